/- The journal: plain. The journal: put, four, may, Abort, and the nil journal. The journal: Intent, Commit, replace, Checkpoint, what it tells; the nil journal. The journal: Commit, Checkpoint, Open; the nil journal. -/
import Derived.Test.YtnijmegalgoipaaGreatDoorScan
import Derived.Test.YtnijmegalgoipaaGreatDoorWire
import Derived.Test.YtnijmegalgoipaaGreatDoorDisk2
import Derived.Test.YtnijmegalgoipaaGreatDoorDiskW
import Derived.Test.YtnijmegalgoipaaGreatDoorDiskX
namespace Go.Proofs.YtnijmegalgoipaaGreatDoor
open Go.RowKit
def jName : Key := [106, 111, 117, 114, 110, 97, 108]
def jNew : Key := [106, 111, 117, 114, 110, 97, 108, 46, 110, 101, 119]
/-- what is seen (with the open intent and its payload), and whether it is lame -/
structure JrM where
  x : ScM
  lame : Bool
def putJ (D : DiskD) (k : UInt8) (b : List UInt8) : Int × DiskD :=
  if (appendM D jName (sealM k b)).1 = 0 then syncM (appendM D jName (sealM k b)).2 jName else appendM D jName (sealM k b)
def lameOf (e : Int) : Bool := decide (e ≠ 0) && decide (e ≠ 17)
def replaceJ (D : DiskD) (s : List UInt8) : Int × DiskD :=
  if (removeM D jNew).1 ≠ 0 ∧ (removeM D jNew).1 ≠ 15 then removeM D jNew
  else if (createM (removeM D jNew).2 jNew).1 ≠ 0 then createM (removeM D jNew).2 jNew
  else if (appendM (createM (removeM D jNew).2 jNew).2 jNew s).1 ≠ 0 then ((appendM (createM (removeM D jNew).2 jNew).2 jNew s).1, (removeM (appendM (createM (removeM D jNew).2 jNew).2 jNew s).2 jNew).2)
  else if (syncM (appendM (createM (removeM D jNew).2 jNew).2 jNew s).2 jNew).1 ≠ 0 then syncM (appendM (createM (removeM D jNew).2 jNew).2 jNew s).2 jNew
  else renameM (syncM (appendM (createM (removeM D jNew).2 jNew).2 jNew s).2 jNew).2 jNew jName
/-- the disk behind Open's beginning: the file is made, if it is not there -/
def madeJ (D : DiskD) : Int × DiskD := if (sizeM D jName).2 = 15 then createM D jName else (0, D)
def seenJ (s : List UInt8) : JrM := ⟨{ scanM s with open_ := 0, last := [] }, false⟩
def openJ (D : DiskD) : (Option JrM × Int) × DiskD :=
  if (madeJ D).1 ≠ 0 then ((none, (madeJ D).1), (madeJ D).2)
  else if (readM (madeJ D).2 jName 0 (sizeM D jName).1).2 ≠ 0 then ((none, (readM (madeJ D).2 jName 0 (sizeM D jName).1).2), (madeJ D).2)
  else if (scanM (readM (madeJ D).2 jName 0 (sizeM D jName).1).1).good < (readM (madeJ D).2 jName 0 (sizeM D jName).1).1.length then
    (if (replaceJ (madeJ D).2 ((readM (madeJ D).2 jName 0 (sizeM D jName).1).1.take (scanM (readM (madeJ D).2 jName 0 (sizeM D jName).1).1).good)).1 ≠ 0 then
      ((none, (replaceJ (madeJ D).2 ((readM (madeJ D).2 jName 0 (sizeM D jName).1).1.take (scanM (readM (madeJ D).2 jName 0 (sizeM D jName).1).1).good)).1), (replaceJ (madeJ D).2 ((readM (madeJ D).2 jName 0 (sizeM D jName).1).1.take (scanM (readM (madeJ D).2 jName 0 (sizeM D jName).1).1).good)).2)
    else ((some (seenJ (readM (madeJ D).2 jName 0 (sizeM D jName).1).1), 0), (replaceJ (madeJ D).2 ((readM (madeJ D).2 jName 0 (sizeM D jName).1).1.take (scanM (readM (madeJ D).2 jName 0 (sizeM D jName).1).1).good)).2))
  else ((some (seenJ (readM (madeJ D).2 jName 0 (sizeM D jName).1).1), 0), (madeJ D).2)
/-- an intent that was put, or not -/
def intentJ (D : DiskD) (J : JrM) (p : List UInt8) : (Int × Int) × DiskD × JrM :=
  if J.lame = true ∨ 0 < J.x.open_ then ((0, 18), D, J)
  else if 524288 < p.length then ((0, 31), D, J)
  else if (putJ D 4 (four J.x.next ++ p)).1 ≠ 0 then ((0, (putJ D 4 (four J.x.next ++ p)).1), (putJ D 4 (four J.x.next ++ p)).2, { J with lame := lameOf (putJ D 4 (four J.x.next ++ p)).1 })
  else ((J.x.next, 0), (putJ D 4 (four J.x.next ++ p)).2, ⟨{ J.x with open_ := J.x.next, last := p, next := J.x.next + 1 }, false⟩)
def mayJ (J : JrM) (id : Int) : Int := if J.lame = true then 18 else if id < 1 ∨ id ≠ J.x.open_ then 1 else 0
def commitJ (D : DiskD) (J : JrM) (id : Int) : Int × DiskD × JrM :=
  if mayJ J id ≠ 0 then (mayJ J id, D, J)
  else if (putJ D 5 (four id)).1 ≠ 0 then ((putJ D 5 (four id)).1, (putJ D 5 (four id)).2, { J with lame := lameOf (putJ D 5 (four id)).1 })
  else (0, (putJ D 5 (four id)).2, ⟨{ J.x with done := J.x.done ++ [J.x.last], open_ := 0, last := [] }, false⟩)
def abortJ (J : JrM) (id : Int) : Int × JrM := if mayJ J id ≠ 0 then (mayJ J id, J) else (0, { J with x := { J.x with open_ := 0, last := [] } })
def checkJ (D : DiskD) (J : JrM) (s : List UInt8) : Int × DiskD × JrM :=
  if J.lame = true ∨ 0 < J.x.open_ then (18, D, J)
  else if 524288 < s.length then (31, D, J)
  else if (replaceJ D (sealM 6 (four J.x.next ++ s))).1 ≠ 0 then ((replaceJ D (sealM 6 (four J.x.next ++ s))).1, (replaceJ D (sealM 6 (four J.x.next ++ s))).2, J)
  else (0, (replaceJ D (sealM 6 (four J.x.next ++ s))).2, { J with x := { J.x with state := s, done := [] } })
theorem sealM_length (k : UInt8) (b : List UInt8) : (sealM k b).length ≤ b.length + 9 := by
  unfold sealM
  split
  · simp
  · rename_i h
    have hb : ¬ 1048576 < b.length := fun e => h (.inr e)
    have := uvB_length b.length (by omega)
    have h4 := fixB_length (Crc.crc ([k] ++ (uvB b.length ++ b))).toNat 4
    simp only [List.length_append, List.length_cons, List.length_nil]
    omega
section
variable {n : Nat} {D : DiskD}
theorem putJ_good (h : Good n D) (k : UInt8) (b : List UInt8) : Good (n + (b.length + 10)) (putJ D k b).2 := by
  have h1 := (append_good h jName (sealM k b)).mono (show n + (sealM k b).length + 1 ≤ n + (b.length + 10) by have := sealM_length k b; omega)
  unfold putJ
  split
  · exact sync_good h1 _
  · exact h1
theorem replaceJ_good (h : Good n D) (s : List UInt8) : Good (n + (s.length + 2)) (replaceJ D s).2 := by
  have h1 := remove_good h jNew
  have h2 := create_good h1 jNew
  have h3 := (append_good h2 jNew s).mono (show n + 1 + s.length + 1 ≤ n + (s.length + 2) by omega)
  have h4 := sync_good h3 jNew
  unfold replaceJ
  split
  · exact h1.mono (by omega)
  split
  · exact h2.mono (by omega)
  split
  · exact remove_good h3 _
  split
  · exact h4
  · exact rename_good h4 _ _
theorem madeJ_good (h : Good n D) : Good (n + 1) (madeJ D).2 := by
  unfold madeJ
  split
  · exact create_good h _
  · exact h.mono (by omega)
theorem intentJ_good (h : Good n D) (J : JrM) (p : List UInt8) : Good (n + (p.length + 14)) (intentJ D J p).2.1 := by
  have h1 := (putJ_good h 4 (four J.x.next ++ p)).mono (show n + ((four J.x.next ++ p).length + 10) ≤ n + (p.length + 14) by rw [List.length_append, four_length]; omega)
  unfold intentJ
  split
  · exact h.mono (by omega)
  split
  · exact h.mono (by omega)
  split
  · exact h1
  · exact h1
theorem commitJ_good (h : Good n D) (J : JrM) (id : Int) : Good (n + 14) (commitJ D J id).2.1 := by
  have h1 := (putJ_good h 5 (four id)).mono (show n + ((four id).length + 10) ≤ n + 14 by rw [four_length]; omega)
  unfold commitJ
  split
  · exact h.mono (by omega)
  split
  · exact h1
  · exact h1
theorem checkJ_good (h : Good n D) (J : JrM) (s : List UInt8) : Good (n + (s.length + 15)) (checkJ D J s).2.1 := by
  have h1 := (replaceJ_good h (sealM 6 (four J.x.next ++ s))).mono (show n + ((sealM 6 (four J.x.next ++ s)).length + 2) ≤ n + (s.length + 15) by have := sealM_length 6 (four J.x.next ++ s); rw [List.length_append, four_length] at this; omega)
  unfold checkJ
  split
  · exact h.mono (by omega)
  split
  · exact h.mono (by omega)
  split
  · exact h1
  · exact h1
end
end Go.Proofs.YtnijmegalgoipaaGreatDoor
namespace Go.Proofs.YtnijmegalgoipaaGreatDoor
open Go.RowKit
section
variable {l : Env} {x : Operand} {p : Option Addr} {t' ty : TypeId} {w : World}
theorem jrEqP (w : World) (a : Addr) : (binOp .eql 43 (.pointer (some a)) (.pointer none)).run Tryz.prog w = .ok (.bool false) w := by kernel_rfl
theorem jrEqN (w : World) : (binOp .eql 43 (.pointer none) (.pointer none)).run Tryz.prog w = .ok (.bool true) w := by kernel_rfl
theorem X.jEq (hx : ev l x = some (.pointer p)) : X Tryz.prog l (.binOp .eql 43 x (.const (.pointer none)) t') ty w (.bool p.isNone) w :=
  X.bin hx rfl guard_ptr (by cases p with | none => exact jrEqN w | some a => exact jrEqP w a)
end
/-- the journal's cells -/
def jcells (gd : Nat) (J : JrM) (v : Value) : Array Value := #[.pointer (some ⟨gd, 0, none⟩), str J.x.state, v, .int .i64 J.x.next, .int .i64 J.x.good, .int .i64 J.x.open_, str J.x.last, .bool J.lame]
/-- its disk, apart from it -/
structure JF (B : Nat) (w : World) (gd gj : Nat) (D : DiskD) (v : Value) (S : Nat → Prop) : Prop where
  own : Own B w gd D S
  g : ¬ S gj
  v : ∀ k, v.ownBlock = some k → ¬ S k ∧ B ≤ k
  gB : B ≤ gj
structure JAll (B : Nat) (w : World) (gd gj : Nat) (D : DiskD) (J : JrM) (v : Value) (S : Nat → Prop) : Prop where
  blk : Blk w gj 106 (jcells gd J v)
  row : Row w 9 1 v J.x.done.length (J.x.done.map str)
  jf : JF B w gd gj D v S
section
variable {B gd gj : Nat} {w w' : World} {D : DiskD} {J : JrM} {v : Value} {S : Nat → Prop}
theorem JF.bel (h : JF B w gd gj D v S) (hb : Below w.heap.size w w') : JF B w' gd gj D v S := ⟨h.own.bel hb, h.g, h.v, h.gB⟩
theorem JF.chg (h : JF B w gd gj D v S) (hC : Chg (fun k => k = gj) w w') (_ : True) : JF B w' gd gj D v S := ⟨h.own.other hC (fun k hk e => h.g (by rw [hk] at e; exact e)), h.g, h.v, h.gB⟩
theorem JAll.bel (h : JAll B w gd gj D J v S) (hb : Below w.heap.size w w') : JAll B w' gd gj D J v S := ⟨h.blk.bel hb, h.row.bel hb, h.jf.bel hb⟩
end
/-- what a call of a journal leaves -/
def JPost (B : Nat) (w : World) (gd gj : Nat) (D : DiskD) (J : JrM) (v : Value) (S : Nat → Prop) (w' : World) : Prop :=
  ∃ v' S', JAll B w' gd gj D J v' S' ∧ (∀ k, S' k → S k ∨ w.heap.size ≤ k) ∧ (∀ k, v'.ownBlock = some k → v.ownBlock = some k ∨ w.heap.size ≤ k) ∧ Chg (fun k => S k ∨ k = gj ∨ v.ownBlock = some k) w w'
/-- a call of the disk within a call of the journal -/
theorem jdisk {P : Program} {f : FuncId} {args : Array Value} {B gd gj : Nat} {w0 w : World} {D : DiskD} {v : Value} {S S1 X : Nat → Prop} {x : Int × DiskD} {ty : TypeId} {cs : Array Value} {e : TypeId} {n : Nat} {xs : List Value}
    (hc : Calls P f args w (DPost gd S1 w x)) (hB : Blk w gj ty cs) (hR : Row w e 1 v n xs) (hF : JF B w gd gj D v S1) (hcw : Chg X w0 w) (hSX : ∀ k, S k → X k) (hS1 : ∀ k, S1 k → S k ∨ w0.heap.size ≤ k) :
    Calls P f args w (fun e' w' => e' = .returned (.int .i64 x.1) ∧ ∃ S2, Blk w' gj ty cs ∧ Row w' e 1 v n xs ∧ JF B w' gd gj x.2 v S2 ∧ (∀ k, S2 k → S k ∨ w0.heap.size ≤ k) ∧ Chg X w0 w' ∧ w.heap.size ≤ w'.heap.size) := by
  refine hc.mono ?_
  rintro e' w' ⟨rfl, h1, hX⟩
  have hlt := hB.lt
  have hgB := hF.gB
  have hsz := hcw.size
  refine ⟨rfl, Ext S1 w w', hB.chg hX hF.g, hR.chg hX (fun k hk => (hF.v k hk).1), ⟨hF.own.step h1 hX (by omega), ?_, ?_, hgB⟩, ?_, hcw.next hX (fun i hi => (hS1 i hi).imp (hSX i) id), hX.size⟩
  · rintro (h | ⟨h, _⟩)
    · exact hF.g h
    · omega
  · refine fun k hk => ⟨?_, (hF.v k hk).2⟩
    rintro (h | ⟨h, _⟩)
    · exact (hF.v k hk).1 h
    · have := hR.lt k hk
      omega
  · rintro k (h | ⟨h, _⟩)
    · exact hS1 k h
    · right; omega
theorem jbs4 (a b c d : UInt8) (w : World) : (Instr.buildSlice 94 4 #[(0, bv a), (1, bv b), (2, bv c), (3, bv d)]).run Tryz.prog w = .ok (.slice (some ⟨w.heap.size, 0, none⟩) 4 4) (w.alloc (.cells #[bv a, bv b, bv c, bv d] 5)) := by kernel_rfl
theorem jfour_any (n : Int) (w : World) : Calls Tryz.prog 68 #[.int .i64 n] w fun e w' => e = .returned (str (four n)) ∧ Below w.heap.size w w' := by
  refine W_enter (args := [.int .i64 n]) 16 Tryz.func68 rfl rfl rfl ?_
  refine W_sub [(0, .int .i64 n)] ?_ ⟨rfl, trivial⟩
  have hbw := Below.refl w.heap.size w
  refine W_rs ?_
  refine sa rfl rfl ?_
  refine Wn ?_
  refine tN ?_
  refine W_rs ?_
  refine sm rfl rfl ?_
  refine st (X.convI rfl Tryz.underlying3 Tryz.underlying5 (wb _)) rfl ?_
  refine sm rfl rfl ?_
  refine st (X.shr (q := 256) rfl rfl (by decide) (by decide) rfl rfl) rfl ?_
  refine st (X.convI rfl Tryz.underlying3 Tryz.underlying5 (wb _)) rfl ?_
  refine sm rfl rfl ?_
  refine st (X.shr (q := 65536) rfl rfl (by decide) (by decide) rfl rfl) rfl ?_
  refine st (X.convI rfl Tryz.underlying3 Tryz.underlying5 (wb _)) rfl ?_
  refine sm rfl rfl ?_
  refine st (X.shr (q := 16777216) rfl rfl (by decide) (by decide) rfl rfl) rfl ?_
  refine st (X.convI rfl Tryz.underlying3 Tryz.underlying5 (wb _)) rfl ?_
  refine sbs 1 rfl (jbs4 _ _ _ _ _) (by simp [maxLen]) rfl rfl (fun g w1 hR hg hb => ?_)
  replace hbw := bthen hbw hb
  refine st (X.strOf (s := four n) rfl Tryz.underlying94 Tryz.underlying5 Tryz.underlying9 hR.reads) rfl ?_
  refine sa rfl rfl ?_
  refine Wn ?_
  refine tN ?_
  refine W_ret ?_
  exact (rT rfl rfl ⟨rfl, hbw⟩).1
section
variable (B gd gj : Nat) (D : DiskD) (J : JrM) (v : Value) (S : Nat → Prop) (w : World)
theorem jput_any (k : UInt8) (b : List UInt8) (n : Nat) (h : JAll B w gd gj D J v S) (hg : Good n D) (hn : n ≤ 1000000000) (hb_ : b.length ≤ 1000000) :
    Calls Tryz.prog 67 #[.pointer (some ⟨gj, 0, none⟩), .int .u8 k.toNat, str b] w (fun e w' => e = .returned (.int .i64 (putJ D k b).1) ∧ JPost B w gd gj (putJ D k b).2 { J with lame := lameOf (putJ D k b).1 } v S w') := by
  have hB : Blk w gj 106 #[.pointer (some ⟨gd, 0, none⟩), str J.x.state, v, .int .i64 J.x.next, .int .i64 J.x.good, .int .i64 J.x.open_, str J.x.last, .bool J.lame] := h.blk
  have hR := h.row
  have hF := h.jf
  have hsl := sealM_length k b
  have hg1 := append_good hg jName (sealM k b)
  have hne := hR.ne2 hB (by decide)
  have hX : S gj ∨ gj = gj ∨ v.ownBlock = some gj := .inr (.inl rfl)
  have hlt := hB.lt
  refine W_enter (args := [.pointer (some ⟨gj, 0, none⟩), .int .u8 k.toNat, str b]) 33 Tryz.func67 rfl rfl rfl ?_
  refine W_sub [(0, .pointer (some ⟨gj, 0, none⟩)), (1, .int .u8 k.toNat), (2, str b)] ?_ ⟨rfl, rfl, rfl, trivial⟩
  have hcw := Chg.refl (fun k => S k ∨ k = gj ∨ v.ownBlock = some k) w
  refine W_rs ?_
  refine sa rfl rfl ?_
  refine Wn ?_
  refine tN ?_
  have hB0 := hB
  refine W_phase_s (fun W_ => Below w.heap.size w W_) 7 [true, true, true, true, true, true, false] (by kernel_rfl) (by kernel_rfl) (bdrew (Below.refl _ _)) ?_
  obtain ⟨w1, hw_⟩ : ∃ w1 : World, w1 = World.drew w := ⟨_, rfl⟩
  rw [← hw_]
  have hb : Below w.heap.size w w1 := by rw [hw_]; exact bdrew (Below.refl _ _)
  clear hw_
  have hS := hb
  replace hcw := hcw.then_below hb
  replace hB := hB.bel hb
  replace hR := hR.bel hb
  replace hF := hF.bel hb
  have hz_w1 := hb.size
  clear hb
  refine pY (fun W_ hW_ => (X.move rfl)) rfl ?_
  refine pY (fun W_ hW_ => (X.nilChk rfl)) rfl ?_
  refine pY (fun W_ hW_ => (X.fa fa106_0 rfl)) rfl ?_
  refine pY (fun W_ hW_ => (X.ldL rfl (hB0.bel hW_) Tryz.underlying23 rfl rfl)) rfl ?_
  refine pY (fun W_ hW_ => (X.move rfl)) rfl ?_
  refine pY (fun W_ hW_ => (X.move rfl)) rfl ?_
  refine pL (fun Q_ hQ_ hP_ => ?_)
  refine sc _ Tryz.func24 rfl (by kernel_rfl) rfl rfl ((Seal_any k b _ (by omega)).mono ?_)
  rintro e_ w2 ⟨rfl, hb⟩
  refine cR ?_
  replace hS := bthen hS hb
  replace hcw := hcw.then_below hb
  replace hB := hB.bel hb
  replace hR := hR.bel hb
  replace hF := hF.bel hb
  have hz_w2 := hb.size
  clear hb
  refine Wn (hQ_ _ _ hS ?_)
  clear hQ_ hP_ Q_
  refine pN ?_
  refine sc _ Tryz.func42 rfl (by kernel_rfl) rfl rfl ((jdisk (Append_any gd D _ jName (sealM k b) _ hF.own.at_ hg.ok (hg.bud (by omega)) (by omega)) hB hR hF hcw (fun k hk => .inl hk) (fun k hk => .inl hk)).mono ?_)
  clear hB hR hF
  rintro e_ w3 ⟨rfl, S1, hB, hR, hF, hS1, hcw, hz1_⟩
  refine cR ?_
  obtain ⟨e1, D1, hap⟩ : ∃ e1 D1, appendM D jName (sealM k b) = (e1, D1) := ⟨_, _, rfl⟩
  unfold putJ
  rw [hap] at hF hg1 ⊢
  simp only at hF hg1 ⊢
  refine sa rfl rfl ?_
  refine Wn ?_
  refine nN ?_
  refine W_seq ?_
  refine W_rs ?_
  refine sm rfl rfl ?_
  refine st (X.eql rfl rfl) rfl ?_
  refine Wn ?_
  refine tN ?_
  refine W_if rfl (fun h17 => ?_) (fun h17 => ?_)
  · first | replace h17 := of_decide_eq_true h17 | replace h17 := of_decide_eq_false (notT h17) | replace h17 := notT h17 | skip
    obtain rfl : e1 = 0 := h17
    rw [if_pos rfl]
    refine W_reg ?_
    refine sm rfl rfl ?_
    refine st (X.nilChk rfl) rfl ?_
    refine st (X.fa fa106_0 rfl) rfl ?_
    refine st (X.ldL rfl hB Tryz.underlying23 rfl rfl) rfl ?_
    refine sc _ Tryz.func43 rfl (by kernel_rfl) rfl rfl ((jdisk (Sync_any gd D1 _ jName _ hF.own.at_ hg1.ok) hB hR hF hcw (fun k hk => .inl hk) hS1).mono ?_)
    clear hB hR hF
    rintro e_ w4 ⟨rfl, S1, hB, hR, hF, hS1, hcw, hz1_⟩
    refine cR ?_
    refine sa rfl rfl ?_
    refine Wn ?_
    refine tN ?_
    refine W_rs ?_
    refine sm rfl rfl ?_
    refine sm rfl rfl ?_
    refine st (X.neq rfl rfl) rfl ?_
    refine sb rfl rfl (fun h26 => ?_) (fun h26 => ?_)
    · first | replace h26 := of_decide_eq_true h26 | replace h26 := of_decide_eq_false (notT h26) | replace h26 := notT h26 | skip
      refine gY (g := 26) rfl rfl rfl ?_
      refine sm rfl rfl ?_
      refine gY (g := 26) rfl rfl rfl ?_
      refine st (X.neq rfl rfl) rfl ?_
      refine st (X.pickT rfl rfl) rfl ?_
      refine st (X.nilChk rfl) rfl ?_
      refine st (X.fa fa106_4 rfl) rfl ?_
      refine ssB rfl rfl hB siz4 rfl (by first | decide | simp) (fun w5 hB_ hc_ => ?_)
      replace hB := hB_
      clear hB_
      replace hR := hR.chg hc_ (by first | (show ¬ _ = _; omega) | (intro k_ hk_; simp [Value.ownBlock] at hk_; subst hk_; show ¬ _ = _; omega) | assumption | trivial)
      replace hF := hF.chg hc_ (by first | (show ¬ _ = _; omega) | (intro k_ hk_; simp [Value.ownBlock] at hk_; subst hk_; show ¬ _ = _; omega) | assumption | trivial)
      replace hcw := hcw.next hc_ (fun i_ hi_ => by first | exact .inl hi_ | exact .inl (.inl hi_) | (right; subst hi_; omega) | (left; subst hi_; show _ ≤ _; omega) | (left; subst hi_; assumption))
      have hz_w5 := hc_.size
      clear hc_
      refine Wn ?_
      refine tN ?_
      refine W_rs ?_
      refine sm rfl rfl ?_
      refine sa rfl rfl ?_
      refine Wn ?_
      refine tN ?_
      refine W_ret ?_
      refine (rT rfl rfl ⟨rfl, v, S1, ⟨?_, hR, hF⟩, hS1, fun k hk => .inl hk, hcw⟩).1
      show Blk _ _ _ #[_, _, _, _, _, _, _, .bool (decide (_ ≠ 0) && _)]
      rw [decide_eq_true h26]
      exact hB
    · first | replace h26 := of_decide_eq_false h26 | replace h26 := of_decide_eq_true (notF h26) | replace h26 := notF h26 | skip
      refine gN (g := 26) rfl rfl rfl rfl ?_
      refine gN (g := 26) rfl rfl rfl rfl ?_
      refine st (X.pickF rfl rfl) rfl ?_
      refine st (X.nilChk rfl) rfl ?_
      refine st (X.fa fa106_4 rfl) rfl ?_
      refine ssB rfl rfl hB siz4 rfl (by first | decide | simp) (fun w6 hB_ hc_ => ?_)
      replace hB := hB_
      clear hB_
      replace hR := hR.chg hc_ (by first | (show ¬ _ = _; omega) | (intro k_ hk_; simp [Value.ownBlock] at hk_; subst hk_; show ¬ _ = _; omega) | assumption | trivial)
      replace hF := hF.chg hc_ (by first | (show ¬ _ = _; omega) | (intro k_ hk_; simp [Value.ownBlock] at hk_; subst hk_; show ¬ _ = _; omega) | assumption | trivial)
      replace hcw := hcw.next hc_ (fun i_ hi_ => by first | exact .inl hi_ | exact .inl (.inl hi_) | (right; subst hi_; omega) | (left; subst hi_; show _ ≤ _; omega) | (left; subst hi_; assumption))
      have hz_w6 := hc_.size
      clear hc_
      refine Wn ?_
      refine tN ?_
      refine W_rs ?_
      refine sm rfl rfl ?_
      refine sa rfl rfl ?_
      refine Wn ?_
      refine tN ?_
      refine W_ret ?_
      refine (rT rfl rfl ⟨rfl, v, S1, ⟨?_, hR, hF⟩, hS1, fun k hk => .inl hk, hcw⟩).1
      show Blk _ _ _ #[_, _, _, _, _, _, _, .bool (decide (_ ≠ 0) && _)]
      rw [decide_eq_false h26]
      exact hB
  · first | replace h17 := of_decide_eq_false h17 | replace h17 := of_decide_eq_true (notF h17) | replace h17 := notF h17 | skip
    rw [if_neg h17]
    refine W_skip ?_
    refine tN ?_
    refine W_rs ?_
    refine sm rfl rfl ?_
    refine sm rfl rfl ?_
    refine st (X.neq rfl rfl) rfl ?_
    refine sb rfl rfl (fun h26 => ?_) (fun h26 => ?_)
    · first | replace h26 := of_decide_eq_true h26 | replace h26 := of_decide_eq_false (notT h26) | replace h26 := notT h26 | skip
      refine gY (g := 26) rfl rfl rfl ?_
      refine sm rfl rfl ?_
      refine gY (g := 26) rfl rfl rfl ?_
      refine st (X.neq rfl rfl) rfl ?_
      refine st (X.pickT rfl rfl) rfl ?_
      refine st (X.nilChk rfl) rfl ?_
      refine st (X.fa fa106_4 rfl) rfl ?_
      refine ssB rfl rfl hB siz4 rfl (by first | decide | simp) (fun w7 hB_ hc_ => ?_)
      replace hB := hB_
      clear hB_
      replace hR := hR.chg hc_ (by first | (show ¬ _ = _; omega) | (intro k_ hk_; simp [Value.ownBlock] at hk_; subst hk_; show ¬ _ = _; omega) | assumption | trivial)
      replace hF := hF.chg hc_ (by first | (show ¬ _ = _; omega) | (intro k_ hk_; simp [Value.ownBlock] at hk_; subst hk_; show ¬ _ = _; omega) | assumption | trivial)
      replace hcw := hcw.next hc_ (fun i_ hi_ => by first | exact .inl hi_ | exact .inl (.inl hi_) | (right; subst hi_; omega) | (left; subst hi_; show _ ≤ _; omega) | (left; subst hi_; assumption))
      have hz_w7 := hc_.size
      clear hc_
      refine Wn ?_
      refine tN ?_
      refine W_rs ?_
      refine sm rfl rfl ?_
      refine sa rfl rfl ?_
      refine Wn ?_
      refine tN ?_
      refine W_ret ?_
      refine (rT rfl rfl ⟨rfl, v, S1, ⟨?_, hR, hF⟩, hS1, fun k hk => .inl hk, hcw⟩).1
      show Blk _ _ _ #[_, _, _, _, _, _, _, .bool (decide (_ ≠ 0) && _)]
      rw [decide_eq_true h26]
      exact hB
    · first | replace h26 := of_decide_eq_false h26 | replace h26 := of_decide_eq_true (notF h26) | replace h26 := notF h26 | skip
      refine gN (g := 26) rfl rfl rfl rfl ?_
      refine gN (g := 26) rfl rfl rfl rfl ?_
      refine st (X.pickF rfl rfl) rfl ?_
      refine st (X.nilChk rfl) rfl ?_
      refine st (X.fa fa106_4 rfl) rfl ?_
      refine ssB rfl rfl hB siz4 rfl (by first | decide | simp) (fun w8 hB_ hc_ => ?_)
      replace hB := hB_
      clear hB_
      replace hR := hR.chg hc_ (by first | (show ¬ _ = _; omega) | (intro k_ hk_; simp [Value.ownBlock] at hk_; subst hk_; show ¬ _ = _; omega) | assumption | trivial)
      replace hF := hF.chg hc_ (by first | (show ¬ _ = _; omega) | (intro k_ hk_; simp [Value.ownBlock] at hk_; subst hk_; show ¬ _ = _; omega) | assumption | trivial)
      replace hcw := hcw.next hc_ (fun i_ hi_ => by first | exact .inl hi_ | exact .inl (.inl hi_) | (right; subst hi_; omega) | (left; subst hi_; show _ ≤ _; omega) | (left; subst hi_; assumption))
      have hz_w8 := hc_.size
      clear hc_
      refine Wn ?_
      refine tN ?_
      refine W_rs ?_
      refine sm rfl rfl ?_
      refine sa rfl rfl ?_
      refine Wn ?_
      refine tN ?_
      refine W_ret ?_
      refine (rT rfl rfl ⟨rfl, v, S1, ⟨?_, hR, hF⟩, hS1, fun k hk => .inl hk, hcw⟩).1
      show Blk _ _ _ #[_, _, _, _, _, _, _, .bool (decide (_ ≠ 0) && _)]
      rw [decide_eq_false h26]
      exact hB
theorem jmay_any (id : Int) (h : JAll B w gd gj D J v S) : Calls Tryz.prog 69 #[.pointer (some ⟨gj, 0, none⟩), .int .i64 id] w (fun e w' => e = .returned (.int .i64 (mayJ J id)) ∧ w = w') := by
  have hB : Blk w gj 106 #[.pointer (some ⟨gd, 0, none⟩), str J.x.state, v, .int .i64 J.x.next, .int .i64 J.x.good, .int .i64 J.x.open_, str J.x.last, .bool J.lame] := h.blk
  unfold mayJ
  refine W_enter (args := [.pointer (some ⟨gj, 0, none⟩), .int .i64 id]) 24 Tryz.func69 rfl rfl rfl ?_
  refine W_sub [(0, .pointer (some ⟨gj, 0, none⟩)), (1, .int .i64 id)] ?_ ⟨rfl, rfl, trivial⟩
  refine W_rs ?_
  refine sa rfl rfl ?_
  refine Wn ?_
  refine tN ?_
  refine W_seq ?_
  refine W_block ?_
  refine W_rs ?_
  refine sm rfl rfl ?_
  refine st (X.jEq rfl) rfl ?_
  refine sa rfl rfl ?_
  refine Wn ?_
  refine tN ?_
  refine W_no rfl (rfl) ?_
  refine W_rs ?_
  refine sm rfl rfl ?_
  refine st (X.nilChk rfl) rfl ?_
  refine st (X.fa fa106_4 rfl) rfl ?_
  refine st (X.ldL rfl hB Tryz.underlying4 rfl rfl) rfl ?_
  refine sa rfl rfl ?_
  refine Wn ?_
  refine tN ?_
  refine W_if rfl (fun h8 => ?_) (fun h8 => ?_)
  · first | replace h8 := of_decide_eq_true h8 | replace h8 := of_decide_eq_false (notT h8) | replace h8 := notT h8 | skip
    rw [if_pos h8]
    refine W_rs ?_
    refine sa rfl rfl ?_
    refine Wn ?_
    refine tN ?_
    refine W_ret (bR (tR ?_))
    exact (rT rfl rfl ⟨rfl, rfl⟩).1
  · first | replace h8 := of_decide_eq_false h8 | replace h8 := of_decide_eq_true (notF h8) | replace h8 := notF h8 | skip
    rw [if_neg (by simpa using h8)]
    refine W_rs ?_
    refine sm rfl rfl ?_
    refine st (X.lss rfl rfl) rfl ?_
    refine sb rfl rfl (fun h16 => ?_) (fun h16 => ?_)
    · first | replace h16 := of_decide_eq_true h16 | replace h16 := of_decide_eq_false (notT h16) | replace h16 := notT h16 | skip
      rw [if_pos (.inl (by omega))]
      refine gN (g := 16) rfl rfl rfl rfl ?_
      refine gN (g := 16) rfl rfl rfl rfl ?_
      refine gN (g := 16) rfl rfl rfl rfl ?_
      refine gN (g := 16) rfl rfl rfl rfl ?_
      refine gN (g := 16) rfl rfl rfl rfl ?_
      refine gN (g := 16) rfl rfl rfl rfl ?_
      refine st (X.pickT rfl rfl) rfl ?_
      refine sa rfl rfl ?_
      refine Wn ?_
      refine tN ?_
      refine W_yes rfl (rfl) ?_
      refine W_rs ?_
      refine sa rfl rfl ?_
      refine Wn ?_
      refine tN ?_
      refine W_ret (bR (tR ?_))
      exact (rT rfl rfl ⟨rfl, rfl⟩).1
    · first | replace h16 := of_decide_eq_false h16 | replace h16 := of_decide_eq_true (notF h16) | replace h16 := notF h16 | skip
      refine gY (g := 16) rfl rfl rfl ?_
      refine sm rfl rfl ?_
      refine gY (g := 16) rfl rfl rfl ?_
      refine sm rfl rfl ?_
      refine gY (g := 16) rfl rfl rfl ?_
      refine st (X.nilChk rfl) rfl ?_
      refine gY (g := 16) rfl rfl rfl ?_
      refine st (X.fa fa106_2 rfl) rfl ?_
      refine gY (g := 16) rfl rfl rfl ?_
      refine st (X.ldL rfl hB Tryz.underlying3 rfl rfl) rfl ?_
      refine gY (g := 16) rfl rfl rfl ?_
      refine st (X.neq rfl rfl) rfl ?_
      refine st (X.pickF rfl rfl) rfl ?_
      refine sa rfl rfl ?_
      refine Wn ?_
      refine tN ?_
      refine W_if rfl (fun h13 => ?_) (fun h13 => ?_)
      · first | replace h13 := of_decide_eq_true h13 | replace h13 := of_decide_eq_false (notT h13) | replace h13 := notT h13 | skip
        rw [if_pos (.inr (by omega))]
        refine W_rs ?_
        refine sa rfl rfl ?_
        refine Wn ?_
        refine tN ?_
        refine W_ret (bR (tR ?_))
        exact (rT rfl rfl ⟨rfl, rfl⟩).1
      · first | replace h13 := of_decide_eq_false h13 | replace h13 := of_decide_eq_true (notF h13) | replace h13 := notF h13 | skip
        rw [if_neg (by omega)]
        refine W_skip ?_
        refine bN ?_
        refine tN ?_
        refine W_rs ?_
        refine sa rfl rfl ?_
        refine Wn ?_
        refine tN ?_
        refine W_ret ?_
        exact (rT rfl rfl ⟨rfl, rfl⟩).1
theorem jabort_any (id : Int) (h : JAll B w gd gj D J v S) : Calls Tryz.prog 29 #[.pointer (some ⟨gj, 0, none⟩), .int .i64 id] w (fun e w' => e = .returned (.int .i64 (abortJ J id).1) ∧ JPost B w gd gj D (abortJ J id).2 v S w') := by
  have hB : Blk w gj 106 #[.pointer (some ⟨gd, 0, none⟩), str J.x.state, v, .int .i64 J.x.next, .int .i64 J.x.good, .int .i64 J.x.open_, str J.x.last, .bool J.lame] := h.blk
  have hR := h.row
  have hF := h.jf
  have hne := hR.ne2 hB (by decide)
  have hX : S gj ∨ gj = gj ∨ v.ownBlock = some gj := .inr (.inl rfl)
  have hlt := hB.lt
  unfold abortJ
  refine W_enter (args := [.pointer (some ⟨gj, 0, none⟩), .int .i64 id]) 18 Tryz.func29 rfl rfl rfl ?_
  refine W_sub [(0, .pointer (some ⟨gj, 0, none⟩)), (1, .int .i64 id)] ?_ ⟨rfl, rfl, trivial⟩
  have hcw := Chg.refl (fun k => S k ∨ k = gj ∨ v.ownBlock = some k) w
  refine W_rs ?_
  refine sa rfl rfl ?_
  refine Wn ?_
  refine tN ?_
  refine W_rs ?_
  refine sm rfl rfl ?_
  refine sm rfl rfl ?_
  refine sc _ Tryz.func69 rfl (by kernel_rfl) rfl rfl ((jmay_any B gd gj D J v S _ id h).mono ?_)
  rintro e_ w_ ⟨rfl, rfl⟩
  refine cR ?_
  refine sa rfl rfl ?_
  refine Wn ?_
  refine tN ?_
  refine W_seq ?_
  refine W_rs ?_
  refine sm rfl rfl ?_
  refine st (X.eql rfl rfl) rfl ?_
  refine Wn ?_
  refine tN ?_
  refine W_if rfl (fun h10 => ?_) (fun h10 => ?_)
  · first | replace h10 := of_decide_eq_true h10 | replace h10 := of_decide_eq_false (notT h10) | replace h10 := notT h10 | skip
    rw [if_neg (by omega)]
    rw [h10]
    refine W_reg ?_
    refine sm rfl rfl ?_
    refine sm rfl rfl ?_
    refine st (X.nilChk rfl) rfl ?_
    refine st (X.fa fa106_2 rfl) rfl ?_
    refine ssB rfl rfl hB siz3 rfl (by first | decide | simp) (fun w1 hB_ hc_ => ?_)
    replace hB := hB_
    clear hB_
    replace hR := hR.chg hc_ (by first | (show ¬ _ = _; omega) | (intro k_ hk_; simp [Value.ownBlock] at hk_; subst hk_; show ¬ _ = _; omega) | assumption | trivial)
    replace hF := hF.chg hc_ (by first | (show ¬ _ = _; omega) | (intro k_ hk_; simp [Value.ownBlock] at hk_; subst hk_; show ¬ _ = _; omega) | assumption | trivial)
    replace hcw := hcw.next hc_ (fun i_ hi_ => by first | exact .inl hi_ | exact .inl (.inl hi_) | (right; subst hi_; omega) | (left; subst hi_; show _ ≤ _; omega) | (left; subst hi_; assumption))
    have hz_w1 := hc_.size
    clear hc_
    refine st (X.nilChk rfl) rfl ?_
    refine st (X.fa fa106_3 rfl) rfl ?_
    refine ssB rfl rfl hB siz9 rfl (by first | decide | simp) (fun w2 hB_ hc_ => ?_)
    replace hB := hB_
    clear hB_
    replace hR := hR.chg hc_ (by first | (show ¬ _ = _; omega) | (intro k_ hk_; simp [Value.ownBlock] at hk_; subst hk_; show ¬ _ = _; omega) | assumption | trivial)
    replace hF := hF.chg hc_ (by first | (show ¬ _ = _; omega) | (intro k_ hk_; simp [Value.ownBlock] at hk_; subst hk_; show ¬ _ = _; omega) | assumption | trivial)
    replace hcw := hcw.next hc_ (fun i_ hi_ => by first | exact .inl hi_ | exact .inl (.inl hi_) | (right; subst hi_; omega) | (left; subst hi_; show _ ≤ _; omega) | (left; subst hi_; assumption))
    have hz_w2 := hc_.size
    clear hc_
    refine Wn ?_
    refine tN ?_
    refine W_rs ?_
    refine sm rfl rfl ?_
    refine sa rfl rfl ?_
    refine Wn ?_
    refine tN ?_
    refine W_ret ?_
    exact (rT rfl rfl ⟨rfl, v, S, ⟨hB, hR, hF⟩, fun k hk => .inl hk, fun k hk => .inl hk, hcw⟩).1
  · first | replace h10 := of_decide_eq_false h10 | replace h10 := of_decide_eq_true (notF h10) | replace h10 := notF h10 | skip
    rw [if_pos h10]
    refine W_skip ?_
    refine tN ?_
    refine W_rs ?_
    refine sm rfl rfl ?_
    refine sa rfl rfl ?_
    refine Wn ?_
    refine tN ?_
    refine W_ret ?_
    exact (rT rfl rfl ⟨rfl, v, S, ⟨hB, hR, hF⟩, fun k hk => .inl hk, fun k hk => .inl hk, hcw⟩).1
end
end Go.Proofs.YtnijmegalgoipaaGreatDoor
namespace Go.Proofs.YtnijmegalgoipaaGreatDoor
open Go.RowKit
/- ---------- slices.Clone ---------- -/
theorem bslS (w : World) : (Instr.buildSlice 42 0 #[]).run Tryz.prog w = .ok (.slice (some ⟨w.heap.size, 0, none⟩) 0 0) (w.alloc (.cells #[] 9)) := by kernel_rfl
theorem strs_one (l : List (List UInt8)) : ∀ u ∈ l.map str, u.oneCell' = true := by
  intro u hu
  obtain ⟨s, _, rfl⟩ := List.mem_map.1 hu
  rfl
theorem CloneS_any (v : Value) (l : List (List UInt8)) (w : World) (hR : Row w 9 1 v l.length (l.map str)) (hl : l.length ≤ 1099511627776) :
    Calls Tryz.prog 78 #[v] w fun e w' => ∃ v', e = .returned v' ∧ Row w' 9 1 v' l.length (l.map str) ∧ (∀ k, v'.ownBlock = some k → w.heap.size ≤ k) ∧ Below w.heap.size w w' := by
  obtain ⟨a, c, rfl, _, _⟩ := hR.shape
  refine W_enter (args := [.slice a l.length c]) 8 Tryz.func78 rfl rfl rfl ?_
  refine W_sub [(0, .slice a l.length c)] ?_ ⟨rfl, trivial⟩
  have hbw := Below.refl w.heap.size w
  refine W_rs ?_
  refine sa rfl rfl ?_
  refine Wn ?_
  refine tN ?_
  refine W_seq ?_
  refine W_rs ?_
  refine sm rfl rfl ?_
  refine st (X.slNil Tryz.underlying42 rfl) rfl ?_
  refine Wn ?_
  refine tN ?_
  refine W_if rfl (fun h4 => ?_) (fun h4 => ?_)
  · first | replace h4 := of_decide_eq_true h4 | replace h4 := of_decide_eq_false (notT h4) | replace h4 := notT h4 | skip
    obtain rfl : a = none := Option.isNone_iff_eq_none.1 h4
    have h0 : l = [] := by
      rcases hR.2 with ⟨_, h0⟩ | ⟨g, off, cap, cur, fz, hv, _⟩
      · exact List.eq_nil_of_length_eq_zero h0
      · cases hv
    refine W_rs ?_
    refine sa rfl rfl ?_
    refine Wn ?_
    refine tN ?_
    refine W_ret (tR ?_)
    subst h0
    exact (rT rfl rfl ⟨_, rfl, Row.nil _ _ _, fun k hk => by simp [Value.ownBlock] at hk, hbw⟩).1
  · first | replace h4 := of_decide_eq_false h4 | replace h4 := of_decide_eq_true (notF h4) | replace h4 := notF h4 | skip
    refine W_skip ?_
    refine tN ?_
    refine W_rs ?_
    refine sbs (ps := []) (vs := []) (cs := #[]) 1 rfl (bslS _) (by simp [maxLen]) rfl rfl (fun g5 w1 hR5 hg5 hb => ?_)
    replace hbw := bthen hbw hb
    have hz5 := hb.size
    clear hb
    refine sm rfl rfl ?_
    refine sapp rfl rfl Tryz.underlying42 inf9 rfl (by decide) hR5 ((hR.bel hbw).src Tryz.underlying42 (strs_one l)) (by simp only [maxLen]; omega) (by omega) rfl (fun v' w2 hR2 hC2 hv => ?_)
    have hO : ∀ k, v'.ownBlock = some k → w.heap.size ≤ k := own_next hv (fun k hk => by simp [Value.ownBlock] at hk; omega) (by omega)
    replace hbw := bapp hbw hC2 (fun k hk => by simp [Value.ownBlock] at hk; omega)
    refine sa rfl rfl ?_
    refine Wn ?_
    refine tN ?_
    refine W_ret ?_
    refine (rT rfl rfl ⟨v', rfl, ?_, hO, hbw⟩).1
    rw [Nat.zero_add] at hR2
    exact hR2
/-- a call of the disk among others -/
theorem dnext {P : Program} {f : FuncId} {args : Array Value} {g : Nat} {w0 w : World} {S S1 : Nat → Prop} {x : Int × DiskD} (hc : Calls P f args w (DPost g S1 w x)) (hS1 : ∀ k, S1 k → Ext S w0 w k) (hcw : Chg S w0 w) :
    Calls P f args w (fun e' w' => e' = .returned (.int .i64 x.1) ∧ ∃ S2, DiskAt w' g x.2 S2 ∧ (∀ k, S2 k → Ext S w0 w' k) ∧ Chg S w0 w' ∧ w.heap.size ≤ w'.heap.size) := by
  refine hc.mono ?_
  rintro e' w' ⟨rfl, h1, hX⟩
  have hsz := hcw.size
  have hs2 := hX.size
  refine ⟨rfl, _, h1, ?_, hcw.next hX (fun i hi => (hS1 i hi).imp id (fun h => h.1)), hX.size⟩
  rintro k (h | ⟨h, h'⟩)
  · exact (hS1 k h).imp id (fun e => ⟨e.1, by omega⟩)
  · exact .inr ⟨by omega, h'⟩
theorem replace_any (gd : Nat) (D : DiskD) (S : Nat → Prop) (s : List UInt8) (n : Nat) (w : World) (h : DiskAt w gd D S) (hg : Good n D) (hn : n ≤ 1000000000) (hs : s.length ≤ 100000000) :
    Calls Tryz.prog 66 #[.pointer (some ⟨gd, 0, none⟩), str s] w (DPost gd S w (replaceJ D s)) := by
  have h1 := remove_good hg jNew
  have h2 := create_good h1 jNew
  have h3 := append_good h2 jNew s
  have h4 := sync_good h3 jNew
  refine W_enter (args := [.pointer (some ⟨gd, 0, none⟩), str s]) 38 Tryz.func66 rfl rfl rfl ?_
  refine W_sub [(0, .pointer (some ⟨gd, 0, none⟩)), (1, str s)] ?_ ⟨rfl, rfl, trivial⟩
  have hcw := Chg.refl (S) w
  refine W_rs ?_
  refine sa rfl rfl ?_
  refine Wn ?_
  refine tN ?_
  refine W_seq ?_
  refine W_rs ?_
  refine sm rfl rfl ?_
  refine sc _ Tryz.func47 rfl (by kernel_rfl) rfl rfl ((dnext (Remove_any gd D _ jNew _ h hg.ok) (fun k hk => .inl hk) hcw).mono ?_)
  rintro e_ w1 ⟨rfl, S1, h, hS1, hcw, hz1_⟩
  refine cR ?_
  unfold replaceJ
  obtain ⟨e1, D1, hp1⟩ : ∃ e1 D1, removeM D jNew = (e1, D1) := ⟨_, _, rfl⟩
  rw [hp1] at h h1 h2 h3 h4 ⊢
  simp only at h h1 h2 h3 h4 ⊢
  refine sa rfl rfl ?_
  refine Wn ?_
  refine tN ?_
  refine W_rs ?_
  refine sm rfl rfl ?_
  refine st (X.neq rfl rfl) rfl ?_
  refine sb rfl rfl (fun h13 => ?_) (fun h13 => ?_)
  · first | replace h13 := of_decide_eq_true h13 | replace h13 := of_decide_eq_false (notT h13) | replace h13 := notT h13 | skip
    refine gY (g := 13) rfl rfl rfl ?_
    refine sm rfl rfl ?_
    refine gY (g := 13) rfl rfl rfl ?_
    refine st (X.neq rfl rfl) rfl ?_
    refine st (X.pickT rfl rfl) rfl ?_
    refine Wn ?_
    refine tN ?_
    refine W_if rfl (fun h16 => ?_) (fun h16 => ?_)
    · first | replace h16 := of_decide_eq_true h16 | replace h16 := of_decide_eq_false (notT h16) | replace h16 := notT h16 | skip
      refine W_rs ?_
      refine sm rfl rfl ?_
      refine sa rfl rfl ?_
      refine Wn ?_
      refine tN ?_
      refine W_ret (tR ?_)
      rw [if_pos (by omega)]
      exact (rT rfl rfl ⟨rfl, h.mono hS1, hcw⟩).1
    · first | replace h16 := of_decide_eq_false h16 | replace h16 := of_decide_eq_true (notF h16) | replace h16 := notF h16 | skip
      rw [if_neg (by omega)]
      refine W_skip ?_
      refine tN ?_
      refine W_seq ?_
      refine W_rs ?_
      refine sm rfl rfl ?_
      refine sc _ Tryz.func41 rfl (by kernel_rfl) rfl rfl ((dnext (Create_any gd D1 _ jNew _ h h1.ok) hS1 hcw).mono ?_)
      rintro e_ w2 ⟨rfl, S1, h, hS1, hcw, hz1_⟩
      refine cR ?_
      obtain ⟨e2, D2, hp2⟩ : ∃ e D', createM D1 jNew = (e, D') := ⟨_, _, rfl⟩
      rw [hp2] at h h2 h3 h4 ⊢
      simp only at h h2 h3 h4 ⊢
      refine sa rfl rfl ?_
      refine Wn ?_
      refine tN ?_
      refine W_rs ?_
      refine sm rfl rfl ?_
      refine st (X.neq rfl rfl) rfl ?_
      refine Wn ?_
      refine tN ?_
      refine W_if rfl (fun h21 => ?_) (fun h21 => ?_)
      · first | replace h21 := of_decide_eq_true h21 | replace h21 := of_decide_eq_false (notT h21) | replace h21 := notT h21 | skip
        refine W_rs ?_
        refine sm rfl rfl ?_
        refine sa rfl rfl ?_
        refine Wn ?_
        refine tN ?_
        refine W_ret (tR ?_)
        rw [if_pos h21]
        exact (rT rfl rfl ⟨rfl, h.mono hS1, hcw⟩).1
      · first | replace h21 := of_decide_eq_false h21 | replace h21 := of_decide_eq_true (notF h21) | replace h21 := notF h21 | skip
        rw [if_neg h21]
        refine W_skip ?_
        refine tN ?_
        refine W_seq ?_
        refine W_rs ?_
        refine sm rfl rfl ?_
        refine sm rfl rfl ?_
        refine sc _ Tryz.func42 rfl (by kernel_rfl) rfl rfl ((dnext (Append_any gd D2 _ jNew s _ h h2.ok (h2.bud (by omega)) (by omega)) hS1 hcw).mono ?_)
        rintro e_ w3 ⟨rfl, S1, h, hS1, hcw, hz1_⟩
        refine cR ?_
        obtain ⟨e3, D3, hp3⟩ : ∃ e D', appendM D2 jNew s = (e, D') := ⟨_, _, rfl⟩
        rw [hp3] at h h3 h4 ⊢
        simp only at h h3 h4 ⊢
        refine sa rfl rfl ?_
        refine Wn ?_
        refine tN ?_
        refine W_rs ?_
        refine sm rfl rfl ?_
        refine st (X.neq rfl rfl) rfl ?_
        refine Wn ?_
        refine tN ?_
        refine W_if rfl (fun h27 => ?_) (fun h27 => ?_)
        · first | replace h27 := of_decide_eq_true h27 | replace h27 := of_decide_eq_false (notT h27) | replace h27 := notT h27 | skip
          rw [if_pos h27]
          refine W_rs ?_
          refine sm rfl rfl ?_
          refine sc _ Tryz.func47 rfl (by kernel_rfl) rfl rfl ((dnext (Remove_any gd D3 _ jNew _ h h3.ok) hS1 hcw).mono ?_)
          rintro e_ w4 ⟨rfl, S1, h, hS1, hcw, hz1_⟩
          refine cR ?_
          refine Wn ?_
          refine tN ?_
          refine W_rs ?_
          refine sm rfl rfl ?_
          refine sa rfl rfl ?_
          refine Wn ?_
          refine tN ?_
          refine W_ret (tR ?_)
          exact (rT rfl rfl ⟨rfl, h.mono hS1, hcw⟩).1
        · first | replace h27 := of_decide_eq_false h27 | replace h27 := of_decide_eq_true (notF h27) | replace h27 := notF h27 | skip
          rw [if_neg h27]
          refine W_skip ?_
          refine tN ?_
          refine W_seq ?_
          refine W_rs ?_
          refine sm rfl rfl ?_
          refine sc _ Tryz.func43 rfl (by kernel_rfl) rfl rfl ((dnext (Sync_any gd D3 _ jNew _ h h3.ok) hS1 hcw).mono ?_)
          rintro e_ w5 ⟨rfl, S1, h, hS1, hcw, hz1_⟩
          refine cR ?_
          obtain ⟨e4, D4, hp4⟩ : ∃ e D', syncM D3 jNew = (e, D') := ⟨_, _, rfl⟩
          rw [hp4] at h h4 ⊢
          simp only at h h4 ⊢
          refine sa rfl rfl ?_
          refine Wn ?_
          refine tN ?_
          refine W_rs ?_
          refine sm rfl rfl ?_
          refine st (X.neq rfl rfl) rfl ?_
          refine Wn ?_
          refine tN ?_
          refine W_if rfl (fun h34 => ?_) (fun h34 => ?_)
          · first | replace h34 := of_decide_eq_true h34 | replace h34 := of_decide_eq_false (notT h34) | replace h34 := notT h34 | skip
            refine W_rs ?_
            refine sm rfl rfl ?_
            refine sa rfl rfl ?_
            refine Wn ?_
            refine tN ?_
            refine W_ret (tR ?_)
            rw [if_pos h34]
            exact (rT rfl rfl ⟨rfl, h.mono hS1, hcw⟩).1
          · first | replace h34 := of_decide_eq_false h34 | replace h34 := of_decide_eq_true (notF h34) | replace h34 := notF h34 | skip
            rw [if_neg h34]
            refine W_skip ?_
            refine tN ?_
            refine W_rs ?_
            refine sm rfl rfl ?_
            refine sc _ Tryz.func46 rfl (by kernel_rfl) rfl rfl ((dnext (Rename_any gd D4 _ jNew jName _ h h4.ok) hS1 hcw).mono ?_)
            rintro e_ w6 ⟨rfl, S1, h, hS1, hcw, hz1_⟩
            refine cR ?_
            refine sa rfl rfl ?_
            refine Wn ?_
            refine tN ?_
            refine W_ret ?_
            exact (rT rfl rfl ⟨rfl, h.mono hS1, hcw⟩).1
  · first | replace h13 := of_decide_eq_false h13 | replace h13 := of_decide_eq_true (notF h13) | replace h13 := notF h13 | skip
    rw [if_neg (by omega)]
    refine gN (g := 13) rfl rfl rfl rfl ?_
    refine gN (g := 13) rfl rfl rfl rfl ?_
    refine st (X.pickF rfl rfl) rfl ?_
    refine Wn ?_
    refine tN ?_
    refine W_no rfl (rfl) ?_
    refine W_skip ?_
    refine tN ?_
    refine W_seq ?_
    refine W_rs ?_
    refine sm rfl rfl ?_
    refine sc _ Tryz.func41 rfl (by kernel_rfl) rfl rfl ((dnext (Create_any gd D1 _ jNew _ h h1.ok) hS1 hcw).mono ?_)
    rintro e_ w7 ⟨rfl, S1, h, hS1, hcw, hz1_⟩
    refine cR ?_
    obtain ⟨e2, D2, hp2⟩ : ∃ e D', createM D1 jNew = (e, D') := ⟨_, _, rfl⟩
    rw [hp2] at h h2 h3 h4 ⊢
    simp only at h h2 h3 h4 ⊢
    refine sa rfl rfl ?_
    refine Wn ?_
    refine tN ?_
    refine W_rs ?_
    refine sm rfl rfl ?_
    refine st (X.neq rfl rfl) rfl ?_
    refine Wn ?_
    refine tN ?_
    refine W_if rfl (fun h21 => ?_) (fun h21 => ?_)
    · first | replace h21 := of_decide_eq_true h21 | replace h21 := of_decide_eq_false (notT h21) | replace h21 := notT h21 | skip
      refine W_rs ?_
      refine sm rfl rfl ?_
      refine sa rfl rfl ?_
      refine Wn ?_
      refine tN ?_
      refine W_ret (tR ?_)
      rw [if_pos h21]
      exact (rT rfl rfl ⟨rfl, h.mono hS1, hcw⟩).1
    · first | replace h21 := of_decide_eq_false h21 | replace h21 := of_decide_eq_true (notF h21) | replace h21 := notF h21 | skip
      rw [if_neg h21]
      refine W_skip ?_
      refine tN ?_
      refine W_seq ?_
      refine W_rs ?_
      refine sm rfl rfl ?_
      refine sm rfl rfl ?_
      refine sc _ Tryz.func42 rfl (by kernel_rfl) rfl rfl ((dnext (Append_any gd D2 _ jNew s _ h h2.ok (h2.bud (by omega)) (by omega)) hS1 hcw).mono ?_)
      rintro e_ w8 ⟨rfl, S1, h, hS1, hcw, hz1_⟩
      refine cR ?_
      obtain ⟨e3, D3, hp3⟩ : ∃ e D', appendM D2 jNew s = (e, D') := ⟨_, _, rfl⟩
      rw [hp3] at h h3 h4 ⊢
      simp only at h h3 h4 ⊢
      refine sa rfl rfl ?_
      refine Wn ?_
      refine tN ?_
      refine W_rs ?_
      refine sm rfl rfl ?_
      refine st (X.neq rfl rfl) rfl ?_
      refine Wn ?_
      refine tN ?_
      refine W_if rfl (fun h27 => ?_) (fun h27 => ?_)
      · first | replace h27 := of_decide_eq_true h27 | replace h27 := of_decide_eq_false (notT h27) | replace h27 := notT h27 | skip
        rw [if_pos h27]
        refine W_rs ?_
        refine sm rfl rfl ?_
        refine sc _ Tryz.func47 rfl (by kernel_rfl) rfl rfl ((dnext (Remove_any gd D3 _ jNew _ h h3.ok) hS1 hcw).mono ?_)
        rintro e_ w9 ⟨rfl, S1, h, hS1, hcw, hz1_⟩
        refine cR ?_
        refine Wn ?_
        refine tN ?_
        refine W_rs ?_
        refine sm rfl rfl ?_
        refine sa rfl rfl ?_
        refine Wn ?_
        refine tN ?_
        refine W_ret (tR ?_)
        exact (rT rfl rfl ⟨rfl, h.mono hS1, hcw⟩).1
      · first | replace h27 := of_decide_eq_false h27 | replace h27 := of_decide_eq_true (notF h27) | replace h27 := notF h27 | skip
        rw [if_neg h27]
        refine W_skip ?_
        refine tN ?_
        refine W_seq ?_
        refine W_rs ?_
        refine sm rfl rfl ?_
        refine sc _ Tryz.func43 rfl (by kernel_rfl) rfl rfl ((dnext (Sync_any gd D3 _ jNew _ h h3.ok) hS1 hcw).mono ?_)
        rintro e_ w10 ⟨rfl, S1, h, hS1, hcw, hz1_⟩
        refine cR ?_
        obtain ⟨e4, D4, hp4⟩ : ∃ e D', syncM D3 jNew = (e, D') := ⟨_, _, rfl⟩
        rw [hp4] at h h4 ⊢
        simp only at h h4 ⊢
        refine sa rfl rfl ?_
        refine Wn ?_
        refine tN ?_
        refine W_rs ?_
        refine sm rfl rfl ?_
        refine st (X.neq rfl rfl) rfl ?_
        refine Wn ?_
        refine tN ?_
        refine W_if rfl (fun h34 => ?_) (fun h34 => ?_)
        · first | replace h34 := of_decide_eq_true h34 | replace h34 := of_decide_eq_false (notT h34) | replace h34 := notT h34 | skip
          refine W_rs ?_
          refine sm rfl rfl ?_
          refine sa rfl rfl ?_
          refine Wn ?_
          refine tN ?_
          refine W_ret (tR ?_)
          rw [if_pos h34]
          exact (rT rfl rfl ⟨rfl, h.mono hS1, hcw⟩).1
        · first | replace h34 := of_decide_eq_false h34 | replace h34 := of_decide_eq_true (notF h34) | replace h34 := notF h34 | skip
          rw [if_neg h34]
          refine W_skip ?_
          refine tN ?_
          refine W_rs ?_
          refine sm rfl rfl ?_
          refine sc _ Tryz.func46 rfl (by kernel_rfl) rfl rfl ((dnext (Rename_any gd D4 _ jNew jName _ h h4.ok) hS1 hcw).mono ?_)
          rintro e_ w11 ⟨rfl, S1, h, hS1, hcw, hz1_⟩
          refine cR ?_
          refine sa rfl rfl ?_
          refine Wn ?_
          refine tN ?_
          refine W_ret ?_
          exact (rT rfl rfl ⟨rfl, h.mono hS1, hcw⟩).1
section
variable (B gd gj : Nat) (D : DiskD) (J : JrM) (v : Value) (S : Nat → Prop) (w : World) (h : JAll B w gd gj D J v S)
include h
theorem State_any : Calls Tryz.prog 25 #[.pointer (some ⟨gj, 0, none⟩)] w (fun e w' => e = .returned (str J.x.state) ∧ w = w') := by
  have hB : Blk w gj 106 #[.pointer (some ⟨gd, 0, none⟩), str J.x.state, v, .int .i64 J.x.next, .int .i64 J.x.good, .int .i64 J.x.open_, str J.x.last, .bool J.lame] := h.blk
  refine W_enter (args := [.pointer (some ⟨gj, 0, none⟩)]) 10 Tryz.func25 rfl rfl rfl ?_
  refine W_sub [(0, .pointer (some ⟨gj, 0, none⟩))] ?_ ⟨rfl, trivial⟩
  refine W_rs ?_
  refine sa rfl rfl ?_
  refine Wn ?_
  refine tN ?_
  refine W_seq ?_
  refine W_rs ?_
  refine sm rfl rfl ?_
  refine st (X.jEq rfl) rfl ?_
  refine Wn ?_
  refine tN ?_
  refine W_no rfl (rfl) ?_
  refine W_skip ?_
  refine tN ?_
  refine W_rs ?_
  refine sm rfl rfl ?_
  refine st (X.nilChk rfl) rfl ?_
  refine st (X.fa fa106_1 rfl) rfl ?_
  refine st (X.fa fa103_0 rfl) rfl ?_
  refine st (X.ldL rfl hB Tryz.underlying9 rfl rfl) rfl ?_
  refine sa rfl rfl ?_
  refine Wn ?_
  refine tN ?_
  refine W_ret ?_
  exact (rT rfl rfl ⟨rfl, rfl⟩).1
theorem Next_j : Calls Tryz.prog 27 #[.pointer (some ⟨gj, 0, none⟩)] w (fun e w' => e = .returned (.int .i64 J.x.next) ∧ w = w') := by
  have hB : Blk w gj 106 #[.pointer (some ⟨gd, 0, none⟩), str J.x.state, v, .int .i64 J.x.next, .int .i64 J.x.good, .int .i64 J.x.open_, str J.x.last, .bool J.lame] := h.blk
  refine W_enter (args := [.pointer (some ⟨gj, 0, none⟩)]) 10 Tryz.func27 rfl rfl rfl ?_
  refine W_sub [(0, .pointer (some ⟨gj, 0, none⟩))] ?_ ⟨rfl, trivial⟩
  refine W_rs ?_
  refine sa rfl rfl ?_
  refine Wn ?_
  refine tN ?_
  refine W_seq ?_
  refine W_rs ?_
  refine sm rfl rfl ?_
  refine st (X.jEq rfl) rfl ?_
  refine Wn ?_
  refine tN ?_
  refine W_no rfl (rfl) ?_
  refine W_skip ?_
  refine tN ?_
  refine W_rs ?_
  refine sm rfl rfl ?_
  refine st (X.nilChk rfl) rfl ?_
  refine st (X.fa fa106_1 rfl) rfl ?_
  refine st (X.fa fa103_2 rfl) rfl ?_
  refine st (X.ldL rfl hB Tryz.underlying3 rfl rfl) rfl ?_
  refine sa rfl rfl ?_
  refine Wn ?_
  refine tN ?_
  refine W_ret ?_
  exact (rT rfl rfl ⟨rfl, rfl⟩).1
theorem Done_any (hd : J.x.done.length ≤ 1099511627776) : Calls Tryz.prog 26 #[.pointer (some ⟨gj, 0, none⟩)] w (fun e w' => ∃ v', e = .returned v' ∧ Row w' 9 1 v' J.x.done.length (J.x.done.map str) ∧ (∀ k, v'.ownBlock = some k → w.heap.size ≤ k) ∧ Below w.heap.size w w') := by
  have hB : Blk w gj 106 #[.pointer (some ⟨gd, 0, none⟩), str J.x.state, v, .int .i64 J.x.next, .int .i64 J.x.good, .int .i64 J.x.open_, str J.x.last, .bool J.lame] := h.blk
  refine W_enter (args := [.pointer (some ⟨gj, 0, none⟩)]) 11 Tryz.func26 rfl rfl rfl ?_
  refine W_sub [(0, .pointer (some ⟨gj, 0, none⟩))] ?_ ⟨rfl, trivial⟩
  have hbw := Below.refl w.heap.size w
  refine W_rs ?_
  refine sa rfl rfl ?_
  refine Wn ?_
  refine tN ?_
  refine W_seq ?_
  refine W_rs ?_
  refine sm rfl rfl ?_
  refine st (X.jEq rfl) rfl ?_
  refine Wn ?_
  refine tN ?_
  refine W_no rfl (rfl) ?_
  refine W_skip ?_
  refine tN ?_
  refine W_rs ?_
  refine sm rfl rfl ?_
  refine st (X.nilChk rfl) rfl ?_
  refine st (X.fa fa106_1 rfl) rfl ?_
  refine st (X.fa fa103_1 rfl) rfl ?_
  refine st (X.ldL rfl hB Tryz.underlying42 rfl rfl) rfl ?_
  refine sc _ Tryz.func78 rfl (by kernel_rfl) rfl rfl ((CloneS_any v J.x.done _ (h.row.bel hbw) hd).mono ?_)
  rintro e_ w1 ⟨v', rfl, hR, hO, hb⟩
  refine cR ?_
  replace hbw := bthen hbw hb
  have hz_w1 := hb.size
  clear hb
  refine sa rfl rfl ?_
  refine Wn ?_
  refine tN ?_
  refine W_ret ?_
  exact (rT rfl rfl ⟨v', rfl, hR, hO, hbw⟩).1
theorem Intent_any (p : List UInt8) (n : Nat) (hg : Good n D) (hn : n ≤ 1000000000) (hp : p.length ≤ 1099511627776) (hnx : J.x.next ≤ 1152921504606846976) :
    Calls Tryz.prog 19 #[.pointer (some ⟨gj, 0, none⟩), str p] w (fun e w' => e = .returned (.tuple #[.int .i64 (intentJ D J p).1.1, .int .i64 (intentJ D J p).1.2]) ∧ JPost B w gd gj (intentJ D J p).2.1 (intentJ D J p).2.2 v S w') := by
  have hB : Blk w gj 106 #[.pointer (some ⟨gd, 0, none⟩), str J.x.state, v, .int .i64 J.x.next, .int .i64 J.x.good, .int .i64 J.x.open_, str J.x.last, .bool J.lame] := h.blk
  have hR := h.row
  have hF := h.jf
  have hX : S gj ∨ gj = gj ∨ v.ownBlock = some gj := .inr (.inl rfl)
  have hlt := hB.lt
  have hn4 := four_length (J.x.next : Int)
  unfold intentJ
  refine W_enter (args := [.pointer (some ⟨gj, 0, none⟩), str p]) 59 Tryz.func19 rfl rfl rfl ?_
  refine W_sub [(0, .pointer (some ⟨gj, 0, none⟩)), (1, str p)] ?_ ⟨rfl, rfl, trivial⟩
  have hcw := Chg.refl (fun k => S k ∨ k = gj ∨ v.ownBlock = some k) w
  refine W_rs ?_
  refine sa rfl rfl ?_
  refine sa rfl rfl ?_
  refine Wn ?_
  refine tN ?_
  refine W_seq ?_
  refine W_block ?_
  refine W_rs ?_
  refine sm rfl rfl ?_
  refine st (X.jEq rfl) rfl ?_
  refine sa rfl rfl ?_
  refine Wn ?_
  refine tN ?_
  refine W_no rfl (rfl) ?_
  refine W_rs ?_
  refine sm rfl rfl ?_
  refine st (X.nilChk rfl) rfl ?_
  refine st (X.fa fa106_4 rfl) rfl ?_
  refine st (X.ldL rfl hB Tryz.underlying4 rfl rfl) rfl ?_
  refine sb rfl rfl (fun h16 => ?_) (fun h16 => ?_)
  · first | replace h16 := of_decide_eq_true h16 | replace h16 := of_decide_eq_false (notT h16) | replace h16 := notT h16 | skip
    refine gN (g := 16) rfl rfl rfl rfl ?_
    refine gN (g := 16) rfl rfl rfl rfl ?_
    refine gN (g := 16) rfl rfl rfl rfl ?_
    refine gN (g := 16) rfl rfl rfl rfl ?_
    refine gN (g := 16) rfl rfl rfl rfl ?_
    refine st (X.pickT rfl rfl) rfl ?_
    refine sa rfl rfl ?_
    refine Wn ?_
    refine tN ?_
    refine W_yes rfl (rfl) ?_
    refine W_rs ?_
    refine sa rfl rfl ?_
    refine sa rfl rfl ?_
    refine Wn ?_
    refine tN ?_
    refine W_ret (bR (tR ?_))
    rw [if_pos (.inl h16)]
    exact (rTT rfl rfl rfl ⟨rfl, v, S, ⟨hB, hR, hF⟩, fun k hk => .inl hk, fun k hk => .inl hk, hcw⟩).1
  · first | replace h16 := of_decide_eq_false h16 | replace h16 := of_decide_eq_true (notF h16) | replace h16 := notF h16 | skip
    refine gY (g := 16) rfl rfl rfl ?_
    refine sm rfl rfl ?_
    refine gY (g := 16) rfl rfl rfl ?_
    refine st (X.nilChk rfl) rfl ?_
    refine gY (g := 16) rfl rfl rfl ?_
    refine st (X.fa fa106_2 rfl) rfl ?_
    refine gY (g := 16) rfl rfl rfl ?_
    refine st (X.ldL rfl hB Tryz.underlying3 rfl rfl) rfl ?_
    refine gY (g := 16) rfl rfl rfl ?_
    refine st (X.gtr rfl rfl) rfl ?_
    refine st (X.pickF rfl rfl) rfl ?_
    refine sa rfl rfl ?_
    refine Wn ?_
    refine tN ?_
    refine W_if rfl (fun h11 => ?_) (fun h11 => ?_)
    · first | replace h11 := of_decide_eq_true h11 | replace h11 := of_decide_eq_false (notT h11) | replace h11 := notT h11 | skip
      refine W_rs ?_
      refine sa rfl rfl ?_
      refine sa rfl rfl ?_
      refine Wn ?_
      refine tN ?_
      refine W_ret (bR (tR ?_))
      rw [if_pos (.inr (by omega))]
      exact (rTT rfl rfl rfl ⟨rfl, v, S, ⟨hB, hR, hF⟩, fun k hk => .inl hk, fun k hk => .inl hk, hcw⟩).1
    · first | replace h11 := of_decide_eq_false h11 | replace h11 := of_decide_eq_true (notF h11) | replace h11 := notF h11 | skip
      rw [if_neg (by intro e; rcases e with e | e; rw [e] at h16; simp at h16; omega)]
      refine W_rs ?_
      refine sm rfl rfl ?_
      refine st (X.lenS rfl rfl Tryz.underlying9) rfl ?_
      refine st (X.gtr rfl rfl) rfl ?_
      refine sa rfl rfl ?_
      refine Wn ?_
      refine tN ?_
      refine W_if rfl (fun h23 => ?_) (fun h23 => ?_)
      · first | replace h23 := of_decide_eq_true h23 | replace h23 := of_decide_eq_false (notT h23) | replace h23 := notT h23 | skip
        refine W_rs ?_
        refine sa rfl rfl ?_
        refine sa rfl rfl ?_
        refine Wn ?_
        refine tN ?_
        refine W_ret (bR (tR ?_))
        rw [if_pos (by omega)]
        exact (rTT rfl rfl rfl ⟨rfl, v, S, ⟨hB, hR, hF⟩, fun k hk => .inl hk, fun k hk => .inl hk, hcw⟩).1
      · first | replace h23 := of_decide_eq_false h23 | replace h23 := of_decide_eq_true (notF h23) | replace h23 := notF h23 | skip
        rw [if_neg (by omega)]
        refine W_skip ?_
        refine bN ?_
        refine tN ?_
        refine W_rs ?_
        refine sm rfl rfl ?_
        refine st (X.nilChk rfl) rfl ?_
        refine st (X.fa fa106_1 rfl) rfl ?_
        refine st (X.fa fa103_2 rfl) rfl ?_
        refine st (X.ldL rfl hB Tryz.underlying3 rfl rfl) rfl ?_
        refine sa rfl rfl ?_
        refine Wn ?_
        refine tN ?_
        refine W_seq ?_
        refine W_rs ?_
        refine sm rfl rfl ?_
        refine sm rfl rfl ?_
        refine sc _ Tryz.func68 rfl (by kernel_rfl) rfl rfl ((jfour_any _ _).mono ?_)
        rintro e_ w1 ⟨rfl, hb⟩
        refine cR ?_
        replace hcw := hcw.then_below hb
        replace hB := hB.bel hb
        replace hR := hR.bel hb
        replace hF := hF.bel hb
        have hz_w1 := hb.size
        clear hb
        refine sm rfl rfl ?_
        refine st (X.cat rfl rfl (by omega)) rfl ?_
        refine sc _ Tryz.func67 rfl (by kernel_rfl) rfl rfl ((jput_any B gd gj D J v S _ 4 (four J.x.next ++ p) n ⟨hB, hR, hF⟩ hg hn (by rw [List.length_append]; omega)).mono ?_)
        rintro e_ w2 ⟨rfl, hJ⟩
        refine cR ?_
        obtain ⟨v1, S1, hJA, hS1, hv1, hC⟩ := hJ
        obtain ⟨e1, D1, hpj⟩ : ∃ e D', putJ D 4 (four J.x.next ++ p) = (e, D') := ⟨_, _, rfl⟩
        rw [hpj] at hJA ⊢
        simp only at hJA ⊢
        replace hB : Blk _ gj 106 #[.pointer (some ⟨gd, 0, none⟩), str J.x.state, v1, .int .i64 J.x.next, .int .i64 J.x.good, .int .i64 J.x.open_, str J.x.last, .bool (lameOf e1)] := hJA.blk
        replace hR := hJA.row
        replace hF := hJA.jf
        replace hcw := hcw.next hC (fun i hi => .inl hi)
        have hz_w21 := hC.size
        have hne := hR.ne2 hB (by decide)
        clear hJA hC
        refine sa rfl rfl ?_
        refine Wn ?_
        refine tN ?_
        refine W_rs ?_
        refine sm rfl rfl ?_
        refine st (X.neq rfl rfl) rfl ?_
        refine Wn ?_
        refine tN ?_
        refine W_if rfl (fun h39 => ?_) (fun h39 => ?_)
        · first | replace h39 := of_decide_eq_true h39 | replace h39 := of_decide_eq_false (notT h39) | replace h39 := notT h39 | skip
          rw [if_pos h39]
          refine W_rs ?_
          refine sm rfl rfl ?_
          refine sa rfl rfl ?_
          refine sa rfl rfl ?_
          refine Wn ?_
          refine tN ?_
          refine W_ret (tR ?_)
          exact (rTT rfl rfl rfl ⟨rfl, v1, S1, ⟨hB, hR, hF⟩, fun k hk => (hS1 k hk).imp id (fun e => by omega), fun k hk => (hv1 k hk).imp id (fun e => by omega), hcw⟩).1
        · first | replace h39 := of_decide_eq_false h39 | replace h39 := of_decide_eq_true (notF h39) | replace h39 := notF h39 | skip
          obtain rfl : e1 = 0 := Decidable.of_not_not h39
          rw [if_neg (by simp)]
          refine W_skip ?_
          refine tN ?_
          refine W_rs ?_
          refine sm rfl rfl ?_
          refine sm rfl rfl ?_
          refine sm rfl rfl ?_
          refine sm rfl rfl ?_
          refine st (X.nilChk rfl) rfl ?_
          refine st (X.fa fa106_2 rfl) rfl ?_
          refine ssB rfl rfl hB siz3 rfl (by first | decide | simp) (fun w3 hB_ hc_ => ?_)
          replace hB := hB_
          clear hB_
          replace hR := hR.chg hc_ (by first | (show ¬ _ = _; omega) | (intro k_ hk_; simp [Value.ownBlock] at hk_; subst hk_; show ¬ _ = _; omega) | assumption | trivial)
          replace hF := hF.chg hc_ (by first | (show ¬ _ = _; omega) | (intro k_ hk_; simp [Value.ownBlock] at hk_; subst hk_; show ¬ _ = _; omega) | assumption | trivial)
          replace hcw := hcw.next hc_ (fun i_ hi_ => by first | exact .inl hi_ | exact .inl (.inl hi_) | (right; subst hi_; omega) | (left; subst hi_; show _ ≤ _; omega) | (left; subst hi_; assumption))
          have hz_w3 := hc_.size
          clear hc_
          refine st (X.nilChk rfl) rfl ?_
          refine st (X.fa fa106_3 rfl) rfl ?_
          refine ssB rfl rfl hB siz9 rfl (by first | decide | simp) (fun w4 hB_ hc_ => ?_)
          replace hB := hB_
          clear hB_
          replace hR := hR.chg hc_ (by first | (show ¬ _ = _; omega) | (intro k_ hk_; simp [Value.ownBlock] at hk_; subst hk_; show ¬ _ = _; omega) | assumption | trivial)
          replace hF := hF.chg hc_ (by first | (show ¬ _ = _; omega) | (intro k_ hk_; simp [Value.ownBlock] at hk_; subst hk_; show ¬ _ = _; omega) | assumption | trivial)
          replace hcw := hcw.next hc_ (fun i_ hi_ => by first | exact .inl hi_ | exact .inl (.inl hi_) | (right; subst hi_; omega) | (left; subst hi_; show _ ≤ _; omega) | (left; subst hi_; assumption))
          have hz_w4 := hc_.size
          clear hc_
          refine Wn ?_
          refine tN ?_
          refine W_rs ?_
          refine sm rfl rfl ?_
          refine st (X.nilChk rfl) rfl ?_
          refine st (X.fa fa106_1 rfl) rfl ?_
          refine st (X.fa fa103_2 rfl) rfl ?_
          refine st (X.ldL rfl hB Tryz.underlying3 rfl rfl) rfl ?_
          refine st (X.add64 rfl rfl (by omega)) rfl ?_
          refine st (X.nilChk rfl) rfl ?_
          refine st (X.fa fa106_1 rfl) rfl ?_
          refine st (X.fa fa103_2 rfl) rfl ?_
          refine ssB rfl rfl hB siz3 rfl (by first | decide | simp) (fun w5 hB_ hc_ => ?_)
          replace hB := hB_
          clear hB_
          replace hR := hR.chg hc_ (by first | (show ¬ _ = _; omega) | (intro k_ hk_; simp [Value.ownBlock] at hk_; subst hk_; show ¬ _ = _; omega) | assumption | trivial)
          replace hF := hF.chg hc_ (by first | (show ¬ _ = _; omega) | (intro k_ hk_; simp [Value.ownBlock] at hk_; subst hk_; show ¬ _ = _; omega) | assumption | trivial)
          replace hcw := hcw.next hc_ (fun i_ hi_ => by first | exact .inl hi_ | exact .inl (.inl hi_) | (right; subst hi_; omega) | (left; subst hi_; show _ ≤ _; omega) | (left; subst hi_; assumption))
          have hz_w5 := hc_.size
          clear hc_
          refine Wn ?_
          refine tN ?_
          refine W_rs ?_
          refine sm rfl rfl ?_
          refine sa rfl rfl ?_
          refine sa rfl rfl ?_
          refine Wn ?_
          refine tN ?_
          refine W_ret ?_
          exact (rTT rfl rfl rfl ⟨rfl, v1, S1, ⟨hB, hR, hF⟩, fun k hk => (hS1 k hk).imp id (fun e => by omega), fun k hk => (hv1 k hk).imp id (fun e => by omega), hcw⟩).1
end
end Go.Proofs.YtnijmegalgoipaaGreatDoor
namespace Go.Proofs.YtnijmegalgoipaaGreatDoor
open Go.RowKit
/-- behind an append to what is done -/
theorem JF.app {B gd gj : Nat} {w w' : World} {D : DiskD} {v v' : Value} {S : Nat → Prop} (h : JF B w gd gj D v S) (hC : Chg (fun k => v.ownBlock = some k) w w') (hv : v'.ownBlock = v.ownBlock ∨ v'.ownBlock = some w.heap.size) (hlt : gj < w.heap.size) : JF B w' gd gj D v' S := by
  have hgB := h.gB
  refine ⟨h.own.other hC (fun k hk e => (h.v k hk).1 e), h.g, fun k hk => ?_, h.gB⟩
  rcases hv with e | e
  · exact h.v k (e ▸ hk)
  · rw [e] at hk
    injection hk with hk
    subst hk
    refine ⟨fun hs => ?_, by omega⟩
    have := (h.own.lo _ hs).2
    omega
section
variable (B gd gj : Nat) (D : DiskD) (J : JrM) (v : Value) (S : Nat → Prop) (w : World) (h : JAll B w gd gj D J v S)
include h
theorem Commit_any (id : Int) (n : Nat) (hg : Good n D) (hn : n ≤ 1000000000) (hdn : J.x.done.length ≤ 1000000000) :
    Calls Tryz.prog 20 #[.pointer (some ⟨gj, 0, none⟩), .int .i64 id] w (fun e w' => e = .returned (.int .i64 (commitJ D J id).1) ∧ JPost B w gd gj (commitJ D J id).2.1 (commitJ D J id).2.2 v S w') := by
  have hB : Blk w gj 106 #[.pointer (some ⟨gd, 0, none⟩), str J.x.state, v, .int .i64 J.x.next, .int .i64 J.x.good, .int .i64 J.x.open_, str J.x.last, .bool J.lame] := h.blk
  have hR := h.row
  have hF := h.jf
  have hX : S gj ∨ gj = gj ∨ v.ownBlock = some gj := .inr (.inl rfl)
  have hlt := hB.lt
  have hn4 := four_length id
  unfold commitJ
  refine W_enter (args := [.pointer (some ⟨gj, 0, none⟩), .int .i64 id]) 41 Tryz.func20 rfl rfl rfl ?_
  refine W_sub [(0, .pointer (some ⟨gj, 0, none⟩)), (1, .int .i64 id)] ?_ ⟨rfl, rfl, trivial⟩
  have hcw := Chg.refl (fun k => S k ∨ k = gj ∨ v.ownBlock = some k) w
  refine W_rs ?_
  refine sa rfl rfl ?_
  refine Wn ?_
  refine tN ?_
  refine W_seq ?_
  refine W_rs ?_
  refine sm rfl rfl ?_
  refine sm rfl rfl ?_
  refine sc _ Tryz.func69 rfl (by kernel_rfl) rfl rfl ((jmay_any B gd gj D J v S _ id h).mono ?_)
  rintro e_ w_ ⟨rfl, rfl⟩
  refine cR ?_
  refine sa rfl rfl ?_
  refine Wn ?_
  refine tN ?_
  refine W_rs ?_
  refine sm rfl rfl ?_
  refine st (X.neq rfl rfl) rfl ?_
  refine Wn ?_
  refine tN ?_
  refine W_if rfl (fun h11 => ?_) (fun h11 => ?_)
  · first | replace h11 := of_decide_eq_true h11 | replace h11 := of_decide_eq_false (notT h11) | replace h11 := notT h11 | skip
    refine W_rs ?_
    refine sm rfl rfl ?_
    refine sa rfl rfl ?_
    refine Wn ?_
    refine tN ?_
    refine W_ret (tR ?_)
    rw [if_pos h11]
    exact (rT rfl rfl ⟨rfl, v, S, ⟨hB, hR, hF⟩, fun k hk => .inl hk, fun k hk => .inl hk, hcw⟩).1
  · first | replace h11 := of_decide_eq_false h11 | replace h11 := of_decide_eq_true (notF h11) | replace h11 := notF h11 | skip
    rw [if_neg h11]
    refine W_skip ?_
    refine tN ?_
    refine W_seq ?_
    refine W_rs ?_
    refine sm rfl rfl ?_
    refine sm rfl rfl ?_
    refine sc _ Tryz.func68 rfl (by kernel_rfl) rfl rfl ((jfour_any _ _).mono ?_)
    rintro e_ w1 ⟨rfl, hb⟩
    refine cR ?_
    replace hcw := hcw.then_below hb
    replace hB := hB.bel hb
    replace hR := hR.bel hb
    replace hF := hF.bel hb
    have hz_w1 := hb.size
    clear hb
    refine sc _ Tryz.func67 rfl (by kernel_rfl) rfl rfl ((jput_any B gd gj D J v S _ 5 (four id) n ⟨hB, hR, hF⟩ hg hn (by omega)).mono ?_)
    rintro e_ w2 ⟨rfl, hJ⟩
    refine cR ?_
    obtain ⟨v1, S1, hJA, hS1, hv1, hC⟩ := hJ
    obtain ⟨e1, D1, hpj⟩ : ∃ e D', putJ D 5 (four id) = (e, D') := ⟨_, _, rfl⟩
    rw [hpj] at hJA ⊢
    simp only at hJA ⊢
    replace hB : Blk _ gj 106 #[.pointer (some ⟨gd, 0, none⟩), str J.x.state, v1, .int .i64 J.x.next, .int .i64 J.x.good, .int .i64 J.x.open_, str J.x.last, .bool (lameOf e1)] := hJA.blk
    replace hR : Row _ 9 1 v1 J.x.done.length (J.x.done.map str) := hJA.row
    replace hF := hJA.jf
    replace hcw := hcw.next hC (fun i hi => .inl hi)
    have hz_w21 := hC.size
    clear hJA hC
    refine sa rfl rfl ?_
    refine Wn ?_
    refine tN ?_
    refine W_rs ?_
    refine sm rfl rfl ?_
    refine st (X.neq rfl rfl) rfl ?_
    refine Wn ?_
    refine tN ?_
    refine W_if rfl (fun h18 => ?_) (fun h18 => ?_)
    · first | replace h18 := of_decide_eq_true h18 | replace h18 := of_decide_eq_false (notT h18) | replace h18 := notT h18 | skip
      rw [if_pos h18]
      refine W_rs ?_
      refine sm rfl rfl ?_
      refine sa rfl rfl ?_
      refine Wn ?_
      refine tN ?_
      refine W_ret (tR ?_)
      exact (rT rfl rfl ⟨rfl, v1, S1, ⟨hB, hR, hF⟩, fun k hk => (hS1 k hk).imp (fun e => e) (fun e => by omega), fun k hk => (hv1 k hk).imp (fun e => e) (fun e => by omega), hcw⟩).1
    · first | replace h18 := of_decide_eq_false h18 | replace h18 := of_decide_eq_true (notF h18) | replace h18 := notF h18 | skip
      obtain rfl : e1 = 0 := Decidable.of_not_not h18
      rw [if_neg (by simp)]
      refine W_skip ?_
      refine tN ?_
      have hB0 := hB
      have hz9 := hcw.size
      refine W_phase_s (fun W_ => Below w2.heap.size w2 W_) 11 [true, true, true, true, true, true, true, true, true, true, false] (by kernel_rfl) (by kernel_rfl) (bdrew (Below.refl _ _)) ?_
      obtain ⟨w3, hw_⟩ : ∃ w3 : World, w3 = World.drew w2 := ⟨_, rfl⟩
      rw [← hw_]
      have hb : Below w2.heap.size w2 w3 := by rw [hw_]; exact bdrew (Below.refl _ _)
      clear hw_
      have hS := hb
      replace hcw := hcw.then_below hb
      replace hB := hB.bel hb
      replace hR := hR.bel hb
      replace hF := hF.bel hb
      have hz_w3 := hb.size
      clear hb
      refine pY (fun W_ hW_ => (X.move rfl)) rfl ?_
      refine pY (fun W_ hW_ => (X.move rfl)) rfl ?_
      refine pY (fun W_ hW_ => (X.nilChk rfl)) rfl ?_
      refine pY (fun W_ hW_ => (X.fa fa106_1 rfl)) rfl ?_
      refine pY (fun W_ hW_ => (X.fa fa103_1 rfl)) rfl ?_
      refine pY (fun W_ hW_ => (X.ldL rfl (hB0.bel hW_) Tryz.underlying42 rfl rfl)) rfl ?_
      refine pY (fun W_ hW_ => (X.move rfl)) rfl ?_
      refine pY (fun W_ hW_ => (X.nilChk rfl)) rfl ?_
      refine pY (fun W_ hW_ => (X.fa fa106_3 rfl)) rfl ?_
      refine pY (fun W_ hW_ => (X.ldL rfl (hB0.bel hW_) Tryz.underlying9 rfl rfl)) rfl ?_
      refine pL (fun Q_ hQ_ hP_ => ?_)
      refine sbs1 rfl Tryz.underlying42 inf9 rfl rfl (by decide) (by decide) rfl (fun g30 w4 hR30 hg30 hb => ?_)
      replace hS := bthen hS hb
      replace hcw := hcw.then_below hb
      replace hB := hB.bel hb
      replace hR := hR.bel hb
      replace hF := hF.bel hb
      have hz_w4 := hb.size
      clear hb
      have hl30 := hR30.blt (by decide)
      refine Wn (hQ_ _ _ hS ?_)
      clear hQ_ hP_ Q_
      refine pN ?_
      refine sapp rfl rfl Tryz.underlying42 inf9 rfl (by decide) hR (hR30.src Tryz.underlying42 (by intro u hu; rw [show u = str J.x.last by simpa [Value.cells, str] using hu]; rfl)) (by simp only [maxLen]; omega) (by omega) rfl (fun v' w5 hR2 hC2 hv => ?_)
      obtain ⟨a', c', rfl, _, _⟩ := hR2.shape
      have hz_w5 := hC2.size
      have hlt9 := hB.lt
      have hne1 := hR.ne2 hB (by decide)
      replace hB := hB.chg hC2 (fun hk => hne1 _ hk rfl)
      have hne := hR2.ne2 hB (by decide)
      replace hF := hF.app hC2 hv hlt9
      replace hcw := hcw.next hC2 (fun i hi => (hv1 i hi).imp (fun e => .inr (.inr e)) (fun e => by omega))
      have hvn : ∀ k, (Value.slice a' (J.x.done.length + 1) c').ownBlock = some k → v.ownBlock = some k ∨ w.heap.size ≤ k := fun k hk => by
        rcases hv with hv | hv
        · exact (hv1 k (hv ▸ hk)).imp (fun e => e) (fun e => by omega)
        · rw [hv] at hk
          injection hk with hk
          right; omega
      replace hR := hR2
      clear hC2 hR2
      refine st (X.nilChk rfl) rfl ?_
      refine st (X.fa fa106_1 rfl) rfl ?_
      refine st (X.fa fa103_1 rfl) rfl ?_
      refine ssB rfl rfl hB siz42 rfl (by first | decide | simp) (fun w6 hB_ hc_ => ?_)
      replace hB := hB_
      clear hB_
      replace hR := hR.chg hc_ (by first | (show ¬ _ = _; omega) | (intro k_ hk_; simp [Value.ownBlock] at hk_; subst hk_; show ¬ _ = _; omega) | assumption | trivial)
      replace hF := hF.chg hc_ (by first | (show ¬ _ = _; omega) | (intro k_ hk_; simp [Value.ownBlock] at hk_; subst hk_; show ¬ _ = _; omega) | assumption | trivial)
      replace hcw := hcw.next hc_ (fun i_ hi_ => by first | exact .inl hi_ | exact .inl (.inl hi_) | (right; subst hi_; omega) | (left; subst hi_; show _ ≤ _; omega) | (left; subst hi_; assumption))
      have hz_w6 := hc_.size
      clear hc_
      refine Wn ?_
      refine nN ?_
      refine W_rs ?_
      refine sm rfl rfl ?_
      refine sm rfl rfl ?_
      refine st (X.nilChk rfl) rfl ?_
      refine st (X.fa fa106_2 rfl) rfl ?_
      refine ssB rfl rfl hB siz3 rfl (by first | decide | simp) (fun w7 hB_ hc_ => ?_)
      replace hB := hB_
      clear hB_
      replace hR := hR.chg hc_ (by first | (show ¬ _ = _; omega) | (intro k_ hk_; simp [Value.ownBlock] at hk_; subst hk_; show ¬ _ = _; omega) | assumption | trivial)
      replace hF := hF.chg hc_ (by first | (show ¬ _ = _; omega) | (intro k_ hk_; simp [Value.ownBlock] at hk_; subst hk_; show ¬ _ = _; omega) | assumption | trivial)
      replace hcw := hcw.next hc_ (fun i_ hi_ => by first | exact .inl hi_ | exact .inl (.inl hi_) | (right; subst hi_; omega) | (left; subst hi_; show _ ≤ _; omega) | (left; subst hi_; assumption))
      have hz_w7 := hc_.size
      clear hc_
      refine st (X.nilChk rfl) rfl ?_
      refine st (X.fa fa106_3 rfl) rfl ?_
      refine ssB rfl rfl hB siz9 rfl (by first | decide | simp) (fun w8 hB_ hc_ => ?_)
      replace hB := hB_
      clear hB_
      replace hR := hR.chg hc_ (by first | (show ¬ _ = _; omega) | (intro k_ hk_; simp [Value.ownBlock] at hk_; subst hk_; show ¬ _ = _; omega) | assumption | trivial)
      replace hF := hF.chg hc_ (by first | (show ¬ _ = _; omega) | (intro k_ hk_; simp [Value.ownBlock] at hk_; subst hk_; show ¬ _ = _; omega) | assumption | trivial)
      replace hcw := hcw.next hc_ (fun i_ hi_ => by first | exact .inl hi_ | exact .inl (.inl hi_) | (right; subst hi_; omega) | (left; subst hi_; show _ ≤ _; omega) | (left; subst hi_; assumption))
      have hz_w8 := hc_.size
      clear hc_
      refine Wn ?_
      refine tN ?_
      refine W_rs ?_
      refine sa rfl rfl ?_
      refine Wn ?_
      refine tN ?_
      refine W_ret ?_
      refine (rT rfl rfl ⟨rfl, _, S1, ⟨hB, ?_, hF⟩, fun k hk => (hS1 k hk).imp (fun e => e) (fun e => by omega), hvn, hcw⟩).1
      simpa [str, Value.cells] using hR
set_option maxRecDepth 10000 in
theorem Checkpoint_any (s : List UInt8) (n : Nat) (hg : Good n D) (hn : n ≤ 1000000000) (hs : s.length ≤ 1099511627776) :
    Calls Tryz.prog 21 #[.pointer (some ⟨gj, 0, none⟩), str s] w (fun e w' => e = .returned (.int .i64 (checkJ D J s).1) ∧ JPost B w gd gj (checkJ D J s).2.1 (checkJ D J s).2.2 v S w') := by
  have hB : Blk w gj 106 #[.pointer (some ⟨gd, 0, none⟩), str J.x.state, v, .int .i64 J.x.next, .int .i64 J.x.good, .int .i64 J.x.open_, str J.x.last, .bool J.lame] := h.blk
  have hR := h.row
  have hF := h.jf
  have hX : S gj ∨ gj = gj ∨ v.ownBlock = some gj := .inr (.inl rfl)
  have hlt := hB.lt
  have hne := hR.ne2 hB (by decide)
  have hn4 := four_length (J.x.next : Int)
  have hsl := sealM_length 6 (four J.x.next ++ s)
  rw [List.length_append] at hsl
  unfold checkJ
  refine W_enter (args := [.pointer (some ⟨gj, 0, none⟩), str s]) 51 Tryz.func21 rfl rfl rfl ?_
  refine W_sub [(0, .pointer (some ⟨gj, 0, none⟩)), (1, str s)] ?_ ⟨rfl, rfl, trivial⟩
  have hcw := Chg.refl (fun k => S k ∨ k = gj ∨ v.ownBlock = some k) w
  refine W_rs ?_
  refine sa rfl rfl ?_
  refine Wn ?_
  refine tN ?_
  refine W_seq ?_
  refine W_block ?_
  refine W_rs ?_
  refine sm rfl rfl ?_
  refine st (X.jEq rfl) rfl ?_
  refine sa rfl rfl ?_
  refine Wn ?_
  refine tN ?_
  refine W_no rfl (rfl) ?_
  refine W_rs ?_
  refine sm rfl rfl ?_
  refine st (X.nilChk rfl) rfl ?_
  refine st (X.fa fa106_4 rfl) rfl ?_
  refine st (X.ldL rfl hB Tryz.underlying4 rfl rfl) rfl ?_
  refine sb rfl rfl (fun h14 => ?_) (fun h14 => ?_)
  · first | replace h14 := of_decide_eq_true h14 | replace h14 := of_decide_eq_false (notT h14) | replace h14 := notT h14 | skip
    refine gN (g := 14) rfl rfl rfl rfl ?_
    refine gN (g := 14) rfl rfl rfl rfl ?_
    refine gN (g := 14) rfl rfl rfl rfl ?_
    refine gN (g := 14) rfl rfl rfl rfl ?_
    refine gN (g := 14) rfl rfl rfl rfl ?_
    refine st (X.pickT rfl rfl) rfl ?_
    refine sa rfl rfl ?_
    refine Wn ?_
    refine tN ?_
    refine W_yes rfl (rfl) ?_
    refine W_rs ?_
    refine sa rfl rfl ?_
    refine Wn ?_
    refine tN ?_
    refine W_ret (bR (tR ?_))
    rw [if_pos (.inl h14)]
    exact (rT rfl rfl ⟨rfl, v, S, ⟨hB, hR, hF⟩, fun k hk => .inl hk, fun k hk => .inl hk, hcw⟩).1
  · first | replace h14 := of_decide_eq_false h14 | replace h14 := of_decide_eq_true (notF h14) | replace h14 := notF h14 | skip
    refine gY (g := 14) rfl rfl rfl ?_
    refine sm rfl rfl ?_
    refine gY (g := 14) rfl rfl rfl ?_
    refine st (X.nilChk rfl) rfl ?_
    refine gY (g := 14) rfl rfl rfl ?_
    refine st (X.fa fa106_2 rfl) rfl ?_
    refine gY (g := 14) rfl rfl rfl ?_
    refine st (X.ldL rfl hB Tryz.underlying3 rfl rfl) rfl ?_
    refine gY (g := 14) rfl rfl rfl ?_
    refine st (X.gtr rfl rfl) rfl ?_
    refine st (X.pickF rfl rfl) rfl ?_
    refine sa rfl rfl ?_
    refine Wn ?_
    refine tN ?_
    refine W_if rfl (fun h9 => ?_) (fun h9 => ?_)
    · first | replace h9 := of_decide_eq_true h9 | replace h9 := of_decide_eq_false (notT h9) | replace h9 := notT h9 | skip
      refine W_rs ?_
      refine sa rfl rfl ?_
      refine Wn ?_
      refine tN ?_
      refine W_ret (bR (tR ?_))
      rw [if_pos (.inr (by omega))]
      exact (rT rfl rfl ⟨rfl, v, S, ⟨hB, hR, hF⟩, fun k hk => .inl hk, fun k hk => .inl hk, hcw⟩).1
    · first | replace h9 := of_decide_eq_false h9 | replace h9 := of_decide_eq_true (notF h9) | replace h9 := notF h9 | skip
      rw [if_neg (by intro e; rcases e with e | e; rw [e] at h14; simp at h14; omega)]
      refine W_rs ?_
      refine sm rfl rfl ?_
      refine st (X.lenS rfl rfl Tryz.underlying9) rfl ?_
      refine st (X.gtr rfl rfl) rfl ?_
      refine sa rfl rfl ?_
      refine Wn ?_
      refine tN ?_
      refine W_if rfl (fun h21 => ?_) (fun h21 => ?_)
      · first | replace h21 := of_decide_eq_true h21 | replace h21 := of_decide_eq_false (notT h21) | replace h21 := notT h21 | skip
        refine W_rs ?_
        refine sa rfl rfl ?_
        refine Wn ?_
        refine tN ?_
        refine W_ret (bR (tR ?_))
        rw [if_pos (by omega)]
        exact (rT rfl rfl ⟨rfl, v, S, ⟨hB, hR, hF⟩, fun k hk => .inl hk, fun k hk => .inl hk, hcw⟩).1
      · first | replace h21 := of_decide_eq_false h21 | replace h21 := of_decide_eq_true (notF h21) | replace h21 := notF h21 | skip
        rw [if_neg (by omega)]
        refine W_skip ?_
        refine bN ?_
        refine tN ?_
        refine W_seq ?_
        refine W_drsN (fun W_ => Blk W_ gj 106 #[.pointer (some ⟨gd, 0, none⟩), str J.x.state, v, .int .i64 J.x.next, .int .i64 J.x.good, .int .i64 J.x.open_, str J.x.last, .bool J.lame]) [0, 1, 2, 3, 4, 5, 6, 7, 8, 10, 9, 11, 12, 13, 14] [true, true, true, true, true, true, true, true, true, true, false, true, false, false, true] (by kernel_rfl) (by kernel_rfl) (hB.bel (bdrew (Below.refl _ _))) ?_
        obtain ⟨w1, hw_⟩ : ∃ w1 : World, w1 = World.drew w := ⟨_, rfl⟩
        rw [← hw_]
        have hb : Below w.heap.size w w1 := by rw [hw_]; exact bdrew (Below.refl _ _)
        clear hw_
        have hS := hb
        replace hcw := hcw.then_below hb
        replace hB := hB.bel hb
        replace hR := hR.bel hb
        replace hF := hF.bel hb
        have hz_w1 := hb.size
        clear hb
        refine oY rfl (fun W_ hW_ => (X.move rfl)) rfl ?_
        refine oY rfl (fun W_ hW_ => (X.nilChk rfl)) rfl ?_
        refine oY rfl (fun W_ hW_ => (X.fa fa106_0 rfl)) rfl ?_
        refine oY rfl (fun W_ hW_ => (X.ldL rfl hW_ Tryz.underlying23 rfl rfl)) rfl ?_
        refine oY rfl (fun W_ hW_ => (X.move rfl)) rfl ?_
        refine oY rfl (fun W_ hW_ => (X.nilChk rfl)) rfl ?_
        refine oY rfl (fun W_ hW_ => (X.fa fa106_1 rfl)) rfl ?_
        refine oY rfl (fun W_ hW_ => (X.fa fa103_2 rfl)) rfl ?_
        refine oY rfl (fun W_ hW_ => (X.ldL rfl hW_ Tryz.underlying3 rfl rfl)) rfl ?_
        refine oY rfl (fun W_ hW_ => (X.move rfl)) rfl ?_
        refine oL rfl (fun Q_ hQ_ hP_ => ?_)
        refine sc _ Tryz.func68 rfl (by kernel_rfl) rfl rfl ((jfour_any _ _).mono ?_)
        rintro e_ w2 ⟨rfl, hb⟩
        refine cR ?_
        replace hcw := hcw.then_below hb
        replace hB := hB.bel hb
        replace hR := hR.bel hb
        replace hF := hF.bel hb
        have hz_w2 := hb.size
        clear hb
        refine Wn (hQ_ _ _ (hB) ?_)
        clear hQ_ hP_ Q_
        refine oY rfl (fun W_ hW_ => (X.cat rfl rfl (by omega))) rfl ?_
        refine oL rfl (fun Q_ hQ_ hP_ => ?_)
        refine sc _ Tryz.func24 rfl (by kernel_rfl) rfl rfl ((Seal_any 6 (four J.x.next ++ s) _ (by rw [List.length_append]; omega)).mono ?_)
        rintro e_ w3 ⟨rfl, hb⟩
        refine cR ?_
        replace hcw := hcw.then_below hb
        replace hB := hB.bel hb
        replace hR := hR.bel hb
        replace hF := hF.bel hb
        have hz_w3 := hb.size
        clear hb
        refine Wn (hQ_ _ _ (hB) ?_)
        clear hQ_ hP_ Q_
        refine oL rfl (fun Q_ hQ_ hP_ => ?_)
        refine sc _ Tryz.func66 rfl (by kernel_rfl) rfl rfl ((jdisk (replace_any gd D _ (sealM 6 (four J.x.next ++ s)) n _ hF.own.at_ hg hn (by omega)) hB hR hF hcw (fun k hk => .inl hk) (fun k hk => .inl hk)).mono ?_)
        clear hB hR hF
        rintro e_ w4 ⟨rfl, S1, hB, hR, hF, hS1, hcw, hz1_⟩
        refine cR ?_
        refine Wn (hQ_ _ _ (hB) ?_)
        clear hQ_ hP_ Q_
        obtain ⟨e1, D1, hpj⟩ : ∃ e D', replaceJ D (sealM 6 (four J.x.next ++ s)) = (e, D') := ⟨_, _, rfl⟩
        rw [hpj] at hF ⊢
        simp only at hF ⊢
        refine oY rfl (fun W_ hW_ => (X.assign rfl)) rfl ?_
        refine oN ?_
        refine nN ?_
        refine W_rs ?_
        refine sm rfl rfl ?_
        refine st (X.neq rfl rfl) rfl ?_
        refine Wn ?_
        refine tN ?_
        refine W_if rfl (fun h40 => ?_) (fun h40 => ?_)
        · first | replace h40 := of_decide_eq_true h40 | replace h40 := of_decide_eq_false (notT h40) | replace h40 := notT h40 | skip
          rw [if_pos h40]
          refine W_rs ?_
          refine sm rfl rfl ?_
          refine sa rfl rfl ?_
          refine Wn ?_
          refine tN ?_
          refine W_ret (tR ?_)
          exact (rT rfl rfl ⟨rfl, v, S1, ⟨hB, hR, hF⟩, hS1, fun k hk => .inl hk, hcw⟩).1
        · first | replace h40 := of_decide_eq_false h40 | replace h40 := of_decide_eq_true (notF h40) | replace h40 := notF h40 | skip
          rw [if_neg h40]
          refine W_skip ?_
          refine tN ?_
          refine W_rs ?_
          refine sm rfl rfl ?_
          refine sm rfl rfl ?_
          refine sm rfl rfl ?_
          refine st (X.nilChk rfl) rfl ?_
          refine st (X.fa fa106_1 rfl) rfl ?_
          refine st (X.fa fa103_0 rfl) rfl ?_
          refine ssB rfl rfl hB siz9 rfl (by first | decide | simp) (fun w5 hB_ hc_ => ?_)
          replace hB := hB_
          clear hB_
          replace hR := hR.chg hc_ (by first | (show ¬ _ = _; omega) | (intro k_ hk_; simp [Value.ownBlock] at hk_; subst hk_; show ¬ _ = _; omega) | assumption | trivial)
          replace hF := hF.chg hc_ (by first | (show ¬ _ = _; omega) | (intro k_ hk_; simp [Value.ownBlock] at hk_; subst hk_; show ¬ _ = _; omega) | assumption | trivial)
          replace hcw := hcw.next hc_ (fun i_ hi_ => by first | exact .inl hi_ | exact .inl (.inl hi_) | (right; subst hi_; omega) | (left; subst hi_; show _ ≤ _; omega) | (left; subst hi_; assumption))
          have hz_w5 := hc_.size
          clear hc_
          refine st (X.nilChk rfl) rfl ?_
          refine st (X.fa fa106_1 rfl) rfl ?_
          refine st (X.fa fa103_1 rfl) rfl ?_
          refine ssB rfl rfl hB siz42 rfl (by first | decide | simp) (fun w6 hB_ hc_ => ?_)
          replace hB := hB_
          clear hB_
          replace hR := hR.chg hc_ (by first | (show ¬ _ = _; omega) | (intro k_ hk_; simp [Value.ownBlock] at hk_; subst hk_; show ¬ _ = _; omega) | assumption | trivial)
          replace hF := hF.chg hc_ (by first | (show ¬ _ = _; omega) | (intro k_ hk_; simp [Value.ownBlock] at hk_; subst hk_; show ¬ _ = _; omega) | assumption | trivial)
          replace hcw := hcw.next hc_ (fun i_ hi_ => by first | exact .inl hi_ | exact .inl (.inl hi_) | (right; subst hi_; omega) | (left; subst hi_; show _ ≤ _; omega) | (left; subst hi_; assumption))
          have hz_w6 := hc_.size
          clear hc_
          refine Wn ?_
          refine tN ?_
          refine W_rs ?_
          refine sa rfl rfl ?_
          refine Wn ?_
          refine tN ?_
          refine W_ret ?_
          exact (rT rfl rfl ⟨rfl, .slice none 0 0, S1, ⟨hB, Row.nil _ _ _, ⟨hF.own, hF.g, fun k hk => by simp [Value.ownBlock] at hk, hF.gB⟩⟩, hS1, fun k hk => by simp [Value.ownBlock] at hk, hcw⟩).1
end
/- ---------- the nil journal ---------- -/
theorem Intent_nil (p : List UInt8) (w : World) : Calls Tryz.prog 19 #[.pointer none, str p] w fun e w' => e = .returned (.tuple #[.int .i64 0, .int .i64 2]) ∧ w = w' := by
  refine W_enter (args := [.pointer none, str p]) 59 Tryz.func19 rfl rfl rfl ?_
  refine W_sub [(0, .pointer none), (1, str p)] ?_ ⟨rfl, rfl, trivial⟩
  refine W_rs ?_
  refine sa rfl rfl ?_
  refine sa rfl rfl ?_
  refine Wn ?_
  refine tN ?_
  refine W_seq ?_
  refine W_block ?_
  refine W_rs ?_
  refine sm rfl rfl ?_
  refine st (X.jEq rfl) rfl ?_
  refine sa rfl rfl ?_
  refine Wn ?_
  refine tN ?_
  refine W_yes rfl (rfl) ?_
  refine W_rs ?_
  refine sa rfl rfl ?_
  refine sa rfl rfl ?_
  refine Wn ?_
  refine tN ?_
  refine W_ret (bR (tR ?_))
  exact (rTT rfl rfl rfl ⟨rfl, rfl⟩).1
theorem may_nil (i : Int) (w : World) : Calls Tryz.prog 69 #[.pointer none, .int .i64 i] w fun e w' => e = .returned (.int .i64 2) ∧ w = w' := by
  refine W_enter (args := [.pointer none, .int .i64 i]) 24 Tryz.func69 rfl rfl rfl ?_
  refine W_sub [(0, .pointer none), (1, .int .i64 i)] ?_ ⟨rfl, rfl, trivial⟩
  refine W_rs ?_
  refine sa rfl rfl ?_
  refine Wn ?_
  refine tN ?_
  refine W_seq ?_
  refine W_block ?_
  refine W_rs ?_
  refine sm rfl rfl ?_
  refine st (X.jEq rfl) rfl ?_
  refine sa rfl rfl ?_
  refine Wn ?_
  refine tN ?_
  refine W_yes rfl (rfl) ?_
  refine W_rs ?_
  refine sa rfl rfl ?_
  refine Wn ?_
  refine tN ?_
  refine W_ret (bR (tR ?_))
  exact (rT rfl rfl ⟨rfl, rfl⟩).1
theorem Commit_nil (i : Int) (w : World) : Calls Tryz.prog 20 #[.pointer none, .int .i64 i] w fun e w' => e = .returned (.int .i64 2) ∧ w = w' := by
  refine W_enter (args := [.pointer none, .int .i64 i]) 41 Tryz.func20 rfl rfl rfl ?_
  refine W_sub [(0, .pointer none), (1, .int .i64 i)] ?_ ⟨rfl, rfl, trivial⟩
  refine W_rs ?_
  refine sa rfl rfl ?_
  refine Wn ?_
  refine tN ?_
  refine W_seq ?_
  refine W_rs ?_
  refine sm rfl rfl ?_
  refine sm rfl rfl ?_
  refine sc _ Tryz.func69 rfl (by kernel_rfl) rfl rfl ((may_nil i _).mono ?_)
  rintro e_ w_ ⟨rfl, rfl⟩
  refine cR ?_
  refine sa rfl rfl ?_
  refine Wn ?_
  refine tN ?_
  refine W_rs ?_
  refine sm rfl rfl ?_
  refine st (X.neq rfl rfl) rfl ?_
  refine Wn ?_
  refine tN ?_
  refine W_yes rfl (rfl) ?_
  refine W_rs ?_
  refine sm rfl rfl ?_
  refine sa rfl rfl ?_
  refine Wn ?_
  refine tN ?_
  refine W_ret (tR ?_)
  exact (rT rfl rfl ⟨rfl, rfl⟩).1
theorem Abort_nil (i : Int) (w : World) : Calls Tryz.prog 29 #[.pointer none, .int .i64 i] w fun e w' => e = .returned (.int .i64 2) ∧ w = w' := by
  refine W_enter (args := [.pointer none, .int .i64 i]) 18 Tryz.func29 rfl rfl rfl ?_
  refine W_sub [(0, .pointer none), (1, .int .i64 i)] ?_ ⟨rfl, rfl, trivial⟩
  refine W_rs ?_
  refine sa rfl rfl ?_
  refine Wn ?_
  refine tN ?_
  refine W_rs ?_
  refine sm rfl rfl ?_
  refine sm rfl rfl ?_
  refine sc _ Tryz.func69 rfl (by kernel_rfl) rfl rfl ((may_nil i _).mono ?_)
  rintro e_ w_ ⟨rfl, rfl⟩
  refine cR ?_
  refine sa rfl rfl ?_
  refine Wn ?_
  refine tN ?_
  refine W_seq ?_
  refine W_rs ?_
  refine sm rfl rfl ?_
  refine st (X.eql rfl rfl) rfl ?_
  refine Wn ?_
  refine tN ?_
  refine W_no rfl (rfl) ?_
  refine W_skip ?_
  refine tN ?_
  refine W_rs ?_
  refine sm rfl rfl ?_
  refine sa rfl rfl ?_
  refine Wn ?_
  refine tN ?_
  refine W_ret ?_
  exact (rT rfl rfl ⟨rfl, rfl⟩).1
theorem Checkpoint_nil (p : List UInt8) (w : World) : Calls Tryz.prog 21 #[.pointer none, str p] w fun e w' => e = .returned (.int .i64 2) ∧ w = w' := by
  refine W_enter (args := [.pointer none, str p]) 51 Tryz.func21 rfl rfl rfl ?_
  refine W_sub [(0, .pointer none), (1, str p)] ?_ ⟨rfl, rfl, trivial⟩
  refine W_rs ?_
  refine sa rfl rfl ?_
  refine Wn ?_
  refine tN ?_
  refine W_seq ?_
  refine W_block ?_
  refine W_rs ?_
  refine sm rfl rfl ?_
  refine st (X.jEq rfl) rfl ?_
  refine sa rfl rfl ?_
  refine Wn ?_
  refine tN ?_
  refine W_yes rfl (rfl) ?_
  refine W_rs ?_
  refine sa rfl rfl ?_
  refine Wn ?_
  refine tN ?_
  refine W_ret (bR (tR ?_))
  exact (rT rfl rfl ⟨rfl, rfl⟩).1
theorem State_nil (w : World) : Calls Tryz.prog 25 #[.pointer none] w fun e w' => e = .returned (str []) ∧ w = w' := by
  refine W_enter (args := [.pointer none]) 10 Tryz.func25 rfl rfl rfl ?_
  refine W_sub [(0, .pointer none)] ?_ ⟨rfl, trivial⟩
  refine W_rs ?_
  refine sa rfl rfl ?_
  refine Wn ?_
  refine tN ?_
  refine W_seq ?_
  refine W_rs ?_
  refine sm rfl rfl ?_
  refine st (X.jEq rfl) rfl ?_
  refine Wn ?_
  refine tN ?_
  refine W_yes rfl (rfl) ?_
  refine W_rs ?_
  refine sa rfl rfl ?_
  refine Wn ?_
  refine tN ?_
  refine W_ret (tR ?_)
  exact (rT rfl rfl ⟨rfl, rfl⟩).1
theorem Done_nil (w : World) : Calls Tryz.prog 26 #[.pointer none] w fun e w' => e = .returned (.slice none 0 0) ∧ w = w' := by
  refine W_enter (args := [.pointer none]) 11 Tryz.func26 rfl rfl rfl ?_
  refine W_sub [(0, .pointer none)] ?_ ⟨rfl, trivial⟩
  refine W_rs ?_
  refine sa rfl rfl ?_
  refine Wn ?_
  refine tN ?_
  refine W_seq ?_
  refine W_rs ?_
  refine sm rfl rfl ?_
  refine st (X.jEq rfl) rfl ?_
  refine Wn ?_
  refine tN ?_
  refine W_yes rfl (rfl) ?_
  refine W_rs ?_
  refine sa rfl rfl ?_
  refine Wn ?_
  refine tN ?_
  refine W_ret (tR ?_)
  exact (rT rfl rfl ⟨rfl, rfl⟩).1
theorem Next_nil (w : World) : Calls Tryz.prog 27 #[.pointer none] w fun e w' => e = .returned (.int .i64 0) ∧ w = w' := by
  refine W_enter (args := [.pointer none]) 10 Tryz.func27 rfl rfl rfl ?_
  refine W_sub [(0, .pointer none)] ?_ ⟨rfl, trivial⟩
  refine W_rs ?_
  refine sa rfl rfl ?_
  refine Wn ?_
  refine tN ?_
  refine W_seq ?_
  refine W_rs ?_
  refine sm rfl rfl ?_
  refine st (X.jEq rfl) rfl ?_
  refine Wn ?_
  refine tN ?_
  refine W_yes rfl (rfl) ?_
  refine W_rs ?_
  refine sa rfl rfl ?_
  refine Wn ?_
  refine tN ?_
  refine W_ret (tR ?_)
  exact (rT rfl rfl ⟨rfl, rfl⟩).1
theorem Open_nil (w : World) : Calls Tryz.prog 18 #[.pointer none] w fun e w' => e = .returned (.tuple #[.pointer none, .int .i64 2]) ∧ w = w' := by
  refine W_enter (args := [.pointer none]) 58 Tryz.func18 rfl rfl rfl ?_
  refine W_sub [(0, .pointer none)] ?_ ⟨rfl, trivial⟩
  refine W_rs ?_
  refine sa rfl rfl ?_
  refine sa rfl rfl ?_
  refine Wn ?_
  refine tN ?_
  refine W_seq ?_
  refine W_rs ?_
  refine sm rfl rfl ?_
  refine st (X.dEq rfl) rfl ?_
  refine Wn ?_
  refine tN ?_
  refine W_yes rfl (rfl) ?_
  refine W_rs ?_
  refine sa rfl rfl ?_
  refine sa rfl rfl ?_
  refine Wn ?_
  refine tN ?_
  refine W_ret (tR ?_)
  exact (rTT rfl rfl rfl ⟨rfl, rfl⟩).1
/- ---------- Open ---------- -/
theorem mem_used {l : List (Key × FileD)} {k : Key} {f : FileD} (h : (k, f) ∈ l) : f.now.length ≤ usedM l := by
  induction l with
  | nil => cases h
  | cons p l ih =>
    unfold usedM
    rcases List.mem_cons.1 h with h | h
    · subst h
      simp only
      omega
    · have := ih h
      omega
theorem DOk.most {D : DiskD} (h : DOk D) {k : Key} {f : FileD} (hf : mget D.files k = some f) : f.now.length ≤ 16777216 := by
  have h1 := mem_used (mget_mem hf)
  have h2 := h.used
  have h3 := h.room
  have h4 := h.lim
  omega
theorem readM_len {D : DiskD} (h : DOk D) {k : Key} {i n e : Int} {s : List UInt8} (hr : readM D k i n = (s, e)) : s.length ≤ 16777216 := by
  unfold readM at hr
  split at hr
  · injection hr with h1 _
    subst h1
    simp
  · rename_i f hf
    have := h.most hf
    split at hr
    · injection hr with h1 _
      subst h1
      simp
    · injection hr with h1 _
      subst h1
      simp only [List.length_take, List.length_drop]
      omega
theorem scanN_ok {s : List UInt8} : ∀ (n : Nat) {x : ScM}, ScOk s x → ScOk s (scanN n s x)
  | 0, _, h => h
  | n + 1, x, h => by
    unfold scanN
    split
    · exact h
    · rename_i y hy
      exact scanN_ok n (stepM_ok hy h).1
theorem scanM_ok (s : List UInt8) : ScOk s (scanM s) := scanN_ok _ (ScOk.new s)
theorem Own.of {B gd : Nat} {w0 w : World} {D0 D : DiskD} {S S1 : Nat → Prop} (h : Own B w0 gd D0 S) (hB : B ≤ w0.heap.size) (h1 : DiskAt w gd D S1) (hS1 : ∀ k, S1 k → Ext S w0 w k) (hz : w0.heap.size ≤ w.heap.size) : Own B w gd D S1 :=
  ⟨h1, fun k hk => by
    rcases hS1 k hk with e | e
    · have := h.lo k e; omega
    · omega⟩
theorem bjrn (gd : Nat) (a : List UInt8) (q : Option Addr) (n c : Nat) (i j : Int) (w : World) : (Instr.build 106 #[(0, .pointer (some ⟨gd, 0, none⟩)), (1, .agg #[str a, .slice q n c, .int .i64 i, .int .i64 j])]).run Tryz.prog w = .ok (.agg #[.pointer (some ⟨gd, 0, none⟩), str a, .slice q n c, .int .i64 i, .int .i64 j, .int .i64 0, str [], .bool false]) w := by kernel_rfl
/-- what Open leaves -/
def OpenPost (B : Nat) (w : World) (gd : Nat) (S : Nat → Prop) (r : (Option JrM × Int) × DiskD) (e : Ending) (w' : World) : Prop :=
  ∃ S', Own B w' gd r.2 S' ∧ (∀ k, S' k → S k ∨ w.heap.size ≤ k) ∧ Chg S w w' ∧
    match r.1.1 with
    | none => e = .returned (.tuple #[.pointer none, .int .i64 r.1.2])
    | some J => ∃ gj v, e = .returned (.tuple #[.pointer (some ⟨gj, 0, none⟩), .int .i64 r.1.2]) ∧ JAll B w' gd gj r.2 J v S' ∧ w.heap.size ≤ gj ∧ ∀ k, v.ownBlock = some k → w.heap.size ≤ k
set_option maxRecDepth 10000 in
theorem Open_any (B gd : Nat) (D : DiskD) (S : Nat → Prop) (n : Nat) (w : World) (hd : Own B w gd D S) (hB : B ≤ w.heap.size) (hg : Good n D) (hn : n ≤ 500000000) :
    Calls Tryz.prog 18 #[.pointer (some ⟨gd, 0, none⟩)] w (OpenPost B w gd S (openJ D)) := by
  have h := hd.at_
  have h1 := create_good hg jName
  obtain ⟨sz, se, hsz⟩ : ∃ a b, sizeM D jName = (a, b) := ⟨_, _, rfl⟩
  unfold openJ madeJ
  rw [hsz]
  simp only
  have hSz := Size_any gd D S jName w h
  rw [hsz] at hSz
  simp only at hSz
  refine W_enter (args := [.pointer (some ⟨gd, 0, none⟩)]) 58 Tryz.func18 rfl rfl rfl ?_
  refine W_sub [(0, .pointer (some ⟨gd, 0, none⟩))] ?_ ⟨rfl, trivial⟩
  have hcw := Chg.refl (S) w
  have hS1 : ∀ k, S k → Ext S w w k := fun k hk => .inl hk
  refine W_rs ?_
  refine sa rfl rfl ?_
  refine sa rfl rfl ?_
  refine Wn ?_
  refine tN ?_
  refine W_seq ?_
  refine W_rs ?_
  refine sm rfl rfl ?_
  refine st (X.dEq rfl) rfl ?_
  refine Wn ?_
  refine tN ?_
  refine W_no rfl (rfl) ?_
  refine W_skip ?_
  refine tN ?_
  refine W_rs ?_
  refine sm rfl rfl ?_
  refine sc _ Tryz.func22 rfl (by kernel_rfl) rfl rfl ((hSz).mono ?_)
  rintro e_ w1 ⟨rfl, hb⟩
  refine cR ?_
  replace hcw := hcw.then_below hb
  replace h := h.bel hb
  have hz_w1 := hb.size
  clear hb
  have hS1 : ∀ k, S k → Ext S w w1 k := fun k hk => .inl hk
  refine sm rfl rfl ?_
  refine st (X.ext rfl rfl) rfl ?_
  refine st (X.ext rfl rfl) rfl ?_
  refine sa rfl rfl ?_
  refine sa rfl rfl ?_
  refine Wn ?_
  refine tN ?_
  refine W_seq ?_
  refine W_rs ?_
  refine sm rfl rfl ?_
  refine st (X.eql rfl rfl) rfl ?_
  refine Wn ?_
  refine tN ?_
  refine W_if rfl (fun h17 => ?_) (fun h17 => ?_)
  · first | replace h17 := of_decide_eq_true h17 | replace h17 := of_decide_eq_false (notT h17) | replace h17 := notT h17 | skip
    obtain rfl : se = 15 := h17
    rw [if_pos rfl]
    refine W_rs ?_
    refine sm rfl rfl ?_
    refine sc _ Tryz.func41 rfl (by kernel_rfl) rfl rfl ((dnext (Create_any gd D _ jName _ h hg.ok) hS1 hcw).mono ?_)
    clear h
    rintro e_ w2 ⟨rfl, S1, h, hS1, hcw, hz1_⟩
    refine cR ?_
    obtain ⟨e1, D1, hp1⟩ : ∃ e D', createM D jName = (e, D') := ⟨_, _, rfl⟩
    rw [hp1] at h h1 ⊢
    simp only at h h1 ⊢
    refine sa rfl rfl ?_
    refine Wn ?_
    refine tN ?_
    refine W_rs ?_
    refine sm rfl rfl ?_
    refine st (X.neq rfl rfl) rfl ?_
    refine Wn ?_
    refine tN ?_
    refine W_if rfl (fun h21 => ?_) (fun h21 => ?_)
    · first | replace h21 := of_decide_eq_true h21 | replace h21 := of_decide_eq_false (notT h21) | replace h21 := notT h21 | skip
      refine W_rs ?_
      refine sm rfl rfl ?_
      refine sa rfl rfl ?_
      refine sa rfl rfl ?_
      refine Wn ?_
      refine tN ?_
      refine W_ret (tR ?_)
      rw [if_pos h21]
      exact (rTT rfl rfl rfl ⟨S1, Own.of hd hB h hS1 (by omega), fun k hk => (hS1 k hk).imp (fun e => e) (fun e => e.1), hcw, rfl⟩).1
    · first | replace h21 := of_decide_eq_false h21 | replace h21 := of_decide_eq_true (notF h21) | replace h21 := notF h21 | skip
      rw [if_neg h21]
      refine W_skip ?_
      refine tN ?_
      refine W_rs ?_
      refine sm rfl rfl ?_
      refine sm rfl rfl ?_
      obtain ⟨s, e2, hr⟩ : ∃ a b, readM D1 jName 0 sz = (a, b) := ⟨_, _, rfl⟩
      rw [hr]
      simp only
      have hsl := readM_len h1.ok hr
      have hgd := (scanM_ok s).good
      refine sc _ Tryz.func45 rfl (by kernel_rfl) rfl rfl ((Read_is h h1.ok hr).mono ?_)
      rintro e_ w3 ⟨rfl, hb⟩
      refine cR ?_
      replace hcw := hcw.then_below hb
      replace h := h.bel hb
      have hz_w3 := hb.size
      clear hb
      refine sm rfl rfl ?_
      refine st (X.ext rfl rfl) rfl ?_
      refine st (X.ext rfl rfl) rfl ?_
      refine sa rfl rfl ?_
      refine sa rfl rfl ?_
      refine Wn ?_
      refine tN ?_
      refine W_seq ?_
      refine W_rs ?_
      refine sm rfl rfl ?_
      refine st (X.neq rfl rfl) rfl ?_
      refine Wn ?_
      refine tN ?_
      refine W_if rfl (fun h30 => ?_) (fun h30 => ?_)
      · first | replace h30 := of_decide_eq_true h30 | replace h30 := of_decide_eq_false (notT h30) | replace h30 := notT h30 | skip
        refine W_rs ?_
        refine sm rfl rfl ?_
        refine sa rfl rfl ?_
        refine sa rfl rfl ?_
        refine Wn ?_
        refine tN ?_
        refine W_ret (tR ?_)
        rw [if_pos h30]
        exact (rTT rfl rfl rfl ⟨S1, Own.of hd hB h (fun k hk => (hS1 k hk).imp (fun e => e) (fun e => ⟨e.1, by omega⟩)) (by omega), fun k hk => (hS1 k hk).imp (fun e => e) (fun e => e.1), hcw, rfl⟩).1
      · first | replace h30 := of_decide_eq_false h30 | replace h30 := of_decide_eq_true (notF h30) | replace h30 := notF h30 | skip
        rw [if_neg h30]
        refine W_skip ?_
        refine tN ?_
        refine W_rs ?_
        refine sm rfl rfl ?_
        refine sm rfl rfl ?_
        refine sc _ Tryz.func65 rfl (by kernel_rfl) rfl rfl ((Scan_any s _ (by omega)).mono ?_)
        rintro e_ w4 ⟨⟨v, rfl, hR, hO⟩, hb⟩
        refine cR ?_
        replace hcw := hcw.then_below hb
        replace h := h.bel hb
        have hz_w4 := hb.size
        clear hb
        obtain ⟨q, c, rfl, _, _⟩ := hR.shape
        refine st (X.bld rfl (bjrn gd _ q _ c _ _ _)) rfl ?_
        refine sboxA rfl rfl (fun g36 w5 hB36 hg36 hb hl36 => ?_)
        replace hcw := hcw.then_below hb
        replace h := h.bel hb
        replace hR := hR.bel hb
        have hz_w5 := hb.size
        clear hb
        have hF : JF B w5 gd g36 D1 _ S1 := ⟨Own.of hd hB h (fun k hk => (hS1 k hk).imp (fun e => e) (fun e => ⟨e.1, by omega⟩)) (by omega), fun hs => by rcases hS1 _ hs with e | e; have := hd.lo _ e; omega; omega, fun k hk => ⟨fun hs => by have := hO k hk; rcases hS1 _ hs with e | e; have := hd.lo _ e; omega; omega, by have := hO k hk; omega⟩, by omega⟩
        have hS1' : ∀ k, S1 k → S k ∨ w.heap.size ≤ k := fun k hk => (hS1 k hk).imp (fun e => e) (fun e => e.1)
        refine sa rfl rfl ?_
        refine Wn ?_
        refine tN ?_
        refine W_seq ?_
        refine W_rs ?_
        refine sm rfl rfl ?_
        refine st (X.nilChk rfl) rfl ?_
        refine st (X.fa fa106_1 rfl) rfl ?_
        refine st (X.fa fa103_3 rfl) rfl ?_
        refine st (X.ldL rfl hB36 Tryz.underlying3 rfl rfl) rfl ?_
        refine sm rfl rfl ?_
        refine st (X.lenS rfl rfl Tryz.underlying9) rfl ?_
        refine st (X.lss rfl rfl) rfl ?_
        refine Wn ?_
        refine tN ?_
        refine W_if rfl (fun h44 => ?_) (fun h44 => ?_)
        · first | replace h44 := of_decide_eq_true h44 | replace h44 := of_decide_eq_false (notT h44) | replace h44 := notT h44 | skip
          have hlg : (scanM s).good < s.length := by omega
          rw [if_pos hlg]
          refine W_rs ?_
          refine sm rfl rfl ?_
          refine sm rfl rfl ?_
          refine sm rfl rfl ?_
          refine st (X.nilChk rfl) rfl ?_
          refine st (X.fa fa106_1 rfl) rfl ?_
          refine st (X.fa fa103_3 rfl) rfl ?_
          refine st (X.ldL rfl hB36 Tryz.underlying3 rfl rfl) rfl ?_
          refine st (X.toS rfl rfl Tryz.underlying9 rfl (by omega)) rfl ?_
          refine sc _ Tryz.func66 rfl (by kernel_rfl) rfl rfl ((jdisk (replace_any gd D1 _ (s.take (scanM s).good) (n + 1) _ hF.own.at_ h1 (by omega) (by rw [List.length_take]; omega)) hB36 hR hF hcw (fun k hk => hk) hS1').mono ?_)
          clear hB36 hR hF
          rintro e_ w6 ⟨rfl, S2, hB36, hR, hF, hS2, hcw, hz2_⟩
          refine cR ?_
          obtain ⟨e3, D3, hp3⟩ : ∃ e D', replaceJ D1 (s.take (scanM s).good) = (e, D') := ⟨_, _, rfl⟩
          rw [hp3] at hF ⊢
          simp only at hF ⊢
          refine sa rfl rfl ?_
          refine Wn ?_
          refine tN ?_
          refine W_rs ?_
          refine sm rfl rfl ?_
          refine st (X.neq rfl rfl) rfl ?_
          refine Wn ?_
          refine tN ?_
          refine W_if rfl (fun h55 => ?_) (fun h55 => ?_)
          · first | replace h55 := of_decide_eq_true h55 | replace h55 := of_decide_eq_false (notT h55) | replace h55 := notT h55 | skip
            rw [if_pos h55]
            refine W_rs ?_
            refine sm rfl rfl ?_
            refine sa rfl rfl ?_
            refine sa rfl rfl ?_
            refine Wn ?_
            refine tN ?_
            refine W_ret (tR ?_)
            exact (rTT rfl rfl rfl ⟨S2, hF.own, hS2, hcw, rfl⟩).1
          · first | replace h55 := of_decide_eq_false h55 | replace h55 := of_decide_eq_true (notF h55) | replace h55 := notF h55 | skip
            rw [if_neg h55]
            refine W_skip ?_
            refine tN ?_
            refine W_rs ?_
            refine sm rfl rfl ?_
            refine sa rfl rfl ?_
            refine sa rfl rfl ?_
            refine Wn ?_
            refine tN ?_
            refine W_ret ?_
            exact (rTT rfl rfl rfl ⟨S2, hF.own, hS2, hcw, g36, _, rfl, ⟨hB36, hR, hF⟩, by omega, fun k hk => by have := hO k hk; omega⟩).1
        · first | replace h44 := of_decide_eq_false h44 | replace h44 := of_decide_eq_true (notF h44) | replace h44 := notF h44 | skip
          rw [if_neg (by omega)]
          refine W_skip ?_
          refine tN ?_
          refine W_rs ?_
          refine sm rfl rfl ?_
          refine sa rfl rfl ?_
          refine sa rfl rfl ?_
          refine Wn ?_
          refine tN ?_
          refine W_ret ?_
          exact (rTT rfl rfl rfl ⟨S1, hF.own, hS1', hcw, g36, _, rfl, ⟨hB36, hR, hF⟩, by omega, fun k hk => by have := hO k hk; omega⟩).1
  · first | replace h17 := of_decide_eq_false h17 | replace h17 := of_decide_eq_true (notF h17) | replace h17 := notF h17 | skip
    rw [if_neg h17]
    obtain ⟨D1, h, h1, hD1⟩ : ∃ D1, DiskAt w1 gd D1 S ∧ Good (n + 1) D1 ∧ D1 = D := ⟨D, h, hg.mono (by omega), rfl⟩
    rw [← hD1]
    simp only [ne_eq, not_true_eq_false, if_false]
    obtain ⟨S1, h, hS1⟩ : ∃ S1, DiskAt w1 gd D1 S1 ∧ ∀ k, S1 k → Ext S w w1 k := ⟨S, h, hS1⟩
    refine W_skip ?_
    refine tN ?_
    refine W_rs ?_
    refine sm rfl rfl ?_
    refine sm rfl rfl ?_
    obtain ⟨s, e2, hr⟩ : ∃ a b, readM D1 jName 0 sz = (a, b) := ⟨_, _, rfl⟩
    rw [hr]
    simp only
    have hsl := readM_len h1.ok hr
    have hgd := (scanM_ok s).good
    refine sc _ Tryz.func45 rfl (by kernel_rfl) rfl rfl ((Read_is h h1.ok hr).mono ?_)
    rintro e_ w7 ⟨rfl, hb⟩
    refine cR ?_
    replace hcw := hcw.then_below hb
    replace h := h.bel hb
    have hz_w7 := hb.size
    clear hb
    refine sm rfl rfl ?_
    refine st (X.ext rfl rfl) rfl ?_
    refine st (X.ext rfl rfl) rfl ?_
    refine sa rfl rfl ?_
    refine sa rfl rfl ?_
    refine Wn ?_
    refine tN ?_
    refine W_seq ?_
    refine W_rs ?_
    refine sm rfl rfl ?_
    refine st (X.neq rfl rfl) rfl ?_
    refine Wn ?_
    refine tN ?_
    refine W_if rfl (fun h30 => ?_) (fun h30 => ?_)
    · first | replace h30 := of_decide_eq_true h30 | replace h30 := of_decide_eq_false (notT h30) | replace h30 := notT h30 | skip
      refine W_rs ?_
      refine sm rfl rfl ?_
      refine sa rfl rfl ?_
      refine sa rfl rfl ?_
      refine Wn ?_
      refine tN ?_
      refine W_ret (tR ?_)
      rw [if_pos h30]
      exact (rTT rfl rfl rfl ⟨S1, Own.of hd hB h (fun k hk => (hS1 k hk).imp (fun e => e) (fun e => ⟨e.1, by omega⟩)) (by omega), fun k hk => (hS1 k hk).imp (fun e => e) (fun e => e.1), hcw, rfl⟩).1
    · first | replace h30 := of_decide_eq_false h30 | replace h30 := of_decide_eq_true (notF h30) | replace h30 := notF h30 | skip
      rw [if_neg h30]
      refine W_skip ?_
      refine tN ?_
      refine W_rs ?_
      refine sm rfl rfl ?_
      refine sm rfl rfl ?_
      refine sc _ Tryz.func65 rfl (by kernel_rfl) rfl rfl ((Scan_any s _ (by omega)).mono ?_)
      rintro e_ w8 ⟨⟨v, rfl, hR, hO⟩, hb⟩
      refine cR ?_
      replace hcw := hcw.then_below hb
      replace h := h.bel hb
      have hz_w8 := hb.size
      clear hb
      obtain ⟨q, c, rfl, _, _⟩ := hR.shape
      refine st (X.bld rfl (bjrn gd _ q _ c _ _ _)) rfl ?_
      refine sboxA rfl rfl (fun g36 w9 hB36 hg36 hb hl36 => ?_)
      replace hcw := hcw.then_below hb
      replace h := h.bel hb
      replace hR := hR.bel hb
      have hz_w9 := hb.size
      clear hb
      have hF : JF B w9 gd g36 D1 _ S1 := ⟨Own.of hd hB h (fun k hk => (hS1 k hk).imp (fun e => e) (fun e => ⟨e.1, by omega⟩)) (by omega), fun hs => by rcases hS1 _ hs with e | e; have := hd.lo _ e; omega; omega, fun k hk => ⟨fun hs => by have := hO k hk; rcases hS1 _ hs with e | e; have := hd.lo _ e; omega; omega, by have := hO k hk; omega⟩, by omega⟩
      have hS1' : ∀ k, S1 k → S k ∨ w.heap.size ≤ k := fun k hk => (hS1 k hk).imp (fun e => e) (fun e => e.1)
      refine sa rfl rfl ?_
      refine Wn ?_
      refine tN ?_
      refine W_seq ?_
      refine W_rs ?_
      refine sm rfl rfl ?_
      refine st (X.nilChk rfl) rfl ?_
      refine st (X.fa fa106_1 rfl) rfl ?_
      refine st (X.fa fa103_3 rfl) rfl ?_
      refine st (X.ldL rfl hB36 Tryz.underlying3 rfl rfl) rfl ?_
      refine sm rfl rfl ?_
      refine st (X.lenS rfl rfl Tryz.underlying9) rfl ?_
      refine st (X.lss rfl rfl) rfl ?_
      refine Wn ?_
      refine tN ?_
      refine W_if rfl (fun h44 => ?_) (fun h44 => ?_)
      · first | replace h44 := of_decide_eq_true h44 | replace h44 := of_decide_eq_false (notT h44) | replace h44 := notT h44 | skip
        have hlg : (scanM s).good < s.length := by omega
        rw [if_pos hlg]
        refine W_rs ?_
        refine sm rfl rfl ?_
        refine sm rfl rfl ?_
        refine sm rfl rfl ?_
        refine st (X.nilChk rfl) rfl ?_
        refine st (X.fa fa106_1 rfl) rfl ?_
        refine st (X.fa fa103_3 rfl) rfl ?_
        refine st (X.ldL rfl hB36 Tryz.underlying3 rfl rfl) rfl ?_
        refine st (X.toS rfl rfl Tryz.underlying9 rfl (by omega)) rfl ?_
        refine sc _ Tryz.func66 rfl (by kernel_rfl) rfl rfl ((jdisk (replace_any gd D1 _ (s.take (scanM s).good) (n + 1) _ hF.own.at_ h1 (by omega) (by rw [List.length_take]; omega)) hB36 hR hF hcw (fun k hk => hk) hS1').mono ?_)
        clear hB36 hR hF
        rintro e_ w10 ⟨rfl, S2, hB36, hR, hF, hS2, hcw, hz2_⟩
        refine cR ?_
        obtain ⟨e3, D3, hp3⟩ : ∃ e D', replaceJ D1 (s.take (scanM s).good) = (e, D') := ⟨_, _, rfl⟩
        rw [hp3] at hF ⊢
        simp only at hF ⊢
        refine sa rfl rfl ?_
        refine Wn ?_
        refine tN ?_
        refine W_rs ?_
        refine sm rfl rfl ?_
        refine st (X.neq rfl rfl) rfl ?_
        refine Wn ?_
        refine tN ?_
        refine W_if rfl (fun h55 => ?_) (fun h55 => ?_)
        · first | replace h55 := of_decide_eq_true h55 | replace h55 := of_decide_eq_false (notT h55) | replace h55 := notT h55 | skip
          rw [if_pos h55]
          refine W_rs ?_
          refine sm rfl rfl ?_
          refine sa rfl rfl ?_
          refine sa rfl rfl ?_
          refine Wn ?_
          refine tN ?_
          refine W_ret (tR ?_)
          exact (rTT rfl rfl rfl ⟨S2, hF.own, hS2, hcw, rfl⟩).1
        · first | replace h55 := of_decide_eq_false h55 | replace h55 := of_decide_eq_true (notF h55) | replace h55 := notF h55 | skip
          rw [if_neg h55]
          refine W_skip ?_
          refine tN ?_
          refine W_rs ?_
          refine sm rfl rfl ?_
          refine sa rfl rfl ?_
          refine sa rfl rfl ?_
          refine Wn ?_
          refine tN ?_
          refine W_ret ?_
          exact (rTT rfl rfl rfl ⟨S2, hF.own, hS2, hcw, g36, _, rfl, ⟨hB36, hR, hF⟩, by omega, fun k hk => by have := hO k hk; omega⟩).1
      · first | replace h44 := of_decide_eq_false h44 | replace h44 := of_decide_eq_true (notF h44) | replace h44 := notF h44 | skip
        rw [if_neg (by omega)]
        refine W_skip ?_
        refine tN ?_
        refine W_rs ?_
        refine sm rfl rfl ?_
        refine sa rfl rfl ?_
        refine sa rfl rfl ?_
        refine Wn ?_
        refine tN ?_
        refine W_ret ?_
        exact (rTT rfl rfl rfl ⟨S1, hF.own, hS1', hcw, g36, _, rfl, ⟨hB36, hR, hF⟩, by omega, fun k hk => by have := hO k hk; omega⟩).1
end Go.Proofs.YtnijmegalgoipaaGreatDoor
