/- disk: ready, find, named. Slices of slices, min and max, copy of a string into a slice that is longer. disk: over, Clone, lasts. disk: put. disk: New, Stop, Create, Append, Write, Size, Read, Sync. -/
import Derived.Test.YtnijmegalgoipaaGreatDoorDiskMem
import Derived.Test.YtnijmegalgoipaaGreatDoorStillW
import Derived.Ground.NamesProg
import Derived.Shelf.Lay
import Derived.Shelf.Strings.SlTrimAscii
import Derived.Test.YtnijmegalgoipaaGreatDoorOps4
import Derived.Lib.SliceRun
namespace Go.Proofs.YtnijmegalgoipaaGreatDoor
open Go.RowKit Go.Shelf
shelf_lay Lays.n160 Nm 160 at Tryz as Tryz.lays160
theorem guard_ptr {P : Program} {w : World} {t : TypeId} {o : BinOp} {p q : Option Addr} (c d : Operand) : (eqGuard o t c d (.pointer p) (.pointer q)).run P w = .ok () w := by
  unfold eqGuard
  cases o <;> simp
theorem nilEqP (w : World) (a : Addr) : (binOp .eql 23 (.pointer (some a)) (.pointer none)).run Tryz.prog w = .ok (.bool false) w := by kernel_rfl
theorem nilEqN (w : World) : (binOp .eql 23 (.pointer none) (.pointer none)).run Tryz.prog w = .ok (.bool true) w := by kernel_rfl
theorem nilNeP (w : World) (a : Addr) : (binOp .neq 23 (.pointer (some a)) (.pointer none)).run Tryz.prog w = .ok (.bool true) w := by kernel_rfl
theorem nilNeN (w : World) : (binOp .neq 23 (.pointer none) (.pointer none)).run Tryz.prog w = .ok (.bool false) w := by kernel_rfl
theorem nilEqPf (w : World) (a : Addr) : (binOp .eql 93 (.pointer (some a)) (.pointer none)).run Tryz.prog w = .ok (.bool false) w := by kernel_rfl
theorem nilEqNf (w : World) : (binOp .eql 93 (.pointer none) (.pointer none)).run Tryz.prog w = .ok (.bool true) w := by kernel_rfl
theorem nilNePf (w : World) (a : Addr) : (binOp .neq 93 (.pointer (some a)) (.pointer none)).run Tryz.prog w = .ok (.bool true) w := by kernel_rfl
theorem nilNeNf (w : World) : (binOp .neq 93 (.pointer none) (.pointer none)).run Tryz.prog w = .ok (.bool false) w := by kernel_rfl
section
variable {l : Env} {x : Operand} {w : World} {t' ty : TypeId} {a : Addr} {p : Option Addr}
theorem X.dEq (hx : ev l x = some (.pointer p)) : X Tryz.prog l (.binOp .eql 23 x (.const (.pointer none)) t') ty w (.bool p.isNone) w :=
  X.bin hx rfl guard_ptr (by cases p with | none => exact nilEqN w | some a => exact nilEqP w a)
theorem X.dNe (hx : ev l x = some (.pointer p)) : X Tryz.prog l (.binOp .neq 23 x (.const (.pointer none)) t') ty w (.bool p.isSome) w :=
  X.bin hx rfl guard_ptr (by cases p with | none => exact nilNeN w | some a => exact nilNeP w a)
theorem X.fEq (hx : ev l x = some (.pointer p)) : X Tryz.prog l (.binOp .eql 93 x (.const (.pointer none)) t') ty w (.bool p.isNone) w :=
  X.bin hx rfl guard_ptr (by cases p with | none => exact nilEqNf w | some a => exact nilEqPf w a)
theorem X.fNe (hx : ev l x = some (.pointer p)) : X Tryz.prog l (.binOp .neq 93 x (.const (.pointer none)) t') ty w (.bool p.isSome) w :=
  X.bin hx rfl guard_ptr (by cases p with | none => exact nilNeNf w | some a => exact nilNePf w a)
end
/- ---------- names ---------- -/
def lettersB : List UInt8 := [97, 98, 99, 100, 101, 102, 103, 104, 105, 106, 107, 108, 109, 110, 111, 112, 113, 114, 115, 116, 117, 118, 119, 120, 121, 122, 48, 49, 50, 51, 52, 53, 54, 55, 56, 57, 46, 45, 95]
set_option maxRecDepth 20000 in
theorem letters_has (b : UInt8) : lettersB.contains b = letterB b := by
  have h : ∀ n, n < 256 → lettersB.contains (UInt8.ofNat n) = letterB (UInt8.ofNat n) := by decide
  have := h b.toNat b.toNat_lt
  rwa [UInt8.ofNat_toNat] at this
theorem dropWhile_nil {p : UInt8 → Bool} : ∀ {l : List UInt8}, l.dropWhile p = [] ↔ l.all p = true
  | [] => by simp
  | a :: l => by
    rw [List.dropWhile_cons, List.all_cons]
    by_cases h : p a = true
    · rw [if_pos h, dropWhile_nil, h, Bool.true_and]
    · rw [if_neg h]
      simp [h]
theorem all_dropWhile {p : UInt8 → Bool} : ∀ (l : List UInt8), (l.dropWhile p).all p = l.all p
  | [] => rfl
  | a :: l => by
    rw [List.dropWhile_cons]
    by_cases h : p a = true
    · rw [if_pos h, all_dropWhile, List.all_cons, h, Bool.true_and]
    · rw [if_neg h]
theorem all_reverse' {p : UInt8 → Bool} (l : List UInt8) : l.reverse.all p = l.all p := by
  rw [List.all_reverse]
theorem trim_nil (s : List UInt8) : (Lib.trimS s lettersB = []) ↔ s.all letterB = true := by
  unfold Lib.trimS Lib.trimLeftS Lib.trimRightS
  rw [dropWhile_nil, show (fun x => lettersB.contains x) = letterB from funext letters_has, all_reverse', all_dropWhile, all_reverse']
theorem str_nil_iff {a : List UInt8} : (decide (a = [])) = a.isEmpty := by cases a <;> rfl
set_option maxRecDepth 10000 in
theorem Trim_any (s : List UInt8) (w : World) (hs : s.length ≤ 9223372036854775807) :
    Calls Tryz.prog 116 #[str s, str lettersB] w fun e w' => e = .returned (str (Lib.trimS s lettersB)) ∧ Below w.heap.size w w' := by
  have := Any.strings_Trim_laid Tryz.lays160 (by kernel_rfl) ⟨s.toArray⟩ ⟨lettersB.toArray⟩ w (by show s.toArray.size ≤ _; simpa using hs) (by decide) (ascii_of_all (by decide))
  exact this
theorem nameOk_eq (s : List UInt8) : nameOk s = (decide (s ≠ []) && decide (s.length ≤ 64) && decide (Lib.trimS s lettersB = [])) := by
  unfold nameOk
  rw [show decide (Lib.trimS s lettersB = []) = s.all letterB from by rw [Bool.eq_iff_iff, decide_eq_true_eq]; exact trim_nil s]
  cases s <;> rfl
theorem named_any (s : List UInt8) (w : World) :
    Calls Tryz.prog 90 #[str s] w fun e w' => e = .returned (.bool (nameOk s)) ∧ Below w.heap.size w w' := by
  rw [nameOk_eq]
  refine W_enter (args := [str s]) 15 Tryz.func90 rfl rfl rfl ?_
  refine W_sub [(0, str s)] ?_ ⟨rfl, trivial⟩
  have hbw := Below.refl w.heap.size w
  refine W_rs ?_
  refine sa rfl rfl ?_
  refine Wn ?_
  refine tN ?_
  refine W_rs ?_
  refine sm rfl rfl ?_
  refine st (X.neS rfl rfl) rfl ?_
  refine sb rfl rfl (fun h5 => ?_) (fun h5 => ?_)
  · first | replace h5 := of_decide_eq_true h5 | replace h5 := of_decide_eq_false (notT h5) | replace h5 := notT h5 | skip
    refine gY (g := 5) rfl rfl rfl ?_
    refine sm rfl rfl ?_
    refine gY (g := 5) rfl rfl rfl ?_
    refine st (X.lenS rfl rfl Tryz.underlying9) rfl ?_
    refine gY (g := 5) rfl rfl rfl ?_
    refine st (X.leq rfl rfl) rfl ?_
    refine st (X.pickT rfl rfl) rfl ?_
    refine sb rfl rfl (fun h10 => ?_) (fun h10 => ?_)
    · first | replace h10 := of_decide_eq_true h10 | replace h10 := of_decide_eq_false (notT h10) | replace h10 := notT h10 | skip
      refine gY (g := 10) rfl rfl rfl ?_
      refine sm rfl rfl ?_
      refine gY (g := 10) rfl rfl rfl ?_
      refine sc _ Tryz.func116 rfl (by kernel_rfl) rfl rfl ((Trim_any s _ (by omega)).mono ?_)
      rintro e_ w1 ⟨rfl, hb⟩
      refine cR ?_
      replace hbw := bthen hbw hb
      have hz_w1 := hb.size
      clear hb
      refine gY (g := 10) rfl rfl rfl ?_
      refine st (X.eqS rfl rfl) rfl ?_
      refine st (X.pickT rfl rfl) rfl ?_
      refine sa rfl rfl ?_
      refine Wn ?_
      refine tN ?_
      refine W_ret ?_
      exact (rT rfl rfl ⟨by simp [*] <;> omega, hbw⟩).1
    · first | replace h10 := of_decide_eq_false h10 | replace h10 := of_decide_eq_true (notF h10) | replace h10 := notF h10 | skip
      refine gN (g := 10) rfl rfl rfl rfl ?_
      refine gN (g := 10) rfl rfl rfl rfl ?_
      refine gN (g := 10) rfl rfl rfl rfl ?_
      refine st (X.pickF rfl rfl) rfl ?_
      refine sa rfl rfl ?_
      refine Wn ?_
      refine tN ?_
      refine W_ret ?_
      exact (rT rfl rfl ⟨by simp [*] <;> omega, hbw⟩).1
  · first | replace h5 := of_decide_eq_false h5 | replace h5 := of_decide_eq_true (notF h5) | replace h5 := notF h5 | skip
    refine gN (g := 5) rfl rfl rfl rfl ?_
    refine gN (g := 5) rfl rfl rfl rfl ?_
    refine gN (g := 5) rfl rfl rfl rfl ?_
    refine st (X.pickF rfl rfl) rfl ?_
    refine sm rfl rfl ?_
    refine gN (g := 10) rfl rfl rfl rfl ?_
    refine gN (g := 10) rfl rfl rfl rfl ?_
    refine gN (g := 10) rfl rfl rfl rfl ?_
    refine st (X.pickF rfl rfl) rfl ?_
    refine sa rfl rfl ?_
    refine Wn ?_
    refine tN ?_
    refine W_ret ?_
    exact (rT rfl rfl ⟨by simp [*] <;> omega, hbw⟩).1
/- ---------- ready, find ---------- -/
theorem ready_live (g b : Nat) (D : DiskD) (rs : List (Key × FRec)) (S : Nat → Prop) (w : World) (h : DiskIn w g b D rs S) (hok : DOk D) (hl : ¬ (D.stops = true ∧ D.left = 0)) :
    Calls Tryz.prog 89 #[.pointer (some ⟨g, 0, none⟩)] w fun e w' => e = .returned (.int .i64 0) ∧ DiskIn w' g b (tickM D) rs S ∧ Chg (fun k => k = g) w w' := by
  have hB : Blk w g 80 #[.map (some b), .int .i64 D.limit, .int .i64 D.used, .int .i64 D.refused, .bool D.stops, .int .i64 D.left] := h.blk
  have hlt := hB.lt
  have hst := hok.stp
  unfold tickM
  refine W_enter (args := [.pointer (some ⟨g, 0, none⟩)]) 30 Tryz.func89 rfl rfl rfl ?_
  refine W_sub [(0, .pointer (some ⟨g, 0, none⟩))] ?_ ⟨rfl, trivial⟩
  have hcw := Chg.refl (fun k => k = g) w
  refine W_rs ?_
  refine sa rfl rfl ?_
  refine Wn ?_
  refine tN ?_
  refine W_seq ?_
  refine W_block ?_
  refine W_rs ?_
  refine sm rfl rfl ?_
  refine st (X.dEq rfl) rfl ?_
  refine sa rfl rfl ?_
  refine Wn ?_
  refine tN ?_
  refine W_no rfl (rfl) ?_
  refine W_rs ?_
  refine sm rfl rfl ?_
  refine st (X.nilChk rfl) rfl ?_
  refine st (X.fa fa80_4 rfl) rfl ?_
  refine st (X.ldL rfl hB Tryz.underlying4 rfl rfl) rfl ?_
  refine sb rfl rfl (fun h11 => ?_) (fun h11 => ?_)
  · first | replace h11 := of_decide_eq_true h11 | replace h11 := of_decide_eq_false (notT h11) | replace h11 := notT h11 | skip
    have hst1 := hst h11
    refine gY (g := 11) rfl rfl rfl ?_
    refine sm rfl rfl ?_
    refine gY (g := 11) rfl rfl rfl ?_
    refine st (X.nilChk rfl) rfl ?_
    refine gY (g := 11) rfl rfl rfl ?_
    refine st (X.fa fa80_5 rfl) rfl ?_
    refine gY (g := 11) rfl rfl rfl ?_
    refine st (X.ldL rfl hB Tryz.underlying3 rfl rfl) rfl ?_
    refine gY (g := 11) rfl rfl rfl ?_
    refine st (X.eql rfl rfl) rfl ?_
    refine st (X.pickT rfl rfl) rfl ?_
    refine sa rfl rfl ?_
    refine Wn ?_
    refine tN ?_
    refine W_if rfl (fun h6 => ?_) (fun h6 => ?_)
    · first | replace h6 := of_decide_eq_true h6 | replace h6 := of_decide_eq_false (notT h6) | replace h6 := notT h6 | skip
      exact absurd ⟨h11, h6⟩ hl
    · first | replace h6 := of_decide_eq_false h6 | replace h6 := of_decide_eq_true (notF h6) | replace h6 := notF h6 | skip
      refine W_rs ?_
      refine sm rfl rfl ?_
      refine st (X.nilChk rfl) rfl ?_
      refine st (X.fa fa80_4 rfl) rfl ?_
      refine st (X.ldL rfl hB Tryz.underlying4 rfl rfl) rfl ?_
      refine sa rfl rfl ?_
      refine Wn ?_
      refine tN ?_
      refine W_yes rfl (h11) ?_
      refine W_reg ?_
      refine sm rfl rfl ?_
      refine st (X.nilChk rfl) rfl ?_
      refine st (X.fa fa80_5 rfl) rfl ?_
      refine st (X.ldL rfl hB Tryz.underlying3 rfl rfl) rfl ?_
      refine st (X.sub64 rfl rfl (by omega)) rfl ?_
      refine st (X.nilChk rfl) rfl ?_
      refine st (X.fa fa80_5 rfl) rfl ?_
      refine ssB rfl rfl hB siz3 rfl (by first | decide | simp) (fun w1 hB_ hc_ => ?_)
      replace hB := hB_
      clear hB_
      replace hcw := hcw.next hc_ (fun i_ hi_ => by first | exact .inl hi_ | exact .inl (.inl hi_) | (right; subst hi_; omega) | (left; subst hi_; show _ ≤ _; omega) | (left; subst hi_; assumption))
      have hz_w1 := hc_.size
      clear hc_
      refine Wn ?_
      refine bN ?_
      refine tN ?_
      refine W_rs ?_
      refine sa rfl rfl ?_
      refine Wn ?_
      refine tN ?_
      refine W_ret ?_
      refine (rT rfl rfl ⟨rfl, ?_, hcw⟩).1
      rw [if_pos h11]
      exact h.self hcw hB rfl
  · first | replace h11 := of_decide_eq_false h11 | replace h11 := of_decide_eq_true (notF h11) | replace h11 := notF h11 | skip
    refine gN (g := 11) rfl rfl rfl rfl ?_
    refine gN (g := 11) rfl rfl rfl rfl ?_
    refine gN (g := 11) rfl rfl rfl rfl ?_
    refine gN (g := 11) rfl rfl rfl rfl ?_
    refine gN (g := 11) rfl rfl rfl rfl ?_
    refine st (X.pickF rfl rfl) rfl ?_
    refine sa rfl rfl ?_
    refine Wn ?_
    refine tN ?_
    refine W_no rfl (rfl) ?_
    refine W_rs ?_
    refine sm rfl rfl ?_
    refine st (X.nilChk rfl) rfl ?_
    refine st (X.fa fa80_4 rfl) rfl ?_
    refine st (X.ldL rfl hB Tryz.underlying4 rfl rfl) rfl ?_
    refine sa rfl rfl ?_
    refine Wn ?_
    refine tN ?_
    refine W_no rfl (h11) ?_
    refine W_skip ?_
    refine bN ?_
    refine tN ?_
    refine W_rs ?_
    refine sa rfl rfl ?_
    refine Wn ?_
    refine tN ?_
    refine W_ret ?_
    refine (rT rfl rfl ⟨rfl, ?_, hcw⟩).1
    rw [if_neg (by rw [h11]; decide)]
    exact h.self hcw hB rfl
theorem ready_dead (g b : Nat) (D : DiskD) (w : World) (hB : Blk w g 80 (diskCells b D)) (hl : D.stops = true ∧ D.left = 0) :
    Calls Tryz.prog 89 #[.pointer (some ⟨g, 0, none⟩)] w fun e w' => e = .returned (.int .i64 19) ∧ Below w.heap.size w w' := by
  have hB : Blk w g 80 #[.map (some b), .int .i64 D.limit, .int .i64 D.used, .int .i64 D.refused, .bool D.stops, .int .i64 D.left] := hB
  refine W_enter (args := [.pointer (some ⟨g, 0, none⟩)]) 30 Tryz.func89 rfl rfl rfl ?_
  refine W_sub [(0, .pointer (some ⟨g, 0, none⟩))] ?_ ⟨rfl, trivial⟩
  have hbw := Below.refl w.heap.size w
  refine W_rs ?_
  refine sa rfl rfl ?_
  refine Wn ?_
  refine tN ?_
  refine W_seq ?_
  refine W_block ?_
  refine W_rs ?_
  refine sm rfl rfl ?_
  refine st (X.dEq rfl) rfl ?_
  refine sa rfl rfl ?_
  refine Wn ?_
  refine tN ?_
  refine W_no rfl (rfl) ?_
  refine W_rs ?_
  refine sm rfl rfl ?_
  refine st (X.nilChk rfl) rfl ?_
  refine st (X.fa fa80_4 rfl) rfl ?_
  refine st (X.ldL rfl hB Tryz.underlying4 rfl rfl) rfl ?_
  refine sbY rfl (hl.1) rfl ?_
  refine gY (g := 11) rfl rfl rfl ?_
  refine sm rfl rfl ?_
  refine gY (g := 11) rfl rfl rfl ?_
  refine st (X.nilChk rfl) rfl ?_
  refine gY (g := 11) rfl rfl rfl ?_
  refine st (X.fa fa80_5 rfl) rfl ?_
  refine gY (g := 11) rfl rfl rfl ?_
  refine st (X.ldL rfl hB Tryz.underlying3 rfl rfl) rfl ?_
  refine gY (g := 11) rfl rfl rfl ?_
  refine st (X.eql rfl rfl) rfl ?_
  refine st (X.pickT rfl rfl) rfl ?_
  refine sa rfl rfl ?_
  refine Wn ?_
  refine tN ?_
  refine W_yes rfl (decide_eq_true hl.2) ?_
  refine W_rs ?_
  refine sa rfl rfl ?_
  refine Wn ?_
  refine tN ?_
  refine W_ret (bR (tR ?_))
  exact (rT rfl rfl ⟨rfl, hbw⟩).1
theorem ready_nil (w : World) : Calls Tryz.prog 89 #[.pointer none] w fun e w' => e = .returned (.int .i64 2) ∧ Below w.heap.size w w' := by
  refine W_enter (args := [.pointer none]) 30 Tryz.func89 rfl rfl rfl ?_
  refine W_sub [(0, .pointer none)] ?_ ⟨rfl, trivial⟩
  have hbw := Below.refl w.heap.size w
  refine W_rs ?_
  refine sa rfl rfl ?_
  refine Wn ?_
  refine tN ?_
  refine W_seq ?_
  refine W_block ?_
  refine W_rs ?_
  refine sm rfl rfl ?_
  refine st (X.dEq rfl) rfl ?_
  refine sa rfl rfl ?_
  refine Wn ?_
  refine tN ?_
  refine W_yes rfl (rfl) ?_
  refine W_rs ?_
  refine sa rfl rfl ?_
  refine Wn ?_
  refine tN ?_
  refine W_ret (bR (tR ?_))
  exact (rT rfl rfl ⟨rfl, hbw⟩).1
theorem zptr (w : World) : (zeroValue 93).run Tryz.prog w = .ok (.pointer none) w := by kernel_rfl
theorem find_some (g b : Nat) (D : DiskD) (rs : List (Key × FRec)) (S : Nat → Prop) (n : Key) (r : FRec) (w : World) (h : DiskIn w g b D rs S) (hr : mget rs n = some r) :
    Calls Tryz.prog 70 #[.pointer (some ⟨g, 0, none⟩), str n] w fun e w' => e = .returned (.tuple #[.pointer (some ⟨r.blk, 0, none⟩), .int .i64 0]) ∧ Below w.heap.size w w' := by
  have hB : Blk w g 80 #[.map (some b), .int .i64 D.limit, .int .i64 D.used, .int .i64 D.refused, .bool D.stops, .int .i64 D.left] := h.blk
  have hM := h.map
  have hv : ((mget (rs.map fun p => (p.1, p.2.blk)) n).map encPtr).getD (.pointer none) = encPtr r.blk := by rw [mget_map, hr]; rfl
  refine W_enter (args := [.pointer (some ⟨g, 0, none⟩), str n]) 18 Tryz.func70 rfl rfl rfl ?_
  refine W_sub [(0, .pointer (some ⟨g, 0, none⟩)), (1, str n)] ?_ ⟨rfl, rfl, trivial⟩
  have hbw := Below.refl w.heap.size w
  refine W_rs ?_
  refine sa rfl rfl ?_
  refine sa rfl rfl ?_
  refine Wn ?_
  refine tN ?_
  refine W_seq ?_
  refine W_rs ?_
  refine sm rfl rfl ?_
  refine st (X.dEq rfl) rfl ?_
  refine Wn ?_
  refine tN ?_
  refine W_no rfl (rfl) ?_
  refine W_skip ?_
  refine tN ?_
  refine W_rs ?_
  refine sm rfl rfl ?_
  refine st (X.nilChk rfl) rfl ?_
  refine st (X.fa fa80_0 rfl) rfl ?_
  refine st (X.ldL rfl hB Tryz.underlying78 rfl rfl) rfl ?_
  refine sm rfl rfl ?_
  refine st (v := encPtr r.blk) (by rw [← hv]; exact X.look (keyStr Tryz.underlying9) rfl n rfl Tryz.underlying78 (zptr _) (hM.bel hbw)) rfl ?_
  refine sa rfl rfl ?_
  refine Wn ?_
  refine tN ?_
  refine W_seq ?_
  refine W_rs ?_
  refine sm rfl rfl ?_
  refine st (X.fEq rfl) rfl ?_
  refine Wn ?_
  refine tN ?_
  refine W_no rfl (rfl) ?_
  refine W_skip ?_
  refine tN ?_
  refine W_rs ?_
  refine sm rfl rfl ?_
  refine sa rfl rfl ?_
  refine sa rfl rfl ?_
  refine Wn ?_
  refine tN ?_
  refine W_ret ?_
  exact (rTT rfl rfl rfl ⟨rfl, hbw⟩).1
theorem find_none (g b : Nat) (D : DiskD) (rs : List (Key × FRec)) (S : Nat → Prop) (n : Key) (w : World) (h : DiskIn w g b D rs S) (hr : mget rs n = none) :
    Calls Tryz.prog 70 #[.pointer (some ⟨g, 0, none⟩), str n] w fun e w' => e = .returned (.tuple #[.pointer none, .int .i64 15]) ∧ Below w.heap.size w w' := by
  have hB : Blk w g 80 #[.map (some b), .int .i64 D.limit, .int .i64 D.used, .int .i64 D.refused, .bool D.stops, .int .i64 D.left] := h.blk
  have hM := h.map
  have hv : ((mget (rs.map fun p => (p.1, p.2.blk)) n).map encPtr).getD (.pointer none) = .pointer none := by rw [mget_map, hr]; rfl
  refine W_enter (args := [.pointer (some ⟨g, 0, none⟩), str n]) 18 Tryz.func70 rfl rfl rfl ?_
  refine W_sub [(0, .pointer (some ⟨g, 0, none⟩)), (1, str n)] ?_ ⟨rfl, rfl, trivial⟩
  have hbw := Below.refl w.heap.size w
  refine W_rs ?_
  refine sa rfl rfl ?_
  refine sa rfl rfl ?_
  refine Wn ?_
  refine tN ?_
  refine W_seq ?_
  refine W_rs ?_
  refine sm rfl rfl ?_
  refine st (X.dEq rfl) rfl ?_
  refine Wn ?_
  refine tN ?_
  refine W_no rfl (rfl) ?_
  refine W_skip ?_
  refine tN ?_
  refine W_rs ?_
  refine sm rfl rfl ?_
  refine st (X.nilChk rfl) rfl ?_
  refine st (X.fa fa80_0 rfl) rfl ?_
  refine st (X.ldL rfl hB Tryz.underlying78 rfl rfl) rfl ?_
  refine sm rfl rfl ?_
  refine st (v := .pointer none) (by rw [← hv]; exact X.look (keyStr Tryz.underlying9) rfl n rfl Tryz.underlying78 (zptr _) (hM.bel hbw)) rfl ?_
  refine sa rfl rfl ?_
  refine Wn ?_
  refine tN ?_
  refine W_seq ?_
  refine W_rs ?_
  refine sm rfl rfl ?_
  refine st (X.fEq rfl) rfl ?_
  refine Wn ?_
  refine tN ?_
  refine W_yes rfl (rfl) ?_
  refine W_rs ?_
  refine sa rfl rfl ?_
  refine sa rfl rfl ?_
  refine Wn ?_
  refine tN ?_
  refine W_ret (tR ?_)
  exact (rTT rfl rfl rfl ⟨rfl, hbw⟩).1
theorem find_nil (n : Key) (w : World) : Calls Tryz.prog 70 #[.pointer none, str n] w fun e w' => e = .returned (.tuple #[.pointer none, .int .i64 2]) ∧ Below w.heap.size w w' := by
  refine W_enter (args := [.pointer none, str n]) 18 Tryz.func70 rfl rfl rfl ?_
  refine W_sub [(0, .pointer none), (1, str n)] ?_ ⟨rfl, rfl, trivial⟩
  have hbw := Below.refl w.heap.size w
  refine W_rs ?_
  refine sa rfl rfl ?_
  refine sa rfl rfl ?_
  refine Wn ?_
  refine tN ?_
  refine W_seq ?_
  refine W_rs ?_
  refine sm rfl rfl ?_
  refine st (X.dEq rfl) rfl ?_
  refine Wn ?_
  refine tN ?_
  refine W_yes rfl (rfl) ?_
  refine W_rs ?_
  refine sa rfl rfl ?_
  refine sa rfl rfl ?_
  refine Wn ?_
  refine tN ?_
  refine W_ret (tR ?_)
  exact (rTT rfl rfl rfl ⟨rfl, hbw⟩).1
end Go.Proofs.YtnijmegalgoipaaGreatDoor
namespace Go.Proofs.YtnijmegalgoipaaGreatDoor
open Go.RowKit
section
variable {P : Program} {l : Env} {w : World} {ty t e : TypeId} {x y z : Operand} {k k' : IntKind} {m m' : Int} {a : Option Addr} {n c size : Nat}
theorem elem_of (hu : P.underlying t = some (.slice e)) : P.elem t = e := by
  unfold Program.elem
  rw [hu]
theorem size_of (hi : (P.info? e).map (·.size) = some size) : (sizeOf e).run P w = .ok size w := by
  obtain ⟨q, hq, hs⟩ := Option.map_eq_some_iff.1 hi
  simp [sizeOf, typeInfo, hq, hs]
theorem X.fromL {i : Nat} (hx : ev l x = some (.slice a n c)) (hy : ev l y = some (.int k m)) (hu : P.underlying t = some (.slice e)) (hi : (P.info? e).map (·.size) = some size) (hm : m = (i : Int)) (hin : i ≤ n) : X P l (.slice t x (some y) none none) ty w (sliced a i n c size) w := fun ρ hρ => by
  subst hm
  have he := elem_of hu
  have := run_slice_l (P := P) w t a n c (by rw [he]; exact hu) k (i : Int) (by omega) (by omega)
  unfold execOp
  simp [hρ _ _ hx, hρ _ _ hy, Instr.sliceAt, run_underlying hu, this, he, size_of hi, Result.andThen]
theorem X.toL {j : Nat} (hx : ev l x = some (.slice a n c)) (hy : ev l y = some (.int k m)) (hu : P.underlying t = some (.slice e)) (hi : (P.info? e).map (·.size) = some size) (hm : m = (j : Int)) (hin : j ≤ c) : X P l (.slice t x none (some y) none) ty w (sliced a 0 j c size) w := fun ρ hρ => by
  subst hm
  have he := elem_of hu
  have := run_slice_h (P := P) w t a n c (by rw [he]; exact hu) k (j : Int) (by omega) (by omega)
  unfold execOp
  simp [hρ _ _ hx, hρ _ _ hy, Instr.sliceAt, run_underlying hu, this, he, size_of hi, Result.andThen]
theorem X.cutL {i j : Nat} (hx : ev l x = some (.slice a n c)) (hy : ev l y = some (.int k m)) (hz : ev l z = some (.int k' m')) (hu : P.underlying t = some (.slice e)) (hi : (P.info? e).map (·.size) = some size) (hm : m = (i : Int)) (hm' : m' = (j : Int)) (hij : i ≤ j) (hin : j ≤ c) : X P l (.slice t x (some y) (some z) none) ty w (sliced a i j c size) w := fun ρ hρ => by
  subst hm hm'
  have he := elem_of hu
  have := run_slice_lh (P := P) w t a n c (by rw [he]; exact hu) k k' (i : Int) (j : Int) (by omega) (by omega) (by omega)
  unfold execOp
  simp [hρ _ _ hx, hρ _ _ hy, hρ _ _ hz, Instr.sliceAt, run_underlying hu, this, he, size_of hi, Result.andThen]
/-- l[:n:n] -/
theorem X.fullL {j : Nat} (hx : ev l x = some (.slice a n c)) (hy : ev l y = some (.int k m)) (hz : ev l z = some (.int k' m')) (hu : P.underlying t = some (.slice e)) (hi : (P.info? e).map (·.size) = some size) (hm : m = (j : Int)) (hm' : m' = (j : Int)) (hin : j ≤ c) : X P l (.slice t x none (some y) (some z)) ty w (sliced a 0 j j size) w := fun ρ hρ => by
  subst hm hm'
  have he := elem_of hu
  have := run_slice_hm (P := P) w t a n c (by rw [he]; exact hu) k k' (j : Int) (j : Int) (by omega) (by omega) (by omega)
  unfold execOp
  simp [hρ _ _ hx, hρ _ _ hy, hρ _ _ hz, Instr.sliceAt, run_underlying hu, this, he, size_of hi, Result.andThen]
theorem X.min2 {p q r : Int} {ats : Array TypeId} (hx : ev l x = some (.int k p)) (hy : ev l y = some (.int k' q)) (hr : r = (if q < p then q else p)) : X P l (.call { callee := .builtin .min, args := #[x, y], argTypes := ats }) ty w (.int k r) w := fun ρ hρ => by
  subst hr
  unfold execOp
  simp only [resolve, invoke, builtin, Sem.run_bind, Sem.run_pure, Result.andThen_ok, List.map_toArray, List.map_cons, List.map_nil, hρ _ _ hx, hρ _ _ hy, run_min_int2]
theorem X.max2 {p q r : Int} {ats : Array TypeId} (hx : ev l x = some (.int k p)) (hy : ev l y = some (.int k' q)) (hr : r = (if q > p then q else p)) : X P l (.call { callee := .builtin .max, args := #[x, y], argTypes := ats }) ty w (.int k r) w := fun ρ hρ => by
  subst hr
  unfold execOp
  simp only [resolve, invoke, builtin, Sem.run_bind, Sem.run_pure, Result.andThen_ok, List.map_toArray, List.map_cons, List.map_nil, hρ _ _ hx, hρ _ _ hy, run_max_int2]
end
theorem sliced_zero (a : Option Addr) (n c s : Nat) : sliced a 0 n c s = .slice a n c := by
  unfold sliced
  cases a with
  | none => simp
  | some a => simp [Addr.add]
/-- l[:n:n] reads the same -/
theorem Row.full {w : World} {e : TypeId} {size n c : Nat} {a : Option Addr} {xs : List Value} (h : Row w e size (.slice a n c) n xs) : Row w e size (.slice a n n) n xs := by
  refine ⟨h.1, ?_⟩
  rcases h.2 with ⟨hv, h0⟩ | ⟨g, off, cap, cur, fz, hv, hg, h1, h2, h3, h4, h5⟩
  · injection hv with e1 e2 e3
    subst e1 e2
    exact .inl ⟨rfl, rfl⟩
  · injection hv with e1 _ e3
    subst e1 e3
    have : n * size ≤ c * size := Nat.mul_le_mul_right _ h1
    exact .inr ⟨g, off, n, cur, fz, rfl, hg, Nat.le_refl _, by omega, by omega, h4, h5⟩
/-- a store into a row of cells -/
theorem Row.store_ {w : World} {e : TypeId} {n cap g o : Nat} {xs : List Value} (h : Row w e 1 (.slice (some ⟨g, o, none⟩) n cap) n xs) (j : Nat) (hj : j < n) (u : Value) : Row (w.setCell ⟨g, o + j, none⟩ u) e 1 (.slice (some ⟨g, o, none⟩) n cap) n (xs.set j u) := by
  refine ⟨by rw [List.length_set]; exact h.1, ?_⟩
  rcases h.2 with ⟨h0, _⟩ | ⟨g', off, cap', cur, fz, hv, hg, h1, h2, h3, h4, h5⟩
  · cases h0
  · injection hv with ha _ hc
    subst hc
    injection ha with ha
    injection ha with hg' ho
    subst hg'
    subst ho
    refine .inr ⟨g, o, cap, cur.setIfInBounds (o + j) u, fz, rfl, by simp [World.setCell, Array.getElem?_modify, hg], h1, h2, by simpa using h3, ?_, fun j hj => h5 j (by simpa using hj)⟩
    rw [← h4]
    apply List.ext_getElem?
    intro i
    have hl := h.1
    rw [← h4] at hl
    rw [List.getElem?_take, List.getElem?_set]
    simp only [Nat.mul_one] at *
    by_cases hi : i < n
    · rw [if_pos hi, List.getElem?_drop, Array.getElem?_toList, Array.getElem?_setIfInBounds]
      by_cases hij : j = i
      · subst hij
        rw [if_pos rfl, if_pos (by omega), if_pos rfl, if_pos (by omega)]
      · rw [if_neg (by omega), if_neg hij, List.getElem?_take, if_pos hi, List.getElem?_drop, Array.getElem?_toList]
    · rw [if_neg hi, if_neg (by omega), List.getElem?_take, if_neg hi]
/-- cells are stored into a row -/
theorem Row.stores {e : TypeId} {n cap g o : Nat} : ∀ (vs : List Value) {w : World} {xs : List Value} (_ : Row w e 1 (.slice (some ⟨g, o, none⟩) n cap) n xs) (i : Nat) (_ : i + vs.length ≤ n), Row (w.setCells g (o + i) vs) e 1 (.slice (some ⟨g, o, none⟩) n cap) n (xs.take i ++ vs ++ xs.drop (i + vs.length))
  | [], w, xs, h, i, _ => by
    simp only [List.append_nil, List.length_nil, Nat.add_zero, List.take_append_drop]
    exact h
  | v :: vs, w, xs, h, i, hi => by
    have hl := h.1
    simp only [List.length_cons] at hi
    have h1 := h.store_ i (by omega) v
    have ih := Row.stores vs h1 (i + 1) (by omega)
    have e1 : (xs.set i v).take (i + 1) = xs.take i ++ [v] := by
      rw [List.set_eq_take_append_cons_drop, if_pos (by omega), List.take_append, List.length_take, Nat.min_eq_left (by omega), List.take_of_length_le (by rw [List.length_take]; omega), show i + 1 - i = 1 by omega]
      simp
    have e2 : (xs.set i v).drop (i + 1 + vs.length) = xs.drop (i + (vs.length + 1)) := by
      rw [List.set_eq_take_append_cons_drop, if_pos (by omega), List.drop_append, List.length_take, Nat.min_eq_left (by omega), List.drop_of_length_le (by rw [List.length_take]; omega), show i + 1 + vs.length - i = vs.length + 1 by omega, List.drop_succ_cons, List.drop_drop, List.nil_append]
      congr 1
      omega
    rw [e1, e2] at ih
    simp only [List.length_cons, List.append_assoc, List.singleton_append] at ih ⊢
    exact ih
section
variable {P : Program} {N : Nat} {ds : List Deferred} {Q : Post} {l : Env} {w : World} {ops : Array Oper} {rest : List Oper} {x y : Operand} {ty t : TypeId} {pos : String} {aft : Array Edge} {d n c : Nat}
/-- copy(b[i:], s) where it has room -/
theorem scpW {e tx : TypeId} {s : List UInt8} {i : Nat} {a : Option Addr} {xs : List Value} (hx : ev l x = some (sliced a i n c 1)) (hy : ev l y = some (str s)) (hu : P.underlying t = some (.slice e)) (hi : (P.info? e).map (·.size) = some 1) (hR : Row w e 1 (.slice a n c) n xs) (hl : i + s.length ≤ n) (hd : Nat.blt d N = true)
    (h : ∀ w', Row w' e 1 (.slice a n c) n (xs.take i ++ s.map bv ++ xs.drop (i + s.length)) → Chg (fun k => (Value.slice a n c).ownBlock = some k) w w' → WL P N ds ops Q rest ((d, .int .i64 s.length) :: l) w') :
    WL P N ds ops Q (⟨some d, .call { callee := .builtin .copy, args := #[x, y], argTypes := #[t, tx] }, ty, pos, aft, none⟩ :: rest) l w := by
  obtain ⟨q, hq, hq1⟩ := Option.map_eq_some_iff.1 hi
  have e1 : (Builtin.lenOf (str s)).run P w = .ok s.length w := by simp [Builtin.lenOf, str]; rfl
  have hfc : (Builtin.firstCells 1 s.length (str s)).run P w = .ok (s.map bv).toArray w := by
    simp [Builtin.firstCells, str]
    exact fun _ _ => rfl
  have hmin : Nat.min s.length (n - i) = s.length := Nat.min_eq_left (by omega)
  have key : ∀ w', (match (if c = i then a else a.map (·.add (i * 1))) with | some b => (storeCells b (s.map bv)).run P w | none => .ok () w) = .ok () w' → Row w' e 1 (.slice a n c) n (xs.take i ++ s.map bv ++ xs.drop (i + s.length)) → Chg (fun k => (Value.slice a n c).ownBlock = some k) w w' →
      WL P N ds ops Q (⟨some d, .call { callee := .builtin .copy, args := #[x, y], argTypes := #[t, tx] }, ty, pos, aft, none⟩ :: rest) l w := fun w' hst hR' hC => by
    have hr : (Builtin.copy_ #[t, tx] ty #[sliced a i n c 1, str s]).run P w = .ok (.int .i64 s.length) w' := by
      unfold Builtin.copy_ sliced
      simp only [List.getElem?_toArray, List.getElem?_cons_zero, List.getElem?_cons_succ, Sem.run_bind, run_underlying hu, Result.andThen_ok, e1, hmin, sizeOf, typeInfo]
      cases hb : (if c = i then a else a.map (·.add (i * 1))) with
      | none =>
        rw [hb] at hst
        injection hst with _ hst
        subst hst
        simp [hq, hq1, hfc, goInt]
      | some b =>
        rw [hb] at hst
        simp [hq, hq1, hfc, hst, goInt]
    refine st (fun ρ hρ => ?_) hd (h _ hR' hC)
    unfold execOp
    simp only [resolve, invoke, builtin, Sem.run_bind, Sem.run_pure, Result.andThen_ok, List.map_toArray, List.map_cons, List.map_nil, hρ _ _ hx, hρ _ _ hy, hr]
  rcases Nat.eq_zero_or_pos s.length with h0 | h0
  · obtain rfl : s = [] := List.eq_nil_of_length_eq_zero h0
    refine key w ?_ (by simpa using hR) (Chg.refl _ _)
    split <;> rfl
  · obtain ⟨g, off, cap, hv, hg, h1, h2, hc, hf⟩ := hR.form (by omega)
    injection hv with ea _ ec
    subst ea ec
    have hlen := hR.1
    have hst := run_storeCells_cells (P := P) g (off + i) (s.map bv) 0 w (fun j hj => by
      rw [List.length_map] at hj
      rw [show off + i + 0 + j = off + (i + j) by omega, hc (i + j) _ (List.getElem?_eq_getElem (by omega))]
      rfl) (fun j hj => by
      rw [List.length_map] at hj
      rw [show off + i + 0 + j = off + (i + j) by omega]
      exact hf (i + j) (by omega)) (bv_one s)
    rw [Nat.add_zero] at hst
    obtain ⟨k1, k2, k3, k4, k5⟩ := setCells_keep g (s.map bv) (off + i) w
    refine key (w.setCells g (off + i) (s.map bv)) ?_ ?_ ⟨k1, k2, k3, by omega, fun k _ hk => k5 k (by rintro rfl; exact hk (by simp [Value.ownBlock]))⟩
    · rw [if_neg (by omega)]
      simp only [Option.map_some, Addr.add_mid, Nat.mul_one]
      exact hst
    · have := hR.stores (s.map bv) i (by rw [List.length_map]; omega)
      rwa [List.length_map] at this
end
end Go.Proofs.YtnijmegalgoipaaGreatDoor
namespace Go.Proofs.YtnijmegalgoipaaGreatDoor
open Go.RowKit
theorem over_any (v : Value) (l : List UInt8) (at_ : Nat) (d : List UInt8) (w : World) (hR : Row w 5 1 v l.length (l.map bv)) (hat : at_ ≤ l.length) (hlen : at_ + d.length ≤ 70368744177664) (hll : l.length ≤ 70368744177664) :
    Calls Tryz.prog 102 #[v, .int .i64 at_, str d] w fun e w' => ∃ v', e = .returned v' ∧ Row w' 5 1 v' (overM l at_ d).length ((overM l at_ d).map bv) ∧ Chg (fun k => v.ownBlock = some k) w w' ∧ ∀ k, v'.ownBlock = some k → v.ownBlock = some k ∨ w.heap.size ≤ k := by
  obtain ⟨a0, c0, rfl, hc0, _⟩ := hR.shape
  refine W_enter (args := [.slice a0 l.length c0, .int .i64 at_, str d]) 23 Tryz.func102 rfl rfl rfl ?_
  refine W_sub [(0, .slice a0 l.length c0), (1, .int .i64 at_), (2, str d)] ?_ ⟨rfl, rfl, rfl, trivial⟩
  have hcw := Chg.refl (fun k => (Value.slice a0 l.length c0).ownBlock = some k) w
  refine W_rs ?_
  refine sa rfl rfl ?_
  refine Wn ?_
  refine tN ?_
  refine W_seq ?_
  refine W_block ?_
  refine W_lp (fun nw1_ lw1_ w1 => ∃ j : Nat, ∃ a : Option Addr, ∃ c : Nat, nw1_ = (at_ + d.length - l.length) - j ∧ lw1_ = ([(0, .slice a (l.length + j) c), (1, .int .i64 at_), (2, str d)] : Env) ∧ (j ≤ at_ + d.length - l.length) ∧ (Chg (fun k => (Value.slice a0 l.length c0).ownBlock = some k) w w1) ∧ (Row w1 5 1 (.slice a (l.length + j) c) (l.length + j) ((l ++ List.replicate j 0).map bv)) ∧ (∀ k, (Value.slice a (l.length + j) c).ownBlock = some k → (Value.slice a0 l.length c0).ownBlock = some k ∨ w.heap.size ≤ k)) _ ⟨_, ⟨0, a0, c0, rfl, rfl, by omega, hcw, by simpa using hR, fun k hk => .inl hk⟩, ⟨rfl, rfl, rfl, trivial⟩⟩ ?_
  clear hcw
  rintro nw1_ lw1_ w1 ⟨j, a, c, rfl, rfl, hj, hcw, hR, hO⟩
  refine W_seq ?_
  refine W_rs ?_
  refine sm rfl rfl ?_
  refine st (X.lenL rfl rfl Tryz.underlying94) rfl ?_
  refine sm rfl rfl ?_
  refine sm rfl rfl ?_
  refine st (X.lenS rfl rfl Tryz.underlying9) rfl ?_
  refine st (X.add64 rfl rfl (by omega)) rfl ?_
  refine st (X.lss rfl rfl) rfl ?_
  refine Wn ?_
  refine tN ?_
  refine W_if rfl (fun h13 => ?_) (fun h13 => ?_)
  · first | replace h13 := of_decide_eq_true h13 | replace h13 := of_decide_eq_false (notT h13) | replace h13 := notT h13 | skip
    refine W_skip ?_
    refine tN ?_
    refine W_block ?_
    refine W_reg ?_
    refine sm rfl rfl ?_
    refine sbs1 rfl Tryz.underlying94 inf5 rfl rfl (by decide) (by decide) rfl (fun g15 w2 hR15 hg15 hb => ?_)
    replace hcw := hcw.then_below hb
    replace hR := hR.bel hb
    have hz_w2 := hb.size
    clear hb
    have hl15 := hR15.blt (by decide)
    refine sapp rfl rfl Tryz.underlying94 inf5 rfl (by decide) hR (hR15.src Tryz.underlying94 (bv_one [0])) (by simp only [maxLen]; omega) (by omega) rfl (fun v' w3 hR2 hC2 hv => ?_)
    obtain ⟨a', c', rfl, _, _⟩ := hR2.shape
    have hzz := hcw.size
    replace hcw := hcw.next hC2 (fun i hi => hO i hi)
    replace hO : ∀ k, (Value.slice a' (l.length + (j + 1)) c').ownBlock = some k → (Value.slice a0 l.length c0).ownBlock = some k ∨ w.heap.size ≤ k := fun k hk => by
      rcases hv with hv | hv
      · exact hO k (hv.symm.trans hk)
      · rw [show (Value.slice a' (l.length + (j + 1)) c').ownBlock = _ from hv] at hk
        injection hk with hk
        omega
    replace hR : Row w3 5 1 (.slice a' (l.length + (j + 1)) c') (l.length + (j + 1)) ((l ++ List.replicate (j + 1) 0).map bv) := by
      rw [List.replicate_succ', ← List.append_assoc, List.map_append]
      exact hR2
    refine sa rfl rfl ?_
    refine Wn ?_
    refine bN ?_
    refine tN ⟨_, _, ?_, ⟨j + 1, a', c', rfl, rfl, by omega, hcw, hR, hO⟩, ⟨rfl, rfl, rfl, trivial⟩⟩
    omega
  · first | replace h13 := of_decide_eq_false h13 | replace h13 := of_decide_eq_true (notF h13) | replace h13 := notF h13 | skip
    have hj2 : j = at_ + d.length - l.length := by omega
    refine W_exit (tE (tE (bH ?_)))
    refine tN ?_
    refine W_rs ?_
    refine sm rfl rfl ?_
    refine sm rfl rfl ?_
    refine st (X.fromL (i := at_) rfl rfl Tryz.underlying94 siz5 rfl (by omega)) rfl ?_
    refine sm rfl rfl ?_
    refine scpW (i := at_) rfl rfl Tryz.underlying94 siz5 hR (by omega) rfl (fun w4 hR3 hC3 => ?_)
    replace hcw := hcw.next hC3 (fun i hi => hO i hi)
    refine Wn ?_
    refine tN ?_
    refine W_rs ?_
    refine sm rfl rfl ?_
    refine sa rfl rfl ?_
    refine Wn ?_
    refine tN ?_
    refine W_ret ?_
    refine (rT rfl rfl ⟨_, rfl, ?_, hcw, hO⟩).1
    have e1 : l.length + j = (overM l at_ d).length := by rw [overM_length hat]; omega
    have e2 : ((l ++ List.replicate j 0).map bv).take at_ ++ d.map bv ++ ((l ++ List.replicate j 0).map bv).drop (at_ + d.length) = (overM l at_ d).map bv := by
      unfold overM
      rw [List.map_append, List.map_append, List.take_append_of_le_length (by simpa using hat), ← List.map_take]
      by_cases hz : at_ + d.length ≤ l.length
      · obtain rfl : j = 0 := by omega
        simp
      · rw [List.drop_of_length_le (by simp; omega), List.drop_of_length_le (by omega)]
        simp
    rw [e2] at hR3
    rw [← e1]
    exact hR3
theorem Row.one1 {w : World} {e : TypeId} {size n : Nat} {v : Value} {xs : List Value} (h : Row w e size v n xs) : v.oneCell' = true := by
  obtain ⟨a, c, rfl, _⟩ := h.shape
  rfl
/- ---------- slices.Clone ---------- -/
theorem bslB (w : World) : (Instr.buildSlice 94 0 #[]).run Tryz.prog w = .ok (.slice (some ⟨w.heap.size, 0, none⟩) 0 0) (w.alloc (.cells #[] 5)) := by kernel_rfl
theorem bslW (w : World) : (Instr.buildSlice 96 0 #[]).run Tryz.prog w = .ok (.slice (some ⟨w.heap.size, 0, none⟩) 0 0) (w.alloc (.cells #[] 101)) := by kernel_rfl
theorem X.slNil {P : Program} {l : Env} {x : Operand} {w : World} {t t' ty e : TypeId} {a : Option Addr} {n c : Nat} (hu : P.underlying t = some (.slice e)) (hx : ev l x = some (.slice a n c)) : X P l (.binOp .eql t x (.const (.slice none 0 0)) t') ty w (.bool a.isNone) w :=
  X.bin hx rfl (fun _ _ => by unfold eqGuard; simp) (Lib.run_eql_slice_nil w _ _ a n c 0 0 hu)
theorem CloneB_any (v : Value) (l : List UInt8) (w : World) (hR : Row w 5 1 v l.length (l.map bv)) (hl : l.length ≤ 70368744177664) :
    Calls Tryz.prog 63 #[v] w fun e w' => ∃ v', e = .returned v' ∧ Row w' 5 1 v' l.length (l.map bv) ∧ (∀ k, v'.ownBlock = some k → w.heap.size ≤ k) ∧ Below w.heap.size w w' := by
  obtain ⟨a, c, rfl, _, _⟩ := hR.shape
  refine W_enter (args := [.slice a l.length c]) 8 Tryz.func63 rfl rfl rfl ?_
  refine W_sub [(0, .slice a l.length c)] ?_ ⟨rfl, trivial⟩
  have hbw := Below.refl w.heap.size w
  refine W_rs ?_
  refine sa rfl rfl ?_
  refine Wn ?_
  refine tN ?_
  refine W_seq ?_
  refine W_rs ?_
  refine sm rfl rfl ?_
  refine st (X.slNil Tryz.underlying94 rfl) rfl ?_
  refine Wn ?_
  refine tN ?_
  refine W_if rfl (fun h4 => ?_) (fun h4 => ?_)
  · first | replace h4 := of_decide_eq_true h4 | replace h4 := of_decide_eq_false (notT h4) | replace h4 := notT h4 | skip
    obtain rfl : a = none := Option.isNone_iff_eq_none.1 h4
    have h0 : l = [] := by
      rcases hR.2 with ⟨_, h0⟩ | ⟨g, off, cap, cur, fz, hv, _⟩
      · exact List.eq_nil_of_length_eq_zero h0
      · cases hv
    refine W_rs ?_
    refine sa rfl rfl ?_
    refine Wn ?_
    refine tN ?_
    refine W_ret (tR ?_)
    subst h0
    exact (rT rfl rfl ⟨_, rfl, Row.nil _ _ _, fun k hk => by simp [Value.ownBlock] at hk, hbw⟩).1
  · first | replace h4 := of_decide_eq_false h4 | replace h4 := of_decide_eq_true (notF h4) | replace h4 := notF h4 | skip
    refine W_skip ?_
    refine tN ?_
    refine W_rs ?_
    refine sbs (ps := []) (vs := []) (cs := #[]) 1 rfl (bslB _) (by simp [maxLen]) rfl rfl (fun g5 w1 hR5 hg5 hb => ?_)
    replace hbw := bthen hbw hb
    have hz5 := hb.size
    clear hb
    refine sm rfl rfl ?_
    refine sapp rfl rfl Tryz.underlying94 inf5 rfl (by decide) hR5 ((hR.bel hbw).src Tryz.underlying94 (bv_one l)) (by simp only [maxLen]; omega) (by omega) rfl (fun v' w2 hR2 hC2 hv => ?_)
    have hO : ∀ k, v'.ownBlock = some k → w.heap.size ≤ k := own_next hv (fun k hk => by simp [Value.ownBlock] at hk; omega) (by omega)
    replace hbw := bapp hbw hC2 (fun k hk => by simp [Value.ownBlock] at hk; omega)
    refine sa rfl rfl ?_
    refine Wn ?_
    refine tN ?_
    refine W_ret ?_
    refine (rT rfl rfl ⟨v', rfl, ?_, hO, hbw⟩).1
    rw [Nat.zero_add] at hR2
    exact hR2
theorem CloneW_any (v : Value) (l : List (Nat × List UInt8)) (w : World) (hR : Row w 101 2 v l.length (l.flatMap putCells)) (hl : l.length ≤ 1099511627776) :
    Calls Tryz.prog 64 #[v] w fun e w' => ∃ v', e = .returned v' ∧ Row w' 101 2 v' l.length (l.flatMap putCells) ∧ (∀ k, v'.ownBlock = some k → w.heap.size ≤ k) ∧ Below w.heap.size w w' := by
  obtain ⟨a, c, rfl, _, _⟩ := hR.shape
  refine W_enter (args := [.slice a l.length c]) 8 Tryz.func64 rfl rfl rfl ?_
  refine W_sub [(0, .slice a l.length c)] ?_ ⟨rfl, trivial⟩
  have hbw := Below.refl w.heap.size w
  refine W_rs ?_
  refine sa rfl rfl ?_
  refine Wn ?_
  refine tN ?_
  refine W_seq ?_
  refine W_rs ?_
  refine sm rfl rfl ?_
  refine st (X.slNil Tryz.underlying96 rfl) rfl ?_
  refine Wn ?_
  refine tN ?_
  refine W_if rfl (fun h4 => ?_) (fun h4 => ?_)
  · first | replace h4 := of_decide_eq_true h4 | replace h4 := of_decide_eq_false (notT h4) | replace h4 := notT h4 | skip
    obtain rfl : a = none := Option.isNone_iff_eq_none.1 h4
    have h0 : l = [] := by
      rcases hR.2 with ⟨_, h0⟩ | ⟨g, off, cap, cur, fz, hv, _⟩
      · exact List.eq_nil_of_length_eq_zero h0
      · cases hv
    refine W_rs ?_
    refine sa rfl rfl ?_
    refine Wn ?_
    refine tN ?_
    refine W_ret (tR ?_)
    subst h0
    exact (rT rfl rfl ⟨_, rfl, Row.nil _ _ _, fun k hk => by simp [Value.ownBlock] at hk, hbw⟩).1
  · first | replace h4 := of_decide_eq_false h4 | replace h4 := of_decide_eq_true (notF h4) | replace h4 := notF h4 | skip
    refine W_skip ?_
    refine tN ?_
    refine W_rs ?_
    refine sbs (ps := []) (vs := []) (cs := #[]) 2 rfl (bslW _) (by simp [maxLen]) rfl rfl (fun g5 w1 hR5 hg5 hb => ?_)
    replace hbw := bthen hbw hb
    have hz5 := hb.size
    clear hb
    refine sm rfl rfl ?_
    refine sapp rfl rfl Tryz.underlying96 inf101 rfl (by decide) hR5 ((hR.bel hbw).src Tryz.underlying96 (puts_one l)) (by simp only [maxLen]; omega) (by omega) rfl (fun v' w2 hR2 hC2 hv => ?_)
    have hO : ∀ k, v'.ownBlock = some k → w.heap.size ≤ k := own_next hv (fun k hk => by simp [Value.ownBlock] at hk; omega) (by omega)
    replace hbw := bapp hbw hC2 (fun k hk => by simp [Value.ownBlock] at hk; omega)
    refine sa rfl rfl ?_
    refine Wn ?_
    refine tN ?_
    refine W_ret ?_
    refine (rT rfl rfl ⟨v', rfl, ?_, hO, hbw⟩).1
    rw [Nat.zero_add] at hR2
    exact hR2
/- ---------- a file's ---------- -/
theorem lasts_any (g : Nat) (vl vn vp : Value) (l : List UInt8) (w : World) (hB : Blk w g 98 #[vl, vn, vp]) (hN : Row w 5 1 vn l.length (l.map bv)) (hl : l.length ≤ 70368744177664) :
    Calls Tryz.prog 92 #[.pointer (some ⟨g, 0, none⟩)] w fun e w' => e = .returned (.tuple #[]) ∧ ∃ vl', Blk w' g 98 #[vl', vn, .slice none 0 0] ∧ Row w' 5 1 vl' l.length (l.map bv) ∧ Row w' 5 1 vn l.length (l.map bv) ∧ (∀ k, vl'.ownBlock = some k → w.heap.size ≤ k) ∧ Chg (fun k => k = g) w w' := by
  have hlt := hB.lt
  refine W_enter (args := [.pointer (some ⟨g, 0, none⟩)]) 13 Tryz.func92 rfl rfl rfl ?_
  refine W_sub [(0, .pointer (some ⟨g, 0, none⟩))] ?_ ⟨rfl, trivial⟩
  have hcw := Chg.refl (fun k => k = g) w
  refine W_reg ?_
  refine sm rfl rfl ?_
  refine sm rfl rfl ?_
  refine sm rfl rfl ?_
  refine st (X.nilChk rfl) rfl ?_
  refine st (X.fa fa98_1 rfl) rfl ?_
  refine st (X.ldL rfl hB Tryz.underlying94 rfl rfl) rfl ?_
  refine sc _ Tryz.func63 rfl (by kernel_rfl) rfl rfl ((CloneB_any vn l _ hN hl).mono ?_)
  rintro e_ w1 ⟨v', rfl, hV, hO, hb⟩
  refine cR ?_
  replace hcw := hcw.then_below hb
  replace hN := hN.bel hb
  replace hB := hB.bel hb
  have hz_w1 := hb.size
  clear hb
  refine st (X.nilChk rfl) rfl ?_
  refine st (X.fa fa98_0 rfl) rfl ?_
  refine ssB rfl rfl hB siz94 hV.one1 (by simp) (fun w2 hB1 hC1 => ?_)
  replace hV := hV.chg hC1 (fun k hk e => hV.ne_ hB (by decide) (by rw [← e]; exact hk))
  replace hN := hN.chg hC1 (fun k hk e => hN.ne_ hB (by decide) (by rw [← e]; exact hk))
  replace hcw := hcw.next hC1 (fun i hi => .inl hi)
  refine st (X.nilChk rfl) rfl ?_
  refine st (X.fa fa98_2 rfl) rfl ?_
  refine ssB rfl rfl hB1 siz96 rfl (by simp) (fun w3 hB2 hC2 => ?_)
  replace hV := hV.chg hC2 (fun k hk e => hV.ne_ hB1 (by decide) (by rw [← e]; exact hk))
  replace hN := hN.chg hC2 (fun k hk e => hN.ne_ hB1 (by decide) (by rw [← e]; exact hk))
  replace hcw := hcw.next hC2 (fun i hi => .inl hi)
  refine Wn ?_
  exact (r0 rfl ⟨rfl, v', hB2, hV, hN, hO, hcw⟩).2
end Go.Proofs.YtnijmegalgoipaaGreatDoor
namespace Go.Proofs.YtnijmegalgoipaaGreatDoor
open Go.RowKit
theorem bwrite (i : Int) (s : List UInt8) (w : World) : (Instr.build 101 #[(0, .int .i64 i), (1, str s)]).run Tryz.prog w = .ok (.agg #[.int .i64 i, str s]) w := by kernel_rfl
theorem Row.ne2 {w : World} {e : TypeId} {size n : Nat} {v : Value} {xs : List Value} {g : Nat} {t : TypeId} {cs : Array Value} (h : Row w e size v n xs) (hB : Blk w g t cs) (hne : e ≠ t) : ∀ k, v.ownBlock = some k → ¬ k = g :=
  fun k hk e => h.ne_ hB hne (by rw [← e]; exact hk)
theorem own_slice (a : Option Addr) (n c n' c' : Nat) : (Value.slice a n c).ownBlock = (Value.slice a n' c').ownBlock := by cases a <;> rfl
set_option maxRecDepth 10000 in
set_option maxHeartbeats 1000000 in
theorem put_any (g b : Nat) (D : DiskD) (rs : List (Key × FRec)) (S : Nat → Prop) (n : Key) (r : FRec) (at_ : Nat) (d : List UInt8) (w : World) (h : DiskIn w g b D rs S) (hok : DOk D) (hr : mget rs n = some r) (hat : at_ ≤ r.f.now.length) (hd : d.length ≤ 1099511627776) (hp : r.f.pend.length ≤ 1099511627776) (href : D.refused ≤ 4611686018427387904) :
    Calls Tryz.prog 91 #[.pointer (some ⟨g, 0, none⟩), .pointer (some ⟨r.blk, 0, none⟩), .int .i64 at_, str d] w fun e w' => e = .returned (.int .i64 (putM D n r.f at_ d).1) ∧ DiskAt w' g (putM D n r.f at_ d).2 (Ext S w w') ∧ Chg S w w' := by
  have hB : Blk w g 80 #[.map (some b), .int .i64 D.limit, .int .i64 D.used, .int .i64 D.refused, .bool D.stops, .int .i64 D.left] := h.blk
  have hlt := hB.lt
  have hfile := h.at_ n r hr
  have hfn : mget D.files n = some r.f := by rw [h.files, hr]; rfl
  have hF := hfile.blk
  have hflt := hF.lt
  have hgf : r.blk ≠ g := fun e => (h.ne hr).1 (.inl e.symm)
  have hNo := hfile.now
  have hLa := hfile.last
  have hPe := hfile.pend
  obtain ⟨hn1, hn2, hn3⟩ := hok.len hfn
  have hlim := hok.lim
  have hroom := hok.room
  have hused := hok.used
  have href0 := hok.ref
  obtain ⟨an, cn, hvn, hcn, hcn2⟩ := hNo.shape
  obtain ⟨ap, cp, hvp, hcp, hcp2⟩ := hPe.shape
  have hS1 : ∀ k, (k = g ∨ r.owns k) → S k := fun k hk => hk.elim (fun e => e ▸ h.inS.1) (h.inR n r k hr)
  rw [hvn] at hNo hF
  rw [hvp] at hPe hF
  have hmz : (moreM r.f at_ d : Int) = if (0 : Int) > (at_ : Int) + d.length - r.f.now.length then 0 else (at_ : Int) + d.length - r.f.now.length := by unfold moreM; split <;> omega
  have hml : moreM r.f at_ d ≤ d.length := by unfold moreM; omega
  refine W_enter (args := [.pointer (some ⟨g, 0, none⟩), .pointer (some ⟨r.blk, 0, none⟩), .int .i64 at_, str d]) 80 Tryz.func91 rfl rfl rfl ?_
  refine W_sub [(0, .pointer (some ⟨g, 0, none⟩)), (1, .pointer (some ⟨r.blk, 0, none⟩)), (2, .int .i64 at_), (3, str d)] ?_ ⟨rfl, rfl, rfl, rfl, trivial⟩
  have hcw := Chg.refl (fun k => k = g ∨ r.owns k) w
  refine W_rs ?_
  refine sa rfl rfl ?_
  refine Wn ?_
  refine tN ?_
  refine W_seq ?_
  refine W_rs ?_
  refine sm rfl rfl ?_
  refine st (X.eqS rfl rfl) rfl ?_
  refine Wn ?_
  refine tN ?_
  refine W_if rfl (fun h12 => ?_) (fun h12 => ?_)
  · first | replace h12 := of_decide_eq_true h12 | replace h12 := of_decide_eq_false (notT h12) | replace h12 := notT h12 | skip
    refine W_rs ?_
    refine sa rfl rfl ?_
    refine Wn ?_
    refine tN ?_
    refine W_ret (tR ?_)
    subst h12
    refine (rT rfl rfl ⟨rfl, ⟨b, rs, ?_⟩, Chg.refl _ _⟩).1
    exact h.mono Ext.of
  · first | replace h12 := of_decide_eq_false h12 | replace h12 := of_decide_eq_true (notF h12) | replace h12 := notF h12 | skip
    refine W_skip ?_
    refine tN ?_
    refine W_rs ?_
    refine sm rfl rfl ?_
    refine sm rfl rfl ?_
    refine st (X.lenS rfl rfl Tryz.underlying9) rfl ?_
    refine st (X.add64 rfl rfl (by omega)) rfl ?_
    refine sm rfl rfl ?_
    refine st (X.nilChk rfl) rfl ?_
    refine st (X.fa fa98_1 rfl) rfl ?_
    refine st (X.ldL rfl hF Tryz.underlying94 rfl rfl) rfl ?_
    refine st (X.lenL rfl rfl Tryz.underlying94) rfl ?_
    refine st (X.sub64 rfl rfl (by omega)) rfl ?_
    refine st (X.max2 (r := (moreM r.f at_ d : Nat)) rfl rfl hmz) rfl ?_
    refine sa rfl rfl ?_
    refine Wn ?_
    refine tN ?_
    refine W_seq ?_
    refine W_still_s 10 (by kernel_rfl) (by kernel_rfl) ?_
    obtain ⟨w1, hw_⟩ : ∃ w1 : World, w1 = World.drew w := ⟨_, rfl⟩
    rw [← hw_]
    have hb : Below w.heap.size w w1 := by rw [hw_]; exact bdrew (Below.refl _ _)
    clear hw_
    replace hcw := hcw.then_below hb
    replace hB := hB.bel hb
    replace hF := hF.bel hb
    replace hNo := hNo.bel hb
    replace hLa := hLa.bel hb
    replace hPe := hPe.bel hb
    have hz_w1 := hb.size
    clear hb
    refine hY (X.move rfl) rfl ?_
    refine hY (X.nilChk rfl) rfl ?_
    refine hY (X.fa fa80_2 rfl) rfl ?_
    refine hY (X.ldL rfl hB Tryz.underlying3 rfl rfl) rfl ?_
    refine hY (X.move rfl) rfl ?_
    refine hY (X.add64 rfl rfl (by omega)) rfl ?_
    refine hY (X.move rfl) rfl ?_
    refine hY (X.nilChk rfl) rfl ?_
    refine hY (X.fa fa80_1 rfl) rfl ?_
    refine hY (X.ldL rfl hB Tryz.underlying3 rfl rfl) rfl ?_
    refine hN ?_
    refine st (X.gtr rfl rfl) rfl ?_
    refine Wn ?_
    refine tN ?_
    refine W_if rfl (fun h34 => ?_) (fun h34 => ?_)
    · first | replace h34 := of_decide_eq_true h34 | replace h34 := of_decide_eq_false (notT h34) | replace h34 := notT h34 | skip
      refine W_rs ?_
      refine sm rfl rfl ?_
      refine st (X.nilChk rfl) rfl ?_
      refine st (X.fa fa80_3 rfl) rfl ?_
      refine st (X.ldL rfl hB Tryz.underlying3 rfl rfl) rfl ?_
      refine st (X.add64 rfl rfl (by omega)) rfl ?_
      refine st (X.nilChk rfl) rfl ?_
      refine st (X.fa fa80_3 rfl) rfl ?_
      refine ssB rfl rfl hB siz3 rfl (by simp) (fun w2 hB2 hC2 => ?_)
      replace hLa := hLa.chg hC2 (hLa.ne2 hB (by decide))
      replace hPe := hPe.chg hC2 (hPe.ne2 hB (by decide))
      replace hNo := hNo.chg hC2 (hNo.ne2 hB (by decide))
      replace hF := hF.chg hC2 hgf
      replace hcw := hcw.next hC2 (fun i hi => .inl (.inl hi))
      refine Wn ?_
      refine tN ?_
      refine W_rs ?_
      refine sa rfl rfl ?_
      refine Wn ?_
      refine tN ?_
      refine W_ret (tR ?_)
      have e1 : putM D n r.f at_ d = (17, { D with refused := D.refused + 1 }) := by unfold putM; rw [if_neg h12, if_pos (by omega)]
      rw [e1]
      refine (rT rfl rfl ⟨rfl, ⟨b, _, h.file (r' := r) hr hcw hB2 ?_ ⟨by rw [hvn, hvp]; exact hF, hLa, by rw [hvn]; exact hNo, by rw [hvp]; exact hPe, hfile.apart⟩ rfl (fun k hk => .inl hk)⟩, hcw.mono (fun k _ hk => hS1 k hk)⟩).1
      intro m
      show mget D.files m = _
      split
      · rename_i hm
        rw [hm, hfn]
      · rfl
    · first | replace h34 := of_decide_eq_false h34 | replace h34 := of_decide_eq_true (notF h34) | replace h34 := notF h34 | skip
      refine W_skip ?_
      refine tN ?_
      refine W_rs ?_
      refine sm rfl rfl ?_
      refine sm rfl rfl ?_
      refine st (X.nilChk rfl) rfl ?_
      refine st (X.fa fa98_1 rfl) rfl ?_
      refine st (X.ldL rfl hF Tryz.underlying94 rfl rfl) rfl ?_
      refine sm rfl rfl ?_
      refine sm rfl rfl ?_
      refine sc _ Tryz.func102 rfl (by kernel_rfl) rfl rfl ((over_any _ r.f.now at_ d _ hNo hat (by omega) (by omega)).mono ?_)
      rintro e_ w3 ⟨v', rfl, hNw, hC1, hO1⟩
      refine cR ?_
      replace hB := hB.chg hC1 (fun e => hNo.ne2 hB (by decide) _ e rfl)
      replace hF := hF.chg hC1 (fun e => hNo.ne2 hF (by decide) _ e rfl)
      replace hLa := hLa.chg hC1 (fun k hk e => hfile.apart k hk (by rw [hvn]; exact e))
      replace hPe := hPe.chg hC1 (fun k hk => hPe.apart_ hNo (by decide) k hk)
      replace hcw := hcw.next hC1 (fun i hi => .inl (.inr (.inr (.inr (.inl (by rw [hvn]; exact hi))))))
      refine st (X.nilChk rfl) rfl ?_
      refine st (X.fa fa98_1 rfl) rfl ?_
      refine ssB rfl rfl hF siz94 hNw.one1 (by simp) (fun w4 hF2 hC2 => ?_)
      replace hB := hB.chg hC2 (fun e => hgf e.symm)
      replace hLa := hLa.chg hC2 (hLa.ne2 hF (by decide))
      replace hPe := hPe.chg hC2 (hPe.ne2 hF (by decide))
      replace hNw := hNw.chg hC2 (hNw.ne2 hF (by decide))
      replace hF : Blk w4 r.blk 98 #[r.vl, v', .slice ap r.f.pend.length cp] := hF2
      replace hcw := hcw.next hC2 (fun i hi => .inl (.inr (.inl hi)))
      clear hF2 hNo
      refine Wn ?_
      refine tN ?_
      refine W_rs ?_
      refine sm rfl rfl ?_
      refine st (X.nilChk rfl) rfl ?_
      refine st (X.fa fa98_2 rfl) rfl ?_
      refine st (X.ldL rfl hF Tryz.underlying96 rfl rfl) rfl ?_
      refine st (X.lenL rfl rfl Tryz.underlying96) rfl ?_
      refine sa rfl rfl ?_
      refine Wn ?_
      refine tN ?_
      refine W_rs ?_
      refine sm rfl rfl ?_
      refine sm rfl rfl ?_
      refine st (X.nilChk rfl) rfl ?_
      refine st (X.fa fa98_2 rfl) rfl ?_
      refine st (X.ldL rfl hF Tryz.underlying96 rfl rfl) rfl ?_
      refine sm rfl rfl ?_
      refine sm rfl rfl ?_
      refine st (X.fullL (j := r.f.pend.length) rfl rfl rfl Tryz.underlying96 siz101 rfl rfl hcp) rfl ?_
      rw [sliced_zero]
      refine sm rfl rfl ?_
      refine sm rfl rfl ?_
      refine st (X.bld rfl (bwrite _ _ _)) rfl ?_
      refine sbs1 rfl Tryz.underlying96 inf101 rfl rfl (by decide) (by decide) rfl (fun g68 w5 hR68 hg68 hb => ?_)
      replace hB := hB.bel hb
      replace hF := hF.bel hb
      replace hLa := hLa.bel hb
      replace hPe := hPe.bel hb
      replace hNw := hNw.bel hb
      replace hcw := hcw.then_below hb
      clear hb
      refine sapp rfl rfl Tryz.underlying96 inf101 rfl (by decide) hPe.full (hR68.src Tryz.underlying96 (putCells_one (at_, d))) (by simp only [maxLen]; omega) (by omega) rfl (fun vq w6 hPw hC4 hv4 => ?_)
      have hzc := hcw.size
      replace hB := hB.chg hC4 (fun e => hPe.full.ne2 hB (by decide) _ e rfl)
      replace hF := hF.chg hC4 (fun e => hPe.full.ne2 hF (by decide) _ e rfl)
      replace hLa := hLa.chg hC4 (fun k hk => hLa.apart_ hPe.full (by decide) k hk)
      replace hNw := hNw.chg hC4 (fun k hk => hNw.apart_ hPe.full (by decide) k hk)
      replace hcw := hcw.next hC4 (fun i hi => .inl (.inr (.inr (.inr (.inr (by rw [hvp]; exact (own_slice ..).trans hi))))))
      have hO4 : ∀ k, vq.ownBlock = some k → r.vp.ownBlock = some k ∨ w.heap.size ≤ k := fun k hk => by
        rcases hv4 with hv4 | hv4
        · left
          rw [hvp]
          exact (own_slice ..).trans (hv4.symm.trans hk)
        · rw [hv4] at hk
          injection hk with hk
          right
          omega
      refine st (X.nilChk rfl) rfl ?_
      refine st (X.fa fa98_2 rfl) rfl ?_
      refine ssB rfl rfl hF siz96 hPw.one1 (by simp) (fun w7 hF2 hC2 => ?_)
      replace hB := hB.chg hC2 (fun e => hgf e.symm)
      replace hLa := hLa.chg hC2 (hLa.ne2 hF (by decide))
      replace hPw := hPw.chg hC2 (hPw.ne2 hF (by decide))
      replace hNw := hNw.chg hC2 (hNw.ne2 hF (by decide))
      replace hF : Blk w7 r.blk 98 #[r.vl, v', vq] := hF2
      replace hcw := hcw.next hC2 (fun i hi => .inl (.inr (.inl hi)))
      clear hF2
      refine Wn ?_
      refine tN ?_
      refine W_rs ?_
      refine sm rfl rfl ?_
      refine st (X.nilChk rfl) rfl ?_
      refine st (X.fa fa80_2 rfl) rfl ?_
      refine st (X.ldL rfl hB Tryz.underlying3 rfl rfl) rfl ?_
      refine sm rfl rfl ?_
      refine st (X.add64 rfl rfl (by omega)) rfl ?_
      refine st (X.nilChk rfl) rfl ?_
      refine st (X.fa fa80_2 rfl) rfl ?_
      refine ssB rfl rfl hB siz3 rfl (by simp) (fun w8 hB2 hC2 => ?_)
      replace hLa := hLa.chg hC2 (hLa.ne2 hB (by decide))
      replace hPw := hPw.chg hC2 (hPw.ne2 hB (by decide))
      replace hNw := hNw.chg hC2 (hNw.ne2 hB (by decide))
      replace hF := hF.chg hC2 hgf
      replace hcw := hcw.next hC2 (fun i hi => .inl (.inl hi))
      refine Wn ?_
      refine tN ?_
      refine W_rs ?_
      refine sa rfl rfl ?_
      refine Wn ?_
      refine tN ?_
      refine W_ret ?_
      have e1 : putM D n r.f at_ d = (0, { D with files := sput D.files n (laidM r.f at_ d), used := D.used + moreM r.f at_ d }) := by unfold putM; rw [if_neg h12, if_neg (by omega)]
      rw [e1]
      refine (rT rfl rfl ⟨rfl, ⟨b, _, h.file (r' := ⟨r.blk, r.vl, v', vq, laidM r.f at_ d⟩) hr hcw hB2 ?_ ⟨hF, hLa, hNw, ?_, ?_⟩ rfl ?_⟩, hcw.mono (fun k _ hk => hS1 k hk)⟩).1
      · intro m
        exact mget_sput hok.srt n _ m
      · show Row _ _ 2 vq (r.f.pend ++ [(at_, d)]).length ((r.f.pend ++ [(at_, d)]).flatMap putCells)
        rw [List.length_append, List.flatMap_append]
        exact hPw
      · intro k hk hk2
        rcases hO1 k hk2 with e | e
        · exact hfile.apart k hk (by rw [hvn]; exact e)
        · have := hfile.lt (.inr (.inl hk))
          omega
      · rintro k (e | e | e | e)
        · exact .inl (.inl e)
        · exact .inl (.inr (.inl e))
        · rcases hO1 k e with e | e
          · exact .inl (.inr (.inr (.inl (by rw [hvn]; exact e))))
          · exact .inr (by omega)
        · rcases hO4 k e with e | e
          · exact .inl (.inr (.inr (.inr e)))
          · exact .inr e
end Go.Proofs.YtnijmegalgoipaaGreatDoor
namespace Go.Proofs.YtnijmegalgoipaaGreatDoor
open Go.RowKit
/-- what a call that answers a number leaves -/
def DPost (g : Nat) (S : Nat → Prop) (w : World) (x : Int × DiskD) (e : Ending) (w' : World) : Prop := e = .returned (.int .i64 x.1) ∧ DiskAt w' g x.2 (Ext S w w') ∧ Chg S w w'
/-- what has been written is not too much -/
structure DBud (D : DiskD) : Prop where
  pend : ∀ n f, mget D.files n = some f → pendLen f.pend ≤ 1099511627776 ∧ f.pend.length ≤ 1099511627776
  ref : D.refused ≤ 4611686018427387904
theorem tick_bud {D : DiskD} (h : DBud D) : DBud (tickM D) := by
  unfold tickM
  split
  · exact ⟨h.pend, h.ref⟩
  · exact h
theorem opM_live {D : DiskD} (hl : ¬ (D.stops = true ∧ D.left = 0)) (k : DiskD → Int × DiskD) : opM D k = k (tickM D) := if_neg hl
theorem opM_dead {D : DiskD} (hl : D.stops = true ∧ D.left = 0) (k : DiskD → Int × DiskD) : opM D k = (19, D) := if_pos hl
theorem fileM_some {D : DiskD} {n : Key} {f : FileD} (h : mget D.files n = some f) (k : FileD → Int × DiskD) : fileM D n k = k f := by unfold fileM; rw [h]
theorem fileM_none {D : DiskD} {n : Key} (h : mget D.files n = none) (k : FileD → Int × DiskD) : fileM D n k = (15, D) := by unfold fileM; rw [h]
theorem tick_get {D : DiskD} {n : Key} {o : Option FileD} (h : mget D.files n = o) : mget (tickM D).files n = o := by rw [tick_files]; exact h
section
variable {w w1 w' : World} {g : Nat} {S : Nat → Prop} {D : DiskD} {x : Int × DiskD} {e : Ending}
theorem DPost.same (h : DiskAt w g D S) (hb : Below w.heap.size w w') {i : Int} (he : x = (i, D)) : DPost g S w x (.returned (.int .i64 i)) w' := by
  subst he
  exact ⟨rfl, (h.bel hb).mono Ext.of, Chg.of_below hb S⟩
theorem DPost.of {b : Nat} {rs : List (Key × FRec)} (h : DiskIn w' g b D rs S) (hC : Chg S w w') {i : Int} (he : x = (i, D)) : DPost g S w x (.returned (.int .i64 i)) w' := by
  subst he
  exact ⟨rfl, ⟨b, rs, h.mono Ext.of⟩, hC⟩
theorem Ext.up (hz : w.heap.size ≤ w1.heap.size) : ∀ k, Ext S w1 w' k → Ext S w w' k := fun k hk => hk.imp id (fun e => ⟨by omega, e.2⟩)
theorem DPost.up (hC : Chg S w w1) (hD : DiskAt w' g x.2 (Ext S w1 w')) (hC2 : Chg S w1 w') {y : Int × DiskD} (he : y = x) : DPost g S w y (.returned (.int .i64 x.1)) w' := by
  subst he
  exact ⟨rfl, hD.mono (Ext.up hC.size), hC.next hC2 (fun _ h => .inl h)⟩
end
theorem bdisk (b : Nat) (n : Int) (w : World) : (Instr.build 80 #[(0, .map (some b)), (1, .int .i64 n)]).run Tryz.prog w = .ok (.agg (diskCells b (newM n))) w := by kernel_rfl
theorem New_ok (n : Int) (w : World) (hn : 0 ≤ n ∧ n ≤ 16777216) :
    Calls Tryz.prog 9 #[.int .i64 n] w fun e w' => ∃ g S, e = .returned (.tuple #[.pointer (some ⟨g, 0, none⟩), .int .i64 0]) ∧ DiskAt w' g (newM n) S ∧ (∀ k, S k → w.heap.size ≤ k ∧ k < w'.heap.size) ∧ Below w.heap.size w w' := by
  refine W_enter (args := [.int .i64 n]) 14 Tryz.func9 rfl rfl rfl ?_
  refine W_sub [(0, .int .i64 n)] ?_ ⟨rfl, trivial⟩
  have hbw := Below.refl w.heap.size w
  refine W_rs ?_
  refine sa rfl rfl ?_
  refine sa rfl rfl ?_
  refine Wn ?_
  refine tN ?_
  refine W_seq ?_
  refine W_rs ?_
  refine sm rfl rfl ?_
  refine st (X.lss rfl rfl) rfl ?_
  refine sb rfl rfl (fun h6 => ?_) (fun h6 => ?_)
  · first | replace h6 := of_decide_eq_true h6 | replace h6 := of_decide_eq_false (notT h6) | replace h6 := notT h6 | skip
    omega
  · first | replace h6 := of_decide_eq_false h6 | replace h6 := of_decide_eq_true (notF h6) | replace h6 := notF h6 | skip
    refine gY (g := 6) rfl rfl rfl ?_
    refine sm rfl rfl ?_
    refine gY (g := 6) rfl rfl rfl ?_
    refine st (X.gtr rfl rfl) rfl ?_
    refine st (X.pickF rfl rfl) rfl ?_
    refine Wn ?_
    refine tN ?_
    refine W_no rfl (decide_eq_false (by omega)) ?_
    refine W_skip ?_
    refine tN ?_
    refine W_rs ?_
    refine smm (κ := Key) (enc := str) (encv := encPtr) rfl (fun b w1 hM hbg hb hbl => ?_)
    replace hbw := bthen hbw hb
    clear hb
    refine sm rfl rfl ?_
    refine st (X.bld rfl (bdisk _ _ _)) rfl ?_
    refine sboxA rfl rfl (fun g13 w2 hB13 hg13 hb hl13 => ?_)
    have hpend := hb
    replace hbw := bthen hbw hb
    have hz_w2 := hb.size
    clear hb
    refine sa rfl rfl ?_
    refine sa rfl rfl ?_
    refine Wn ?_
    refine tN ?_
    replace hM := hM.bel hpend
    clear hpend
    refine W_ret ?_
    have hM' := hM
    have hMl := hM'.lt
    refine (rTT rfl rfl rfl ⟨g13, fun k => k = g13 ∨ k = b, rfl, ⟨b, [], hB13, hM', fun n => rfl, fun n r hr => (by cases hr), fun n m r s k hr => (by cases hr), ⟨.inl rfl, .inr rfl⟩, fun n r k hr => (by cases hr)⟩, fun k hk => ?_, hbw⟩).1
    rcases hk with rfl | rfl <;> omega
theorem New_bad (n : Int) (w : World) (hn : ¬ (0 ≤ n ∧ n ≤ 16777216)) :
    Calls Tryz.prog 9 #[.int .i64 n] w fun e w' => e = .returned (.tuple #[.pointer none, .int .i64 1]) ∧ Below w.heap.size w w' := by
  refine W_enter (args := [.int .i64 n]) 14 Tryz.func9 rfl rfl rfl ?_
  refine W_sub [(0, .int .i64 n)] ?_ ⟨rfl, trivial⟩
  have hbw := Below.refl w.heap.size w
  refine W_rs ?_
  refine sa rfl rfl ?_
  refine sa rfl rfl ?_
  refine Wn ?_
  refine tN ?_
  refine W_seq ?_
  refine W_rs ?_
  refine sm rfl rfl ?_
  refine st (X.lss rfl rfl) rfl ?_
  refine sb rfl rfl (fun h6 => ?_) (fun h6 => ?_)
  · first | replace h6 := of_decide_eq_true h6 | replace h6 := of_decide_eq_false (notT h6) | replace h6 := notT h6 | skip
    refine gN (g := 6) rfl rfl rfl rfl ?_
    refine gN (g := 6) rfl rfl rfl rfl ?_
    refine st (X.pickT rfl rfl) rfl ?_
    refine Wn ?_
    refine tN ?_
    refine W_yes rfl (rfl) ?_
    refine W_rs ?_
    refine sa rfl rfl ?_
    refine sa rfl rfl ?_
    refine Wn ?_
    refine tN ?_
    refine W_ret (tR ?_)
    exact (rTT rfl rfl rfl ⟨rfl, hbw⟩).1
  · first | replace h6 := of_decide_eq_false h6 | replace h6 := of_decide_eq_true (notF h6) | replace h6 := notF h6 | skip
    refine gY (g := 6) rfl rfl rfl ?_
    refine sm rfl rfl ?_
    refine gY (g := 6) rfl rfl rfl ?_
    refine st (X.gtr rfl rfl) rfl ?_
    refine st (X.pickF rfl rfl) rfl ?_
    refine Wn ?_
    refine tN ?_
    refine W_yes rfl (decide_eq_true (by omega)) ?_
    refine W_rs ?_
    refine sa rfl rfl ?_
    refine sa rfl rfl ?_
    refine Wn ?_
    refine tN ?_
    refine W_ret (tR ?_)
    exact (rTT rfl rfl rfl ⟨rfl, hbw⟩).1
theorem Stop_any (g : Nat) (D : DiskD) (S : Nat → Prop) (n : Int) (w : World) (h : DiskAt w g D S) :
    Calls Tryz.prog 32 #[.pointer (some ⟨g, 0, none⟩), .int .i64 n] w fun e w' => e = .returned (.tuple #[]) ∧ DiskAt w' g (stopM D n) S ∧ Chg S w w' := by
  obtain ⟨b, rs, h⟩ := h
  have hB : Blk w g 80 #[.map (some b), .int .i64 D.limit, .int .i64 D.used, .int .i64 D.refused, .bool D.stops, .int .i64 D.left] := h.blk
  have hlt := hB.lt
  refine W_enter (args := [.pointer (some ⟨g, 0, none⟩), .int .i64 n]) 15 Tryz.func32 rfl rfl rfl ?_
  refine W_sub [(0, .pointer (some ⟨g, 0, none⟩)), (1, .int .i64 n)] ?_ ⟨rfl, rfl, trivial⟩
  have hcw := Chg.refl (fun k => k = g) w
  refine W_rs ?_
  refine sm rfl rfl ?_
  refine st (X.dNe rfl) rfl ?_
  refine Wn ?_
  refine tN ?_
  refine W_yes rfl (rfl) ?_
  refine W_reg ?_
  refine sm rfl rfl ?_
  refine sm rfl rfl ?_
  refine sm rfl rfl ?_
  refine st (X.geq rfl rfl) rfl ?_
  refine sm rfl rfl ?_
  refine st (X.nilChk rfl) rfl ?_
  refine st (X.fa fa80_4 rfl) rfl ?_
  refine ssB rfl rfl hB siz4 rfl (by first | decide | simp) (fun w1 hB_ hc_ => ?_)
  replace hB := hB_
  clear hB_
  replace hcw := hcw.next hc_ (fun i_ hi_ => by first | exact .inl hi_ | exact .inl (.inl hi_) | (right; subst hi_; omega) | (left; subst hi_; show _ ≤ _; omega) | (left; subst hi_; assumption))
  have hz_w1 := hc_.size
  clear hc_
  refine st (X.nilChk rfl) rfl ?_
  refine st (X.fa fa80_5 rfl) rfl ?_
  refine ssB rfl rfl hB siz3 rfl (by first | decide | simp) (fun w2 hB_ hc_ => ?_)
  replace hB := hB_
  clear hB_
  replace hcw := hcw.next hc_ (fun i_ hi_ => by first | exact .inl hi_ | exact .inl (.inl hi_) | (right; subst hi_; omega) | (left; subst hi_; show _ ≤ _; omega) | (left; subst hi_; assumption))
  have hz_w2 := hc_.size
  clear hc_
  refine Wn ?_
  refine (r0 rfl ⟨rfl, ⟨b, rs, h.self hcw hB rfl⟩, hcw.mono (fun k _ hk => by rw [hk]; exact h.inS.1)⟩).2
theorem Stop_nil (n : Int) (w : World) : Calls Tryz.prog 32 #[.pointer none, .int .i64 n] w fun e w' => e = .returned (.tuple #[]) ∧ Below w.heap.size w w' := by
  refine W_enter (args := [.pointer none, .int .i64 n]) 15 Tryz.func32 rfl rfl rfl ?_
  refine W_sub [(0, .pointer none), (1, .int .i64 n)] ?_ ⟨rfl, rfl, trivial⟩
  have hbw := Below.refl w.heap.size w
  refine W_rs ?_
  refine sm rfl rfl ?_
  refine st (X.dNe rfl) rfl ?_
  refine Wn ?_
  refine tN ?_
  refine W_no rfl (rfl) ?_
  refine W_skip ?_
  exact (r0 rfl ⟨rfl, hbw⟩).2
/- ---------- what reads ---------- -/
theorem Used_any (g : Nat) (D : DiskD) (S : Nat → Prop) (w : World) (h : DiskAt w g D S) : Calls Tryz.prog 39 #[.pointer (some ⟨g, 0, none⟩)] w fun e w' => e = .returned (.int .i64 D.used) ∧ Below w.heap.size w w' := by
  obtain ⟨b, rs, h⟩ := h
  have hB : Blk w g 80 #[.map (some b), .int .i64 D.limit, .int .i64 D.used, .int .i64 D.refused, .bool D.stops, .int .i64 D.left] := h.blk
  refine W_enter (args := [.pointer (some ⟨g, 0, none⟩)]) 9 Tryz.func39 rfl rfl rfl ?_
  refine W_sub [(0, .pointer (some ⟨g, 0, none⟩))] ?_ ⟨rfl, trivial⟩
  have hbw := Below.refl w.heap.size w
  refine W_rs ?_
  refine sa rfl rfl ?_
  refine Wn ?_
  refine tN ?_
  refine W_seq ?_
  refine W_rs ?_
  refine sm rfl rfl ?_
  refine st (X.dEq rfl) rfl ?_
  refine Wn ?_
  refine tN ?_
  refine W_no rfl (rfl) ?_
  refine W_skip ?_
  refine tN ?_
  refine W_rs ?_
  refine sm rfl rfl ?_
  refine st (X.nilChk rfl) rfl ?_
  refine st (X.fa fa80_2 rfl) rfl ?_
  refine st (X.ldL rfl hB Tryz.underlying3 rfl rfl) rfl ?_
  refine sa rfl rfl ?_
  refine Wn ?_
  refine tN ?_
  refine W_ret ?_
  exact (rT rfl rfl ⟨rfl, hbw⟩).1
theorem Used_nil (w : World) : Calls Tryz.prog 39 #[.pointer none] w fun e w' => e = .returned (.int .i64 0) ∧ Below w.heap.size w w' := by
  refine W_enter (args := [.pointer none]) 9 Tryz.func39 rfl rfl rfl ?_
  refine W_sub [(0, .pointer none)] ?_ ⟨rfl, trivial⟩
  have hbw := Below.refl w.heap.size w
  refine W_rs ?_
  refine sa rfl rfl ?_
  refine Wn ?_
  refine tN ?_
  refine W_seq ?_
  refine W_rs ?_
  refine sm rfl rfl ?_
  refine st (X.dEq rfl) rfl ?_
  refine Wn ?_
  refine tN ?_
  refine W_yes rfl (rfl) ?_
  refine W_rs ?_
  refine sa rfl rfl ?_
  refine Wn ?_
  refine tN ?_
  refine W_ret (tR ?_)
  exact (rT rfl rfl ⟨rfl, hbw⟩).1
theorem Limit_any (g : Nat) (D : DiskD) (S : Nat → Prop) (w : World) (h : DiskAt w g D S) : Calls Tryz.prog 61 #[.pointer (some ⟨g, 0, none⟩)] w fun e w' => e = .returned (.int .i64 D.limit) ∧ Below w.heap.size w w' := by
  obtain ⟨b, rs, h⟩ := h
  have hB : Blk w g 80 #[.map (some b), .int .i64 D.limit, .int .i64 D.used, .int .i64 D.refused, .bool D.stops, .int .i64 D.left] := h.blk
  refine W_enter (args := [.pointer (some ⟨g, 0, none⟩)]) 9 Tryz.func61 rfl rfl rfl ?_
  refine W_sub [(0, .pointer (some ⟨g, 0, none⟩))] ?_ ⟨rfl, trivial⟩
  have hbw := Below.refl w.heap.size w
  refine W_rs ?_
  refine sa rfl rfl ?_
  refine Wn ?_
  refine tN ?_
  refine W_seq ?_
  refine W_rs ?_
  refine sm rfl rfl ?_
  refine st (X.dEq rfl) rfl ?_
  refine Wn ?_
  refine tN ?_
  refine W_no rfl (rfl) ?_
  refine W_skip ?_
  refine tN ?_
  refine W_rs ?_
  refine sm rfl rfl ?_
  refine st (X.nilChk rfl) rfl ?_
  refine st (X.fa fa80_1 rfl) rfl ?_
  refine st (X.ldL rfl hB Tryz.underlying3 rfl rfl) rfl ?_
  refine sa rfl rfl ?_
  refine Wn ?_
  refine tN ?_
  refine W_ret ?_
  exact (rT rfl rfl ⟨rfl, hbw⟩).1
theorem Limit_nil (w : World) : Calls Tryz.prog 61 #[.pointer none] w fun e w' => e = .returned (.int .i64 0) ∧ Below w.heap.size w w' := by
  refine W_enter (args := [.pointer none]) 9 Tryz.func61 rfl rfl rfl ?_
  refine W_sub [(0, .pointer none)] ?_ ⟨rfl, trivial⟩
  have hbw := Below.refl w.heap.size w
  refine W_rs ?_
  refine sa rfl rfl ?_
  refine Wn ?_
  refine tN ?_
  refine W_seq ?_
  refine W_rs ?_
  refine sm rfl rfl ?_
  refine st (X.dEq rfl) rfl ?_
  refine Wn ?_
  refine tN ?_
  refine W_yes rfl (rfl) ?_
  refine W_rs ?_
  refine sa rfl rfl ?_
  refine Wn ?_
  refine tN ?_
  refine W_ret (tR ?_)
  exact (rT rfl rfl ⟨rfl, hbw⟩).1
theorem Refused_any (g : Nat) (D : DiskD) (S : Nat → Prop) (w : World) (h : DiskAt w g D S) : Calls Tryz.prog 60 #[.pointer (some ⟨g, 0, none⟩)] w fun e w' => e = .returned (.int .i64 D.refused) ∧ Below w.heap.size w w' := by
  obtain ⟨b, rs, h⟩ := h
  have hB : Blk w g 80 #[.map (some b), .int .i64 D.limit, .int .i64 D.used, .int .i64 D.refused, .bool D.stops, .int .i64 D.left] := h.blk
  refine W_enter (args := [.pointer (some ⟨g, 0, none⟩)]) 9 Tryz.func60 rfl rfl rfl ?_
  refine W_sub [(0, .pointer (some ⟨g, 0, none⟩))] ?_ ⟨rfl, trivial⟩
  have hbw := Below.refl w.heap.size w
  refine W_rs ?_
  refine sa rfl rfl ?_
  refine Wn ?_
  refine tN ?_
  refine W_seq ?_
  refine W_rs ?_
  refine sm rfl rfl ?_
  refine st (X.dEq rfl) rfl ?_
  refine Wn ?_
  refine tN ?_
  refine W_no rfl (rfl) ?_
  refine W_skip ?_
  refine tN ?_
  refine W_rs ?_
  refine sm rfl rfl ?_
  refine st (X.nilChk rfl) rfl ?_
  refine st (X.fa fa80_3 rfl) rfl ?_
  refine st (X.ldL rfl hB Tryz.underlying3 rfl rfl) rfl ?_
  refine sa rfl rfl ?_
  refine Wn ?_
  refine tN ?_
  refine W_ret ?_
  exact (rT rfl rfl ⟨rfl, hbw⟩).1
theorem Refused_nil (w : World) : Calls Tryz.prog 60 #[.pointer none] w fun e w' => e = .returned (.int .i64 0) ∧ Below w.heap.size w w' := by
  refine W_enter (args := [.pointer none]) 9 Tryz.func60 rfl rfl rfl ?_
  refine W_sub [(0, .pointer none)] ?_ ⟨rfl, trivial⟩
  have hbw := Below.refl w.heap.size w
  refine W_rs ?_
  refine sa rfl rfl ?_
  refine Wn ?_
  refine tN ?_
  refine W_seq ?_
  refine W_rs ?_
  refine sm rfl rfl ?_
  refine st (X.dEq rfl) rfl ?_
  refine Wn ?_
  refine tN ?_
  refine W_yes rfl (rfl) ?_
  refine W_rs ?_
  refine sa rfl rfl ?_
  refine Wn ?_
  refine tN ?_
  refine W_ret (tR ?_)
  exact (rT rfl rfl ⟨rfl, hbw⟩).1
theorem Size_any (g : Nat) (D : DiskD) (S : Nat → Prop) (n : Key) (w : World) (h : DiskAt w g D S) : Calls Tryz.prog 22 #[.pointer (some ⟨g, 0, none⟩), str n] w fun e w' => e = .returned (.tuple #[.int .i64 (sizeM D n).1, .int .i64 (sizeM D n).2]) ∧ Below w.heap.size w w' := by
  obtain ⟨b, rs, h⟩ := h
  unfold sizeM
  rw [h.files]
  cases hr : mget rs n with
  | none =>
    refine W_enter (args := [.pointer (some ⟨g, 0, none⟩), str n]) 22 Tryz.func22 rfl rfl rfl ?_
    refine W_sub [(0, .pointer (some ⟨g, 0, none⟩)), (1, str n)] ?_ ⟨rfl, rfl, trivial⟩
    have hbw := Below.refl w.heap.size w
    refine W_rs ?_
    refine sa rfl rfl ?_
    refine sa rfl rfl ?_
    refine Wn ?_
    refine tN ?_
    refine W_rs ?_
    refine sm rfl rfl ?_
    refine sm rfl rfl ?_
    refine sc _ Tryz.func70 rfl (by kernel_rfl) rfl rfl ((find_none g b D rs S n _ (h.bel hbw) hr).mono ?_)
    rintro e_ w1 ⟨rfl, hb⟩
    refine cR ?_
    replace hbw := bthen hbw hb
    have hz_w1 := hb.size
    clear hb
    refine sm rfl rfl ?_
    refine st (X.ext rfl rfl) rfl ?_
    refine st (X.ext rfl rfl) rfl ?_
    refine sa rfl rfl ?_
    refine sa rfl rfl ?_
    refine Wn ?_
    refine tN ?_
    refine W_seq ?_
    refine W_rs ?_
    refine sm rfl rfl ?_
    refine st (X.neq rfl rfl) rfl ?_
    refine Wn ?_
    refine tN ?_
    refine W_yes rfl (rfl) ?_
    refine W_rs ?_
    refine sm rfl rfl ?_
    refine sa rfl rfl ?_
    refine sa rfl rfl ?_
    refine Wn ?_
    refine tN ?_
    refine W_ret (tR ?_)
    exact (rTT rfl rfl rfl ⟨rfl, hbw⟩).1
  | some r =>
    have hfile := h.at_ n r hr
    have hF := hfile.blk
    obtain ⟨a, c, hvn, _⟩ := hfile.now.shape
    rw [hvn] at hF
    refine W_enter (args := [.pointer (some ⟨g, 0, none⟩), str n]) 22 Tryz.func22 rfl rfl rfl ?_
    refine W_sub [(0, .pointer (some ⟨g, 0, none⟩)), (1, str n)] ?_ ⟨rfl, rfl, trivial⟩
    have hbw := Below.refl w.heap.size w
    refine W_rs ?_
    refine sa rfl rfl ?_
    refine sa rfl rfl ?_
    refine Wn ?_
    refine tN ?_
    refine W_rs ?_
    refine sm rfl rfl ?_
    refine sm rfl rfl ?_
    refine sc _ Tryz.func70 rfl (by kernel_rfl) rfl rfl ((find_some g b D rs S n r _ (h.bel hbw) hr).mono ?_)
    rintro e_ w1 ⟨rfl, hb⟩
    refine cR ?_
    replace hbw := bthen hbw hb
    replace hF := hF.bel hb
    have hz_w1 := hb.size
    clear hb
    refine sm rfl rfl ?_
    refine st (X.ext rfl rfl) rfl ?_
    refine st (X.ext rfl rfl) rfl ?_
    refine sa rfl rfl ?_
    refine sa rfl rfl ?_
    refine Wn ?_
    refine tN ?_
    refine W_seq ?_
    refine W_rs ?_
    refine sm rfl rfl ?_
    refine st (X.neq rfl rfl) rfl ?_
    refine Wn ?_
    refine tN ?_
    refine W_no rfl (rfl) ?_
    refine W_skip ?_
    refine tN ?_
    refine W_rs ?_
    refine sm rfl rfl ?_
    refine st (X.nilChk rfl) rfl ?_
    refine st (X.fa fa98_1 rfl) rfl ?_
    refine st (X.ldL rfl hF Tryz.underlying94 rfl rfl) rfl ?_
    refine st (X.lenL rfl rfl Tryz.underlying94) rfl ?_
    refine sa rfl rfl ?_
    refine sa rfl rfl ?_
    refine Wn ?_
    refine tN ?_
    refine W_ret ?_
    exact (rTT rfl rfl rfl ⟨rfl, hbw⟩).1
theorem Size_nil (n : Key) (w : World) : Calls Tryz.prog 22 #[.pointer none, str n] w fun e w' => e = .returned (.tuple #[.int .i64 0, .int .i64 2]) ∧ Below w.heap.size w w' := by
  refine W_enter (args := [.pointer none, str n]) 22 Tryz.func22 rfl rfl rfl ?_
  refine W_sub [(0, .pointer none), (1, str n)] ?_ ⟨rfl, rfl, trivial⟩
  have hbw := Below.refl w.heap.size w
  refine W_rs ?_
  refine sa rfl rfl ?_
  refine sa rfl rfl ?_
  refine Wn ?_
  refine tN ?_
  refine W_rs ?_
  refine sm rfl rfl ?_
  refine sm rfl rfl ?_
  refine sc _ Tryz.func70 rfl (by kernel_rfl) rfl rfl ((find_nil n _).mono ?_)
  rintro e_ w1 ⟨rfl, hb⟩
  refine cR ?_
  replace hbw := bthen hbw hb
  have hz_w1 := hb.size
  clear hb
  refine sm rfl rfl ?_
  refine st (X.ext rfl rfl) rfl ?_
  refine st (X.ext rfl rfl) rfl ?_
  refine sa rfl rfl ?_
  refine sa rfl rfl ?_
  refine Wn ?_
  refine tN ?_
  refine W_seq ?_
  refine W_rs ?_
  refine sm rfl rfl ?_
  refine st (X.neq rfl rfl) rfl ?_
  refine Wn ?_
  refine tN ?_
  refine W_yes rfl (rfl) ?_
  refine W_rs ?_
  refine sm rfl rfl ?_
  refine sa rfl rfl ?_
  refine sa rfl rfl ?_
  refine Wn ?_
  refine tN ?_
  refine W_ret (tR ?_)
  exact (rTT rfl rfl rfl ⟨rfl, hbw⟩).1
theorem Read_nil (n : Key) (i k : Int) (w : World) : Calls Tryz.prog 45 #[.pointer none, str n, .int .i64 i, .int .i64 k] w fun e w' => e = .returned (.tuple #[str [], .int .i64 2]) ∧ Below w.heap.size w w' := by
  refine W_enter (args := [.pointer none, str n, .int .i64 i, .int .i64 k]) 56 Tryz.func45 rfl rfl rfl ?_
  refine W_sub [(0, .pointer none), (1, str n), (2, .int .i64 i), (3, .int .i64 k)] ?_ ⟨rfl, rfl, rfl, rfl, trivial⟩
  have hbw := Below.refl w.heap.size w
  refine W_rs ?_
  refine sa rfl rfl ?_
  refine sa rfl rfl ?_
  refine Wn ?_
  refine tN ?_
  refine W_rs ?_
  refine sm rfl rfl ?_
  refine sm rfl rfl ?_
  refine sc _ Tryz.func70 rfl (by kernel_rfl) rfl rfl ((find_nil n _).mono ?_)
  rintro e_ w1 ⟨rfl, hb⟩
  refine cR ?_
  replace hbw := bthen hbw hb
  have hz_w1 := hb.size
  clear hb
  refine sm rfl rfl ?_
  refine st (X.ext rfl rfl) rfl ?_
  refine st (X.ext rfl rfl) rfl ?_
  refine sa rfl rfl ?_
  refine sa rfl rfl ?_
  refine Wn ?_
  refine tN ?_
  refine W_seq ?_
  refine W_block ?_
  refine W_rs ?_
  refine sm rfl rfl ?_
  refine st (X.neq rfl rfl) rfl ?_
  refine sa rfl rfl ?_
  refine Wn ?_
  refine tN ?_
  refine W_yes rfl (rfl) ?_
  refine W_rs ?_
  refine sm rfl rfl ?_
  refine sa rfl rfl ?_
  refine sa rfl rfl ?_
  refine Wn ?_
  refine tN ?_
  refine W_ret (bR (tR ?_))
  exact (rTT rfl rfl rfl ⟨rfl, hbw⟩).1
set_option maxRecDepth 10000 in
theorem Read_any (g : Nat) (D : DiskD) (S : Nat → Prop) (n : Key) (i k : Int) (w : World) (h : DiskAt w g D S) (hok : DOk D) : Calls Tryz.prog 45 #[.pointer (some ⟨g, 0, none⟩), str n, .int .i64 i, .int .i64 k] w fun e w' => e = .returned (.tuple #[str (readM D n i k).1, .int .i64 (readM D n i k).2]) ∧ Below w.heap.size w w' := by
  obtain ⟨b, rs, h⟩ := h
  unfold readM
  have hff := h.files n
  cases hr : mget rs n with
  | none =>
    rw [h.files, hr]
    refine W_enter (args := [.pointer (some ⟨g, 0, none⟩), str n, .int .i64 i, .int .i64 k]) 56 Tryz.func45 rfl rfl rfl ?_
    refine W_sub [(0, .pointer (some ⟨g, 0, none⟩)), (1, str n), (2, .int .i64 i), (3, .int .i64 k)] ?_ ⟨rfl, rfl, rfl, rfl, trivial⟩
    have hbw := Below.refl w.heap.size w
    refine W_rs ?_
    refine sa rfl rfl ?_
    refine sa rfl rfl ?_
    refine Wn ?_
    refine tN ?_
    refine W_rs ?_
    refine sm rfl rfl ?_
    refine sm rfl rfl ?_
    refine sc _ Tryz.func70 rfl (by kernel_rfl) rfl rfl ((find_none g b D rs S n _ (h.bel hbw) hr).mono ?_)
    rintro e_ w1 ⟨rfl, hb⟩
    refine cR ?_
    replace hbw := bthen hbw hb
    have hz_w1 := hb.size
    clear hb
    refine sm rfl rfl ?_
    refine st (X.ext rfl rfl) rfl ?_
    refine st (X.ext rfl rfl) rfl ?_
    refine sa rfl rfl ?_
    refine sa rfl rfl ?_
    refine Wn ?_
    refine tN ?_
    refine W_seq ?_
    refine W_block ?_
    refine W_rs ?_
    refine sm rfl rfl ?_
    refine st (X.neq rfl rfl) rfl ?_
    refine sa rfl rfl ?_
    refine Wn ?_
    refine tN ?_
    refine W_yes rfl (rfl) ?_
    refine W_rs ?_
    refine sm rfl rfl ?_
    refine sa rfl rfl ?_
    refine sa rfl rfl ?_
    refine Wn ?_
    refine tN ?_
    refine W_ret (bR (tR ?_))
    exact (rTT rfl rfl rfl ⟨rfl, hbw⟩).1
  | some r =>
    rw [hr] at hff
    rw [hff]
    have hfile := h.at_ n r hr
    have hF := hfile.blk
    have hNo := hfile.now
    have hlen := (hok.len hff).1
    obtain ⟨a, c, hvn, hc1, _⟩ := hfile.now.shape
    rw [hvn] at hF hNo
    simp only [Option.map_some]
    refine W_enter (args := [.pointer (some ⟨g, 0, none⟩), str n, .int .i64 i, .int .i64 k]) 56 Tryz.func45 rfl rfl rfl ?_
    refine W_sub [(0, .pointer (some ⟨g, 0, none⟩)), (1, str n), (2, .int .i64 i), (3, .int .i64 k)] ?_ ⟨rfl, rfl, rfl, rfl, trivial⟩
    have hbw := Below.refl w.heap.size w
    refine W_rs ?_
    refine sa rfl rfl ?_
    refine sa rfl rfl ?_
    refine Wn ?_
    refine tN ?_
    refine W_rs ?_
    refine sm rfl rfl ?_
    refine sm rfl rfl ?_
    refine sc _ Tryz.func70 rfl (by kernel_rfl) rfl rfl ((find_some g b D rs S n r _ (h.bel hbw) hr).mono ?_)
    rintro e_ w1 ⟨rfl, hb⟩
    refine cR ?_
    replace hbw := bthen hbw hb
    replace hF := hF.bel hb
    replace hNo := hNo.bel hb
    have hz_w1 := hb.size
    clear hb
    refine sm rfl rfl ?_
    refine st (X.ext rfl rfl) rfl ?_
    refine st (X.ext rfl rfl) rfl ?_
    refine sa rfl rfl ?_
    refine sa rfl rfl ?_
    refine Wn ?_
    refine tN ?_
    refine W_seq ?_
    refine W_block ?_
    refine W_rs ?_
    refine sm rfl rfl ?_
    refine st (X.neq rfl rfl) rfl ?_
    refine sa rfl rfl ?_
    refine Wn ?_
    refine tN ?_
    refine W_no rfl (rfl) ?_
    refine W_rs ?_
    refine sm rfl rfl ?_
    refine st (X.lss rfl rfl) rfl ?_
    refine sb rfl rfl (fun h25 => ?_) (fun h25 => ?_)
    · first | replace h25 := of_decide_eq_true h25 | replace h25 := of_decide_eq_false (notT h25) | replace h25 := notT h25 | skip
      refine gN (g := 25) rfl rfl rfl rfl ?_
      refine gN (g := 25) rfl rfl rfl rfl ?_
      refine st (X.pickT rfl rfl) rfl ?_
      refine sm rfl rfl ?_
      refine gN (g := 29) rfl rfl rfl rfl ?_
      refine gN (g := 29) rfl rfl rfl rfl ?_
      refine gN (g := 29) rfl rfl rfl rfl ?_
      refine gN (g := 29) rfl rfl rfl rfl ?_
      refine gN (g := 29) rfl rfl rfl rfl ?_
      refine gN (g := 29) rfl rfl rfl rfl ?_
      refine gN (g := 29) rfl rfl rfl rfl ?_
      refine st (X.pickT rfl rfl) rfl ?_
      refine sa rfl rfl ?_
      refine Wn ?_
      refine tN ?_
      refine W_yes rfl (rfl) ?_
      refine W_rs ?_
      refine sa rfl rfl ?_
      refine sa rfl rfl ?_
      refine Wn ?_
      refine tN ?_
      refine W_ret (bR (tR ?_))
      rw [if_pos (by omega)]
      exact (rTT rfl rfl rfl ⟨rfl, hbw⟩).1
    · first | replace h25 := of_decide_eq_false h25 | replace h25 := of_decide_eq_true (notF h25) | replace h25 := notF h25 | skip
      refine gY (g := 25) rfl rfl rfl ?_
      refine sm rfl rfl ?_
      refine gY (g := 25) rfl rfl rfl ?_
      refine st (X.lss rfl rfl) rfl ?_
      refine st (X.pickF rfl rfl) rfl ?_
      refine sb rfl rfl (fun h29 => ?_) (fun h29 => ?_)
      · first | replace h29 := of_decide_eq_true h29 | replace h29 := of_decide_eq_false (notT h29) | replace h29 := notT h29 | skip
        refine gN (g := 29) rfl rfl rfl rfl ?_
        refine gN (g := 29) rfl rfl rfl rfl ?_
        refine gN (g := 29) rfl rfl rfl rfl ?_
        refine gN (g := 29) rfl rfl rfl rfl ?_
        refine gN (g := 29) rfl rfl rfl rfl ?_
        refine gN (g := 29) rfl rfl rfl rfl ?_
        refine gN (g := 29) rfl rfl rfl rfl ?_
        refine st (X.pickT rfl rfl) rfl ?_
        refine sa rfl rfl ?_
        refine Wn ?_
        refine tN ?_
        refine W_yes rfl (rfl) ?_
        refine W_rs ?_
        refine sa rfl rfl ?_
        refine sa rfl rfl ?_
        refine Wn ?_
        refine tN ?_
        refine W_ret (bR (tR ?_))
        rw [if_pos (by omega)]
        exact (rTT rfl rfl rfl ⟨rfl, hbw⟩).1
      · first | replace h29 := of_decide_eq_false h29 | replace h29 := of_decide_eq_true (notF h29) | replace h29 := notF h29 | skip
        refine gY (g := 29) rfl rfl rfl ?_
        refine sm rfl rfl ?_
        refine gY (g := 29) rfl rfl rfl ?_
        refine sm rfl rfl ?_
        refine gY (g := 29) rfl rfl rfl ?_
        refine st (X.nilChk rfl) rfl ?_
        refine gY (g := 29) rfl rfl rfl ?_
        refine st (X.fa fa98_1 rfl) rfl ?_
        refine gY (g := 29) rfl rfl rfl ?_
        refine st (X.ldL rfl hF Tryz.underlying94 rfl rfl) rfl ?_
        refine gY (g := 29) rfl rfl rfl ?_
        refine st (X.lenL rfl rfl Tryz.underlying94) rfl ?_
        refine gY (g := 29) rfl rfl rfl ?_
        refine st (X.gtr rfl rfl) rfl ?_
        refine st (X.pickF rfl rfl) rfl ?_
        refine sa rfl rfl ?_
        refine Wn ?_
        refine tN ?_
        refine W_if rfl (fun h22 => ?_) (fun h22 => ?_)
        · first | replace h22 := of_decide_eq_true h22 | replace h22 := of_decide_eq_false (notT h22) | replace h22 := notT h22 | skip
          refine W_rs ?_
          refine sa rfl rfl ?_
          refine sa rfl rfl ?_
          refine Wn ?_
          refine tN ?_
          refine W_ret (bR (tR ?_))
          rw [if_pos (by omega)]
          exact (rTT rfl rfl rfl ⟨rfl, hbw⟩).1
        · first | replace h22 := of_decide_eq_false h22 | replace h22 := of_decide_eq_true (notF h22) | replace h22 := notF h22 | skip
          refine W_skip ?_
          refine bN ?_
          refine tN ?_
          refine W_still_s 18 (by kernel_rfl) (by kernel_rfl) ?_
          obtain ⟨w2, hw_⟩ : ∃ w2 : World, w2 = World.drew w1 := ⟨_, rfl⟩
          rw [← hw_]
          have hb : Below w1.heap.size w1 w2 := by rw [hw_]; exact bdrew (Below.refl _ _)
          clear hw_
          replace hbw := bthen hbw hb
          replace hF := hF.bel hb
          replace hNo := hNo.bel hb
          have hz_w2 := hb.size
          clear hb
          refine hY (X.move rfl) rfl ?_
          refine hY (X.nilChk rfl) rfl ?_
          refine hY (X.fa fa98_1 rfl) rfl ?_
          refine hY (X.ldL rfl hF Tryz.underlying94 rfl rfl) rfl ?_
          refine hY (X.move rfl) rfl ?_
          refine hY (X.move rfl) rfl ?_
          refine hY (X.move rfl) rfl ?_
          refine hY (X.move rfl) rfl ?_
          refine hY (X.nilChk rfl) rfl ?_
          refine hY (X.fa fa98_1 rfl) rfl ?_
          refine hY (X.ldL rfl hF Tryz.underlying94 rfl rfl) rfl ?_
          refine hY (X.lenL rfl rfl Tryz.underlying94) rfl ?_
          refine hY (X.move rfl) rfl ?_
          refine hY (X.sub64 rfl rfl (by omega)) rfl ?_
          have hmn : (i.toNat + min k.toNat (r.f.now.length - i.toNat) : Nat) = i + (if (r.f.now.length : Int) - i < k then (r.f.now.length : Int) - i else k) := by split <;> omega
          refine hY (X.min2 rfl rfl rfl) rfl ?_
          refine hY (X.add64 rfl rfl (by omega)) rfl ?_
          refine hY (X.cutL (i := i.toNat) (j := i.toNat + min k.toNat (r.f.now.length - i.toNat)) rfl rfl rfl Tryz.underlying94 siz5 (by omega) (by rw [← hmn]) (by omega) (by omega)) rfl ?_
          refine hY (X.strOf (s := (r.f.now.take (i.toNat + min k.toNat (r.f.now.length - i.toNat))).drop i.toNat) (q := i.toNat + min k.toNat (r.f.now.length - i.toNat) - i.toNat) rfl Tryz.underlying94 Tryz.underlying5 Tryz.underlying9 (by
  have := (hNo.cut rfl i.toNat (i.toNat + min k.toNat (r.f.now.length - i.toNat)) (by omega) (by omega)).reads
  rw [Nat.mul_one, Nat.mul_one, ← List.map_take, ← List.map_drop] at this
  exact this)) rfl ?_
          refine hN ?_
          refine sa rfl rfl ?_
          refine sa rfl rfl ?_
          refine Wn ?_
          refine tN ?_
          refine W_ret ?_
          rw [if_neg (by omega)]
          refine (rTT rfl rfl rfl ⟨?_, hbw⟩).1
          rw [List.drop_take, Nat.add_sub_cancel_left]
          have e1 : (r.f.now.drop i.toNat).take k.toNat = (r.f.now.drop i.toNat).take (min k.toNat (r.f.now.length - i.toNat)) := by rw [List.take_eq_take_min, List.length_drop]
          rw [e1]
end Go.Proofs.YtnijmegalgoipaaGreatDoor
