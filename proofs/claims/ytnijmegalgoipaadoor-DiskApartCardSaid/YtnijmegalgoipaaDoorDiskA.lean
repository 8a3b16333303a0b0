/- disk: ready, find, named. -/
import Derived.Test.YtnijmegalgoipaaDoorDiskMem
import Derived.Test.YtnijmegalgoipaaDoorStillW
import Derived.Ground.NamesProg
import Derived.Shelf.Lay
import Derived.Shelf.Strings.SlTrimAscii
namespace Go.Proofs.YtnijmegalgoipaaDoor
open Go.RowKit Go.Shelf
shelf_lay Lays.n160 Nm 160 at Tryd as Tryd.lays160
theorem guard_ptr {P : Program} {w : World} {t : TypeId} {o : BinOp} {p q : Option Addr} (c d : Operand) : (eqGuard o t c d (.pointer p) (.pointer q)).run P w = .ok () w := by
  unfold eqGuard
  cases o <;> simp
theorem nilEqP (w : World) (a : Addr) : (binOp .eql 43 (.pointer (some a)) (.pointer none)).run Tryd.prog w = .ok (.bool false) w := by kernel_rfl
theorem nilEqN (w : World) : (binOp .eql 43 (.pointer none) (.pointer none)).run Tryd.prog w = .ok (.bool true) w := by kernel_rfl
theorem nilNeP (w : World) (a : Addr) : (binOp .neq 43 (.pointer (some a)) (.pointer none)).run Tryd.prog w = .ok (.bool true) w := by kernel_rfl
theorem nilNeN (w : World) : (binOp .neq 43 (.pointer none) (.pointer none)).run Tryd.prog w = .ok (.bool false) w := by kernel_rfl
theorem nilEqPf (w : World) (a : Addr) : (binOp .eql 91 (.pointer (some a)) (.pointer none)).run Tryd.prog w = .ok (.bool false) w := by kernel_rfl
theorem nilEqNf (w : World) : (binOp .eql 91 (.pointer none) (.pointer none)).run Tryd.prog w = .ok (.bool true) w := by kernel_rfl
theorem nilNePf (w : World) (a : Addr) : (binOp .neq 91 (.pointer (some a)) (.pointer none)).run Tryd.prog w = .ok (.bool true) w := by kernel_rfl
theorem nilNeNf (w : World) : (binOp .neq 91 (.pointer none) (.pointer none)).run Tryd.prog w = .ok (.bool false) w := by kernel_rfl
section
variable {l : Env} {x : Operand} {w : World} {t' ty : TypeId} {a : Addr} {p : Option Addr}
theorem X.dEq (hx : ev l x = some (.pointer p)) : X Tryd.prog l (.binOp .eql 43 x (.const (.pointer none)) t') ty w (.bool p.isNone) w :=
  X.bin hx rfl guard_ptr (by cases p with | none => exact nilEqN w | some a => exact nilEqP w a)
theorem X.dNe (hx : ev l x = some (.pointer p)) : X Tryd.prog l (.binOp .neq 43 x (.const (.pointer none)) t') ty w (.bool p.isSome) w :=
  X.bin hx rfl guard_ptr (by cases p with | none => exact nilNeN w | some a => exact nilNeP w a)
theorem X.fEq (hx : ev l x = some (.pointer p)) : X Tryd.prog l (.binOp .eql 91 x (.const (.pointer none)) t') ty w (.bool p.isNone) w :=
  X.bin hx rfl guard_ptr (by cases p with | none => exact nilEqNf w | some a => exact nilEqPf w a)
theorem X.fNe (hx : ev l x = some (.pointer p)) : X Tryd.prog l (.binOp .neq 91 x (.const (.pointer none)) t') ty w (.bool p.isSome) w :=
  X.bin hx rfl guard_ptr (by cases p with | none => exact nilNeNf w | some a => exact nilNePf w a)
end
/- ---------- names ---------- -/
def lettersB : List UInt8 := [97, 98, 99, 100, 101, 102, 103, 104, 105, 106, 107, 108, 109, 110, 111, 112, 113, 114, 115, 116, 117, 118, 119, 120, 121, 122, 48, 49, 50, 51, 52, 53, 54, 55, 56, 57, 46, 45, 95]
set_option maxRecDepth 20000 in
theorem letters_has (b : UInt8) : lettersB.contains b = letterB b := by
  have h : ∀ n, n < 256 → lettersB.contains (UInt8.ofNat n) = letterB (UInt8.ofNat n) := by decide
  have := h b.toNat b.toNat_lt
  rwa [UInt8.ofNat_toNat] at this
theorem dropWhile_nil {p : UInt8 → Bool} : ∀ {l : List UInt8}, l.dropWhile p = [] ↔ l.all p = true
  | [] => by simp
  | a :: l => by
    rw [List.dropWhile_cons, List.all_cons]
    by_cases h : p a = true
    · rw [if_pos h, dropWhile_nil, h, Bool.true_and]
    · rw [if_neg h]
      simp [h]
theorem all_dropWhile {p : UInt8 → Bool} : ∀ (l : List UInt8), (l.dropWhile p).all p = l.all p
  | [] => rfl
  | a :: l => by
    rw [List.dropWhile_cons]
    by_cases h : p a = true
    · rw [if_pos h, all_dropWhile, List.all_cons, h, Bool.true_and]
    · rw [if_neg h]
theorem all_reverse' {p : UInt8 → Bool} (l : List UInt8) : l.reverse.all p = l.all p := by
  rw [List.all_reverse]
theorem trim_nil (s : List UInt8) : (Lib.trimS s lettersB = []) ↔ s.all letterB = true := by
  unfold Lib.trimS Lib.trimLeftS Lib.trimRightS
  rw [dropWhile_nil, show (fun x => lettersB.contains x) = letterB from funext letters_has, all_reverse', all_dropWhile, all_reverse']
theorem str_nil_iff {a : List UInt8} : (decide (a = [])) = a.isEmpty := by cases a <;> rfl
set_option maxRecDepth 10000 in
theorem Trim_any (s : List UInt8) (w : World) (hs : s.length ≤ 9223372036854775807) :
    Calls Tryd.prog 85 #[str s, str lettersB] w fun e w' => e = .returned (str (Lib.trimS s lettersB)) ∧ Below w.heap.size w w' := by
  have := Any.strings_Trim_laid Tryd.lays160 (by kernel_rfl) ⟨s.toArray⟩ ⟨lettersB.toArray⟩ w (by show s.toArray.size ≤ _; simpa using hs) (by decide) (ascii_of_all (by decide))
  exact this
theorem nameOk_eq (s : List UInt8) : nameOk s = (decide (s ≠ []) && decide (s.length ≤ 64) && decide (Lib.trimS s lettersB = [])) := by
  unfold nameOk
  rw [show decide (Lib.trimS s lettersB = []) = s.all letterB from by rw [Bool.eq_iff_iff, decide_eq_true_eq]; exact trim_nil s]
  cases s <;> rfl
theorem named_any (s : List UInt8) (w : World) :
    Calls Tryd.prog 56 #[str s] w fun e w' => e = .returned (.bool (nameOk s)) ∧ Below w.heap.size w w' := by
  rw [nameOk_eq]
  refine W_enter (args := [str s]) 15 Tryd.func56 rfl rfl rfl ?_
  refine W_sub [(0, str s)] ?_ ⟨rfl, trivial⟩
  have hbw := Below.refl w.heap.size w
  refine W_rs ?_
  refine sa rfl rfl ?_
  refine Wn ?_
  refine tN ?_
  refine W_rs ?_
  refine sm rfl rfl ?_
  refine st (X.neS rfl rfl) rfl ?_
  refine sb rfl rfl (fun h5 => ?_) (fun h5 => ?_)
  · first | replace h5 := of_decide_eq_true h5 | replace h5 := of_decide_eq_false (notT h5) | replace h5 := notT h5 | skip
    refine gY (g := 5) rfl rfl rfl ?_
    refine sm rfl rfl ?_
    refine gY (g := 5) rfl rfl rfl ?_
    refine st (X.lenS rfl rfl Tryd.underlying9) rfl ?_
    refine gY (g := 5) rfl rfl rfl ?_
    refine st (X.leq rfl rfl) rfl ?_
    refine st (X.pickT rfl rfl) rfl ?_
    refine sb rfl rfl (fun h10 => ?_) (fun h10 => ?_)
    · first | replace h10 := of_decide_eq_true h10 | replace h10 := of_decide_eq_false (notT h10) | replace h10 := notT h10 | skip
      refine gY (g := 10) rfl rfl rfl ?_
      refine sm rfl rfl ?_
      refine gY (g := 10) rfl rfl rfl ?_
      refine sc _ Tryd.func85 rfl (by kernel_rfl) rfl rfl ((Trim_any s _ (by omega)).mono ?_)
      rintro e_ w1 ⟨rfl, hb⟩
      refine cR ?_
      replace hbw := bthen hbw hb
      have hz_w1 := hb.size
      clear hb
      refine gY (g := 10) rfl rfl rfl ?_
      refine st (X.eqS rfl rfl) rfl ?_
      refine st (X.pickT rfl rfl) rfl ?_
      refine sa rfl rfl ?_
      refine Wn ?_
      refine tN ?_
      refine W_ret ?_
      exact (rT rfl rfl ⟨by simp [*] <;> omega, hbw⟩).1
    · first | replace h10 := of_decide_eq_false h10 | replace h10 := of_decide_eq_true (notF h10) | replace h10 := notF h10 | skip
      refine gN (g := 10) rfl rfl rfl rfl ?_
      refine gN (g := 10) rfl rfl rfl rfl ?_
      refine gN (g := 10) rfl rfl rfl rfl ?_
      refine st (X.pickF rfl rfl) rfl ?_
      refine sa rfl rfl ?_
      refine Wn ?_
      refine tN ?_
      refine W_ret ?_
      exact (rT rfl rfl ⟨by simp [*] <;> omega, hbw⟩).1
  · first | replace h5 := of_decide_eq_false h5 | replace h5 := of_decide_eq_true (notF h5) | replace h5 := notF h5 | skip
    refine gN (g := 5) rfl rfl rfl rfl ?_
    refine gN (g := 5) rfl rfl rfl rfl ?_
    refine gN (g := 5) rfl rfl rfl rfl ?_
    refine st (X.pickF rfl rfl) rfl ?_
    refine sm rfl rfl ?_
    refine gN (g := 10) rfl rfl rfl rfl ?_
    refine gN (g := 10) rfl rfl rfl rfl ?_
    refine gN (g := 10) rfl rfl rfl rfl ?_
    refine st (X.pickF rfl rfl) rfl ?_
    refine sa rfl rfl ?_
    refine Wn ?_
    refine tN ?_
    refine W_ret ?_
    exact (rT rfl rfl ⟨by simp [*] <;> omega, hbw⟩).1
/- ---------- ready, find ---------- -/
theorem ready_live (g b : Nat) (D : DiskD) (rs : List (Key × FRec)) (S : Nat → Prop) (w : World) (h : DiskIn w g b D rs S) (hok : DOk D) (hl : ¬ (D.stops = true ∧ D.left = 0)) :
    Calls Tryd.prog 55 #[.pointer (some ⟨g, 0, none⟩)] w fun e w' => e = .returned (.int .i64 0) ∧ DiskIn w' g b (tickM D) rs S ∧ Chg (fun k => k = g) w w' := by
  have hB : Blk w g 88 #[.map (some b), .int .i64 D.limit, .int .i64 D.used, .int .i64 D.refused, .bool D.stops, .int .i64 D.left] := h.blk
  have hlt := hB.lt
  have hst := hok.stp
  unfold tickM
  refine W_enter (args := [.pointer (some ⟨g, 0, none⟩)]) 30 Tryd.func55 rfl rfl rfl ?_
  refine W_sub [(0, .pointer (some ⟨g, 0, none⟩))] ?_ ⟨rfl, trivial⟩
  have hcw := Chg.refl (fun k => k = g) w
  refine W_rs ?_
  refine sa rfl rfl ?_
  refine Wn ?_
  refine tN ?_
  refine W_seq ?_
  refine W_block ?_
  refine W_rs ?_
  refine sm rfl rfl ?_
  refine st (X.dEq rfl) rfl ?_
  refine sa rfl rfl ?_
  refine Wn ?_
  refine tN ?_
  refine W_no rfl (rfl) ?_
  refine W_rs ?_
  refine sm rfl rfl ?_
  refine st (X.nilChk rfl) rfl ?_
  refine st (X.fa fa88_4 rfl) rfl ?_
  refine st (X.ldL rfl hB Tryd.underlying4 rfl rfl) rfl ?_
  refine sb rfl rfl (fun h11 => ?_) (fun h11 => ?_)
  · first | replace h11 := of_decide_eq_true h11 | replace h11 := of_decide_eq_false (notT h11) | replace h11 := notT h11 | skip
    have hst1 := hst h11
    refine gY (g := 11) rfl rfl rfl ?_
    refine sm rfl rfl ?_
    refine gY (g := 11) rfl rfl rfl ?_
    refine st (X.nilChk rfl) rfl ?_
    refine gY (g := 11) rfl rfl rfl ?_
    refine st (X.fa fa88_5 rfl) rfl ?_
    refine gY (g := 11) rfl rfl rfl ?_
    refine st (X.ldL rfl hB Tryd.underlying3 rfl rfl) rfl ?_
    refine gY (g := 11) rfl rfl rfl ?_
    refine st (X.eql rfl rfl) rfl ?_
    refine st (X.pickT rfl rfl) rfl ?_
    refine sa rfl rfl ?_
    refine Wn ?_
    refine tN ?_
    refine W_if rfl (fun h6 => ?_) (fun h6 => ?_)
    · first | replace h6 := of_decide_eq_true h6 | replace h6 := of_decide_eq_false (notT h6) | replace h6 := notT h6 | skip
      exact absurd ⟨h11, h6⟩ hl
    · first | replace h6 := of_decide_eq_false h6 | replace h6 := of_decide_eq_true (notF h6) | replace h6 := notF h6 | skip
      refine W_rs ?_
      refine sm rfl rfl ?_
      refine st (X.nilChk rfl) rfl ?_
      refine st (X.fa fa88_4 rfl) rfl ?_
      refine st (X.ldL rfl hB Tryd.underlying4 rfl rfl) rfl ?_
      refine sa rfl rfl ?_
      refine Wn ?_
      refine tN ?_
      refine W_yes rfl (h11) ?_
      refine W_reg ?_
      refine sm rfl rfl ?_
      refine st (X.nilChk rfl) rfl ?_
      refine st (X.fa fa88_5 rfl) rfl ?_
      refine st (X.ldL rfl hB Tryd.underlying3 rfl rfl) rfl ?_
      refine st (X.sub64 rfl rfl (by omega)) rfl ?_
      refine st (X.nilChk rfl) rfl ?_
      refine st (X.fa fa88_5 rfl) rfl ?_
      refine ssB rfl rfl hB siz3 rfl (by first | decide | simp) (fun w1 hB_ hc_ => ?_)
      replace hB := hB_
      clear hB_
      replace hcw := hcw.next hc_ (fun i_ hi_ => by first | exact .inl hi_ | (right; subst hi_; omega))
      have hz_w1 := hc_.size
      clear hc_
      refine Wn ?_
      refine bN ?_
      refine tN ?_
      refine W_rs ?_
      refine sa rfl rfl ?_
      refine Wn ?_
      refine tN ?_
      refine W_ret ?_
      refine (rT rfl rfl ⟨rfl, ?_, hcw⟩).1
      rw [if_pos h11]
      exact h.self hcw hB rfl
  · first | replace h11 := of_decide_eq_false h11 | replace h11 := of_decide_eq_true (notF h11) | replace h11 := notF h11 | skip
    refine gN (g := 11) rfl rfl rfl rfl ?_
    refine gN (g := 11) rfl rfl rfl rfl ?_
    refine gN (g := 11) rfl rfl rfl rfl ?_
    refine gN (g := 11) rfl rfl rfl rfl ?_
    refine gN (g := 11) rfl rfl rfl rfl ?_
    refine st (X.pickF rfl rfl) rfl ?_
    refine sa rfl rfl ?_
    refine Wn ?_
    refine tN ?_
    refine W_no rfl (rfl) ?_
    refine W_rs ?_
    refine sm rfl rfl ?_
    refine st (X.nilChk rfl) rfl ?_
    refine st (X.fa fa88_4 rfl) rfl ?_
    refine st (X.ldL rfl hB Tryd.underlying4 rfl rfl) rfl ?_
    refine sa rfl rfl ?_
    refine Wn ?_
    refine tN ?_
    refine W_no rfl (h11) ?_
    refine W_skip ?_
    refine bN ?_
    refine tN ?_
    refine W_rs ?_
    refine sa rfl rfl ?_
    refine Wn ?_
    refine tN ?_
    refine W_ret ?_
    refine (rT rfl rfl ⟨rfl, ?_, hcw⟩).1
    rw [if_neg (by rw [h11]; decide)]
    exact h.self hcw hB rfl
theorem ready_dead (g b : Nat) (D : DiskD) (w : World) (hB : Blk w g 88 (diskCells b D)) (hl : D.stops = true ∧ D.left = 0) :
    Calls Tryd.prog 55 #[.pointer (some ⟨g, 0, none⟩)] w fun e w' => e = .returned (.int .i64 19) ∧ Below w.heap.size w w' := by
  have hB : Blk w g 88 #[.map (some b), .int .i64 D.limit, .int .i64 D.used, .int .i64 D.refused, .bool D.stops, .int .i64 D.left] := hB
  refine W_enter (args := [.pointer (some ⟨g, 0, none⟩)]) 30 Tryd.func55 rfl rfl rfl ?_
  refine W_sub [(0, .pointer (some ⟨g, 0, none⟩))] ?_ ⟨rfl, trivial⟩
  have hbw := Below.refl w.heap.size w
  refine W_rs ?_
  refine sa rfl rfl ?_
  refine Wn ?_
  refine tN ?_
  refine W_seq ?_
  refine W_block ?_
  refine W_rs ?_
  refine sm rfl rfl ?_
  refine st (X.dEq rfl) rfl ?_
  refine sa rfl rfl ?_
  refine Wn ?_
  refine tN ?_
  refine W_no rfl (rfl) ?_
  refine W_rs ?_
  refine sm rfl rfl ?_
  refine st (X.nilChk rfl) rfl ?_
  refine st (X.fa fa88_4 rfl) rfl ?_
  refine st (X.ldL rfl hB Tryd.underlying4 rfl rfl) rfl ?_
  refine sbY rfl (hl.1) rfl ?_
  refine gY (g := 11) rfl rfl rfl ?_
  refine sm rfl rfl ?_
  refine gY (g := 11) rfl rfl rfl ?_
  refine st (X.nilChk rfl) rfl ?_
  refine gY (g := 11) rfl rfl rfl ?_
  refine st (X.fa fa88_5 rfl) rfl ?_
  refine gY (g := 11) rfl rfl rfl ?_
  refine st (X.ldL rfl hB Tryd.underlying3 rfl rfl) rfl ?_
  refine gY (g := 11) rfl rfl rfl ?_
  refine st (X.eql rfl rfl) rfl ?_
  refine st (X.pickT rfl rfl) rfl ?_
  refine sa rfl rfl ?_
  refine Wn ?_
  refine tN ?_
  refine W_yes rfl (decide_eq_true hl.2) ?_
  refine W_rs ?_
  refine sa rfl rfl ?_
  refine Wn ?_
  refine tN ?_
  refine W_ret (bR (tR ?_))
  exact (rT rfl rfl ⟨rfl, hbw⟩).1
theorem ready_nil (w : World) : Calls Tryd.prog 55 #[.pointer none] w fun e w' => e = .returned (.int .i64 2) ∧ Below w.heap.size w w' := by
  refine W_enter (args := [.pointer none]) 30 Tryd.func55 rfl rfl rfl ?_
  refine W_sub [(0, .pointer none)] ?_ ⟨rfl, trivial⟩
  have hbw := Below.refl w.heap.size w
  refine W_rs ?_
  refine sa rfl rfl ?_
  refine Wn ?_
  refine tN ?_
  refine W_seq ?_
  refine W_block ?_
  refine W_rs ?_
  refine sm rfl rfl ?_
  refine st (X.dEq rfl) rfl ?_
  refine sa rfl rfl ?_
  refine Wn ?_
  refine tN ?_
  refine W_yes rfl (rfl) ?_
  refine W_rs ?_
  refine sa rfl rfl ?_
  refine Wn ?_
  refine tN ?_
  refine W_ret (bR (tR ?_))
  exact (rT rfl rfl ⟨rfl, hbw⟩).1
theorem zptr (w : World) : (zeroValue 91).run Tryd.prog w = .ok (.pointer none) w := by kernel_rfl
theorem find_some (g b : Nat) (D : DiskD) (rs : List (Key × FRec)) (S : Nat → Prop) (n : Key) (r : FRec) (w : World) (h : DiskIn w g b D rs S) (hr : mget rs n = some r) :
    Calls Tryd.prog 57 #[.pointer (some ⟨g, 0, none⟩), str n] w fun e w' => e = .returned (.tuple #[.pointer (some ⟨r.blk, 0, none⟩), .int .i64 0]) ∧ Below w.heap.size w w' := by
  have hB : Blk w g 88 #[.map (some b), .int .i64 D.limit, .int .i64 D.used, .int .i64 D.refused, .bool D.stops, .int .i64 D.left] := h.blk
  have hM := h.map
  have hv : ((mget (rs.map fun p => (p.1, p.2.blk)) n).map encPtr).getD (.pointer none) = encPtr r.blk := by rw [mget_map, hr]; rfl
  refine W_enter (args := [.pointer (some ⟨g, 0, none⟩), str n]) 18 Tryd.func57 rfl rfl rfl ?_
  refine W_sub [(0, .pointer (some ⟨g, 0, none⟩)), (1, str n)] ?_ ⟨rfl, rfl, trivial⟩
  have hbw := Below.refl w.heap.size w
  refine W_rs ?_
  refine sa rfl rfl ?_
  refine sa rfl rfl ?_
  refine Wn ?_
  refine tN ?_
  refine W_seq ?_
  refine W_rs ?_
  refine sm rfl rfl ?_
  refine st (X.dEq rfl) rfl ?_
  refine Wn ?_
  refine tN ?_
  refine W_no rfl (rfl) ?_
  refine W_skip ?_
  refine tN ?_
  refine W_rs ?_
  refine sm rfl rfl ?_
  refine st (X.nilChk rfl) rfl ?_
  refine st (X.fa fa88_0 rfl) rfl ?_
  refine st (X.ldL rfl hB Tryd.underlying86 rfl rfl) rfl ?_
  refine sm rfl rfl ?_
  refine st (v := encPtr r.blk) (by rw [← hv]; exact X.look (keyStr Tryd.underlying9) rfl n rfl Tryd.underlying86 (zptr _) (hM.bel hbw)) rfl ?_
  refine sa rfl rfl ?_
  refine Wn ?_
  refine tN ?_
  refine W_seq ?_
  refine W_rs ?_
  refine sm rfl rfl ?_
  refine st (X.fEq rfl) rfl ?_
  refine Wn ?_
  refine tN ?_
  refine W_no rfl (rfl) ?_
  refine W_skip ?_
  refine tN ?_
  refine W_rs ?_
  refine sm rfl rfl ?_
  refine sa rfl rfl ?_
  refine sa rfl rfl ?_
  refine Wn ?_
  refine tN ?_
  refine W_ret ?_
  exact (rTT rfl rfl rfl ⟨rfl, hbw⟩).1
theorem find_none (g b : Nat) (D : DiskD) (rs : List (Key × FRec)) (S : Nat → Prop) (n : Key) (w : World) (h : DiskIn w g b D rs S) (hr : mget rs n = none) :
    Calls Tryd.prog 57 #[.pointer (some ⟨g, 0, none⟩), str n] w fun e w' => e = .returned (.tuple #[.pointer none, .int .i64 15]) ∧ Below w.heap.size w w' := by
  have hB : Blk w g 88 #[.map (some b), .int .i64 D.limit, .int .i64 D.used, .int .i64 D.refused, .bool D.stops, .int .i64 D.left] := h.blk
  have hM := h.map
  have hv : ((mget (rs.map fun p => (p.1, p.2.blk)) n).map encPtr).getD (.pointer none) = .pointer none := by rw [mget_map, hr]; rfl
  refine W_enter (args := [.pointer (some ⟨g, 0, none⟩), str n]) 18 Tryd.func57 rfl rfl rfl ?_
  refine W_sub [(0, .pointer (some ⟨g, 0, none⟩)), (1, str n)] ?_ ⟨rfl, rfl, trivial⟩
  have hbw := Below.refl w.heap.size w
  refine W_rs ?_
  refine sa rfl rfl ?_
  refine sa rfl rfl ?_
  refine Wn ?_
  refine tN ?_
  refine W_seq ?_
  refine W_rs ?_
  refine sm rfl rfl ?_
  refine st (X.dEq rfl) rfl ?_
  refine Wn ?_
  refine tN ?_
  refine W_no rfl (rfl) ?_
  refine W_skip ?_
  refine tN ?_
  refine W_rs ?_
  refine sm rfl rfl ?_
  refine st (X.nilChk rfl) rfl ?_
  refine st (X.fa fa88_0 rfl) rfl ?_
  refine st (X.ldL rfl hB Tryd.underlying86 rfl rfl) rfl ?_
  refine sm rfl rfl ?_
  refine st (v := .pointer none) (by rw [← hv]; exact X.look (keyStr Tryd.underlying9) rfl n rfl Tryd.underlying86 (zptr _) (hM.bel hbw)) rfl ?_
  refine sa rfl rfl ?_
  refine Wn ?_
  refine tN ?_
  refine W_seq ?_
  refine W_rs ?_
  refine sm rfl rfl ?_
  refine st (X.fEq rfl) rfl ?_
  refine Wn ?_
  refine tN ?_
  refine W_yes rfl (rfl) ?_
  refine W_rs ?_
  refine sa rfl rfl ?_
  refine sa rfl rfl ?_
  refine Wn ?_
  refine tN ?_
  refine W_ret (tR ?_)
  exact (rTT rfl rfl rfl ⟨rfl, hbw⟩).1
theorem find_nil (n : Key) (w : World) : Calls Tryd.prog 57 #[.pointer none, str n] w fun e w' => e = .returned (.tuple #[.pointer none, .int .i64 2]) ∧ Below w.heap.size w w' := by
  refine W_enter (args := [.pointer none, str n]) 18 Tryd.func57 rfl rfl rfl ?_
  refine W_sub [(0, .pointer none), (1, str n)] ?_ ⟨rfl, rfl, trivial⟩
  have hbw := Below.refl w.heap.size w
  refine W_rs ?_
  refine sa rfl rfl ?_
  refine sa rfl rfl ?_
  refine Wn ?_
  refine tN ?_
  refine W_seq ?_
  refine W_rs ?_
  refine sm rfl rfl ?_
  refine st (X.dEq rfl) rfl ?_
  refine Wn ?_
  refine tN ?_
  refine W_yes rfl (rfl) ?_
  refine W_rs ?_
  refine sa rfl rfl ?_
  refine sa rfl rfl ?_
  refine Wn ?_
  refine tN ?_
  refine W_ret (tR ?_)
  exact (rTT rfl rfl rfl ⟨rfl, hbw⟩).1
end Go.Proofs.YtnijmegalgoipaaDoor
