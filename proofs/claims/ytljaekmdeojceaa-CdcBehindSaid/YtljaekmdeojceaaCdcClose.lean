/- The chunk cutter: walks of Close, Waits, and the walks at a nil cutter. -/
import Derived.Test.YtljaekmdeojceaaCdcNew
namespace Go.Proofs.Ytljaekmdeojceaa
open Go.RowKit Cdc
def CloseIs (w : World) (S : Nat → Prop) (b : Nat) (left : List UInt8) (e : Ending) (w' : World) : Prop :=
  ∃ vo, e = .returned vo ∧ Row w' 9 1 vo (rest left).length ((rest left).map strv) ∧ (∀ k, vo.ownBlock = some k → w.heap.size ≤ k) ∧
    CutAt w' (More S w) b [] ∧ Chg S w w' ∧ KeepsIn w.heap.size w w'
set_option maxRecDepth 100000 in
theorem Close_any (b : Nat) (S : Nat → Prop) (left : List UInt8) (w : World) (hl : left.length < 1025) (hC : CutAt w S b left) :
    Calls Try.prog 17 #[.pointer (some ⟨b, 0, none⟩)] w (CloseIs w S b left) := by
  obtain ⟨cs, v, hB, hcs, hG, hc8, hR, hSb, hSr⟩ := hC
  have hc : w.cell? ⟨b, 258, none⟩ = some v := by rw [hB.cell, hc8]
  have hf := hB.frozen 258
  have hbl : b < w.heap.size := hB.lt
  have HG := Lib.hid hG; clear hG
  have HB := Lib.hid hB; clear hB
  have Hcs := Lib.hid hcs; clear hcs
  have Hc8 := Lib.hid hc8; clear hc8
  have HSb := Lib.hid hSb; clear hSb
  have HSr := Lib.hid hSr; clear hSr
  by_cases h0 : left = []
  · subst h0
    obtain ⟨a, cap, rfl, hcap1, hcap2⟩ := hR.shape
    have HR := Lib.hid hR; clear hR
    go_enter Try.func17, Try.ntmps17
    go_wp2
    go_ret
    exact ⟨_, rfl, Row.nil _ _ _, fun k hk => (by simp [Value.ownBlock] at hk), ⟨cs, _, HB.out, Hcs.out, HG.out, Hc8.out, HR.out, .inl HSb.out, fun k hk => .inl (HSr.out k hk)⟩, Chg.refl _ _, KeepsIn.refl _ _⟩
  · have hpos : 0 < left.length := List.length_pos_iff.2 h0
    obtain ⟨g1, o1, cap1, rfl, hob1, hcap1, hcap2, hcl1, hfr1⟩ := hR.form hpos
    clear hob1 hcl1 hfr1
    have HR := Lib.hid hR; clear hR
    have hcv := run_str_of_row w 43 9 5 _ _ left Try.underlying43 Try.underlying5 Try.underlying9 HR.out
    have hdec : ((left.length : Int) == 0) = false := by simp; omega
    have H0 := Lib.hid h0; clear h0
    have HB5 := Lib.hid (HB.out.alloc (.cells #[.string ⟨left.toArray⟩] 9))
    have hcom : (w.alloc (.cells #[.string ⟨left.toArray⟩] 9)).setCell ⟨b, 258, none⟩ (.slice (some ⟨g1, o1, none⟩) 0 cap1) = (w.setCell ⟨b, 258, none⟩ (.slice (some ⟨g1, o1, none⟩) 0 cap1)).alloc (.cells #[.string ⟨left.toArray⟩] 9) := World.setCell_alloc_past _ _ _ _ hbl
    have hB6 := HB5.out.set_ 258 (.slice (some ⟨g1, o1, none⟩) 0 cap1)
    rw [hcom] at hB6
    have Hcom := Lib.hid hcom; clear hcom
    have HB6 := Lib.hid hB6; clear hB6
    have HG6 := Lib.hid (HG.out.left (.slice (some ⟨g1, o1, none⟩) 0 cap1))
    go_enter Try.func17, Try.ntmps17
    go_wp2_with (go_at_call 24; (with_reducible refine (anew_any b 45 _ _ _ _ HB6.out HG6.out).mono ?_); rintro e w7 ⟨rfl, hB7, hC7⟩)
    go_ret
    rw [← Hcom.out] at hC7
    have HR5 : Hid (Row (w.alloc (.cells #[strv left] 9)) 9 1 (.slice (some ⟨w.heap.size, 0, none⟩) 1 1) 1 [strv left]) := Row.new w 9 1 1 #[strv left] (by simp [maxLen]) rfl
    obtain ⟨HR7, HA7, HC7, HK7⟩ := phaseD (w := w) (w2 := w) (S := S) (vo := .slice none 0 0) HB hB7 hC7 HR5 HB5 (HR.out.alloc _) ((Chg.refl _ w).alloc _) (fun k hk => by simp [Value.ownBlock] at hk) (Chg.refl S w) HG6 Hcs (.inl HSb.out) (fun k hk => .inl (HSr.out k hk))
    have hr : rest left = [left] := by unfold rest; rw [if_neg H0.out]
    refine ⟨_, rfl, ?_, fun k hk => ?_, HA7, HC7, HK7⟩
    · rw [hr]; exact HR7
    · simp [Value.ownBlock] at hk; omega
def WaitsIs (w : World) (n : Nat) (e : Ending) (w' : World) : Prop := e = .returned (.int .i64 n) ∧ w = w'
set_option maxRecDepth 100000 in
theorem Waits_any (b : Nat) (S : Nat → Prop) (left : List UInt8) (w : World) (hC : CutAt w S b left) :
    Calls Try.prog 19 #[.pointer (some ⟨b, 0, none⟩)] w (WaitsIs w left.length) := by
  obtain ⟨cs, v, hB, hcs, hG, hc8, hR, hSb, hSr⟩ := hC
  have hc : w.cell? ⟨b, 258, none⟩ = some v := by rw [hB.cell, hc8]
  obtain ⟨a, cap, rfl, hcap1, hcap2⟩ := hR.shape
  clear hB hcs hG hc8 hR hSb hSr
  go_enter Try.func19, Try.ntmps19
  go_wp2
  go_ret
  exact ⟨rfl, rfl⟩
set_option maxRecDepth 100000 in
theorem Waits_nil (w : World) : Calls Try.prog 19 #[.pointer none] w (WaitsIs w 0) := by
  go_enter Try.func19, Try.ntmps19
  go_wp2
  go_ret
  exact ⟨rfl, rfl⟩
def NilIs (w : World) (e : Ending) (w' : World) : Prop := e = .returned (.slice none 0 0) ∧ w = w'
set_option maxRecDepth 100000 in
theorem Close_nil (w : World) : Calls Try.prog 17 #[.pointer none] w (NilIs w) := by
  go_enter Try.func17, Try.ntmps17
  go_wp2
  go_ret
  exact ⟨rfl, rfl⟩
set_option maxRecDepth 100000 in
theorem Write_nil (s : ByteArray) (w : World) : Calls Try.prog 16 #[.pointer none, .string s] w (NilIs w) := by
  go_enter Try.func16, Try.ntmps16
  go_wp2
  go_step3
  go_wp2
  rw [Exit.noGoto_ret]
  go_ret
  exact ⟨rfl, rfl⟩
end Go.Proofs.Ytljaekmdeojceaa
