/- The chunk cutter's rolling number: walks of take and anew. -/
import Derived.Test.YtljaekmdeojceaaCdcGear2
namespace Go.Proofs.Ytljaekmdeojceaa
open Go.RowKit Cdc
/-- the first 258 cells: the table, the rolling number, the count -/
def Geared (cs : Array Value) (num : UInt64) (n : Nat) : Prop :=
  (∀ j, j < 256 → cs[j]? = some (u64v (gear j))) ∧ cs[256]? = some (u64v num) ∧ cs[257]? = some (.int .i64 n)
def takenCells (cs : Array Value) (num : UInt64) (n : Nat) : Array Value := (cs.setIfInBounds 256 (u64v num)).setIfInBounds 257 (.int .i64 n)
theorem Geared.taken {cs : Array Value} {num : UInt64} {n : Nat} (h : Geared cs num n) (num' : UInt64) (n' : Nat) : Geared (takenCells cs num' n') num' n' := by
  obtain ⟨h1, h2, h3⟩ := h
  have s1 : 257 < cs.size := (Array.getElem?_eq_some_iff.1 h3).1
  refine ⟨fun j hj => ?_, ?_, ?_⟩
  · unfold takenCells
    rw [Array.getElem?_setIfInBounds_ne (by omega), Array.getElem?_setIfInBounds_ne (by omega), h1 j hj]
  · unfold takenCells
    rw [Array.getElem?_setIfInBounds_ne (by omega), Array.getElem?_setIfInBounds_self_of_lt (by omega)]
  · unfold takenCells
    rw [Array.getElem?_setIfInBounds_self_of_lt (by rw [Array.size_setIfInBounds]; exact s1)]
def TakeIs (g : Nat) (t : TypeId) (cs : Array Value) (num : UInt64) (n : Nat) (w : World) (e : Ending) (w' : World) : Prop :=
  e = .returned (.bool (endsAt n num)) ∧ Blk w' g t (takenCells cs num n) ∧ Chg (fun k => k = g) w w'
theorem wshl_u64 (s : UInt64) : IntKind.u64.wrap ((s.toNat : Int) * 2) = ((s <<< 1).toNat : Int) := by
  rw [IntKind.wrap_u64]
  have h1 : (s <<< 1).toNat = s.toNat * 2 % 18446744073709551616 := by
    rw [UInt64.toNat_shiftLeft]
    simp [Nat.shiftLeft_eq]
  rw [h1]
  omega
theorem waddG_u64 (a b : UInt64) : IntKind.u64.wrap ((a.toNat : Int) + (b.toNat : Int)) = ((a + b).toNat : Int) := by
  rw [IntKind.wrap_u64]; exact add_u64 a b
theorem s54_u64 (s : UInt64) : (s.toNat : Int) / (18014398509481984 : Int) = ((s >>> 54).toNat : Int) := shr_u64 s 54 (by omega)
theorem s58_u64 (s : UInt64) : (s.toNat : Int) / (288230376151711744 : Int) = ((s >>> 58).toNat : Int) := shr_u64 s 58 (by omega)
theorem beq0_u64 (y : UInt64) : ((y.toNat : Int) == 0) = (y == 0) := by
  by_cases h : y = 0
  · subst h; rfl
  · have h1 : y.toNat ≠ 0 := fun e => h (UInt64.toNat_inj.1 (by simpa using e))
    have h2 : ((y.toNat : Int) == 0) = false := by simp; omega
    rw [h2]
    symm
    simpa using h
set_option maxRecDepth 100000 in
theorem take_any (g : Nat) (t : TypeId) (cs : Array Value) (num num' : UInt64) (n : Nat) (x : UInt8) (w : World) (hB : Blk w g t cs) (hG : Geared cs num n) (hn : n < 4611686018427387904) (hnum : roll1 num x = num') :
    Calls Try.prog 22 #[.pointer (some ⟨g, 0, none⟩), .int .u8 x.toNat] w (TakeIs g t cs num' (n + 1) w) := by
  have hx : x.toNat < 256 := x.toNat_lt
  have hxi : (x.toNat : Int) < 256 := by omega
  have ct : w.cell? ⟨g, x.toNat, none⟩ = some (.int .u64 (gear x.toNat).toNat) := by rw [hB.cell, hG.1 _ hx]; rfl
  have c6 : w.cell? ⟨g, 256, none⟩ = some (.int .u64 num.toNat) := by rw [hB.cell, hG.2.1]; rfl
  have c7 : w.cell? ⟨g, 257, none⟩ = some (.int .i64 n) := by rw [hB.cell, hG.2.2]
  have f6 := hB.frozen 256
  have f7 := hB.frozen 257
  have HB := Lib.hid hB; clear hB
  unfold roll1 at hnum
  generalize gear x.toNat = gx at *
  have hs := lt_u64 num
  have e1 := wshl_u64 num
  generalize num <<< 1 = nm at *
  have e2 := waddG_u64 nm gx
  rw [hnum] at e2
  have Hnum := Lib.hid hnum; clear hnum
  have hl' := lt_u64 num'
  have hr : Hid (∀ m : Nat, Blk ((w.setCell ⟨g, 256, none⟩ (.int .u64 num'.toNat)).drew.setCell ⟨g, 257, none⟩ (.int .i64 m)) g t (takenCells cs num' m) ∧ Chg (fun k => k = g) w ((w.setCell ⟨g, 256, none⟩ (.int .u64 num'.toNat)).drew.setCell ⟨g, 257, none⟩ (.int .i64 m))) := by
    intro m
    exact ⟨(Blk.set_ (HB.out.set_ 256 _).drew 257 _), Chg.setCell (Chg.drew (Chg.setCell (Chg.refl (fun k => k = g) w) (p := ⟨g, 256, none⟩) (.inl rfl) _)) (p := ⟨g, 257, none⟩) (.inl rfl) _⟩
  have s1 : 257 < cs.size := (Array.getElem?_eq_some_iff.1 hG.2.2).1
  have hB2 := (HB.out.set_ 256 (.int .u64 num'.toNat)).drew
  have k7 : (w.setCell ⟨g, 256, none⟩ (.int .u64 num'.toNat)).drew.cell? ⟨g, 257, none⟩ = some (.int .i64 n) := by
    rw [hB2.cell, Array.getElem?_setIfInBounds_ne (by omega), hG.2.2]
  have g7 : (w.setCell ⟨g, 256, none⟩ (.int .u64 num'.toNat)).drew.frozen? ⟨g, 257, none⟩ = false := hB2.frozen 257
  have k6 : (w.setCell ⟨g, 256, none⟩ (.int .u64 num'.toNat)).drew.cell? ⟨g, 256, none⟩ = some (.int .u64 num'.toNat) := by
    rw [hB2.cell, Array.getElem?_setIfInBounds_self_of_lt (by omega)]
  clear hB2 hG s1
  have Hk := Lib.hid k7; clear k7
  have Hg := Lib.hid g7; clear g7
  have H6 := Lib.hid k6; clear k6
  by_cases h1 : n + 1 < 64
  · go_enter Try.func22, Try.ntmps22
    go_wp2
    go_region
    have k7 := Hk.out
    have g7 := Hg.out
    have k6 := H6.out
    clear e1 e2 hs hl' hx hxi ct c6 f6 c7 f7
    generalize (w.setCell ⟨g, 256, none⟩ (.int .u64 num'.toNat)).drew = w2 at *
    have d1 : decide ((n : Int) + 1 < 64) = true := by simp; omega
    go_wp2
    go_ret
    refine ⟨?_, hr.out (n + 1)⟩
    simp [endsAt, h1]
  · by_cases h2 : n + 1 < 256
    · go_enter Try.func22, Try.ntmps22
      go_wp2
      go_region
      have k7 := Hk.out
      have g7 := Hg.out
      have k6 := H6.out
      clear e1 e2 hs hl' hx hxi ct c6 f6 c7 f7
      generalize (w.setCell ⟨g, 256, none⟩ (.int .u64 num'.toNat)).drew = w2 at *
      have d1 : decide ((n : Int) + 1 < 64) = false := by simp; omega
      have d2 : decide ((n : Int) + 1 < 256) = true := by simp; omega
      go_wp2
      go_ret
      refine ⟨?_, hr.out (n + 1)⟩
      show Ending.returned (Value.bool ((num'.toNat : Int) / 18014398509481984 == 0)) = _
      rw [s54_u64, beq0_u64, endsAt, if_neg h1, if_pos h2]
    · by_cases h3 : n + 1 < 1024
      · go_enter Try.func22, Try.ntmps22
        go_wp2
        go_region
        have k7 := Hk.out
        have g7 := Hg.out
        have k6 := H6.out
        clear e1 e2 hs hl' hx hxi ct c6 f6 c7 f7
        generalize (w.setCell ⟨g, 256, none⟩ (.int .u64 num'.toNat)).drew = w2 at *
        have d1 : decide ((n : Int) + 1 < 64) = false := by simp; omega
        have d2 : decide ((n : Int) + 1 < 256) = false := by simp; omega
        have d3 : decide ((n : Int) + 1 < 1024) = true := by simp; omega
        go_wp2
        go_ret
        refine ⟨?_, hr.out (n + 1)⟩
        show Ending.returned (Value.bool ((num'.toNat : Int) / 288230376151711744 == 0)) = _
        rw [s58_u64, beq0_u64, endsAt, if_neg h1, if_neg h2, if_pos h3]
      · go_enter Try.func22, Try.ntmps22
        go_wp2
        go_region
        have k7 := Hk.out
        have g7 := Hg.out
        have k6 := H6.out
        clear e1 e2 hs hl' hx hxi ct c6 f6 c7 f7
        generalize (w.setCell ⟨g, 256, none⟩ (.int .u64 num'.toNat)).drew = w2 at *
        have d1 : decide ((n : Int) + 1 < 64) = false := by simp; omega
        have d2 : decide ((n : Int) + 1 < 256) = false := by simp; omega
        have d3 : decide ((n : Int) + 1 < 1024) = false := by simp; omega
        go_wp2
        go_ret
        refine ⟨?_, hr.out (n + 1)⟩
        simp [endsAt, h1, h2, h3]
set_option maxRecDepth 100000 in
theorem anew_any (g : Nat) (t : TypeId) (cs : Array Value) (num : UInt64) (n : Nat) (w : World) (hB : Blk w g t cs) (hG : Geared cs num n) :
    Calls Try.prog 24 #[.pointer (some ⟨g, 0, none⟩)] w (fun e w' => e = .returned (.tuple #[]) ∧ Blk w' g t (takenCells cs 0 0) ∧ Chg (fun k => k = g) w w') := by
  have c6 : w.cell? ⟨g, 256, none⟩ = some (.int .u64 num.toNat) := by rw [hB.cell, hG.2.1]; rfl
  have c7 : w.cell? ⟨g, 257, none⟩ = some (.int .i64 n) := by rw [hB.cell, hG.2.2]
  have f6 := hB.frozen 256
  have f7 := hB.frozen 257
  have hr : Hid (Blk ((w.setCell ⟨g, 256, none⟩ (.int .u64 0)).setCell ⟨g, 257, none⟩ (.int .i64 0)) g t (takenCells cs 0 0) ∧ Chg (fun k => k = g) w ((w.setCell ⟨g, 256, none⟩ (.int .u64 0)).setCell ⟨g, 257, none⟩ (.int .i64 0))) := by
    exact ⟨(Blk.set_ (hB.set_ 256 _) 257 _), Chg.setCell ((Chg.setCell (Chg.refl (fun k => k = g) w) (p := ⟨g, 256, none⟩) (.inl rfl) _)) (p := ⟨g, 257, none⟩) (.inl rfl) _⟩
  clear hB hG
  go_enter Try.func24, Try.ntmps24
  go_wp2
  go_end0
  exact ⟨rfl, hr.out⟩
def TakeTo (g : Nat) (t : TypeId) (cs : Array Value) (num : UInt64) (n : Nat) (be : Bool) (w : World) (e : Ending) (w' : World) : Prop :=
  e = .returned (.bool be) ∧ Blk w' g t (takenCells cs num n) ∧ Chg (fun k => k = g) w w'
theorem take_to (g : Nat) (t : TypeId) (cs : Array Value) (num num' : UInt64) (n n' : Nat) (x : UInt8) (be : Bool) (w : World) (hB : Blk w g t cs) (hG : Geared cs num n) (hn : n < 4611686018427387904) (hn' : n + 1 = n') (hnum : roll1 num x = num') (hbe : endsAt n' num' = be) :
    Calls Try.prog 22 #[.pointer (some ⟨g, 0, none⟩), .int .u8 x.toNat] w (TakeTo g t cs num' n' be w) := by
  subst hbe
  subst hn'
  exact take_any g t cs num num' n x w hB hG hn hnum
end Go.Proofs.Ytljaekmdeojceaa
