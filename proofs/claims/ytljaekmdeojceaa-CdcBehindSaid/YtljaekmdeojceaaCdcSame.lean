/- armariumref13.Same at equal lists. -/
import Derived.Test.YtljaekmdeojceaaCdcAwake
namespace Go.Proofs.Ytljaekmdeojceaa
open Go.RowKit Cdc
set_option maxHeartbeats 1000000 in
set_option maxRecDepth 100000 in
theorem Same_eq (va vb : Value) (ss : List (List UInt8)) (w : World) (ha : Reads w 1 va ss.length (ss.map strv)) (hb : Reads w 1 vb ss.length (ss.map strv)) :
    Calls Try.prog 10 #[va, vb] w (BoolIs w true) := by
  have hnl := ha.nle
  have HA := Lib.hid ha; have HB := Lib.hid hb
  obtain ⟨_, a1, c1, rfl, hca, hca', _⟩ := ha
  obtain ⟨_, b1, c2, rfl, hcb, hcb', _⟩ := hb
  have hne : ((ss.length : Int) != (ss.length : Int)) = false := by simp
  go_enter Try.func10, Try.ntmps10
  go_wp2_with fail
  go_loopg [5] ss.length (fun k i wr => ∃ j : Nat, j ≤ ss.length ∧ k = ss.length - j ∧ i = .int .i64 j ∧ Below w.heap.size w wr)
  case atStart => exact ⟨0, by omega, rfl, rfl, Below.refl _ _⟩
  case round =>
    obtain ⟨j, hj, rfl, rfl, hbr⟩ := hrel
    by_cases hlt : j < ss.length
    · obtain ⟨c, hc⟩ : ∃ c, ss[j]? = some c := ⟨_, List.getElem?_eq_getElem hlt⟩
      have hra := HA.out.belowAll hbr
      have hrb := HB.out.belowAll hbr
      obtain ⟨_, a1', c1', hva, _, _, ra⟩ := hra
      obtain ⟨_, b1', c2', hvb, _, _, rb⟩ := hrb
      injection hva with e1 _ e3
      injection hvb with e2 _ e4
      subst e3
      subst e1
      subst e4
      subst e2
      obtain ⟨g, o, rfl, _, hcl⟩ := ra (by omega)
      obtain ⟨g2, o2, rfl, _, hcl2⟩ := rb (by omega)
      have ca := hcl j (strv c) (by rw [List.getElem?_map, hc]; rfl)
      have cb := hcl2 j (strv c) (by rw [List.getElem?_map, hc]; rfl)
      clear ra rb hcl hcl2
      obtain ⟨z, hz⟩ : ∃ z : ByteArray, z = ⟨c.toArray⟩ := ⟨_, rfl⟩
      have hst : strv c = .string z := by rw [hz]; rfl
      rw [hst] at ca cb
      clear hst hz hc hne
      have jl : (j : Int) < (ss.length : Int) := by omega
      go_wp2_with fail
      go_quiet (fail)
      go_wp2_with fail
      go_roundg (ss.length - (j + 1))
      case measure => omega
      case rel => exact ⟨j + 1, by omega, rfl, by go_num, below_drewN hbr _⟩
    · obtain rfl : j = ss.length := by omega
      clear hne
      have hdec : decide ((ss.length : Int) < (ss.length : Int)) = false := by simp
      go_wp2_with fail
      go_ret
      exact ⟨rfl, hbr⟩
end Go.Proofs.Ytljaekmdeojceaa
