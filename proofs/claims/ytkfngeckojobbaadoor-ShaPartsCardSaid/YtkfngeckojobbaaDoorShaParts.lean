/- ShaParts: the law's walk. -/
import Derived.Test.YtkfngeckojobbaaDoorShaAwake
import Derived.Test.YtkfngeckojobbaaDoorSumVal
import Derived.Test.YtkfngeckojobbaaDoorStrsVal
import Derived.Test.YtkfngeckojobbaaDoorShaTaken
import Derived.Test.YtkfngeckojobbaaDoorWords2
namespace Go.Proofs.YtkfngeckojobbaaDoor
open Go.RowKit Sha
set_option maxHeartbeats 1000000 in
theorem ShaParts_walk (w : World) (v : Value) (n : Nat) (ss : List ByteArray) (hR : Reads w 1 v n (ss.map Value.string)) (hs : ∀ s ∈ ss, s.size ≤ maxLen) (hT : ShaTabs w) :
    Calls Tryd.prog 5 #[v] w fun e w' => e = .returned (.bool true) ∧ Below w.heap.size w w' := by
  have HT := Lib.hid hT; clear hT
  have hn := hR.nle
  have hlen : ss.length = n := by have := hR.1; simpa using this
  obtain ⟨_, a, cap, rfl, hnc, hcm, hcells⟩ := hR
  have Hcells := Lib.hid hcells; clear hcells
  have Hlen := Lib.hid hlen; clear hlen
  have Hs := Lib.hid hs; clear hs
  by_cases h40 : n ≤ 40
  · have t1 : decide ((40 : Int) < n) = false := by simp; omega
    go_enter Tryd.func5, Tryd.ntmps5
    go_wp2_with fail
    ((with_reducible refine (New_any _ HT.out).mono ?_); rintro e w1 ⟨b, rfl, hX1, hb1⟩)
    go_wp2_with fail
    go_loopg [2, 4, 5] n (fun g r sx i wr => ∃ (k : Nat) (X : ByteArray), g = n - k ∧ k ≤ n ∧ i = .int .i64 k ∧ sx = .string X ∧ r = .bool false ∧ X.size ≤ 300 * k ∧ Taken wr (fun j => w.heap.size ≤ j) b X.data.toList ∧ Chg (fun _ => False) w wr)
    case atStart => exact ⟨0, ⟨#[]⟩, rfl, by omega, rfl, rfl, rfl, by decide, hX1, Chg.of_below hb1 _⟩
    case round =>
      obtain ⟨k, X, rfl, hk, rfl, rfl, rfl, hX, hTk, hC⟩ := hrel
      have HTk := Lib.hid hTk; clear hTk
      have hT1 : ShaTabs wr := HT.out.chg hC noTab_none
      have HT1 := Lib.hid hT1; clear hT1
      by_cases hlt : k < n
      · obtain ⟨s, hs⟩ : ∃ s, ss[k]? = some s := ⟨ss[k]'(by rw [Hlen.out]; exact hlt), List.getElem?_eq_getElem _⟩
        obtain ⟨g, off, rfl, hg, hc⟩ := Hcells.out (by omega)
        have hck : wr.cell? ⟨g, off + k, none⟩ = some (.string s) := (hC.cell (p := ⟨g, off + k, none⟩) hg (fun f => f)).trans (hc k _ (by rw [List.getElem?_map, hs]; rfl))
        have hsm := Hs.out s (List.mem_of_getElem? hs)
        unfold maxLen at hsm
        clear hc hs
        by_cases h300 : s.size ≤ 300
        · have t2 : decide ((300 : Int) < s.size) = false := by simp; omega
          have hb1' : X.data.toList.length + s.size ≤ 4294960000 := by show X.size + _ ≤ _; omega
          have Hb1 := Lib.hid hb1'; clear hb1'
          go_wp2_with fail
          ((with_reducible refine (Write_taken _ b _ s wr HTk.out HT1.out (noTab_from HT.out (Nat.le_refl _)) Hb1.out).mono ?_); rintro e w2 ⟨rfl, hX2, hC2⟩)
          have hc2 : Chg (fun _ => False) w w2 := hC.next hC2 (fun i h => .inr h)
          have hT2 : ShaTabs w2 := HT.out.chg hc2 noTab_none
          have hX2' := hX2.mono (T := fun j => w.heap.size ≤ j) (fun j h => h.elim id (fun h => Nat.le_trans hC.size h))
          have HX2 := Lib.hid hX2'; clear hX2 hX2'
          have hck2 : w2.cell? ⟨g, off + k, none⟩ = some (.string s) := (hC2.cell (p := ⟨g, off + k, none⟩) (Nat.lt_of_lt_of_le hg hC.size) (by show ¬ _ ≤ g; omega)).trans hck
          have hb2 : (X.data.toList ++ s.data.toList).length ≤ 4294960000 := by rw [List.length_append]; exact Hb1.out
          have Hb2 := Lib.hid hb2; clear hb2
          have HT2 := Lib.hid hT2; clear hT2
          go_wp2_with fail
          ((with_reducible refine (Sum_taken _ b _ w2 HX2.out HT2.out Hb2.out).mono ?_); rintro e w3 ⟨rfl, hb3⟩)
          have hT3 : ShaTabs w3 := HT2.out.belowAll hb3
          have hsz : (X ++ s).size ≤ 4294960000 := by rw [app_size]; omega
          have Hsz := Lib.hid hsz; clear hsz
          go_wp2_with fail
          ((with_reducible refine (Of_any (X ++ s) _ hT3 Hsz.out).mono ?_); rintro e w4 ⟨rfl, hb4⟩)
          rw [app_toList]
          have heq := fun W => run_neq_sum (sha (X.data.toList ++ s.data.toList)) (sha (X.data.toList ++ s.data.toList)) (sha_length _) (sha_length _) W
          rw [show ((sha (X.data.toList ++ s.data.toList)) != (sha (X.data.toList ++ s.data.toList))) = false from by simp] at heq
          have hX4 : Taken w4 (fun j => w.heap.size ≤ j) b (X.data.toList ++ s.data.toList) := (HX2.out.belowAll hb3).belowAll hb4
          have HX4 := Lib.hid hX4; clear hX4
          have t3 : ((((X.data.toList ++ s.data.toList).length : Nat) : Int) != ((X ++ s).size : Int)) = false := by
            rw [bne_eq_false_iff_eq, app_size, List.length_append]; rfl
          have t4 : ((((X.data.toList ++ s.data.toList).length : Nat) : Int) != (X.size : Int) + (s.size : Int)) = false := by
            rw [bne_eq_false_iff_eq, List.length_append]; rfl
          generalize hlg : (X.data.toList ++ s.data.toList).length = lg at *
          have Hlg := Lib.hid hlg; clear hlg
          go_wp2_with fail
          have hL := Len_taken _ b _ w4 HX4.out
          rw [Hlg.out] at hL
          have HL := Lib.hid hL; clear hL
          ((with_reducible refine (HL.out).mono ?_); rintro e w5 ⟨rfl, rfl⟩)
          go_wp2_with fail
          go_roundg (n - (k + 1))
          case measure => omega
          case rel =>
            refine ⟨k + 1, X ++ s, rfl, by omega, by go_num, rfl, rfl, by rw [app_size]; omega, ?_, (hc2.then_below hb3).then_below hb4⟩
            rw [app_toList]
            exact HX4.out
        · have t2 : decide ((300 : Int) < s.size) = true := by simp; omega
          go_wp2_with fail
          ((with_reducible refine (awake_any _ HT1.out).mono ?_); rintro e w3 ⟨rfl, hb3⟩)
          go_wp2_with fail
          go_ret
          exact ⟨rfl, (hC.then_below hb3).belowAll⟩
      · have hl3 : X.data.toList.length ≤ 4294960000 := by show X.size ≤ _; omega
        have Hl3 := Lib.hid hl3; clear hl3
        go_wp2_with fail
        ((with_reducible refine (Sum_taken _ b _ wr HTk.out HT1.out Hl3.out).mono ?_); rintro e w3 ⟨rfl, hb3⟩)
        have hT3 : ShaTabs w3 := HT1.out.belowAll hb3
        go_wp2_with fail
        ((with_reducible refine (Of_any X _ hT3 (by omega)).mono ?_); rintro e w4 ⟨rfl, hb4⟩)
        have heq := fun W => run_eql_sum (sha X.data.toList) (sha X.data.toList) (sha_length _) (sha_length _) W
        rw [show ((sha X.data.toList) == (sha X.data.toList)) = true from by simp] at heq
        have hT4 := hT3.belowAll hb4
        go_wp2_with fail
        ((with_reducible refine (awake_any _ hT4).mono ?_); rintro e w5 ⟨rfl, hb5⟩)
        go_wp2_with fail
        go_ret
        exact ⟨rfl, (((hC.then_below hb3).then_below hb4).then_below hb5).belowAll⟩
  · have t1 : decide ((40 : Int) < n) = true := by simp; omega
    go_enter Tryd.func5, Tryd.ntmps5
    go_wp2_with fail
    ((with_reducible refine (New_any _ HT.out).mono ?_); rintro e w1 ⟨b, rfl, hX1, hb1⟩)
    go_wp2_with fail
    ((with_reducible refine (awake_any _ (HT.out.belowAll hb1)).mono ?_); rintro e w3 ⟨rfl, hb3⟩)
    go_wp2_with fail
    go_ret
    exact ⟨rfl, below_then hb1 hb3 (Nat.le_refl _)⟩
end Go.Proofs.YtkfngeckojobbaaDoor
