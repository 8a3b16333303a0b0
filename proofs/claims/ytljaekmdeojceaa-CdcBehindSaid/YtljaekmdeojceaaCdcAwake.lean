/- The law's own examples: walks of bytes and awake. -/
import Derived.Test.YtljaekmdeojceaaCdcFirst
import Derived.LoopTactic
namespace Go.Proofs.Ytljaekmdeojceaa
open Go.RowKit Cdc
def BytesIs (w : World) (n : Nat) (x : UInt8) (e : Ending) (w' : World) : Prop := e = .returned (.string ⟨(List.replicate n x).toArray⟩) ∧ Below w.heap.size w w'
set_option maxRecDepth 100000 in
theorem bytes_any (n : Nat) (x : UInt8) (w : World) (hn : n ≤ 1000000) : Calls Try.prog 20 #[.int .i64 n, .int .u8 x.toNat] w (BytesIs w n x) := by
  obtain ⟨i0, hi, hz0, hz1, hz2⟩ := info_parts info_u8
  go_enter Try.func20, Try.ntmps20
  go_wp2
  go_loopg [5] n (fun k v wr => ∃ j : Nat, j ≤ n ∧ k = n - j ∧ Row wr 5 1 v j ((List.replicate j x).map bv) ∧ (∀ k, v.ownBlock = some k → w.heap.size ≤ k) ∧ Chg (fun _ => False) w wr)
  case atStart => exact ⟨0, by omega, rfl, Row.new w 5 1 0 #[] (by simp [maxLen]) rfl, fun k hk => (by simp [Value.ownBlock] at hk; omega), (Chg.refl _ w).alloc _⟩
  case round =>
    obtain ⟨j, hj, rfl, hR, hnw, hC⟩ := hrel
    obtain ⟨a1, c1, rfl, hc1, hc2⟩ := hR.shape
    have HR := Lib.hid hR; clear hR
    by_cases hlt : j < n
    · have hdec : decide ((j : Int) < (n : Int)) = true := by simp; omega
      go_wp2_with (at_builtin; (refine wpList_append_row _ rfl (.tmp 11) (.tmp 13) 43 43 rfl 5 i0 _ 1 1 Try.underlying43 hi hz0 hz1 hz2 rfl (by omega) (.slice a1 j c1) j ((List.replicate j x).map bv) rfl (HR.out.alloc _) (.slice (some ⟨wr.heap.size, 0, none⟩) 1 1) 1 [bv x] rfl (Row.src (Row.new wr 5 1 1 #[bv x] (by simp [maxLen]) rfl) Try.underlying43 (bv_one [x])) (by simp only [maxLen]; omega) (by omega) ?_); intro v1 w1 hR1 hC1 hv1)
      go_roundg (n - (j + 1))
      case measure => omega
      case rel =>
        refine ⟨j + 1, by omega, rfl, ?_, fun k hk => ?_, ((hC.alloc _).next hC1 (fun k hk => .inr (hnw k hk)))⟩
        · rw [List.replicate_succ', List.map_append]
          exact hR1
        · rcases hv1 with h | h
          · exact hnw k (h.symm.trans hk)
          · rw [h] at hk; have := hC.size; simp at hk; omega
    · obtain rfl : j = n := by omega
      have hdec : decide ((j : Int) < (j : Int)) = false := by simp
      have hcv := run_str_of_row wr 43 9 5 _ _ _ Try.underlying43 Try.underlying5 Try.underlying9 HR.out
      go_wp2_with fail
      go_ret
      exact ⟨rfl, hC.belowAll⟩
def BoolIs (w : World) (b : Bool) (e : Ending) (w' : World) : Prop := e = .returned (.bool b) ∧ Below w.heap.size w w'
theorem chunks_nil : chunks [] = [] := rfl
set_option maxRecDepth 100000 in
theorem awake_any (w : World) : Calls Try.prog 9 #[] w (BoolIs w true) := by
  have hc63 : chunks (List.replicate 63 (97 : UInt8)) = [List.replicate 63 97] := chunks_short _ (by simp [List.replicate]) (by rw [List.length_replicate]; omega)
  obtain ⟨l63, hl63⟩ : ∃ l, l = List.replicate 63 (97 : UInt8) := ⟨_, rfl⟩
  obtain ⟨l2000, hl2000⟩ : ∃ l, l = List.replicate 2000 (97 : UInt8) := ⟨_, rfl⟩
  have hlen63 : l63.length = 63 := by rw [hl63, List.length_replicate]
  have hlen2000 : l2000.length = 2000 := by rw [hl2000, List.length_replicate]
  have hb := first_between l2000 (by omega)
  obtain ⟨n, hn⟩ : ∃ n, n = first l2000 := ⟨_, rfl⟩
  rw [← hn] at hb
  obtain ⟨hb1', hb2'⟩ := hb
  have hi1 : decide ((64 : Int) ≤ (n : Int)) = true := by simp; omega
  have hi2 : decide ((n : Int) ≤ 1024) = true := by simp; omega
  rw [← hl63] at hc63
  obtain ⟨s63, hs63⟩ : ∃ s : ByteArray, s = ⟨l63.toArray⟩ := ⟨_, rfl⟩
  obtain ⟨s2000, hs2000⟩ : ∃ s : ByteArray, s = ⟨l2000.toArray⟩ := ⟨_, rfl⟩
  have B63 : ∀ w, Calls Try.prog 20 #[.int .i64 63, .int .u8 97] w (fun e w' => e = .returned (.string s63) ∧ Below w.heap.size w w') := fun w => by
    rw [hs63, hl63]; exact bytes_any 63 97 w (by omega)
  have B2000 : ∀ w, Calls Try.prog 20 #[.int .i64 2000, .int .u8 97] w (fun e w' => e = .returned (.string s2000) ∧ Below w.heap.size w w') := fun w => by
    rw [hs2000, hl2000]; exact bytes_any 2000 97 w (by omega)
  have z63 : s63.size = 63 := by rw [hs63]; exact hlen63
  have C63 : ∀ w, Calls Try.prog 11 #[.string s63] w (StrsIs w [l63]) := fun w => by
    have := Cut_any s63 w (by omega)
    rw [show s63.data.toList = l63 by rw [hs63], hc63] at this
    exact this
  have F2000 : ∀ w, Calls Try.prog 13 #[.string s2000] w (IntIs w n) := fun w => by
    have := First_any s2000 w (by rw [hs2000, size_bytes]; omega)
    rw [show s2000.data.toList = l2000 by rw [hs2000], ← hn] at this
    exact this
  have C0 : ∀ w, Calls Try.prog 11 #[.string ⟨#[]⟩] w (StrsIs w []) := fun w => by
    have := Cut_any ⟨#[]⟩ w (by show 0 ≤ _; omega)
    exact this
  have hstr : strv l63 = .string s63 := by rw [hs63]; rfl
  clear hc63 hl63 hl2000 hn hs63 hs2000 hlen63 hlen2000
  have B63 := Lib.hid B63; have B2000 := Lib.hid B2000; have C63 := Lib.hid C63; have F2000 := Lib.hid F2000; have C0 := Lib.hid C0
  go_enter Try.func9, Try.ntmps9
  go_wp2_with (first
    | (go_at_call 20; first | ((with_reducible refine (B63.out _).mono ?_); rintro e w1 ⟨rfl, hb1⟩) | ((with_reducible refine (B2000.out _).mono ?_); rintro e w3 ⟨rfl, hb3⟩))
    | (go_at_call 11; first | ((with_reducible refine (C63.out _).mono ?_); rintro e w2 ⟨v2, rfl, hR2, hn2, hb2⟩) | ((with_reducible refine (C0.out _).mono ?_); rintro e w5 ⟨v5, rfl, hR5, hn5, hb5⟩; obtain ⟨a5, c5, rfl, hc5, hc5'⟩ := hR5.shape; have hRl := ((hR2.belowAll hb3).belowAll hb4).belowAll hb5; clear hn2 hR2; obtain ⟨g, o, cap, rfl, hob, hcp, hcp', hcl, hfr⟩ := hRl.form (by simp); have cc := hcl 0 (.string s63) (by rw [← hstr]; rfl); rw [Nat.add_zero] at cc; clear hcl hfr hRl hR5 hob))
    | (go_at_call 13; (with_reducible refine (F2000.out _).mono ?_); rintro e w4 ⟨rfl, hb4⟩))
  go_ret
  exact ⟨rfl, (((hb1.trans (hb2.mono hb1.size)).trans (hb3.mono (Nat.le_trans hb1.size hb2.size))).trans (hb4.mono (by have := hb1.size; have := hb2.size; have := hb3.size; omega))).trans (hb5.mono (by have := hb1.size; have := hb2.size; have := hb3.size; have := hb4.size; omega))⟩
end Go.Proofs.Ytljaekmdeojceaa
