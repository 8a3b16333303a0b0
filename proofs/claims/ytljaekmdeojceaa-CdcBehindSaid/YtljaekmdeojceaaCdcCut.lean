/- The chunk cutter: the walk of Cut. -/
import Derived.Test.YtljaekmdeojceaaCdcClose
namespace Go.Proofs.Ytljaekmdeojceaa
open Go.RowKit Cdc
/-- the answer is a new row of these strings -/
def StrsIs (w : World) (l : List (List UInt8)) (e : Ending) (w' : World) : Prop :=
  ∃ vo, e = .returned vo ∧ Row w' 9 1 vo l.length (l.map strv) ∧ (∀ k, vo.ownBlock = some k → w.heap.size ≤ k) ∧ Below w.heap.size w w'
theorem rest_length (l : List UInt8) : (rest l).length ≤ 1 := by
  unfold rest
  split <;> simp
set_option maxRecDepth 100000 in
theorem Cut_any (s : ByteArray) (w : World) (hs : s.size ≤ 1000000) : Calls Try.prog 11 #[.string s] w (StrsIs w (chunks s.data.toList)) := by
  obtain ⟨i1, hi1, hz3, hz4, hz5⟩ := info_parts info_str
  have hl0 : ([] : List UInt8).length < 1024 := by simp
  have hcn : (feed [] s.data.toList).1.length ≤ 1000000 := Nat.le_trans (feed_count [] s.data.toList) hs
  have hrl := rest_length (feed [] s.data.toList).2
  have hlf : (feed [] s.data.toList).2.length < 1025 := Nat.lt_succ_of_lt (feed_sizes [] s.data.toList hl0).2
  go_enter Try.func11, Try.ntmps11
  go_wp2_with (first
    | (go_at_call 15; (with_reducible refine (New_any _).mono ?_); rintro e w1 ⟨b, rfl, hb, hA1, hb1⟩; have HA1 := Lib.hid hA1; clear hA1)
    | (go_at_call 16; (with_reducible refine (Write_any b (fun k => w.heap.size ≤ k) [] s _ hs hl0 HA1.out).mono ?_); rintro e w2 ⟨v2, rfl, hR2, hn2, hA2, hC2, hK2⟩; have HA2 := Lib.hid hA2; clear hA2; have HR2 := Lib.hid hR2; clear hR2)
    | (go_at_call 17; (with_reducible refine (Close_any b (More (fun k => w.heap.size ≤ k) w1) _ _ hlf HA2.out).mono ?_); rintro e w3 ⟨v3, rfl, hR3, hn3, hA3, hC3, hK3⟩; have HR3 := Lib.hid hR3; clear hR3; have HR2' := Lib.hid (HR2.out.keeps hK3 (by decide) (by decide)))
    | (at_builtin; (refine wpList_append_row _ rfl (.tmp 7) (.tmp 9) 24 24 rfl 9 i1 _ 1 16 Try.underlying24 hi1 hz3 hz4 hz5 rfl (by omega) v2 (feed [] s.data.toList).1.length ((feed [] s.data.toList).1.map strv) rfl HR2'.out v3 (rest (feed [] s.data.toList).2).length ((rest (feed [] s.data.toList).2).map strv) rfl (Row.src HR3.out Try.underlying24 (strv_one _)) (by simp only [maxLen]; omega) (by omega) ?_); intro v5 w5 hR5 hC5 hv5))
  go_ret
  refine ⟨v5, rfl, ?_, fun k hk => ?_, ?_⟩
  · rw [chunks, List.map_append, List.length_append]
    exact hR5
  · have := hb1.size
    have := hC2.size
    have := hC3.size
    rcases hv5 with h | h
    · have := hn2 k (h.symm.trans hk)
      omega
    · rw [h] at hk
      injection hk with hk
      omega
  · have h1 : Chg (fun k => w.heap.size ≤ k) w w1 := Chg.of_below hb1 _
    have h2 : Chg (fun k => w.heap.size ≤ k) w w2 := h1.next hC2 (fun i h => .inr h)
    have h3 : Chg (fun k => w.heap.size ≤ k) w w3 := h2.next hC3 (fun i h => .inr (by have := hb1.size; rcases h with h | h <;> omega))
    have h4 : Chg (fun k => w.heap.size ≤ k) w w5 := h3.next hC5 (fun i h => .inr (by have := hn2 i h; have := hb1.size; omega))
    exact h4.below (Nat.le_refl _) (fun k h => h)
end Go.Proofs.Ytljaekmdeojceaa
