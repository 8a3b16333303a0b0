/- The document's cutting, plain: chunk by chunk from the front, and what is left. -/
import Derived.Test.YtljaekmdeojceaaCdcBehindPlain
namespace Go.Proofs.Ytljaekmdeojceaa.Cdc
theorem feed_cases (left s : List UInt8) (h : firstGo left s = left.length + s.length) : feed left s = ([], left ++ s) ∨ (feed left s = ([left ++ s], []) ∧ s ≠ []) := by
  induction s generalizing left with
  | nil => left; simp [feed]
  | cons b s ih =>
    simp only [firstGo, List.length_cons] at h
    by_cases he : ends (left ++ [b]) = true
    · rw [if_pos he] at h
      obtain rfl : s = [] := List.eq_nil_of_length_eq_zero (by omega)
      right
      simp [feed, he]
    · rw [if_neg he] at h
      have h2 := ih (left ++ [b]) (by simp only [List.length_append, List.length_cons, List.length_nil]; omega)
      simp only [feed, if_neg he]
      rcases h2 with h2 | h2
      · left; rw [h2]; simp
      · right; rw [h2.1]; simp
theorem chunks_all (s : List UInt8) (h0 : s ≠ []) (h : first s = s.length) : chunks s = [s] := by
  have := feed_cases [] s (by simpa [first] using h)
  unfold chunks
  rcases this with h2 | h2
  · rw [h2]; simp [rest, h0]
  · rw [h2.1]; simp [rest]
theorem chunks_next (s : List UInt8) (h0 : s ≠ []) : chunks s = s.take (first s) :: chunks (s.drop (first s)) := by
  rcases Nat.lt_or_ge (first s) s.length with h | h
  · have := chunks_behind s (s.drop (first s)) h
    rw [List.take_append_drop] at this
    exact this
  · have h1 : first s = s.length := Nat.le_antisymm (first_le s) h
    rw [chunks_all s h0 h1, h1, List.take_length, List.drop_length]
    simp [chunks, feed, rest]
theorem first_pos (s : List UInt8) (h0 : s ≠ []) : 0 < first s := by
  cases s with
  | nil => exact absurd rfl h0
  | cons b s =>
    unfold first
    simp only [firstGo]
    split
    · simp
    · have := firstGo_ge ([] ++ [b]) s
      simp at this
      exact this
theorem chunks_nil : chunks [] = [] := by simp [chunks, feed, rest]
/-- what has not ended, with a byte more, is one more -/
theorem firstGo_snoc (left s : List UInt8) (x : UInt8) (h : (feed left s).1 = []) : firstGo left (s ++ [x]) = left.length + s.length + 1 := by
  induction s generalizing left with
  | nil =>
    simp only [List.nil_append, firstGo]
    split <;> simp
  | cons b s ih =>
    simp only [feed] at h
    by_cases he : ends (left ++ [b]) = true
    · rw [if_pos he] at h; simp at h
    · rw [if_neg he] at h
      simp only [List.cons_append, firstGo, if_neg he]
      rw [ih _ h]
      simp
      omega
theorem feed_left_none (left s : List UInt8) (hl : feed [] left = ([], left)) : feed [] (feed left s).2 = ([], (feed left s).2) := by
  induction s generalizing left with
  | nil => simpa [feed] using hl
  | cons b s ih =>
    simp only [feed]
    by_cases he : ends (left ++ [b]) = true
    · rw [if_pos he]
      exact ih [] (by simp [feed])
    · rw [if_neg he]
      refine ih (left ++ [b]) ?_
      rw [feed_snoc, hl]
      simp only
      rw [if_neg he]
theorem first_left (s : List UInt8) (x : UInt8) : first ((feed [] s).2 ++ [x]) = (feed [] s).2.length + 1 := by
  have := feed_left_none [] s (by simp [feed])
  have h := firstGo_snoc [] (feed [] s).2 x (by rw [this])
  unfold first
  rw [h]
  simp
/-- a chunk that has ended is as long with a byte more -/
theorem feed_chunk (left s c : List UInt8) (hl : feed [] left = ([], left)) (hc : c ∈ (feed left s).1) : feed [] c = ([c], []) := by
  induction s generalizing left with
  | nil => simp [feed] at hc
  | cons b s ih =>
    simp only [feed] at hc
    by_cases he : ends (left ++ [b]) = true
    · rw [if_pos he] at hc
      simp only [List.mem_cons] at hc
      rcases hc with rfl | hc
      · rw [feed_snoc, hl]
        simp only
        rw [if_pos he]
        simp
      · exact ih [] (by simp [feed]) hc
    · rw [if_neg he] at hc
      refine ih (left ++ [b]) ?_ hc
      rw [feed_snoc, hl]
      simp only
      rw [if_neg he]
theorem first_chunk (s c : List UInt8) (x : UInt8) (hc : c ∈ (feed [] s).1) : first (c ++ [x]) = c.length := by
  have h := feed_chunk [] s c (by simp [feed]) hc
  have : (feed [] (c ++ [x])).1 = c :: (feed [] [x]).1 := by rw [feed_append, h]; simp
  exact firstGo_some [] _ _ _ this
/-- how many bytes are left, by the last chunk -/
def leftN (s : List UInt8) : Nat := (feed [] s).2.length
theorem chunks_last (s : List UInt8) (h : (feed [] s).2 ≠ []) : chunks s = (feed [] s).1 ++ [(feed [] s).2] := by
  unfold chunks rest
  rw [if_neg h]
theorem chunks_full (s : List UInt8) (h : (feed [] s).2 = []) : chunks s = (feed [] s).1 := by
  unfold chunks rest
  rw [if_pos h]; simp
end Go.Proofs.Ytljaekmdeojceaa.Cdc
