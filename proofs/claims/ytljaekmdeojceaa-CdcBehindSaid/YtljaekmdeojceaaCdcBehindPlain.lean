/- The first chunk does not hang on what is behind it: plain laws. -/
import Derived.Test.YtljaekmdeojceaaCdcPlain
namespace Go.Proofs.Ytljaekmdeojceaa.Cdc
theorem firstGo_ge (left s : List UInt8) : left.length ≤ firstGo left s := by
  induction s generalizing left with
  | nil => simp [firstGo]
  | cons b s ih =>
    simp only [firstGo]
    split
    · omega
    · have := ih (left ++ [b])
      simp at this
      omega
theorem firstGo_le (left s : List UInt8) : firstGo left s ≤ left.length + s.length := by
  induction s generalizing left with
  | nil => simp [firstGo]
  | cons b s ih =>
    simp only [firstGo, List.length_cons]
    split
    · omega
    · have := ih (left ++ [b])
      simp at this
      omega
theorem first_le (s : List UInt8) : first s ≤ s.length := by
  have := firstGo_le [] s
  simpa [first] using this
theorem firstGo_take (left s : List UInt8) (h : firstGo left s < left.length + s.length) : feed left (s.take (firstGo left s - left.length)) = ([left ++ s.take (firstGo left s - left.length)], []) := by
  induction s generalizing left with
  | nil => simp [firstGo] at h
  | cons b s ih =>
    simp only [firstGo] at h ⊢
    by_cases he : ends (left ++ [b]) = true
    · rw [if_pos he]
      rw [show left.length + 1 - left.length = 1 by omega]
      simp [feed, he]
    · rw [if_neg he] at h ⊢
      have hge := firstGo_ge (left ++ [b]) s
      simp only [List.length_append, List.length_cons, List.length_nil] at hge h
      have h2 := ih (left ++ [b]) (by simp only [List.length_append, List.length_cons, List.length_nil]; omega)
      simp only [List.length_append, List.length_cons, List.length_nil] at h2
      rw [show firstGo (left ++ [b]) s - left.length = (firstGo (left ++ [b]) s - (left.length + (0 + 1))) + 1 by omega, List.take_succ_cons]
      simp only [feed]
      rw [if_neg he, h2]
      simp
theorem feed_first (a : List UInt8) (h : first a < a.length) : feed [] (a.take (first a)) = ([a.take (first a)], []) := by
  have := firstGo_take [] a (by simpa [first] using h)
  simpa [first] using this
theorem chunks_behind (a r : List UInt8) (h : first a < a.length) : chunks (a.take (first a) ++ r) = a.take (first a) :: chunks r := by
  unfold chunks
  rw [feed_append, feed_first a h]
  simp
theorem first_behind (a r : List UInt8) (h : first a < a.length) : first (a.take (first a) ++ r) = first a := by
  have h1 : (feed [] (a.take (first a) ++ r)).1 = a.take (first a) :: (feed [] r).1 := by
    rw [feed_append, feed_first a h]
    simp
  have := firstGo_some [] _ _ _ h1
  unfold first at this ⊢
  rw [this, List.length_take]
  unfold first at h
  omega
end Go.Proofs.Ytljaekmdeojceaa.Cdc
