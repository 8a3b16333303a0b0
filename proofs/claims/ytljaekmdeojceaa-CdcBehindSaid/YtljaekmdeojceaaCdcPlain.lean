/- Plain: cutting a stream into chunks. -/
import Derived.Below
namespace Go.Proofs.Ytljaekmdeojceaa.Cdc
def seed : UInt64 := 0x61726d617269756d
def stepC : UInt64 := 0x9e3779b97f4a7c15
def mix (x : UInt64) : UInt64 :=
  let y := (x ^^^ (x >>> 30)) * 0xbf58476d1ce4e5b9
  let z := (y ^^^ (y >>> 27)) * 0x94d049bb133111eb
  z ^^^ (z >>> 31)
/-- the seed behind i numbers -/
def seedAt (s : UInt64) : Nat → UInt64
  | 0 => s
  | i + 1 => seedAt s i + stepC
/-- the number of a byte -/
def gear (i : Nat) : UInt64 := mix (seedAt seed (i + 1))
def roll1 (h : UInt64) (b : UInt8) : UInt64 := (h <<< 1) + gear b.toNat
def roll (l : List UInt8) : UInt64 := l.foldl roll1 0
def endsAt (n : Nat) (h : UInt64) : Bool := if n < 64 then false else if n < 256 then h >>> 54 == 0 else if n < 1024 then h >>> 58 == 0 else true
/-- does a chunk of these bytes end? -/
def ends (l : List UInt8) : Bool := endsAt l.length (roll l)
def feed : List UInt8 → List UInt8 → List (List UInt8) × List UInt8
  | left, [] => ([], left)
  | left, b :: r => if ends (left ++ [b]) then ((left ++ [b]) :: (feed [] r).1, (feed [] r).2) else feed (left ++ [b]) r
def rest (l : List UInt8) : List (List UInt8) := if l = [] then [] else [l]
def chunks (s : List UInt8) : List (List UInt8) := (feed [] s).1 ++ rest (feed [] s).2
/-- how long the first chunk is, so many bytes ahead of it being in it -/
def firstGo : List UInt8 → List UInt8 → Nat
  | left, [] => left.length
  | left, b :: r => if ends (left ++ [b]) then left.length + 1 else firstGo (left ++ [b]) r
def first (s : List UInt8) : Nat := firstGo [] s

theorem roll_snoc (l : List UInt8) (b : UInt8) : roll (l ++ [b]) = roll1 (roll l) b := by simp [roll]
theorem feed_append (left a b : List UInt8) : feed left (a ++ b) = ((feed left a).1 ++ (feed (feed left a).2 b).1, (feed (feed left a).2 b).2) := by
  induction a generalizing left with
  | nil => simp [feed]
  | cons x a ih =>
    simp only [List.cons_append, feed]
    split
    · rw [ih]; simp
    · rw [ih]
theorem feed_join (left s : List UInt8) : (feed left s).1.flatten ++ (feed left s).2 = left ++ s := by
  induction s generalizing left with
  | nil => simp [feed]
  | cons b s ih =>
    simp only [feed]
    split
    · have := ih []
      simp only [List.flatten_cons, List.append_assoc, this]
      simp
    · rw [ih]; simp
theorem rest_join (l : List UInt8) : (rest l).flatten = l := by
  unfold rest
  split
  · rename_i h; simp [h]
  · simp
theorem chunks_join (s : List UInt8) : (chunks s).flatten = s := by
  unfold chunks
  rw [List.flatten_append, rest_join]
  simpa using feed_join [] s
theorem endsAt_ge (n : Nat) (h : UInt64) (e : endsAt n h = true) : 64 ≤ n := by
  unfold endsAt at e
  by_cases h1 : n < 64
  · simp [h1] at e
  · omega
theorem endsAt_max (n : Nat) (h : UInt64) (e : endsAt n h = false) : n < 1024 := by
  unfold endsAt at e
  by_cases h1 : n < 1024
  · exact h1
  · rw [if_neg (by omega), if_neg (by omega), if_neg h1] at e
    cases e
theorem feed_sizes (left s : List UInt8) (hl : left.length < 1024) : (∀ c ∈ (feed left s).1, 64 ≤ c.length ∧ c.length ≤ 1024) ∧ (feed left s).2.length < 1024 := by
  induction s generalizing left with
  | nil => simp [feed, hl]
  | cons b s ih =>
    simp only [feed]
    split
    · rename_i he
      have h1 := endsAt_ge _ _ he
      have := ih [] (by simp)
      refine ⟨fun c hc => ?_, this.2⟩
      simp only [List.mem_cons] at hc
      rcases hc with rfl | hc
      · exact ⟨h1, by simp; omega⟩
      · exact this.1 c hc
    · rename_i he
      exact ih _ (endsAt_max _ _ (by simpa [ends] using he))
theorem firstGo_none (left s : List UInt8) (h : (feed left s).1 = []) : firstGo left s = left.length + s.length := by
  induction s generalizing left with
  | nil => simp [firstGo]
  | cons b s ih =>
    simp only [firstGo, feed] at *
    split at h
    · simp at h
    · rename_i hn
      rw [if_neg hn, ih _ h]
      simp only [List.length_append, List.length_cons, List.length_nil]
      omega
theorem firstGo_some (left s c : List UInt8) (t : List (List UInt8)) (h : (feed left s).1 = c :: t) : firstGo left s = c.length := by
  induction s generalizing left with
  | nil => simp [feed] at h
  | cons b s ih =>
    simp only [firstGo, feed] at *
    split at h
    · rename_i hy
      rw [if_pos hy]
      simp only [List.cons.injEq] at h
      rw [← h.1]
      simp
    · rename_i hn
      rw [if_neg hn, ih _ h]
theorem feed_snoc (left a : List UInt8) (x : UInt8) : feed left (a ++ [x]) = if ends ((feed left a).2 ++ [x]) then ((feed left a).1 ++ [(feed left a).2 ++ [x]], []) else ((feed left a).1, (feed left a).2 ++ [x]) := by
  rw [feed_append]
  simp only [feed]
  split <;> simp
theorem feed_count (left s : List UInt8) : (feed left s).1.length ≤ s.length := by
  induction s generalizing left with
  | nil => simp [feed]
  | cons b s ih =>
    simp only [feed]
    split
    · have := ih []
      simp only [List.length_cons]
      omega
    · have := ih (left ++ [b])
      simp only [List.length_cons]
      omega
theorem feed_short (left s : List UInt8) (h : left.length + s.length < 64) : feed left s = ([], left ++ s) := by
  induction s generalizing left with
  | nil => simp [feed]
  | cons b s ih =>
    simp only [List.length_cons] at h
    have h1 : ends (left ++ [b]) = false := by
      unfold ends endsAt
      rw [if_pos (by simp; omega)]
    simp only [feed, h1]
    rw [ih (left ++ [b]) (by simp; omega)]
    simp
theorem chunks_short (s : List UInt8) (h0 : s ≠ []) (h : s.length < 64) : chunks s = [s] := by
  unfold chunks
  rw [feed_short [] s (by simpa using h)]
  simp [rest, h0]
theorem firstGo_between (left s : List UInt8) (h1 : left.length < 1024) (h : 1024 ≤ left.length + s.length) : 64 ≤ firstGo left s ∧ firstGo left s ≤ 1024 := by
  induction s generalizing left with
  | nil => simp at h; omega
  | cons b s ih =>
    simp only [List.length_cons] at h
    simp only [firstGo]
    split
    · rename_i he
      have := endsAt_ge _ _ he
      simp at this
      omega
    · rename_i he
      have h2 : ends (left ++ [b]) = false := by simpa using he
      have := endsAt_max _ _ h2
      exact ih (left ++ [b]) this (by simp; omega)
theorem first_between (s : List UInt8) (h : 1024 ≤ s.length) : 64 ≤ first s ∧ first s ≤ 1024 := firstGo_between [] s (by simp) (by simpa using h)
end Go.Proofs.Ytljaekmdeojceaa.Cdc
