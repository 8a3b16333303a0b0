/- Frames that are cut: plain. -/
import Derived.Test.YtnijmegalgoipaaGreatDoorJrnQ
namespace Go.Proofs.YtnijmegalgoipaaGreatDoor
theorem uvM_app : ∀ (l u : List UInt8) (i x : Nat), (uvM i x l).2.2 = 0 → uvM i x (l ++ u) = uvM i x l
  | [], _, _, _, h => by simp [uvM] at h
  | b :: l, u, i, x, h => by
    rw [List.cons_append]
    unfold uvM at h ⊢
    split
    · rfl
    · rename_i h1
      rw [if_neg h1] at h
      split
      · rfl
      · rename_i h2
        rw [if_neg h2] at h
        exact uvM_app l u _ _ h
theorem drop_app {s u : List UInt8} {a : Nat} (h : a ≤ s.length) : (s ++ u).drop a = s.drop a ++ u := by
  rw [List.drop_append, Nat.sub_eq_zero_of_le h, List.drop_zero]
theorem uvR_app {s : List UInt8} (u : List UInt8) {a : Nat} (ha : a ≤ s.length) (h : (uvR s a 0).2.2 = 0) : uvR (s ++ u) a 0 = uvR s a 0 := by
  have e0 : ¬ ((0 : Int) ≠ 0) := by simp
  have h1 : (uvM 0 0 (s.drop a)).2.2 = 0 := by
    refine Classical.byContradiction fun h1 => ?_
    unfold uvR at h
    rw [if_neg e0, if_neg h1] at h
    exact h1 h
  have h2 := uvM_app _ u _ _ h1
  unfold uvR
  rw [if_neg e0, if_neg e0, drop_app ha, h2]
theorem textR_app {s : List UInt8} (u : List UInt8) {a m : Nat} (ha : a ≤ s.length) (h : (textR s a m).2.2 = 0) : textR (s ++ u) a m = textR s a m := by
  have hat := uvR_at (s := s) (at_ := a) (e := 0) ha
  have h1 : (uvR s a 0).2.2 = 0 := by
    refine Classical.byContradiction fun h1 => ?_
    unfold textR at h
    rw [if_pos h1] at h
    exact h1 h
  have hu := uvR_app u ha h1
  unfold textR at h ⊢
  rw [hu]
  obtain ⟨⟨n, b, e⟩, hx⟩ : ∃ x, uvR s a 0 = x := ⟨_, rfl⟩
  rw [hx] at h h1 hat ⊢
  simp only at h h1 hat ⊢
  subst h1
  have e0 : ¬ ((0 : Int) ≠ 0) := by simp
  rw [if_neg e0] at h
  rw [if_neg e0, if_neg e0]
  by_cases h2 : m < n
  · rw [if_pos h2, if_pos h2]
  · rw [if_neg h2] at h
    rw [if_neg h2, if_neg h2]
    by_cases h3 : s.length - b < n
    · rw [if_pos h3] at h
      simp at h
    · rw [if_neg h3, if_neg (by rw [List.length_append]; omega)]
      unfold takeM
      rw [if_neg e0, if_neg e0, if_neg h3, if_neg (by rw [List.length_append]; omega), drop_app hat, List.take_append_of_le_length (by rw [List.length_drop]; omega)]
/-- what is read of bytes is read of longer ones -/
theorem nextM_app {s : List UInt8} (u : List UInt8) (h : (nextM s).2.2.2 = 0) : nextM (s ++ u) = nextM s := by
  unfold nextM at h
  split at h
  · simp at h
  rename_i h1
  split at h
  · simp at h
  rename_i h2
  split at h
  · rename_i h3; exact absurd h h3
  rename_i h3
  split at h
  · simp at h
  rename_i h4
  split at h
  · simp at h
  rename_i h5
  have hl : 1 ≤ s.length := by
    cases s with
    | nil => exact absurd rfl h1
    | cons x l => simp
  have h30 : (textR s 1 1048576).2.2 = 0 := by simpa using h3
  have ht := textR_at (s := s) (a := 1) (m := 1048576) hl
  have hh : (s ++ u).headD 0 = s.headD 0 := by
    cases s with
    | nil => exact absurd rfl h1
    | cons x l => rfl
  unfold nextM
  rw [if_neg h1, if_neg (by simp [h1]), hh, if_neg h2, if_neg h2, textR_app u hl h30, if_neg h3, if_neg h3, if_neg h4, if_neg (by rw [List.length_append]; omega), drop_app ht, List.take_append_of_le_length (by rw [List.length_drop]; omega), List.take_append_of_le_length (by omega), if_neg h5]
/-- a frame that is cut is none -/
theorem nextM_cut {k : UInt8} {b : List UInt8} {m : Nat} (hk : k ≠ 0) (hb : b.length ≤ 1048576) (hm : m < (sealM k b).length) : (nextM ((sealM k b).take m)).2.2.2 ≠ 0 := by
  intro h
  have h1 := nextM_app ((sealM k b).drop m) h
  rw [List.take_append_drop] at h1
  have h2 := nextM_seal (k := k) (b := b) [] hk hb
  rw [List.append_nil, h1] at h2
  have h3 := (nextM_len h).2
  rw [h2, List.length_take] at h3
  simp only at h3
  omega
end Go.Proofs.YtnijmegalgoipaaGreatDoor
