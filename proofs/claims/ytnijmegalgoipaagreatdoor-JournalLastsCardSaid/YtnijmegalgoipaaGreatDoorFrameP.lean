/- Frames, plain: what is sealed is read. -/
import Derived.Test.YtnijmegalgoipaaGreatDoorWire
namespace Go.Proofs.YtnijmegalgoipaaGreatDoor
set_option maxRecDepth 10000 in
theorem or128 (b : UInt8) : (b ||| 128).toNat = b.toNat % 128 + 128 := by
  have h : ∀ n : Fin 256, (n.val ||| 128) = n.val % 128 + 128 := by decide
  rw [UInt8.toNat_or]
  exact h ⟨b.toNat, b.toNat_lt⟩
theorem uvM_uvF : ∀ (f i x y : Nat) (r : List UInt8), y < 128 ^ (f + 1) → y < 128 ^ (9 - i) → i < 9 → (0 < i → 0 < y) → uvM i x (uvF (f + 1) y ++ r) = (x + y * 2 ^ (7 * i), i + (uvF (f + 1) y).length, 0) := by
  intro f
  induction f with
  | zero =>
    intro i x y r hy _ hi h0
    have hy' : y < 128 := by simpa using hy
    have hb : (UInt8.ofNat (y % 256)).toNat = y := by simp; omega
    rw [uvF_lt (by omega) hy', List.cons_append, List.nil_append, uvM, hb, if_neg (by omega), if_pos hy']
    rfl
  | succ f ih =>
    intro i x y r hy hy9 hi h0
    by_cases h8 : y < 128
    · have hb : (UInt8.ofNat (y % 256)).toNat = y := by simp; omega
      rw [uvF_lt (by omega) h8, List.cons_append, List.nil_append, uvM, hb, if_neg (by omega), if_pos h8]
      rfl
    · have hb : (UInt8.ofNat (y % 256)).toNat = y % 256 := by simp
      have hb2 : (UInt8.ofNat (y % 256) ||| 128).toNat = y % 128 + 128 := by rw [or128, hb]; omega
      have hi2 : i + 1 < 9 := by
        rcases Nat.lt_or_ge (i + 1) 9 with h | h
        · exact h
        · rw [show 9 - i = 1 by omega] at hy9
          omega
      have e9 : (128 : Nat) ^ (9 - i) = 128 ^ (9 - (i + 1)) * 128 := by rw [show 9 - i = (9 - (i + 1)) + 1 by omega, Nat.pow_succ]
      have ef : (128 : Nat) ^ (f + 1 + 1) = 128 ^ (f + 1) * 128 := by rw [Nat.pow_succ]
      have := ih (i + 1) (x + (y % 128 + 128 - 128) * 2 ^ (7 * i)) (y / 128) r (by rw [ef] at hy; omega) (by rw [e9] at hy9; omega) hi2 (fun _ => by omega)
      rw [uvF_ge (by omega) h8, Nat.add_sub_cancel, List.append_assoc, List.cons_append, List.nil_append, uvM, hb2, if_neg (by omega), if_neg (by omega), this]
      have ep : 2 ^ (7 * (i + 1)) = 128 * 2 ^ (7 * i) := by rw [show 7 * (i + 1) = 7 * i + 7 by omega, Nat.pow_add, Nat.mul_comm]
      have e1 : x + (y % 128 + 128 - 128) * 2 ^ (7 * i) + y / 128 * 2 ^ (7 * (i + 1)) = x + y * 2 ^ (7 * i) := by
        rw [ep, ← Nat.mul_assoc, Nat.add_sub_cancel, Nat.add_assoc, ← Nat.add_mul]
        congr 2
        omega
      rw [e1]
      have e2 : i + 1 + (uvF (f + 1) (y / 128)).length = i + ((UInt8.ofNat (y % 256) ||| 128) :: uvF (f + 1) (y / 128)).length := by rw [List.length_cons]; omega
      rw [e2]
      rfl
theorem uvM_uvB (y : Nat) (r : List UInt8) (hy : y < 128 ^ 9) : uvM 0 0 (uvB y ++ r) = (y, (uvB y).length, 0) := by
  have := uvM_uvF 9 0 0 y r (Nat.lt_of_lt_of_le hy (by decide)) hy (by decide) (by omega)
  simpa [uvB] using this
theorem sealM_eq {k : UInt8} {b : List UInt8} (hk : k ≠ 0) (hb : b.length ≤ 1048576) : sealM k b = ([k] ++ (uvB b.length ++ b)) ++ fixB (Crc.crc ([k] ++ (uvB b.length ++ b))).toNat 4 := by
  unfold sealM
  rw [if_neg (fun e => by rcases e with e | e; exact hk e; omega)]
theorem seal_length {k : UInt8} {b : List UInt8} (hk : k ≠ 0) (hb : b.length ≤ 1048576) : (sealM k b).length = 1 + (uvB b.length).length + b.length + 4 := by
  rw [sealM_eq hk hb]
  simp only [List.length_append, List.length_cons, List.length_nil, fixB_length]
  omega
/-- what is sealed is read, whatever is behind it -/
theorem nextM_seal {k : UInt8} {b : List UInt8} (t : List UInt8) (hk : k ≠ 0) (hb : b.length ≤ 1048576) : nextM (sealM k b ++ t) = (k, b, (sealM k b).length, 0) := by
  have hl := seal_length hk hb
  obtain ⟨u, hu⟩ : ∃ u, uvB b.length = u := ⟨_, rfl⟩
  obtain ⟨c, hc⟩ : ∃ c, Crc.crc ([k] ++ (u ++ b)) = c := ⟨_, rfl⟩
  have hcl := c.toNat_lt
  obtain ⟨s, hs⟩ : ∃ s, sealM k b ++ t = s := ⟨_, rfl⟩
  have hs1 : s = k :: (u ++ (b ++ (fixB c.toNat 4 ++ t))) := by
    rw [← hs, sealM_eq hk hb, hu, hc]
    simp
  have hsl : s.length = 1 + u.length + b.length + 4 + t.length := by
    rw [← hs, List.length_append, hl, hu]
  have hd1 : s.drop 1 = u ++ (b ++ (fixB c.toNat 4 ++ t)) := by rw [hs1]; rfl
  have hduv : uvM 0 0 (s.drop 1) = (b.length, u.length, 0) := by
    rw [hd1, ← hu]
    exact uvM_uvB _ _ (by omega)
  have huR : uvR s 1 0 = (b.length, 1 + u.length, 0) := by
    unfold uvR
    rw [hduv]
    simp
  have hdu : s.drop (1 + u.length) = b ++ (fixB c.toNat 4 ++ t) := by
    rw [← List.drop_drop, hd1, List.drop_left]
  have hT : textR s 1 1048576 = (b, 1 + u.length + b.length, 0) := by
    unfold textR takeM
    rw [huR]
    simp only [ne_eq, not_true_eq_false, if_false]
    rw [if_neg (by omega), if_neg (by omega), if_neg (by omega), hdu, List.take_left]
  have hdb : s.drop (1 + u.length + b.length) = fixB c.toNat 4 ++ t := by
    rw [← List.drop_drop, hdu, List.drop_left]
  have h4 : (s.drop (1 + u.length + b.length)).take 4 = fixB c.toNat 4 := by
    rw [hdb, List.take_append_of_le_length (by rw [fixB_length]; omega), List.take_of_length_le (by rw [fixB_length]; omega)]
  have htk : s.take (1 + u.length + b.length) = [k] ++ (u ++ b) := by
    have : s = ([k] ++ (u ++ b)) ++ (fixB c.toNat 4 ++ t) := by rw [hs1]; simp
    rw [this, List.take_append_of_le_length (by simp; omega), List.take_of_length_le (by simp; omega)]
  rw [hs, hl, hu]
  unfold nextM
  rw [if_neg (by rw [hs1]; simp), if_neg (by rw [hs1]; exact hk), hT]
  simp only [ne_eq, not_true_eq_false, if_false]
  rw [if_neg (by omega), h4, htk, hc, leN_fixB 4 c.toNat (by omega), if_neg (by simp), hs1]
  rfl
end Go.Proofs.YtnijmegalgoipaaGreatDoor
