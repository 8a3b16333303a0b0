/- Manifest bytes one of which is another one. -/
import Derived.Test.YtnagmpnpgekhfaaDoorManFew
namespace Go.Proofs.YtnagmpnpgekhfaaDoor
open Go.RowKit
theorem decodeM_sum {s : List UInt8} {m : Man} (h : decodeM s = .ok m) : 17 ≤ s.length ∧ s.drop (s.length - 4) = four (Crc.crc (bodyOf s)).toNat := by
  unfold decodeM at h
  split at h
  · cases h
  · split at h
    · cases h
    · split at h
      · cases h
      · rename_i h1 _ h3
        exact ⟨by omega, Classical.not_not.1 h3⟩
theorem decodeM_err {s : List UInt8} {k : Int} (h : decodeM s = .error k) : k ≠ 0 := by
  unfold decodeM at h
  split at h
  · injection h with h; omega
  · split at h
    · injection h with h; omega
    · split at h
      · injection h with h; omega
      · split at h
        · injection h with h; omega
        · split at h
          · cases h
          · injection h with h; omega
theorem sealed_turned {body p q : List UInt8} {b c : UInt8} (hs : body ++ four (Crc.crc body).toNat = p ++ b :: q) (hne : b ≠ c) (m : Man) : decodeM (p ++ c :: q) ≠ .ok m := by
  intro h
  obtain ⟨hl, hd⟩ := decodeM_sum h
  have hlen := congrArg List.length hs
  simp only [List.length_append, four_length, List.length_cons] at hlen
  have hn : (p ++ c :: q).length = body.length + 4 := by simp; omega
  unfold bodyOf at hd
  rw [hn, Nat.add_sub_cancel] at hd
  have hb0 : body = (p ++ b :: q).take body.length := by rw [← hs, List.take_left']; rfl
  have hf0 : four (Crc.crc body).toNat = (p ++ b :: q).drop body.length := by rw [← hs, List.drop_left']; rfl
  by_cases hp : p.length < body.length
  · -- the body's byte
    obtain ⟨r, hr⟩ : ∃ r, body.length = p.length + (r + 1) := ⟨body.length - p.length - 1, by omega⟩
    have e1 : ∀ x : UInt8, (p ++ x :: q).take body.length = p ++ x :: q.take r := fun x => by
      rw [hr, List.take_length_add_append, List.take_succ_cons]
    have e2 : ∀ x : UInt8, (p ++ x :: q).drop body.length = q.drop r := fun x => by
      rw [hr, List.drop_append, List.drop_of_length_le (l := p) (by omega), List.nil_append, show p.length + (r + 1) - p.length = r + 1 by omega, List.drop_succ_cons]
    rw [e1, e2] at hd
    rw [e2] at hf0
    rw [e1] at hb0
    have hh : four (Crc.crc body).toNat = four (Crc.crc (p ++ c :: q.take r)).toNat := hf0.trans hd
    have := four_inj (Crc.crc body).toNat_lt (Crc.crc (p ++ c :: q.take r)).toNat_lt hh
    have := UInt32.toNat.inj this
    rw [hb0] at this
    exact hne (Crc.crc_turned _ _ this)
  · have e1 : ∀ x : UInt8, (p ++ x :: q).take body.length = p.take body.length := fun x => List.take_append_of_le_length (by omega)
    rw [e1] at hb0 hd
    rw [← hb0, hf0, List.drop_append_of_le_length (by omega), List.drop_append_of_le_length (by omega)] at hd
    have := List.append_cancel_left hd
    injection this with this
    exact hne this.symm
theorem xor_ne {b t : UInt8} (h : t ≠ 0) : b ≠ b ^^^ t := by
  intro he
  have : b ^^^ b = b ^^^ (b ^^^ t) := by rw [← he]
  rw [← UInt8.xor_assoc, UInt8.xor_self, UInt8.zero_xor] at this
  exact h this.symm
theorem encode_turned (m : Man) (i : Nat) (t : UInt8) (hi : i < (encode m).length) (ht : t ≠ 0) : ∃ k, k ≠ 0 ∧ decodeM ((encode m).take i ++ [(encode m).getD i 0 ^^^ t] ++ (encode m).drop (i + 1)) = .error k := by
  have hs : encBody m ++ four (Crc.crc (encBody m)).toNat = (encode m).take i ++ (encode m).getD i 0 :: (encode m).drop (i + 1) := by
    show encode m = _
    have hg : (encode m).getD i 0 = (encode m)[i] := by simp [List.getD, List.getElem?_eq_getElem hi]
    rw [hg, ← List.drop_eq_getElem_cons hi, List.take_append_drop]
  have := sealed_turned hs (xor_ne ht)
  rw [List.append_assoc, List.singleton_append]
  cases hd : decodeM ((encode m).take i ++ ((encode m).getD i 0 ^^^ t) :: (encode m).drop (i + 1)) with
  | ok m' => exact absurd hd (this m')
  | error k => exact ⟨k, decodeM_err hd, rfl⟩
/- ---------- how long encoded bytes are ---------- -/
theorem encode_few {m : Man} (hf : few m = true) (h32 : ∀ l ∈ m.strs, ∀ c ∈ l, c.sum.length = 32) : (encode m).length < 200000 := by
  have hf' : m.cols.length ≤ 40 ∧ m.strs.length ≤ 40 ∧ (∀ c ∈ m.cols, c.name.length ≤ 100) ∧ ∀ l ∈ m.strs, l.length ≤ 100 := of_decide_eq_true hf
  have h1 : ∀ p ∈ m.cols.zip m.strs, (colBytes p).length ≤ 4000 := fun p hp => by
    have h1 := (List.of_mem_zip hp).1
    have h2 := (List.of_mem_zip hp).2
    have hn := hf'.2.2.1 _ h1
    have hl := hf'.2.2.2 _ h2
    unfold colBytes
    have := flat_le chkBytes 36 p.2 (fun x hx => chk_le (h32 _ h2 x hx))
    simp only [List.length_append, List.length_cons, List.length_nil, four_length]
    omega
  have h2 := flat_le colBytes 4000 _ h1
  have h3 : (m.cols.zip m.strs).length ≤ 40 := by simp; omega
  have h4 := Nat.mul_le_mul_right 4000 h3
  unfold encode encBody
  have hhd : (encHead m).length = 13 := by simp [encHead, man1, four]
  simp only [List.length_append, four_length, hhd]
  omega
end Go.Proofs.YtnagmpnpgekhfaaDoor
