/- What is encoded is decoded, and what is decoded is encoded as the same bytes. -/
import Derived.Test.YtnagmpnpgekhfaaDoorGen
import Derived.Test.YtnagmpnpgekhfaaDoorManTurnedPlain
namespace Go.Proofs.YtnagmpnpgekhfaaDoor
open Go.RowKit
/- chunks -/
/- columns -/
theorem kind_back (c : Col) (h1 : 1 ≤ c.kind) (h2 : c.kind ≤ 6) : ((kindByte c).toNat : Int) % 128 = c.kind ∧ decide ((128 : Int) ≤ ((kindByte c).toNat : Int)) = c.null := by
  have hb := byteI_toNat c.kind
  unfold kindByte
  cases hn : c.null
  · simp only [Bool.false_eq_true, if_false]
    refine ⟨by omega, by simp; omega⟩
  · simp only [if_true]
    have : (byteI c.kind + 128).toNat = ((byteI c.kind).toNat + 128) % 256 := by rw [UInt8.toNat_add]; rfl
    refine ⟨by omega, by simp; omega⟩
theorem kind_forth (k : UInt8) (nm : List UInt8) : kindByte ⟨nm, (k.toNat : Int) % 128, decide ((128 : Int) ≤ (k.toNat : Int))⟩ = k := by
  have hk := k.toNat_lt
  unfold kindByte
  have hb := byteI_toNat ((k.toNat : Int) % 128)
  by_cases h : (128 : Int) ≤ (k.toNat : Int)
  · simp only [h, decide_true, if_true]
    apply UInt8.toNat.inj
    rw [UInt8.toNat_add, show (128 : UInt8).toNat = 128 from rfl]
    omega
  · simp only [h, decide_false, Bool.false_eq_true, if_false]
    apply UInt8.toNat.inj
    omega
theorem strErr_lens {l : List Chk} (h : strErr l = 0) : ∀ c ∈ l, 0 ≤ c.len ∧ c.len < 4294967296 := by
  have hb : strBad l = false := by
    unfold strErr at h
    split at h
    · omega
    · split at h
      · omega
      · rename_i hb; simpa using hb
  clear h
  induction l with
  | nil => intro c hc; cases hc
  | cons x l ih =>
    unfold strBad at hb
    simp only [Bool.or_eq_false_iff] at hb
    intro c hc
    rcases List.mem_cons.1 hc with rfl | hc
    · have := hb.1
      unfold chkBad at this
      simp only [Bool.or_eq_false_iff, decide_eq_false_iff_not] at this
      omega
    · exact ih hb.2 c hc
theorem col_back (c : Col) (l : List Chk) (r : List UInt8) (hc : colOk c = true) (hl : strErr l = 0) (hs : ∀ x ∈ l, x.sum.length = 32) : colP (colBytes (c, l) ++ r) = some (c, l, r) := by
  obtain ⟨hn, hk1, hk2⟩ := colOk_name hc
  have hll := strErr_len hl
  have hcs : ∀ x ∈ l, x.sum.length = 32 ∧ 0 ≤ x.len ∧ x.len < 4294967296 := fun x hx => ⟨hs x hx, strErr_lens hl x hx⟩
  have e : colBytes (c, l) ++ r = kindByte c :: byteI c.name.length :: (c.name ++ (four l.length ++ (l.flatMap chkBytes ++ r))) := by
    simp [colBytes]
  have hm : (byteI (c.name.length : Int)).toNat = c.name.length := byteI_len _ (by omega)
  have hd : (c.name ++ (four l.length ++ (l.flatMap chkBytes ++ r))).drop c.name.length = four l.length ++ (l.flatMap chkBytes ++ r) := List.drop_left' rfl
  have hnum : num (four l.length ++ (l.flatMap chkBytes ++ r)) = l.length := by
    have := num_four l.length (l.flatMap chkBytes ++ r) (by omega) (by omega)
    omega
  have hfl : (l.flatMap chkBytes).length = l.length * 36 := flat_length chkBytes 36 l (fun a ha => by unfold chkBytes; rw [List.length_append, four_length, hs a ha])
  rw [e]
  simp only [colP]
  rw [hm, hd, hnum, drop_four, chks_back l r hcs, List.take_left' rfl]
  have e36 : (l.flatMap chkBytes ++ r).drop (36 * l.length) = r := List.drop_left' (by rw [hfl]; omega)
  rw [e36, if_pos (by simp), if_pos (by rw [List.length_append, four_length]; omega), if_pos (by rw [List.length_append, hfl]; omega)]
  obtain ⟨k1, k2⟩ := kind_back c hk1 hk2
  rw [k1, k2]
theorem cols_back : ∀ (cs : List Col) (ls : List (List Chk)), cs.length = ls.length → (∀ c ∈ cs, colOk c = true) → (∀ l ∈ ls, strErr l = 0) → (∀ l ∈ ls, ∀ x ∈ l, x.sum.length = 32) → colsP cs.length ((cs.zip ls).flatMap colBytes) = some (cs, ls, [])
  | [], [], _, _, _, _ => rfl
  | c :: cs, l :: ls, hl, h1, h2, h3 => by
    simp only [List.zip_cons_cons, List.flatMap_cons, List.length_cons, colsP]
    rw [col_back c l _ (h1 c (by simp)) (h2 l (by simp)) (h3 l (by simp))]
    simp only
    rw [cols_back cs ls (by simpa using hl) (fun c hc => h1 c (by simp [hc])) (fun l hl => h2 l (by simp [hl])) (fun l hl => h3 l (by simp [hl]))]
theorem col_forth {s : List UInt8} {c : Col} {l : List Chk} {q : List UInt8} (h : colP s = some (c, l, q)) : colBytes (c, l) ++ q = s := by
  match s, h with
  | [], h => cases h
  | [_], h => cases h
  | k :: m :: r, h =>
    simp only [colP] at h
    split at h
    · split at h
      · split at h
        · rename_i h1 h2 h3
          simp only [Option.some.injEq, Prod.mk.injEq] at h
          obtain ⟨rfl, rfl, rfl⟩ := h
          have e : ∀ (c : Col) (l : List Chk) (q : List UInt8), colBytes (c, l) ++ q = kindByte c :: byteI c.name.length :: (c.name ++ (four l.length ++ (l.flatMap chkBytes ++ q))) := fun c l q => by simp [colBytes]
          rw [e, kind_forth, chksOf_length, chks_forth _ _ (by omega)]
          rw [show ((num (r.drop m.toNat) : Nat) : Int) = (num (r.drop m.toNat) : Nat) from rfl, four_num _ h2]
          show k :: byteI ((r.take m.toNat).length : Int) :: (r.take m.toNat ++ r.drop m.toNat) = _
          rw [List.take_append_drop, List.length_take, Nat.min_eq_left h1, byteI_of]
        · cases h
      · cases h
    · cases h
theorem cols_forth : ∀ (n : Nat) (s : List UInt8) (cs : List Col) (ls : List (List Chk)) (q : List UInt8), colsP n s = some (cs, ls, q) → cs.length = n ∧ ls.length = n ∧ (cs.zip ls).flatMap colBytes ++ q = s
  | 0, s, cs, ls, q, h => by
    simp only [colsP, Option.some.injEq, Prod.mk.injEq] at h
    obtain ⟨rfl, rfl, rfl⟩ := h
    exact ⟨rfl, rfl, rfl⟩
  | n + 1, s, cs, ls, q, h => by
    unfold colsP at h
    split at h
    · cases h
    · rename_i c l q0 hc
      split at h
      · cases h
      · rename_i cs' ls' r hr
        simp only [Option.some.injEq, Prod.mk.injEq] at h
        obtain ⟨rfl, rfl, rfl⟩ := h
        obtain ⟨h1, h2, h3⟩ := cols_forth n q0 cs' ls' r hr
        refine ⟨by simp [h1], by simp [h2], ?_⟩
        rw [List.zip_cons_cons, List.flatMap_cons, List.append_assoc, h3, col_forth hc]
/- the whole -/
theorem bodyOf_seal (b : List UInt8) (n : Int) : bodyOf (b ++ four n) = b := by
  unfold bodyOf
  rw [List.length_append, four_length, Nat.add_sub_cancel, List.take_left' rfl]
theorem back {m : Man} (he : manErr colsOk m = 0) (hs : ∀ l ∈ m.strs, ∀ x ∈ l, x.sum.length = 32) : decodeM (encode m) = .ok m := by
  have ok := manOk he
  have o1 := ok.id1; have o2 := ok.id2; have o3 := ok.rows1; have o4 := ok.rows2; have o5 := ok.n1; have o6 := ok.n2; have o7 := ok.len
  have hb : encBody m = man1 ++ (four m.id ++ (four m.rows ++ (byteI m.cols.length :: (m.cols.zip m.strs).flatMap colBytes))) := by
    simp [encBody, encHead]
  have hlen : 13 ≤ (encBody m).length := by rw [hb]; simp [man1, four]
  have hparts : partsP ((encBody m).drop 4) = some m := by
    rw [hb, show (man1 ++ (four m.id ++ (four m.rows ++ (byteI m.cols.length :: (m.cols.zip m.strs).flatMap colBytes)))).drop 4 = four m.id ++ (four m.rows ++ (byteI m.cols.length :: (m.cols.zip m.strs).flatMap colBytes)) from rfl]
    unfold partsP
    rw [show (four m.id ++ (four m.rows ++ (byteI m.cols.length :: (m.cols.zip m.strs).flatMap colBytes))).getD 8 0 = byteI m.cols.length from rfl,
      show (four m.id ++ (four m.rows ++ (byteI m.cols.length :: (m.cols.zip m.strs).flatMap colBytes))).drop 9 = (m.cols.zip m.strs).flatMap colBytes from rfl,
      byteI_len _ (by omega), cols_back m.cols m.strs (by omega) ok.names ok.strs hs]
    simp only
    rw [num_four _ _ (by omega) (by omega), drop_four, num_four _ _ o3 (by omega)]
  unfold decodeM
  have hel : (encode m).length = (encBody m).length + 4 := by unfold encode; rw [List.length_append, four_length]
  rw [if_neg (by omega), if_neg (by
    have : (encode m).take 4 = man1 := by unfold encode; rw [hb]; rfl
    exact fun h => h this)]
  have hbo : bodyOf (encode m) = encBody m := bodyOf_seal _ _
  rw [hbo, if_neg (by
    have : (encode m).drop ((encode m).length - 4) = four (Crc.crc (encBody m)).toNat := by
      rw [hel, Nat.add_sub_cancel]; exact List.drop_left' rfl
    exact fun h => h this), hparts]
  simp only
  rw [if_pos he]
theorem forth {s : List UInt8} {m : Man} (h : decodeM s = .ok m) : manErr colsOk m = 0 ∧ encode m = s := by
  obtain ⟨hl, hd⟩ := decodeM_sum h
  unfold decodeM at h
  split at h
  · cases h
  · split at h
    · cases h
    · split at h
      · cases h
      · rename_i _ h4 _
        split at h
        · cases h
        · rename_i m' hp
          split at h
          · rename_i he
            injection h with h
            subst h
            refine ⟨he, ?_⟩
            have hbl : (bodyOf s).length = s.length - 4 := by unfold bodyOf; rw [List.length_take]; omega
            have hs : bodyOf s ++ s.drop (s.length - 4) = s := List.take_append_drop _ _
            have h4' : (bodyOf s).take 4 = man1 := by
              have : s.take 4 = man1 := Classical.not_not.1 h4
              unfold bodyOf
              rw [List.take_take, Nat.min_eq_left (by omega), this]
            have key : encBody m' = bodyOf s := by
              generalize hB : bodyOf s = B at *
              obtain ⟨r, hr⟩ : ∃ r, B = man1 ++ r := ⟨B.drop 4, by rw [← h4', List.take_append_drop]⟩
              have hdr : B.drop 4 = r := by rw [hr]; rfl
              rw [hdr] at hp
              have hrl : 9 ≤ r.length := by have := congrArg List.length hdr; rw [List.length_drop] at this; omega
              unfold partsP at hp
              split at hp
              · rename_i cs ls hc
                injection hp with hp
                subst hp
                obtain ⟨k1, k2, k3⟩ := cols_forth _ _ _ _ _ hc
                rw [List.append_nil] at k3
                rw [hr]
                show ((man1 ++ four (num r : Nat) ++ four (num (r.drop 4) : Nat)) ++ [byteI (cs.length : Int)]) ++ (cs.zip ls).flatMap colBytes = man1 ++ r
                rw [k3, k1, byteI_of]
                have e1 := four_num r (by omega)
                have e2 := four_num (r.drop 4) (by rw [List.length_drop]; omega)
                have e3 : [r.getD 8 0] ++ r.drop 9 = (r.drop 4).drop 4 := by
                  rw [List.drop_drop, List.drop_eq_getElem_cons (show 8 < r.length by omega)]
                  simp [List.getD, List.getElem?_eq_getElem (show 8 < r.length by omega)]
                rw [List.append_assoc, e3, List.append_assoc, e2, List.append_assoc, e1]
              · cases hp
            unfold encode
            rw [key, ← hd, hs]
          · cases h
end Go.Proofs.YtnagmpnpgekhfaaDoor
