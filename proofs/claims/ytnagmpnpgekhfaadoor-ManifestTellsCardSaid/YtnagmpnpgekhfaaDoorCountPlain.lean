/- Counts, and the bytes of deltas: plain. -/
import Derived.Test.YtnagmpnpgekhfaaDoorNetPlain
import Derived.Test.YtnagmpnpgekhfaaDoorGen
namespace Go.Proofs.YtnagmpnpgekhfaaDoor
open Go.RowKit
/- ---------- what may be ---------- -/
def badN (c : Chk) : Bool := decide (c.len < -2147483647 ∨ 2147483647 < c.len)
def mayM (l : List Chk) : Int := if 16000 < l.length then 31 else if l.any badN then 1 else 0
theorem mayM_ok {l : List Chk} (h : mayM l = 0) : l.length ≤ 16000 ∧ ∀ c ∈ l, -2147483647 ≤ c.len ∧ c.len ≤ 2147483647 := by
  unfold mayM at h
  split at h
  · cases h
  · split at h
    · cases h
    · rename_i h1 h2
      refine ⟨by omega, fun c hc => ?_⟩
      have := mt (fun hb => List.any_eq_true.2 ⟨c, hc, hb⟩) h2
      unfold badN at this
      have := of_decide_eq_false (Bool.eq_false_iff.2 this)
      omega
theorem mayM_of {l : List Chk} (h1 : l.length ≤ 16000) (h2 : ∀ c ∈ l, -2147483647 ≤ c.len ∧ c.len ≤ 2147483647) : mayM l = 0 := by
  unfold mayM
  rw [if_neg (by omega), if_neg]
  intro h
  obtain ⟨c, hc, hb⟩ := List.any_eq_true.1 h
  have := of_decide_eq_true hb
  have := h2 c hc
  omega
/- ---------- counts ---------- -/
/-- the counts: net, positive, not too great -/
structure Cnts (x : List Chk) : Prop where
  srt : Srt x
  pos : ∀ c ∈ x, 1 ≤ c.len ∧ c.len ≤ 2147483647
  sum : ∀ c ∈ x, c.sum.length = 32
theorem Cnts.net {x : List Chk} (h : Cnts x) : netM x = x := netM_self h.srt (fun c hc => by have := h.pos c hc; omega)
theorem Cnts.tot {x : List Chk} (h : Cnts x) (a : Key) : 0 ≤ tot a x ∧ tot a x ≤ 2147483647 := by
  by_cases ha : a ∈ x.map (·.sum)
  · obtain ⟨c, hc, rfl⟩ := List.mem_map.1 ha
    rw [tot_srt h.srt hc]
    have := h.pos c hc
    omega
  · rw [tot_none ha]; omega
def outN (c : Chk) : Bool := decide (c.len < 0 ∨ 2147483647 < c.len)
def keysOf (l : List Chk) : List Key := l.map (·.sum)
/-- the document's: the counts, the addresses that fell to 0, what is wrong -/
def addM (x l : List Chk) : List Chk × List Key × Int :=
  if mayM l ≠ 0 then (x, [], mayM l)
  else if (netM (x ++ l)).any outN then (x, [], 1)
  else (netM (x ++ l), keysOf (x.filter fun c => decide (tot c.sum (netM (x ++ l)) = 0)), 0)
theorem net_tot (l : List Chk) (a : Key) : tot a (netM l) = tot a l := by
  by_cases ha : tot a l = 0
  · rw [ha]
    by_cases hm : a ∈ (netM l).map (·.sum)
    · obtain ⟨c, hc, rfl⟩ := List.mem_map.1 hm
      have h1 := ((isNet l).mem c).1 hc
      omega
    · exact tot_none hm
  · have : (⟨a, tot a l⟩ : Chk) ∈ netM l := ((isNet l).mem _).2 ⟨rfl, ha⟩
    exact tot_srt (isNet l).srt this
theorem net_mem {l : List Chk} {a : Key} : a ∈ keysOf (netM l) ↔ tot a l ≠ 0 := by
  unfold keysOf
  rw [List.mem_map]
  constructor
  · rintro ⟨c, hc, rfl⟩
    have h1 := ((isNet l).mem c).1 hc
    omega
  · intro h
    exact ⟨⟨a, tot a l⟩, ((isNet l).mem _).2 ⟨rfl, h⟩, rfl⟩
/-- the program's test is the document's -/
theorem out_iff {x l : List Chk} (hx : Cnts x) : ((netM l).any fun d => outN ⟨d.sum, tot d.sum x + d.len⟩) = (netM (x ++ l)).any outN := by
  rw [Bool.eq_iff_iff, List.any_eq_true, List.any_eq_true]
  constructor
  · rintro ⟨d, hd, hb⟩
    have h1 := ((isNet l).mem d).1 hd
    refine ⟨⟨d.sum, tot d.sum x + d.len⟩, ((isNet _).mem _).2 ⟨?_, ?_⟩, hb⟩
    · show tot d.sum x + d.len = tot d.sum (x ++ l)
      rw [tot_append]; omega
    · have := of_decide_eq_true hb
      simp only at this ⊢
      omega
  · rintro ⟨c, hc, hb⟩
    have h1 := ((isNet _).mem c).1 hc
    have h2 := of_decide_eq_true hb
    have h3 := hx.tot c.sum
    rw [tot_append] at h1
    refine ⟨⟨c.sum, tot c.sum l⟩, ((isNet l).mem _).2 ⟨rfl, ?_⟩, ?_⟩
    · show tot c.sum l ≠ 0
      omega
    · unfold outN
      apply decide_eq_true
      show tot c.sum x + tot c.sum l < 0 ∨ 2147483647 < tot c.sum x + tot c.sum l
      omega
theorem Srt.keys_ext {l m : List Chk} (hl : Srt l) (hm : Srt m) (h : ∀ a, a ∈ keysOf l ↔ a ∈ keysOf m) : keysOf l = keysOf m := by
  have e : ∀ q : List Chk, keysOf q = keysOf (q.map fun c => ⟨c.sum, 0⟩) := fun q => by unfold keysOf; rw [List.map_map]; rfl
  have s : ∀ q : List Chk, Srt q → Srt (q.map fun c => (⟨c.sum, 0⟩ : Chk)) := fun q hq => by
    unfold Srt
    rw [List.pairwise_map]
    exact hq
  rw [e l, e m]
  congr 1
  refine (s l hl).ext (s m hm) (fun c => ?_)
  rw [List.mem_map, List.mem_map]
  constructor
  · rintro ⟨d, hd, rfl⟩
    obtain ⟨d', hd', he⟩ := List.mem_map.1 ((h d.sum).1 (List.mem_map.2 ⟨d, hd, rfl⟩))
    exact ⟨d', hd', by rw [he]⟩
  · rintro ⟨d, hd, rfl⟩
    obtain ⟨d', hd', he⟩ := List.mem_map.1 ((h d.sum).2 (List.mem_map.2 ⟨d, hd, rfl⟩))
    exact ⟨d', hd', by rw [he]⟩
/-- the addresses that fall to 0, in the program's order -/
theorem gone_eq {x l : List Chk} (hx : Cnts x) : keysOf ((netM l).filter fun d => decide (tot d.sum x + d.len = 0)) = keysOf (x.filter fun c => decide (tot c.sum (netM (x ++ l)) = 0)) := by
  refine Srt.keys_ext ((isNet l).srt.filter _) (hx.srt.filter _) (fun a => ?_)
  unfold keysOf
  simp only [List.mem_map, List.mem_filter, decide_eq_true_eq, net_tot, tot_append]
  constructor
  · rintro ⟨d, ⟨hd, h0⟩, rfl⟩
    have h1 := ((isNet l).mem d).1 hd
    have hne : tot d.sum x ≠ 0 := by omega
    have hm : d.sum ∈ x.map (·.sum) := Classical.byContradiction fun hn => hne (tot_none hn)
    obtain ⟨c, hc, he⟩ := List.mem_map.1 hm
    exact ⟨c, ⟨hc, by rw [he]; omega⟩, he⟩
  · rintro ⟨c, ⟨hc, h0⟩, rfl⟩
    have h1 := tot_srt hx.srt hc
    have h2 := hx.pos c hc
    exact ⟨⟨c.sum, tot c.sum l⟩, ⟨((isNet l).mem _).2 ⟨rfl, by show tot c.sum l ≠ 0; omega⟩, by show tot c.sum x + tot c.sum l = 0; omega⟩, rfl⟩
theorem addM_cnts {x l : List Chk} (hx : Cnts x) (hl : ∀ c ∈ l, c.sum.length = 32) : Cnts (addM x l).1 := by
  unfold addM
  split
  · exact hx
  · split
    · exact hx
    · rename_i h1 h2
      refine ⟨(isNet _).srt, fun c hc => ?_, fun c hc => ?_⟩
      · have h3 := mt (fun hb => List.any_eq_true.2 ⟨c, hc, hb⟩) h2
        have h4 := ((isNet _).mem c).1 hc
        have h5 := of_decide_eq_false (Bool.eq_false_iff.2 h3)
        omega
      · have := netM_sum hc
        rw [List.map_append, List.mem_append] at this
        rcases this with h | h
        · obtain ⟨d, hd, he⟩ := List.mem_map.1 h; rw [← he]; exact hx.sum d hd
        · obtain ⟨d, hd, he⟩ := List.mem_map.1 h; rw [← he]; exact hl d hd
theorem netM_sum32 {l : List Chk} (h : ∀ c ∈ l, c.sum.length = 32) : ∀ c ∈ netM l, c.sum.length = 32 := fun c hc => by
  obtain ⟨d, hd, he⟩ := List.mem_map.1 (netM_sum hc)
  rw [← he]
  exact h d hd
def totalM (x : List Chk) : Int := (x.map (·.len)).foldl (· + ·) 0
/- ---------- bytes ---------- -/
def packedM (l : List Chk) : List UInt8 := four (l.length : Nat) ++ l.flatMap chkBytes
def sgn (n : Nat) : Int := if n < 2147483648 then (n : Int) else (n : Int) - 4294967296
theorem four_sgn (n : Nat) : four (sgn n) = four (n : Int) := by
  unfold sgn
  split
  · rfl
  · have e : ∀ m k : Int, m % 256 = k % 256 → byteI m = byteI k := fun m k h => by unfold byteI; rw [h]
    unfold four
    rw [e ((n : Int) - 4294967296) n (by omega), e (((n : Int) - 4294967296) / 256) (n / 256) (by omega), e (((n : Int) - 4294967296) / 65536) (n / 65536) (by omega), e (((n : Int) - 4294967296) / 16777216) (n / 16777216) (by omega)]
theorem four_neg (n : Int) : four (n + 4294967296) = four n := by
  have e : ∀ m k : Int, m % 256 = k % 256 → byteI m = byteI k := fun m k h => by unfold byteI; rw [h]
  unfold four
  rw [e (n + 4294967296) n (by omega), e ((n + 4294967296) / 256) (n / 256) (by omega), e ((n + 4294967296) / 65536) (n / 65536) (by omega), e ((n + 4294967296) / 16777216) (n / 16777216) (by omega)]
theorem sgn_range (n : Nat) (h : n < 4294967296) : -2147483648 ≤ sgn n ∧ sgn n ≤ 2147483647 := by unfold sgn; split <;> omega
theorem sgn_four (n : Int) (r : List UInt8) (h0 : -2147483648 ≤ n) (h1 : n ≤ 2147483647) : sgn (num (four n ++ r)) = n := by
  by_cases h : 0 ≤ n
  · have := num_four n r h (by omega)
    unfold sgn
    rw [if_pos (by omega), this]
  · have := num_four (n + 4294967296) r (by omega) (by omega)
    rw [four_neg] at this
    unfold sgn
    rw [if_neg (by omega), this]
    omega
def deltasOf : Nat → List UInt8 → List Chk
  | 0, _ => []
  | n + 1, s => ⟨s.take 32, sgn (num (s.drop 32))⟩ :: deltasOf n (s.drop 36)
theorem deltasOf_length : ∀ n s, (deltasOf n s).length = n
  | 0, _ => rfl
  | n + 1, s => by simp [deltasOf, deltasOf_length n]
theorem deltasOf_at : ∀ (n : Nat) (s : List UInt8) (j : Nat), j < n → (deltasOf n s)[j]? = some ⟨(s.drop (36 * j)).take 32, sgn (num (s.drop (36 * j + 32)))⟩
  | 0, _, _, h => by omega
  | n + 1, s, 0, _ => by simp [deltasOf]
  | n + 1, s, j + 1, h => by
    simp only [deltasOf, List.getElem?_cons_succ]
    rw [deltasOf_at n (s.drop 36) j (by omega), List.drop_drop, List.drop_drop, show 36 + 36 * j = 36 * (j + 1) by omega, show 36 + (36 * j + 32) = 36 * (j + 1) + 32 by omega]
theorem deltasOf_sum (n : Nat) (s : List UInt8) (h : 36 * n ≤ s.length) : ∀ c ∈ deltasOf n s, c.sum.length = 32 := by
  intro c hc
  obtain ⟨j, hj, rfl⟩ := List.mem_iff_getElem.1 hc
  rw [deltasOf_length] at hj
  have := deltasOf_at n s j hj
  rw [List.getElem?_eq_getElem (by rw [deltasOf_length]; exact hj)] at this
  injection this with this
  rw [this]
  simp
  omega
theorem deltas_back : ∀ (l : List Chk) (r : List UInt8), (∀ c ∈ l, c.sum.length = 32 ∧ -2147483648 ≤ c.len ∧ c.len ≤ 2147483647) → deltasOf l.length (l.flatMap chkBytes ++ r) = l
  | [], _, _ => rfl
  | c :: l, r, h => by
    obtain ⟨h1, h2, h3⟩ := h c (by simp)
    have e : ((c :: l).flatMap chkBytes ++ r) = c.sum ++ (four c.len ++ (l.flatMap chkBytes ++ r)) := by
      simp [List.flatMap_cons, chkBytes]
    show Chk.mk _ _ :: deltasOf l.length _ = _
    rw [e]
    have d1 : (c.sum ++ (four c.len ++ (l.flatMap chkBytes ++ r))).take 32 = c.sum := List.take_left' h1
    have d2 : (c.sum ++ (four c.len ++ (l.flatMap chkBytes ++ r))).drop 32 = four c.len ++ (l.flatMap chkBytes ++ r) := List.drop_left' h1
    have d3 : (c.sum ++ (four c.len ++ (l.flatMap chkBytes ++ r))).drop 36 = l.flatMap chkBytes ++ r := by
      rw [show (36 : Nat) = 32 + 4 from rfl, ← List.drop_drop, d2, drop_four]
    rw [d1, d2, d3, sgn_four _ _ h2 h3, deltas_back l r (fun c hc => h c (by simp [hc]))]
theorem deltas_forth : ∀ (n : Nat) (s : List UInt8), 36 * n ≤ s.length → (deltasOf n s).flatMap chkBytes ++ s.drop (36 * n) = s
  | 0, s, _ => by simp [deltasOf]
  | n + 1, s, h => by
    have ih := deltas_forth n (s.drop 36) (by rw [List.length_drop]; omega)
    simp only [deltasOf, List.flatMap_cons]
    have e2 : s.drop (36 * (n + 1)) = (s.drop 36).drop (36 * n) := by rw [List.drop_drop]; congr 1; omega
    rw [e2, List.append_assoc, ih]
    unfold chkBytes
    have e3 : (s.drop 32).drop 4 = s.drop 36 := by rw [List.drop_drop]
    show (s.take 32 ++ four (sgn (num (s.drop 32)))) ++ s.drop 36 = s
    rw [four_sgn _, List.append_assoc, ← e3, four_num _ (by rw [List.length_drop]; omega), List.take_append_drop]
def formN (c : Chk) : Bool := decide (c.len = 0 ∨ c.len < -2147483647)
def srtB : List Chk → Bool
  | [] => true
  | [_] => true
  | c :: d :: l => decide (c.sum < d.sum) && srtB (d :: l)
theorem srtB_iff : ∀ l : List Chk, srtB l = true ↔ Srt l
  | [] => by simp [srtB, Srt]
  | [_] => by simp [srtB, Srt]
  | c :: d :: l => by
    have ih := srtB_iff (d :: l)
    simp only [srtB, Bool.and_eq_true, decide_eq_true_eq, ih]
    constructor
    · rintro ⟨h1, h2⟩
      rw [Srt, List.pairwise_cons]
      refine ⟨fun e he => ?_, h2⟩
      rcases List.mem_cons.1 he with rfl | he
      · exact h1
      · exact klt_trans h1 ((List.pairwise_cons.1 h2).1 e he)
    · intro h
      rw [Srt, List.pairwise_cons] at h
      exact ⟨h.1 d (by simp), h.2⟩
theorem srtB_at {l : List Chk} (h : srtB l = true) {i : Nat} {c d : Chk} (hc : l[i]? = some c) (hd : l[i + 1]? = some d) : c.sum < d.sum := by
  have hs := (srtB_iff l).1 h
  obtain ⟨h1, e1⟩ := List.getElem?_eq_some_iff.1 hc
  obtain ⟨h2, e2⟩ := List.getElem?_eq_some_iff.1 hd
  have := List.pairwise_iff_getElem.1 hs i (i + 1) h1 h2 (by omega)
  rwa [e1, e2] at this
theorem srtB_no {l : List Chk} {i : Nat} {c d : Chk} (hc : l[i]? = some c) (hd : l[i + 1]? = some d) (hn : ¬ c.sum < d.sum) : srtB l = false := by
  cases h : srtB l with
  | false => rfl
  | true => exact absurd (srtB_at h hc hd) hn
/-- the first ones rise -/
theorem srtB_take {l : List Chk} {i : Nat} {c d : Chk} (h : srtB (l.take (i + 1)) = true) (hc : l[i]? = some c) (hd : l[i + 1]? = some d) (hlt : c.sum < d.sum) : srtB (l.take (i + 2)) = true := by
  rw [srtB_iff] at h ⊢
  rw [List.take_add_one (i := i + 1), hd]
  unfold Srt
  rw [List.pairwise_append]
  refine ⟨h, by simp, fun a ha b hb => ?_⟩
  simp at hb
  subst hb
  obtain ⟨j, hj, rfl⟩ := List.mem_iff_getElem.1 ha
  rw [List.length_take] at hj
  have hil := (List.getElem?_eq_some_iff.1 hd).1
  by_cases hji : j = i
  · subst hji
    rw [List.getElem_take]
    rw [(List.getElem?_eq_some_iff.1 hc).2]
    exact hlt
  · have h2 := List.pairwise_iff_getElem.1 h j i (by rw [List.length_take]; omega) (by rw [List.length_take]; omega) (by omega)
    have e2 : (l.take (i + 1))[i]'(by rw [List.length_take]; omega) = c := by rw [List.getElem_take]; exact (List.getElem?_eq_some_iff.1 hc).2
    rw [e2] at h2
    exact klt_trans h2 hlt
def unpackM (s : List UInt8) : Except Int (List Chk) :=
  if s.length < 4 then .error 10
  else if 16000 < num s then .error 31
  else if s.length < 4 + 36 * num s then .error 10
  else if 4 + 36 * num s < s.length then .error 11
  else if srtB (deltasOf (num s) (s.drop 4)) = false then .error 18
  else if (deltasOf (num s) (s.drop 4)).any formN then .error 12
  else .ok (deltasOf (num s) (s.drop 4))
def packM (l : List Chk) : Except Int (List UInt8) := if mayM l ≠ 0 then .error (mayM l) else if netM l = l then .ok (packedM l) else .error 18
def negN (c : Chk) : Bool := decide (c.len < 0)
def decodeC (s : List UInt8) : Except Int (List Chk) := match unpackM s with
  | .error e => .error e
  | .ok l => if l.any negN then .error 12 else .ok l
theorem packed_length (l : List Chk) (h : ∀ c ∈ l, c.sum.length = 32) : (packedM l).length = 4 + 36 * l.length := by
  unfold packedM
  rw [List.length_append, four_length, flat_length chkBytes 36 l (fun c hc => by simp [chkBytes, h c hc, four_length])]
  omega
theorem unpack_packed {l : List Chk} (h1 : Srt l) (h2 : ∀ c ∈ l, c.sum.length = 32 ∧ -2147483647 ≤ c.len ∧ c.len ≤ 2147483647 ∧ c.len ≠ 0) (h3 : l.length ≤ 16000) : unpackM (packedM l) = .ok l := by
  have hlen := packed_length l (fun c hc => (h2 c hc).1)
  have hnum : num (packedM l) = l.length := by
    have := num_four (l.length : Int) (l.flatMap chkBytes) (by omega) (by omega)
    unfold packedM
    omega
  have hd : deltasOf l.length ((packedM l).drop 4) = l := by
    unfold packedM
    rw [drop_four]
    have := deltas_back l [] (fun c hc => by have := h2 c hc; exact ⟨this.1, by omega, by omega⟩)
    rwa [List.append_nil] at this
  unfold unpackM
  rw [hnum, hd, if_neg (by omega), if_neg (by omega), if_neg (by omega), if_neg (by omega), if_neg (by rw [(srtB_iff l).2 h1]; simp), if_neg]
  intro hb
  obtain ⟨c, hc, hb⟩ := List.any_eq_true.1 hb
  have := of_decide_eq_true hb
  have := h2 c hc
  omega
theorem unpack_ok {s : List UInt8} {l : List Chk} (h : unpackM s = .ok l) : Srt l ∧ (∀ c ∈ l, c.sum.length = 32 ∧ -2147483647 ≤ c.len ∧ c.len ≤ 2147483647 ∧ c.len ≠ 0) ∧ l.length ≤ 16000 ∧ packedM l = s := by
  unfold unpackM at h
  split at h
  · cases h
  split at h
  · cases h
  split at h
  · cases h
  split at h
  · cases h
  split at h
  · cases h
  split at h
  · cases h
  rename_i h1 h2 h3 h4 h5 h6
  injection h with h
  have hs : Srt l := by rw [← h]; exact (srtB_iff _).1 (by simpa using h5)
  have hlen : l.length = num s := by rw [← h, deltasOf_length]
  refine ⟨hs, fun c hc => ?_, by omega, ?_⟩
  · have h7 := mt (fun hb => List.any_eq_true.2 ⟨c, by rw [h]; exact hc, hb⟩) h6
    have h8 := of_decide_eq_false (Bool.eq_false_iff.2 h7)
    rw [← h] at hc
    have h9 := deltasOf_sum _ _ (by rw [List.length_drop]; omega) c hc
    obtain ⟨j, hj, rfl⟩ := List.mem_iff_getElem.1 hc
    rw [deltasOf_length] at hj
    have h10 := deltasOf_at (num s) (s.drop 4) j hj
    rw [List.getElem?_eq_getElem (by rw [deltasOf_length]; exact hj)] at h10
    injection h10 with h10
    have h11 := sgn_range (num ((s.drop 4).drop (36 * j + 32))) (num_lt _)
    rw [h10] at h8 h9 ⊢
    simp only at h8 h9 ⊢
    refine ⟨h9, by omega, by omega, by omega⟩
  · unfold packedM
    rw [hlen, ← h]
    have h7 := deltas_forth (num s) (s.drop 4) (by rw [List.length_drop]; omega)
    rw [List.drop_of_length_le (l := s.drop 4) (by rw [List.length_drop]; omega), List.append_nil] at h7
    rw [h7, four_num s (by omega)]
end Go.Proofs.YtnagmpnpgekhfaaDoor
