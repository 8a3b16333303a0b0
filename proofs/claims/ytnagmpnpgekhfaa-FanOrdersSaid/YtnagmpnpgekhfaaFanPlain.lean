/- fan: the plain laws of an index, without the program. -/
import Derived.Test.YtnagmpnpgekhfaaCountPlain
import Derived.Test.YtnagmpnpgekhfaaCrcPlain
namespace Go.Proofs.Ytnagmpnpgekhfaa
open Go.RowKit
/-- where a chunk lies -/
structure Ent where
  sum : List UInt8
  pack : Int
  pos : Int
  len : Int
  deriving DecidableEq
def fitN (n : Int) : Bool := decide (0 ≤ n ∧ n ≤ 4294967295)
def fitE (e : Ent) : Bool := fitN e.pack && fitN e.pos && fitN e.len
def S32 (l : List Ent) : Prop := ∀ e ∈ l, e.sum.length = 32
def Up (l : List Ent) : Prop := l.Pairwise (fun x y => x.sum < y.sum)
theorem Up.nil : Up [] := List.Pairwise.nil
theorem Up.ext : ∀ {l m : List Ent}, Up l → Up m → (∀ x, x ∈ l ↔ x ∈ m) → l = m
  | [], [], _, _, _ => rfl
  | [], y :: m, _, _, h => absurd ((h y).2 (by simp)) (by simp)
  | x :: l, [], _, _, h => absurd ((h x).1 (by simp)) (by simp)
  | x :: l, y :: m, hl, hm, h => by
    have hl' := List.pairwise_cons.1 hl
    have hm' := List.pairwise_cons.1 hm
    have e : x = y := by
      rcases List.mem_cons.1 ((h x).1 (by simp)) with e | hx
      · exact e
      · rcases List.mem_cons.1 ((h y).2 (by simp)) with e | hy
        · exact e.symm
        · exact absurd (klt_trans (hm'.1 x hx) (hl'.1 y hy)) (klt_irrefl _)
    subst e
    refine congrArg (x :: ·) (Up.ext hl'.2 hm'.2 fun z => ?_)
    constructor
    · intro hz
      rcases List.mem_cons.1 ((h z).1 (by simp [hz])) with rfl | h2
      · exact absurd (hl'.1 z hz) (klt_irrefl _)
      · exact h2
    · intro hz
      rcases List.mem_cons.1 ((h z).2 (by simp [hz])) with rfl | h2
      · exact absurd (hm'.1 z hz) (klt_irrefl _)
      · exact h2
theorem Up.at_ {l : List Ent} (h : Up l) {i j : Nat} {x y : Ent} (hx : l[i]? = some x) (hy : l[j]? = some y) (hij : i < j) : x.sum < y.sum := by
  obtain ⟨h1, rfl⟩ := List.getElem?_eq_some_iff.1 hx
  obtain ⟨h2, rfl⟩ := List.getElem?_eq_some_iff.1 hy
  exact List.pairwise_iff_getElem.1 h i j h1 h2 hij
theorem Up.inj {l : List Ent} (h : Up l) {x y : Ent} (hx : x ∈ l) (hy : y ∈ l) (he : x.sum = y.sum) : x = y := by
  obtain ⟨i, hi⟩ := List.mem_iff_getElem?.1 hx
  obtain ⟨j, hj⟩ := List.mem_iff_getElem?.1 hy
  rcases Nat.lt_trichotomy i j with k | k | k
  · exact absurd (he ▸ h.at_ hi hj k) (klt_irrefl _)
  · subst k; rw [hi] at hj; injection hj
  · exact absurd (he ▸ h.at_ hj hi k) (klt_irrefl _)
theorem Up.nodup {l : List Ent} (h : Up l) : (l.map (·.sum)).Nodup := by
  rw [List.Nodup, List.pairwise_map]
  exact h.imp fun {a b} hab e => by rw [e] at hab; exact klt_irrefl _ hab
/-- the index of entries -/
structure IsIdx (l' l : List Ent) : Prop where
  perm : l'.Perm l
  up : Up l'
theorem IsIdx.uniq {l l1 l2 : List Ent} (h1 : IsIdx l1 l) (h2 : IsIdx l2 l) : l1 = l2 := h1.up.ext h2.up fun x => by rw [h1.perm.mem_iff, h2.perm.mem_iff]
def ordM (l : List Ent) : List Ent := l.mergeSort (fun x y => !decide (y.sum < x.sum))
theorem ordM_perm (l : List Ent) : (ordM l).Perm l := List.mergeSort_perm _ _
theorem up_of {l : List Ent} (h : l.Pairwise (fun x y => ¬ y.sum < x.sum)) (hn : (l.map (·.sum)).Nodup) : Up l := by
  rw [List.Nodup, List.pairwise_map] at hn
  exact (h.and hn).imp fun {a b} hab => by
    rcases klt_tri a.sum b.sum with k | k | k
    · exact k
    · exact absurd k hab.2
    · exact absurd k hab.1
theorem ordM_idx {l : List Ent} (hn : (l.map (·.sum)).Nodup) : IsIdx (ordM l) l := ⟨ordM_perm l, by
  refine up_of ?_ (((ordM_perm l).map _).nodup_iff.2 hn)
  have h := List.pairwise_mergeSort (le := fun x y : Ent => !decide (y.sum < x.sum)) (fun a b c h1 h2 => by
    simp only [Bool.not_eq_true', decide_eq_false_iff_not] at *
    intro h
    rcases klt_tri a.sum b.sum with k | k | k
    · exact h2 (klt_trans h k)
    · exact h2 (k ▸ h)
    · exact h1 k) (fun a b => by
    simp only [Bool.or_eq_true, Bool.not_eq_true', decide_eq_false_iff_not]
    by_cases k : b.sum < a.sum
    · exact .inr (klt_asymm k)
    · exact .inl k) l
  exact h.imp fun {a b} hab => by simpa using hab⟩
theorem IsIdx.nodup {l l' : List Ent} (h : IsIdx l' l) : (l.map (·.sum)).Nodup := (h.perm.map _).nodup_iff.1 h.up.nodup
theorem IsIdx.eq {l l' : List Ent} (h : IsIdx l' l) : l' = ordM l := h.uniq (ordM_idx h.nodup)
def makeM (l : List Ent) : List Ent × Int := if 65536 < l.length then ([], 31) else if l.all fitE = false then ([], 1) else if (l.map (·.sum)).Nodup then (ordM l, 0) else ([], 16)
theorem make_up (l : List Ent) : Up (makeM l).1 := by
  unfold makeM
  split
  · exact .nil
  split
  · exact .nil
  split
  · exact (ordM_idx ‹_›).up
  · exact .nil
theorem make_mem {l : List Ent} {x : Ent} (h : x ∈ (makeM l).1) : x ∈ l := by
  unfold makeM at h
  split at h
  · simp at h
  split at h
  · simp at h
  split at h
  · exact (ordM_perm l).mem_iff.1 h
  · simp at h
theorem make_S32 {l : List Ent} (h : S32 l) : S32 (makeM l).1 := fun e he => h e (make_mem he)
theorem make_length (l : List Ent) : (makeM l).1.length ≤ l.length := by
  unfold makeM
  split
  · simp
  split
  · simp
  split
  · exact Nat.le_of_eq (ordM_perm l).length_eq
  · simp
theorem make_ok {l : List Ent} (h : (makeM l).2 = 0) : l.length ≤ 65536 ∧ l.all fitE = true ∧ (l.map (·.sum)).Nodup ∧ (makeM l).1 = ordM l ∧ IsIdx (makeM l).1 l := by
  unfold makeM at h ⊢
  split at h
  · cases h
  split at h
  · cases h
  split at h
  · rename_i h1 h2 h3
    rw [if_neg h1, if_neg h2, if_pos h3]
    exact ⟨by omega, by simpa using h2, h3, rfl, ordM_idx h3⟩
  · cases h
theorem make_bad {l : List Ent} (h : (makeM l).2 ≠ 0) : (makeM l).1 = [] := by
  unfold makeM at h ⊢
  split at h
  · rw [if_pos ‹_›]
  rw [if_neg ‹_›]
  split at h
  · rw [if_pos ‹_›]
  rw [if_neg ‹_›]
  split at h
  · exact absurd rfl h
  · rw [if_neg ‹_›]
theorem make_fit {l : List Ent} {x : Ent} (h : x ∈ (makeM l).1) : fitE x = true := by
  by_cases h0 : (makeM l).2 = 0
  · exact List.all_eq_true.1 (make_ok h0).2.1 x (make_mem h)
  · rw [make_bad h0] at h; simp at h
/- ---------- what is found ---------- -/
def fromM (l : List Ent) (a : List UInt8) : Nat := (l.filter fun e => decide (e.sum < a)).length
def findM (l : List Ent) (a : List UInt8) : Option Ent := l.find? fun e => decide (e.sum = a)
/-- a test that fails from some place on -/
theorem filter_of_cut {α : Type} {p : α → Bool} {l : List α} {k : Nat} (hk : k ≤ l.length) (h1 : ∀ i x, i < k → l[i]? = some x → p x = true) (h2 : ∀ i x, k ≤ i → l[i]? = some x → p x = false) : l.filter p = l.take k := by
  have e : l.filter p = (l.take k ++ l.drop k).filter p := by rw [List.take_append_drop]
  rw [e, List.filter_append, List.filter_eq_self.2, List.filter_eq_nil_iff.2, List.append_nil]
  · intro x hx
    obtain ⟨i, hi⟩ := List.mem_iff_getElem?.1 hx
    rw [List.getElem?_drop] at hi
    rw [h2 _ x (by omega) hi]
    simp
  · intro x hx
    obtain ⟨i, hi⟩ := List.mem_iff_getElem?.1 hx
    have hlt := (List.getElem?_eq_some_iff.1 hi).1
    rw [List.length_take] at hlt
    rw [List.getElem?_take_of_lt (by omega)] at hi
    exact h1 i x (by omega) hi
theorem from_of {l : List Ent} {a : List UInt8} {k : Nat} (hk : k ≤ l.length) (h1 : ∀ i x, i < k → l[i]? = some x → x.sum < a) (h2 : ∀ i x, k ≤ i → l[i]? = some x → ¬ x.sum < a) : fromM l a = k := by
  unfold fromM
  rw [filter_of_cut hk (fun i x hi hx => decide_eq_true (h1 i x hi hx)) (fun i x hi hx => decide_eq_false (h2 i x hi hx)), List.length_take]
  omega
theorem Up.cut {l : List Ent} (h : Up l) (a : List UInt8) : l.filter (fun e => decide (e.sum < a)) = l.take (fromM l a) ∧ fromM l a ≤ l.length ∧ (∀ i x, i < fromM l a → l[i]? = some x → x.sum < a) ∧ (∀ i x, fromM l a ≤ i → l[i]? = some x → ¬ x.sum < a) := by
  induction l with
  | nil => simp [fromM]
  | cons y l ih =>
    obtain ⟨ih1, ih2, ih3, ih4⟩ := ih (List.pairwise_cons.1 h).2
    by_cases hy : y.sum < a
    · have e : fromM (y :: l) a = fromM l a + 1 := by simp [fromM, hy]
      rw [e]
      refine ⟨by simp [hy, ih1], by simp; omega, ?_, ?_⟩
      · intro i x hi hx
        cases i with
        | zero => simp at hx; subst hx; exact hy
        | succ i => exact ih3 i x (by omega) (by simpa using hx)
      · intro i x hi hx
        cases i with
        | zero => omega
        | succ i => exact ih4 i x (by omega) (by simpa using hx)
    · have hno : ∀ x ∈ y :: l, ¬ x.sum < a := fun x hx => by
        rcases List.mem_cons.1 hx with rfl | hx
        · exact hy
        · exact fun k => hy (klt_trans ((List.pairwise_cons.1 h).1 x hx) k)
      have e : (y :: l).filter (fun e => decide (e.sum < a)) = [] := List.filter_eq_nil_iff.2 fun x hx => by simpa using hno x hx
      have e2 : fromM (y :: l) a = 0 := by unfold fromM; rw [e]; rfl
      rw [e2, e]
      exact ⟨rfl, by simp, fun i x hi => by omega, fun i x _ hx => hno x (List.mem_of_getElem? hx)⟩
theorem find_none {l : List Ent} {a : List UInt8} (h : ∀ x ∈ l, x.sum ≠ a) : findM l a = none := by
  unfold findM
  rw [List.find?_eq_none]
  intro x hx
  simpa using h x hx
theorem find_some {l : List Ent} (h : Up l) {x : Ent} (hx : x ∈ l) : findM l x.sum = some x := by
  unfold findM
  cases hf : l.find? fun e => decide (e.sum = x.sum) with
  | none => exact absurd (List.find?_eq_none.1 hf x hx) (by simp)
  | some y =>
    have h1 : y.sum = x.sum := by simpa using List.find?_some hf
    rw [h.inj (List.mem_of_find?_eq_some hf) hx h1]
theorem find_mem {l : List Ent} {a : List UInt8} {x : Ent} (h : findM l a = some x) : x ∈ l ∧ x.sum = a := ⟨List.mem_of_find?_eq_some h, by simpa using List.find?_some h⟩
theorem find_isSome {l : List Ent} {a : List UInt8} : (findM l a).isSome = decide (a ∈ l.map (·.sum)) := by
  unfold findM
  rw [Bool.eq_iff_iff, List.find?_isSome]
  simp
/-- found, or not, at the place of the first one that is not ahead -/
theorem find_end {l : List Ent} (h : Up l) {a : List UInt8} (he : fromM l a = l.length) : findM l a = none := find_none fun x hx e => by
  obtain ⟨i, hi⟩ := List.mem_iff_getElem?.1 hx
  have := (h.cut a).2.2.1 i x (by have := (List.getElem?_eq_some_iff.1 hi).1; omega) hi
  exact klt_irrefl _ (e ▸ this)
theorem find_at {l : List Ent} (h : Up l) {a : List UInt8} {x : Ent} (hx : l[fromM l a]? = some x) : findM l a = if x.sum = a then some x else none := by
  split
  · rename_i e
    rw [← e]
    exact find_some h (List.mem_of_getElem? hx)
  · rename_i hne
    refine find_none fun y hy e => ?_
    obtain ⟨i, hi⟩ := List.mem_iff_getElem?.1 hy
    rcases Nat.lt_trichotomy i (fromM l a) with k | k | k
    · exact klt_irrefl _ (e ▸ (h.cut a).2.2.1 i y k hi)
    · subst k; rw [hx] at hi; injection hi with hi; exact hne (hi ▸ e)
    · have h1 := h.at_ hx hi k
      rw [e] at h1
      exact (h.cut a).2.2.2 _ x (Nat.le_refl _) hx h1
/- ---------- buckets ---------- -/
def hd (e : Ent) : Nat := (e.sum.headD 0).toNat
def bucketM (l : List Ent) (b : Nat) : List Ent := l.filter fun e => decide (hd e = b)
def z31 : List UInt8 := List.replicate 31 0
theorem not_lt_zeros : ∀ (n : Nat) (t : List UInt8), t.length = n → ¬ t < List.replicate n 0
  | 0, t, h => by
    rw [List.eq_nil_of_length_eq_zero h]
    exact List.not_lt_nil _
  | n + 1, [], h => by simp at h
  | n + 1, c :: t, h => by
    rw [List.replicate_succ, List.cons_lt_cons_iff]
    rintro (k | ⟨rfl, k⟩)
    · exact absurd (UInt8.lt_iff_toNat_lt.1 k) (by simp)
    · exact not_lt_zeros n t (by simpa using h) k
theorem lt_first {e : Ent} (h : e.sum.length = 32) (b : UInt8) : e.sum < b :: z31 ↔ hd e < b.toNat := by
  unfold hd
  cases hs : e.sum with
  | nil => simp [hs] at h
  | cons c t =>
    rw [List.cons_lt_cons_iff, List.headD_cons]
    constructor
    · rintro (k | ⟨rfl, k⟩)
      · exact UInt8.lt_iff_toNat_lt.1 k
      · exact absurd k (not_lt_zeros 31 t (by rw [hs] at h; simpa using h))
    · exact fun k => .inl (UInt8.lt_iff_toNat_lt.2 k)
def lowM (l : List Ent) (b : Nat) : Nat := (l.filter fun e => decide (hd e < b)).length
theorem from_first {l : List Ent} (h : S32 l) (b : UInt8) : fromM l (b :: z31) = lowM l b.toNat := by
  unfold fromM lowM
  rw [List.filter_congr (p := fun e : Ent => decide (e.sum < b :: z31)) (q := fun e => decide (hd e < b.toNat)) (fun e he => decide_eq_decide.2 (lt_first (h e he) b))]
theorem Up.hd_le {l : List Ent} (h : Up l) (h32 : S32 l) {i j : Nat} {x y : Ent} (hx : l[i]? = some x) (hy : l[j]? = some y) (hij : i ≤ j) : hd x ≤ hd y := by
  rcases Nat.lt_or_ge i j with k | k
  · have := h.at_ hx hy k
    have h1 := h32 x (List.mem_of_getElem? hx)
    have h2 := h32 y (List.mem_of_getElem? hy)
    unfold hd
    cases hs : x.sum with
    | nil => simp [hs] at h1
    | cons c t =>
      cases ht : y.sum with
      | nil => simp [ht] at h2
      | cons c' t' =>
        rw [hs, ht, List.cons_lt_cons_iff] at this
        simp only [List.headD_cons]
        rcases this with k | ⟨rfl, _⟩
        · exact Nat.le_of_lt (UInt8.lt_iff_toNat_lt.1 k)
        · exact Nat.le_refl _
  · obtain rfl : i = j := by omega
    rw [hx] at hy
    injection hy with hy
    rw [hy]
    exact Nat.le_refl _
theorem Up.low {l : List Ent} (h : Up l) (h32 : S32 l) (b : Nat) : lowM l b ≤ l.length ∧ (∀ i x, i < lowM l b → l[i]? = some x → hd x < b) ∧ (∀ i x, lowM l b ≤ i → l[i]? = some x → b ≤ hd x) := by
  induction l with
  | nil => simp [lowM]
  | cons y l ih =>
    obtain ⟨ih2, ih3, ih4⟩ := ih (List.pairwise_cons.1 h).2 (fun e he => h32 e (by simp [he]))
    by_cases hy : hd y < b
    · have e : lowM (y :: l) b = lowM l b + 1 := by simp [lowM, hy]
      rw [e]
      refine ⟨by simp; omega, ?_, ?_⟩
      · intro i x hi hx
        cases i with
        | zero => simp at hx; subst hx; exact hy
        | succ i => exact ih3 i x (by omega) (by simpa using hx)
      · intro i x hi hx
        cases i with
        | zero => omega
        | succ i => exact ih4 i x (by omega) (by simpa using hx)
    · have hno : ∀ x ∈ y :: l, ¬ hd x < b := fun x hx => by
        obtain ⟨i, hi⟩ := List.mem_iff_getElem?.1 hx
        have := h.hd_le h32 (i := 0) (x := y) rfl hi (Nat.zero_le _)
        omega
      have e2 : lowM (y :: l) b = 0 := by
        unfold lowM
        rw [List.filter_eq_nil_iff.2 fun x hx => by simpa using hno x hx]
        rfl
      rw [e2]
      exact ⟨by simp, fun i x hi => by omega, fun i x _ hx => by have := hno x (List.mem_of_getElem? hx); omega⟩
theorem low_mono (l : List Ent) (b : Nat) : lowM l b ≤ lowM l (b + 1) := by
  unfold lowM
  induction l with
  | nil => simp
  | cons y l ih =>
    simp only [List.filter_cons]
    split
    · rw [if_pos (by simp at *; omega)]
      simpa using ih
    · split
      · simp; omega
      · exact ih
theorem bucket_eq {l : List Ent} (h : Up l) (h32 : S32 l) (b : Nat) : bucketM l b = (l.take (lowM l (b + 1))).drop (lowM l b) := by
  obtain ⟨a1, a2, a3⟩ := h.low h32 b
  obtain ⟨b1, b2, b3⟩ := h.low h32 (b + 1)
  have hm := low_mono l b
  have e : l = l.take (lowM l b) ++ ((l.take (lowM l (b + 1))).drop (lowM l b) ++ l.drop (lowM l (b + 1))) := by
    have e1 : l.take (lowM l b) = (l.take (lowM l (b + 1))).take (lowM l b) := by rw [List.take_take]; congr 1; omega
    rw [← List.append_assoc, e1, List.take_append_drop, List.take_append_drop]
  unfold bucketM
  conv => lhs; rw [e]
  rw [List.filter_append, List.filter_append, List.filter_eq_nil_iff.2, List.filter_eq_self.2, List.filter_eq_nil_iff.2, List.nil_append, List.append_nil]
  · intro x hx
    obtain ⟨i, hi⟩ := List.mem_iff_getElem?.1 hx
    rw [List.getElem?_drop] at hi
    have := b3 _ x (by omega) hi
    simp
    omega
  · intro x hx
    obtain ⟨i, hi⟩ := List.mem_iff_getElem?.1 hx
    rw [List.getElem?_drop] at hi
    have hlt := (List.getElem?_eq_some_iff.1 hi).1
    rw [List.length_take] at hlt
    rw [List.getElem?_take_of_lt (by omega)] at hi
    have h1 := b2 _ x (by omega) hi
    have h2 := a3 _ x (by omega) hi
    simp
    omega
  · intro x hx
    obtain ⟨i, hi⟩ := List.mem_iff_getElem?.1 hx
    have hlt := (List.getElem?_eq_some_iff.1 hi).1
    rw [List.length_take] at hlt
    rw [List.getElem?_take_of_lt (by omega)] at hi
    have := a2 i x (by omega) hi
    simp
    omega
theorem low_all (l : List Ent) (b : Nat) (hb : 256 ≤ b) : lowM l b = l.length := by
  unfold lowM
  rw [List.filter_eq_self.2]
  intro x hx
  have : hd x < 256 := (x.sum.headD 0).toNat_lt
  simp
  omega
theorem buckets_all {l : List Ent} (h : Up l) (h32 : S32 l) : ∀ b, (List.range b).flatMap (bucketM l) = l.take (lowM l b)
  | 0 => by
    have : lowM l 0 = 0 := by unfold lowM; rw [List.filter_eq_nil_iff.2 (by simp)]; rfl
    rw [this]
    rfl
  | b + 1 => by
    rw [List.range_succ, List.flatMap_append, buckets_all h h32 b, List.flatMap_singleton, bucket_eq h h32]
    have hm := low_mono l b
    have e1 : l.take (lowM l b) = (l.take (lowM l (b + 1))).take (lowM l b) := by rw [List.take_take]; congr 1; omega
    rw [e1, List.take_append_drop]
/- ---------- bytes ---------- -/
def cntM (l : List Ent) (b : Nat) : Nat := (l.filter fun e => decide (hd e ≤ b)).length
theorem cnt_low (l : List Ent) (b : Nat) : cntM l b = lowM l (b + 1) := by
  unfold cntM lowM
  rw [List.filter_congr (p := fun e : Ent => decide (hd e ≤ b)) (q := fun e => decide (hd e < b + 1)) (fun e _ => decide_eq_decide.2 Nat.lt_succ_iff.symm)]
theorem cnt_le (l : List Ent) (b : Nat) : cntM l b ≤ l.length := List.length_filter_le _ _
theorem cnt_255 (l : List Ent) : cntM l 255 = l.length := by rw [cnt_low, low_all l 256 (by omega)]
theorem cnt_next (l : List Ent) (b : Nat) : cntM l (b + 1) = cntM l b + (bucketM l (b + 1)).length := by
  unfold cntM bucketM
  induction l with
  | nil => rfl
  | cons y l ih =>
    simp only [List.filter_cons]
    by_cases h1 : hd y ≤ b
    · rw [if_pos (by simp; omega), if_pos (by simpa using h1), if_neg (by simp; omega)]
      simp only [List.length_cons]
      omega
    · by_cases h2 : hd y = b + 1
      · rw [if_pos (by simp; omega), if_neg (by simpa using h1), if_pos (by simpa using h2)]
        simp only [List.length_cons]
        omega
      · rw [if_neg (by simp; omega), if_neg (by simpa using h1), if_neg (by simpa using h2)]
        exact ih
theorem cnt_0 (l : List Ent) : cntM l 0 = (bucketM l 0).length := by
  unfold cntM bucketM
  rw [List.filter_congr (p := fun e : Ent => decide (hd e ≤ 0)) (q := fun e => decide (hd e = 0)) (fun e _ => decide_eq_decide.2 Nat.le_zero)]
def entBytes (e : Ent) : List UInt8 := e.sum ++ (four e.pack ++ (four e.pos ++ four e.len))
theorem entBytes_length {e : Ent} (h : e.sum.length = 32) : (entBytes e).length = 44 := by simp [entBytes, h, four_length]
def kindB : List UInt8 := [70, 65, 78, 49]
def fanB (l : List Ent) (n : Nat) : List UInt8 := (List.range n).flatMap fun b => four (cntM l b : Nat)
theorem fanB_length (l : List Ent) : ∀ n, (fanB l n).length = 4 * n
  | 0 => rfl
  | n + 1 => by
    have := fanB_length l n
    unfold fanB at *
    rw [List.range_succ, List.flatMap_append, List.length_append, this]
    simp [four_length]
    omega
theorem fanB_succ (l : List Ent) (n : Nat) : fanB l (n + 1) = fanB l n ++ four (cntM l n : Nat) := by
  unfold fanB
  rw [List.range_succ, List.flatMap_append]
  simp
def bodyE (l : List Ent) : List UInt8 := kindB ++ fanB l 256 ++ l.flatMap entBytes
def sealB (b : List UInt8) : List UInt8 := b ++ four (Crc.crc b).toNat
def encM (l : List Ent) : List UInt8 := sealB (bodyE l)
theorem bodyE_length {l : List Ent} (h : S32 l) : (bodyE l).length = 1028 + 44 * l.length := by
  unfold bodyE
  rw [List.length_append, List.length_append, fanB_length, flat_length entBytes 44 l (fun e he => entBytes_length (h e he))]
  simp [kindB]
  omega
theorem encM_length {l : List Ent} (h : S32 l) : (encM l).length = 1032 + 44 * l.length := by
  unfold encM sealB
  rw [List.length_append, bodyE_length h, four_length]
  omega
def entsOf : Nat → List UInt8 → List Ent
  | 0, _ => []
  | n + 1, s => ⟨s.take 32, num (s.drop 32), num (s.drop 36), num (s.drop 40)⟩ :: entsOf n (s.drop 44)
theorem entsOf_length : ∀ n s, (entsOf n s).length = n
  | 0, _ => rfl
  | n + 1, s => by simp [entsOf, entsOf_length n]
theorem entsOf_at : ∀ (n : Nat) (s : List UInt8) (j : Nat), j < n → (entsOf n s)[j]? = some ⟨(s.drop (44 * j)).take 32, num (s.drop (44 * j + 32)), num (s.drop (44 * j + 36)), num (s.drop (44 * j + 40))⟩
  | 0, _, _, h => by omega
  | n + 1, s, 0, _ => by simp [entsOf]
  | n + 1, s, j + 1, h => by
    simp only [entsOf, List.getElem?_cons_succ]
    rw [entsOf_at n (s.drop 44) j (by omega)]
    simp only [List.drop_drop]
    rw [show 44 + 44 * j = 44 * (j + 1) by omega, show 44 + (44 * j + 32) = 44 * (j + 1) + 32 by omega, show 44 + (44 * j + 36) = 44 * (j + 1) + 36 by omega, show 44 + (44 * j + 40) = 44 * (j + 1) + 40 by omega]
theorem entsOf_S32 (n : Nat) (s : List UInt8) (h : 44 * n ≤ s.length) : S32 (entsOf n s) := by
  intro c hc
  obtain ⟨j, hj, rfl⟩ := List.mem_iff_getElem.1 hc
  rw [entsOf_length] at hj
  have := entsOf_at n s j hj
  rw [List.getElem?_eq_getElem (by rw [entsOf_length]; exact hj)] at this
  injection this with this
  rw [this]
  simp
  omega
theorem entsOf_fit (n : Nat) (s : List UInt8) : (entsOf n s).all fitE = true := by
  rw [List.all_eq_true]
  intro c hc
  obtain ⟨j, hj, rfl⟩ := List.mem_iff_getElem.1 hc
  rw [entsOf_length] at hj
  have := entsOf_at n s j hj
  rw [List.getElem?_eq_getElem (by rw [entsOf_length]; exact hj)] at this
  injection this with this
  rw [this]
  have h1 := num_lt (s.drop (44 * j + 32))
  have h2 := num_lt (s.drop (44 * j + 36))
  have h3 := num_lt (s.drop (44 * j + 40))
  simp [fitE, fitN]
  omega
theorem fitN_iff {n : Int} : fitN n = true ↔ 0 ≤ n ∧ n < 4294967296 := by
  unfold fitN
  rw [decide_eq_true_eq]
  omega
theorem fitE_iff {e : Ent} : fitE e = true ↔ (0 ≤ e.pack ∧ e.pack < 4294967296) ∧ (0 ≤ e.pos ∧ e.pos < 4294967296) ∧ (0 ≤ e.len ∧ e.len < 4294967296) := by
  unfold fitE
  rw [Bool.and_eq_true, Bool.and_eq_true, fitN_iff, fitN_iff, fitN_iff, and_assoc]
theorem ents_back : ∀ (l : List Ent) (r : List UInt8), (∀ e ∈ l, e.sum.length = 32 ∧ fitE e = true) → entsOf l.length (l.flatMap entBytes ++ r) = l
  | [], _, _ => rfl
  | c :: l, r, h => by
    obtain ⟨h1, h2⟩ := h c (by simp)
    obtain ⟨⟨p1, p2⟩, ⟨q1, q2⟩, ⟨r1, r2⟩⟩ := fitE_iff.1 h2
    have e : ((c :: l).flatMap entBytes ++ r) = c.sum ++ (four c.pack ++ (four c.pos ++ (four c.len ++ (l.flatMap entBytes ++ r)))) := by
      simp [List.flatMap_cons, entBytes]
    show Ent.mk _ _ _ _ :: entsOf l.length _ = _
    rw [e]
    obtain ⟨t, ht⟩ : ∃ t, (l.flatMap entBytes ++ r) = t := ⟨_, rfl⟩
    have hb := ents_back l r (fun e he => h e (by simp [he]))
    rw [ht] at hb ⊢
    have d1 : (c.sum ++ (four c.pack ++ (four c.pos ++ (four c.len ++ t)))).take 32 = c.sum := List.take_left' h1
    have d2 : (c.sum ++ (four c.pack ++ (four c.pos ++ (four c.len ++ t)))).drop 32 = four c.pack ++ (four c.pos ++ (four c.len ++ t)) := List.drop_left' h1
    have d3 : (c.sum ++ (four c.pack ++ (four c.pos ++ (four c.len ++ t)))).drop 36 = four c.pos ++ (four c.len ++ t) := by
      rw [show (36 : Nat) = 32 + 4 from rfl, ← List.drop_drop, d2, drop_four]
    have d4 : (c.sum ++ (four c.pack ++ (four c.pos ++ (four c.len ++ t)))).drop 40 = four c.len ++ t := by
      rw [show (40 : Nat) = 36 + 4 from rfl, ← List.drop_drop, d3, drop_four]
    have d5 : (c.sum ++ (four c.pack ++ (four c.pos ++ (four c.len ++ t)))).drop 44 = t := by
      rw [show (44 : Nat) = 40 + 4 from rfl, ← List.drop_drop, d4, drop_four]
    rw [d1, d2, d3, d4, d5, num_four _ _ p1 p2, num_four _ _ q1 q2, num_four _ _ r1 r2, hb]
theorem ents_forth : ∀ (n : Nat) (s : List UInt8), 44 * n ≤ s.length → (entsOf n s).flatMap entBytes ++ s.drop (44 * n) = s
  | 0, s, _ => by simp [entsOf]
  | n + 1, s, h => by
    have ih := ents_forth n (s.drop 44) (by rw [List.length_drop]; omega)
    simp only [entsOf, List.flatMap_cons]
    have e2 : s.drop (44 * (n + 1)) = (s.drop 44).drop (44 * n) := by rw [List.drop_drop]; congr 1; omega
    rw [e2, List.append_assoc, ih]
    unfold entBytes
    have e3 : (s.drop 32).drop 4 = s.drop 36 := by rw [List.drop_drop]
    have e4 : (s.drop 36).drop 4 = s.drop 40 := by rw [List.drop_drop]
    have e5 : (s.drop 40).drop 4 = s.drop 44 := by rw [List.drop_drop]
    show (s.take 32 ++ (four (num (s.drop 32)) ++ (four (num (s.drop 36)) ++ four (num (s.drop 40))))) ++ s.drop 44 = s
    rw [List.append_assoc, List.append_assoc, List.append_assoc, ← e5, four_num _ (by rw [List.length_drop]; omega), ← e4, four_num _ (by rw [List.length_drop]; omega), ← e3, four_num _ (by rw [List.length_drop]; omega), List.take_append_drop]
def upB : List Ent → Bool
  | [] => true
  | [_] => true
  | c :: d :: l => decide (c.sum < d.sum) && upB (d :: l)
theorem upB_iff : ∀ l : List Ent, upB l = true ↔ Up l
  | [] => by simp [upB, Up]
  | [_] => by simp [upB, Up]
  | c :: d :: l => by
    have ih := upB_iff (d :: l)
    simp only [upB, Bool.and_eq_true, decide_eq_true_eq, ih]
    constructor
    · rintro ⟨h1, h2⟩
      rw [Up, List.pairwise_cons]
      refine ⟨fun e he => ?_, h2⟩
      rcases List.mem_cons.1 he with rfl | he
      · exact h1
      · exact klt_trans h1 ((List.pairwise_cons.1 h2).1 e he)
    · intro h
      rw [Up, List.pairwise_cons] at h
      exact ⟨h.1 d (by simp), h.2⟩
theorem upB_at {l : List Ent} (h : upB l = true) {i : Nat} {c d : Ent} (hc : l[i]? = some c) (hd : l[i + 1]? = some d) : c.sum < d.sum := ((upB_iff l).1 h).at_ hc hd (Nat.lt_succ_self _)
theorem upB_no {l : List Ent} {i : Nat} {c d : Ent} (hc : l[i]? = some c) (hd : l[i + 1]? = some d) (hn : ¬ c.sum < d.sum) : upB l = false := by
  cases h : upB l with
  | false => rfl
  | true => exact absurd (upB_at h hc hd) hn
theorem up_snoc {l : List Ent} {x : Ent} (h : Up l) (hx : ∀ y ∈ l, y.sum < x.sum) : Up (l ++ [x]) := by
  unfold Up
  rw [List.pairwise_append]
  refine ⟨h, by simp, fun a ha b hb => ?_⟩
  simp at hb
  subst hb
  exact hx a ha
theorem upB_take {l : List Ent} {i : Nat} {c d : Ent} (h : upB (l.take (i + 1)) = true) (hc : l[i]? = some c) (hd : l[i + 1]? = some d) (hlt : c.sum < d.sum) : upB (l.take (i + 2)) = true := by
  rw [upB_iff] at h ⊢
  rw [List.take_add_one (i := i + 1), hd]
  refine up_snoc h fun a ha => ?_
  obtain ⟨j, hj⟩ := List.mem_iff_getElem?.1 ha
  have hjl := (List.getElem?_eq_some_iff.1 hj).1
  rw [List.length_take] at hjl
  by_cases hji : j = i
  · subst hji
    rw [List.getElem?_take_of_lt (by omega), hc] at hj
    injection hj with hj
    rw [← hj]
    exact hlt
  · have hc' : (l.take (i + 1))[i]? = some c := by rw [List.getElem?_take_of_lt (by omega), hc]
    exact klt_trans (h.at_ hj hc' (by omega)) hlt
/-- what is wrong with bytes ahead of the entries -/
def checkM (s : List UInt8) : Int :=
  if s.length < 1032 then 10
  else if s.take 4 ≠ kindB then 14
  else if 65536 < num (s.drop 1024) then 31
  else if s.length < 1032 + 44 * num (s.drop 1024) then 10
  else if 1032 + 44 * num (s.drop 1024) < s.length then 11
  else if num (s.drop (s.length - 4)) ≠ (Crc.crc (s.take (s.length - 4))).toNat then 13
  else 0
def lE (s : List UInt8) : List Ent := entsOf (num (s.drop 1024)) (s.drop 1028)
def fansOk (s : List UInt8) (l : List Ent) (n : Nat) : Prop := ∀ b, b < n → num (s.drop (4 + 4 * b)) = cntM l b
def decM (s : List UInt8) : List Ent × Int :=
  if checkM s ≠ 0 then ([], checkM s)
  else if upB (lE s) = false then ([], 18)
  else if encM (lE s) = s then (lE s, 0) else ([], 12)
theorem check_ok {s : List UInt8} (h : checkM s = 0) : 1032 ≤ s.length ∧ s.take 4 = kindB ∧ num (s.drop 1024) ≤ 65536 ∧ s.length = 1032 + 44 * num (s.drop 1024) ∧ num (s.drop (s.length - 4)) = (Crc.crc (s.take (s.length - 4))).toNat := by
  unfold checkM at h
  split at h
  · cases h
  split at h
  · cases h
  split at h
  · cases h
  split at h
  · cases h
  split at h
  · cases h
  split at h
  · cases h
  exact ⟨by omega, Classical.not_not.1 ‹_›, by omega, by omega, Classical.not_not.1 ‹_›⟩
theorem num_take (s : List UInt8) (k : Nat) (h : 4 ≤ k) : num (s.take k) = num s := by
  unfold num
  simp only [List.getD_eq_getElem?_getD]
  rw [List.getElem?_take_of_lt (by omega), List.getElem?_take_of_lt (by omega), List.getElem?_take_of_lt (by omega), List.getElem?_take_of_lt (by omega)]
theorem fans_iff (l : List Ent) (s : List UInt8) (hl : l.length < 4294967296) : ∀ n, 4 + 4 * n ≤ s.length → (fansOk s l n ↔ (s.drop 4).take (4 * n) = fanB l n)
  | 0, _ => by simp [fansOk, fanB]
  | n + 1, h => by
    have ih := fans_iff l s hl n (by omega)
    have e : (s.drop 4).take (4 * (n + 1)) = (s.drop 4).take (4 * n) ++ (s.drop (4 + 4 * n)).take 4 := by
      rw [show 4 * (n + 1) = 4 * n + 4 by omega, List.take_add, List.drop_drop]
    have e4 : (s.drop (4 + 4 * n)).take 4 = four (num (s.drop (4 + 4 * n)) : Nat) := by
      have := four_num (s.drop (4 + 4 * n)) (by rw [List.length_drop]; omega)
      have h2 := congrArg (List.take 4) this
      rw [List.take_left' (four_length _)] at h2
      exact h2.symm
    have hcl := cnt_le l n
    rw [e, fanB_succ, e4]
    constructor
    · intro hf
      rw [ih.1 fun b hb => hf b (by omega), hf n (by omega)]
    · intro hf
      obtain ⟨h1, h2⟩ := List.append_inj' hf rfl
      intro b hb
      rcases Nat.lt_or_ge b n with k | k
      · exact ih.2 h1 b k
      · obtain rfl : b = n := by omega
        have := num_lt (s.drop (4 + 4 * b))
        exact four_inj (by omega) (by omega) h2
set_option maxRecDepth 10000 in
/-- the counts are right just where the bytes are the entries' bytes -/
theorem enc_iff {s : List UInt8} (h : checkM s = 0) : encM (lE s) = s ↔ fansOk s (lE s) 256 := by
  obtain ⟨h1, h2, h3, h4, h5⟩ := check_ok h
  have hl : (lE s).length = num (s.drop 1024) := entsOf_length _ _
  rw [fans_iff (lE s) s (by omega) 256 (by omega)]
  have hforth := ents_forth (num (s.drop 1024)) (s.drop 1028) (by rw [List.length_drop]; omega)
  have es : s = s.take 4 ++ (s.drop 4).take 1024 ++ s.drop 1028 := by
    rw [show (1028 : Nat) = 4 + 1024 from rfl, ← List.drop_drop, List.append_assoc, List.take_append_drop, List.take_append_drop]
  have hS : S32 (lE s) := entsOf_S32 _ _ (by rw [List.length_drop]; omega)
  have hbl := bodyE_length hS
  constructor
  · intro he
    have := congrArg (fun t : List UInt8 => (t.drop 4).take 1024) he
    refine Eq.trans this.symm ?_
    have e8 : encM (lE s) = kindB ++ (fanB (lE s) 256 ++ ((lE s).flatMap entBytes ++ four (Crc.crc (bodyE (lE s))).toNat)) := by
      unfold encM sealB
      conv => lhs; rw [show bodyE (lE s) = kindB ++ fanB (lE s) 256 ++ (lE s).flatMap entBytes from rfl]
      rw [List.append_assoc, List.append_assoc]
      rfl
    have e7 : (kindB ++ (fanB (lE s) 256 ++ ((lE s).flatMap entBytes ++ four (Crc.crc (bodyE (lE s))).toNat))).drop 4 = fanB (lE s) 256 ++ ((lE s).flatMap entBytes ++ four (Crc.crc (bodyE (lE s))).toNat) := List.drop_left' rfl
    show ((encM (lE s)).drop 4).take 1024 = _
    rw [e8, e7]
    exact List.take_left' (fanB_length _ _)
  · intro hf
    have hb : bodyE (lE s) = s.take (s.length - 4) := by
      have e0 : s.drop 1028 = (lE s).flatMap entBytes ++ s.drop (s.length - 4) := by
        have e9 : (s.drop 1028).drop (44 * num (s.drop 1024)) = s.drop (s.length - 4) := by
          rw [List.drop_drop]
          congr 1
          omega
        rw [e9] at hforth
        exact hforth.symm
      have e1 : s = bodyE (lE s) ++ s.drop (s.length - 4) := by
        unfold bodyE
        rw [← hf, ← h2, List.append_assoc (s.take 4 ++ _), ← e0]
        exact es
      have e2 : (bodyE (lE s)).length = s.length - 4 := by rw [hbl, hl]; omega
      have := congrArg (List.take (s.length - 4)) e1
      rw [List.take_left' e2] at this
      exact this.symm
    unfold encM sealB
    rw [hb, ← h5]
    have := four_num (s.drop (s.length - 4)) (by rw [List.length_drop]; omega)
    rw [List.drop_drop, show s.drop (s.length - 4 + 4) = [] from List.drop_eq_nil_of_le (by omega), List.append_nil] at this
    rw [this, List.take_append_drop]
theorem dec_ok {s : List UInt8} (h : (decM s).2 = 0) : checkM s = 0 ∧ Up (lE s) ∧ encM (lE s) = s ∧ (decM s).1 = lE s := by
  unfold decM at h ⊢
  split at h
  · rename_i h0
    exact absurd h h0
  split at h
  · cases h
  split at h
  · rename_i h0 h1 h2
    rw [if_neg h0, if_neg h1, if_pos h2]
    exact ⟨Classical.not_not.1 h0, (upB_iff _).1 (by simpa using h1), h2, rfl⟩
  · cases h
theorem dec_bad {s : List UInt8} (h : (decM s).2 ≠ 0) : (decM s).1 = [] := by
  unfold decM at h ⊢
  split at h
  · rw [if_pos ‹_›]
  rw [if_neg ‹_›]
  split at h
  · rw [if_pos ‹_›]
  rw [if_neg ‹_›]
  split at h
  · exact absurd rfl h
  · rw [if_neg ‹_›]
theorem lE_S32 {s : List UInt8} (h : checkM s = 0) : S32 (lE s) := entsOf_S32 _ _ (by have := check_ok h; rw [List.length_drop]; omega)
theorem dec_S32 (s : List UInt8) : S32 (decM s).1 := by
  by_cases h : (decM s).2 = 0
  · rw [(dec_ok h).2.2.2]
    exact lE_S32 (dec_ok h).1
  · rw [dec_bad h]
    exact fun e he => by simp at he
theorem dec_up (s : List UInt8) : Up (decM s).1 := by
  by_cases h : (decM s).2 = 0
  · rw [(dec_ok h).2.2.2]
    exact (dec_ok h).2.1
  · rw [dec_bad h]
    exact .nil
theorem dec_length (s : List UInt8) : (decM s).1.length ≤ s.length := by
  by_cases h : (decM s).2 = 0
  · rw [(dec_ok h).2.2.2]
    have := check_ok (dec_ok h).1
    have hl : (lE s).length = num (s.drop 1024) := entsOf_length _ _
    omega
  · rw [dec_bad h]
    simp
/- ---------- laws ---------- -/
theorem enc_take {l : List Ent} (h : S32 l) : (encM l).take ((encM l).length - 4) = bodyE l := by
  rw [encM_length h]
  unfold encM sealB
  exact List.take_left' (by rw [bodyE_length h]; omega)
theorem enc_drop {l : List Ent} (h : S32 l) : (encM l).drop ((encM l).length - 4) = four (Crc.crc (bodyE l)).toNat := by
  rw [encM_length h]
  unfold encM sealB
  exact List.drop_left' (by rw [bodyE_length h]; omega)
theorem enc_num {l : List Ent} (hl : l.length ≤ 65536) : num ((encM l).drop 1024) = l.length := by
  unfold encM sealB bodyE
  rw [show (256 : Nat) = 255 + 1 from rfl, fanB_succ, cnt_255]
  have e : kindB ++ (fanB l 255 ++ four (l.length : Nat)) ++ l.flatMap entBytes ++ four (Crc.crc (kindB ++ (fanB l 255 ++ four (l.length : Nat)) ++ l.flatMap entBytes)).toNat = (kindB ++ fanB l 255) ++ (four (l.length : Nat) ++ (l.flatMap entBytes ++ four (Crc.crc (kindB ++ (fanB l 255 ++ four (l.length : Nat)) ++ l.flatMap entBytes)).toNat)) := by simp only [List.append_assoc]
  rw [e, List.drop_left' (by rw [List.length_append, fanB_length]; rfl)]
  have := num_four (l.length : Int) (l.flatMap entBytes ++ four (Crc.crc (kindB ++ (fanB l 255 ++ four (l.length : Nat)) ++ l.flatMap entBytes)).toNat) (by omega) (by omega)
  omega
theorem enc_kind (l : List Ent) : (encM l).take 4 = kindB := by
  unfold encM sealB bodyE
  rw [List.append_assoc, List.append_assoc]
  exact List.take_left' rfl
theorem enc_check {l : List Ent} (h : S32 l) (hl : l.length ≤ 65536) : checkM (encM l) = 0 := by
  have hn := enc_num hl
  have hlen := encM_length h
  have hcl : (Crc.crc (bodyE l)).toNat < 4294967296 := (Crc.crc (bodyE l)).toNat_lt
  have hc : num ((encM l).drop ((encM l).length - 4)) = (Crc.crc (bodyE l)).toNat := by
    rw [enc_drop h]
    have := num_four ((Crc.crc (bodyE l)).toNat : Int) [] (by omega) (by omega)
    rw [List.append_nil] at this
    omega
  unfold checkM
  rw [if_neg (by omega), if_neg (by rw [enc_kind]; simp), if_neg (by omega), if_neg (by omega), if_neg (by omega), if_neg]
  rw [hc, enc_take h]
  simp
theorem enc_lE {l : List Ent} (h : S32 l) (hf : l.all fitE = true) (hl : l.length ≤ 65536) : lE (encM l) = l := by
  unfold lE
  rw [enc_num hl]
  have e : (encM l).drop 1028 = l.flatMap entBytes ++ four (Crc.crc (bodyE l)).toNat := by
    unfold encM sealB
    conv => lhs; rw [show bodyE l = (kindB ++ fanB l 256) ++ l.flatMap entBytes from rfl]
    rw [List.append_assoc, List.drop_left' (by rw [List.length_append, fanB_length]; rfl)]
    rfl
  rw [e]
  exact ents_back l _ fun e he => ⟨h e he, List.all_eq_true.1 hf e he⟩
theorem dec_enc {l : List Ent} (h : S32 l) (hf : l.all fitE = true) (hl : l.length ≤ 65536) (hu : Up l) : decM (encM l) = (l, 0) := by
  unfold decM
  rw [enc_lE h hf hl, if_neg (by rw [enc_check h hl]; simp), if_neg (by rw [(upB_iff l).2 hu]; simp), if_pos rfl]
end Go.Proofs.Ytnagmpnpgekhfaa
