/- Net deltas: what they are, by plain lists. -/
import Derived.Test.YtnijmegalgoipaaGreatDoorGen
import Derived.Lib.Bytealg
import Derived.Sort.Walk0
namespace Go.Proofs.YtnijmegalgoipaaGreatDoor
open Go.RowKit
abbrev Key := List UInt8
theorem klt_irrefl (a : Key) : ¬ a < a := List.lt_irrefl a
theorem klt_trans {a b c : Key} (h : a < b) (k : b < c) : a < c := List.lt_trans h k
theorem klt_asymm {a b : Key} (h : a < b) : ¬ b < a := fun k => klt_irrefl _ (klt_trans h k)
theorem klt_tri (a b : Key) : a < b ∨ a = b ∨ b < a := by
  by_cases h : a < b
  · exact .inl h
  · by_cases k : b < a
    · exact .inr (.inr k)
    · exact .inr (.inl (List.le_antisymm (List.not_lt.1 k) (List.not_lt.1 h)))
/-- how much of an address there is -/
def tot (a : Key) : List Chk → Int
  | [] => 0
  | c :: l => (if c.sum = a then c.len else 0) + tot a l
theorem tot_append (a : Key) (l m : List Chk) : tot a (l ++ m) = tot a l + tot a m := by
  induction l with
  | nil => simp [tot]
  | cons c l ih => simp only [List.cons_append, tot, ih]; omega
theorem tot_none {a : Key} {l : List Chk} (h : a ∉ l.map (·.sum)) : tot a l = 0 := by
  induction l with
  | nil => rfl
  | cons c l ih =>
    simp only [List.map_cons, List.mem_cons, not_or] at h
    simp only [tot, if_neg (fun e => h.1 (Eq.symm e)), ih h.2]
    rfl
theorem tot_take {a : Key} {l : List Chk} {i : Nat} {x : Chk} (h : l[i]? = some x) : tot a (l.take (i + 1)) = tot a (l.take i) + (if x.sum = a then x.len else 0) := by
  rw [List.take_add_one, h, tot_append]
  simp [tot]
abbrev Srt (l : List Chk) : Prop := l.Pairwise (fun x y => x.sum < y.sum)
theorem Srt.inj {l : List Chk} (h : Srt l) {c d : Chk} (hc : c ∈ l) (hd : d ∈ l) (he : c.sum = d.sum) : c = d := by
  induction l with
  | nil => cases hc
  | cons x l ih =>
    rw [Srt, List.pairwise_cons] at h
    rcases List.mem_cons.1 hc with h1 | h1
    · rcases List.mem_cons.1 hd with h2 | h2
      · rw [h1, h2]
      · have := h.1 d h2; rw [← h1, he] at this; exact absurd this (klt_irrefl _)
    · rcases List.mem_cons.1 hd with h2 | h2
      · have := h.1 c h1; rw [← h2, he] at this; exact absurd this (klt_irrefl _)
      · exact ih h.2 h1 h2
theorem tot_srt {l : List Chk} (h : Srt l) {c : Chk} (hc : c ∈ l) : tot c.sum l = c.len := by
  induction l with
  | nil => cases hc
  | cons x l ih =>
    rw [Srt, List.pairwise_cons] at h
    rcases List.mem_cons.1 hc with rfl | hc
    · simp only [tot, if_pos]
      rw [tot_none (fun hm => by
        obtain ⟨d, hd, he⟩ := List.mem_map.1 hm
        have := h.1 d hd
        rw [he] at this
        exact klt_irrefl _ this)]
      omega
    · have hne : ¬ x.sum = c.sum := fun e => by
        have := h.1 c hc
        rw [e] at this
        exact klt_irrefl _ this
      simp only [tot, if_neg hne, ih h.2 hc]
      omega
/-- sorted lists that have the same elements are the same -/
theorem Srt.ext {l m : List Chk} (hl : Srt l) (hm : Srt m) (h : ∀ c, c ∈ l ↔ c ∈ m) : l = m := by
  induction l generalizing m with
  | nil =>
    cases m with
    | nil => rfl
    | cons y m => exact absurd ((h y).2 (by simp)) (by simp)
  | cons x l ih =>
    cases m with
    | nil => exact absurd ((h x).1 (by simp)) (by simp)
    | cons y m =>
      rw [Srt, List.pairwise_cons] at hl hm
      have hxy : x = y := by
        rcases List.mem_cons.1 ((h x).1 (by simp)) with e | hx
        · exact e
        · rcases List.mem_cons.1 ((h y).2 (by simp)) with e | hy
          · exact e.symm
          · exact absurd (hl.1 y hy) (klt_asymm (hm.1 x hx))
      subst hxy
      rw [ih hl.2 hm.2 (fun c => by
        constructor
        · intro hc
          rcases List.mem_cons.1 ((h c).1 (by simp [hc])) with e | hc'
          · subst e; exact absurd (hl.1 _ hc) (klt_irrefl _)
          · exact hc'
        · intro hc
          rcases List.mem_cons.1 ((h c).2 (by simp [hc])) with e | hc'
          · subst e; exact absurd (hm.1 _ hc) (klt_irrefl _)
          · exact hc')]
structure IsNet (l L : List Chk) : Prop where
  srt : Srt L
  mem : ∀ c, c ∈ L ↔ c.len = tot c.sum l ∧ c.len ≠ 0
theorem IsNet.uniq {l L M : List Chk} (h : IsNet l L) (k : IsNet l M) : L = M := h.srt.ext k.srt (fun c => (h.mem c).trans (k.mem c).symm)
/-- the document's insertion: x put ahead of what is not below it, what has its address left out -/
def merge (x : Chk) : Bool → List Chk → List Chk
  | d, [] => if d then [] else [x]
  | d, o :: os => (if d = false ∧ ¬ o.sum < x.sum then [x] else []) ++ (if o.sum ≠ x.sum then [o] else []) ++ merge x (d || !decide (o.sum < x.sum)) os
theorem merge_true (x : Chk) (os : List Chk) : merge x true os = os.filter (fun o => decide (o.sum ≠ x.sum)) := by
  induction os with
  | nil => rfl
  | cons o os ih =>
    simp only [merge, Bool.true_eq_false, false_and, if_false, List.nil_append, Bool.true_or, ih, List.filter_cons]
    by_cases h : o.sum = x.sum <;> simp [h]
theorem merge_mem (x c : Chk) (os : List Chk) : c ∈ merge x false os ↔ c = x ∨ (c ∈ os ∧ c.sum ≠ x.sum) := by
  induction os with
  | nil => simp [merge]
  | cons o os ih =>
    by_cases h : o.sum < x.sum
    · have hne : o.sum ≠ x.sum := fun e => klt_irrefl _ (e ▸ h)
      simp only [merge, h, not_true, and_false, if_false, List.nil_append, decide_true, Bool.not_true, Bool.or_self, List.mem_append, ih, List.mem_cons, if_pos hne, List.not_mem_nil, or_false]
      constructor
      · rintro (rfl | rfl | ⟨h1, h2⟩)
        · exact .inr ⟨.inl rfl, hne⟩
        · exact .inl rfl
        · exact .inr ⟨.inr h1, h2⟩
      · rintro (rfl | ⟨rfl | h1, h2⟩)
        · exact .inr (.inl rfl)
        · exact .inl rfl
        · exact .inr (.inr ⟨h1, h2⟩)
    · simp only [merge, h, not_false_eq_true, and_true, if_true, decide_false, Bool.not_false, Bool.or_true, merge_true, List.mem_append, List.mem_filter, List.mem_cons, List.not_mem_nil, or_false, decide_eq_true_eq]
      by_cases he : o.sum = x.sum
      · rw [if_neg (by simp [he])]
        simp only [List.not_mem_nil, or_false]
        constructor
        · rintro (rfl | ⟨h1, h2⟩)
          · exact .inl rfl
          · exact .inr ⟨.inr h1, h2⟩
        · rintro (rfl | ⟨rfl | h1, h2⟩)
          · exact .inl rfl
          · exact absurd he h2
          · exact .inr ⟨h1, h2⟩
      · rw [if_pos he]
        simp only [List.mem_cons, List.not_mem_nil, or_false]
        constructor
        · rintro ((rfl | rfl) | ⟨h1, h2⟩)
          · exact .inl rfl
          · exact .inr ⟨.inl rfl, he⟩
          · exact .inr ⟨.inr h1, h2⟩
        · rintro (rfl | ⟨rfl | h1, h2⟩)
          · exact .inl (.inl rfl)
          · exact .inl (.inr rfl)
          · exact .inr ⟨h1, h2⟩
theorem merge_srt (x : Chk) {os : List Chk} (h : Srt os) : Srt (merge x false os) := by
  induction os with
  | nil => simp [merge, Srt]
  | cons o os ih =>
    rw [Srt, List.pairwise_cons] at h
    by_cases hl : o.sum < x.sum
    · have hne : o.sum ≠ x.sum := fun e => klt_irrefl _ (e ▸ hl)
      simp only [merge, hl, not_true, and_false, if_false, List.nil_append, decide_true, Bool.not_true, Bool.or_self, if_pos hne, List.cons_append]
      rw [Srt, List.pairwise_cons]
      refine ⟨fun c hc => ?_, ih h.2⟩
      rcases (merge_mem x c os).1 hc with rfl | ⟨hc, _⟩
      · exact hl
      · exact h.1 c hc
    · simp only [merge, hl, not_false_eq_true, and_true, if_true, decide_false, Bool.not_false, Bool.or_true, merge_true]
      have hf : Srt (os.filter (fun o => decide (o.sum ≠ x.sum))) := h.2.filter _
      have hgt : ∀ c ∈ os.filter (fun o => decide (o.sum ≠ x.sum)), o.sum < c.sum ∧ c ∈ os := fun c hc => ⟨h.1 c (List.mem_filter.1 hc).1, (List.mem_filter.1 hc).1⟩
      have hox : x.sum = o.sum ∨ x.sum < o.sum := by
        rcases klt_tri o.sum x.sum with k | k | k
        · exact absurd k hl
        · exact .inl k.symm
        · exact .inr k
      by_cases he : o.sum = x.sum
      · rw [if_neg (by simp [he])]
        simp only [List.append_nil, List.singleton_append]
        rw [Srt, List.pairwise_cons]
        exact ⟨fun c hc => by rw [← he]; exact (hgt c hc).1, hf⟩
      · rw [if_pos he]
        have hxo : x.sum < o.sum := hox.resolve_left (fun e => he e.symm)
        simp only [List.cons_append, List.nil_append]
        rw [Srt, List.pairwise_cons, List.pairwise_cons]
        refine ⟨fun c hc => ?_, fun c hc => (hgt c hc).1, hf⟩
        rcases List.mem_cons.1 hc with rfl | hc
        · exact hxo
        · exact klt_trans hxo (hgt c hc).1
def ins (out : List Chk) (x : Chk) : List Chk := merge ⟨x.sum, x.len + tot x.sum out⟩ false out
def allM (l : List Chk) : List Chk := l.foldl ins []
def netM (l : List Chk) : List Chk := (allM l).filter (fun c => decide (c.len ≠ 0))
structure IsAll (l L : List Chk) : Prop where
  srt : Srt L
  mem : ∀ c, c ∈ L ↔ c.len = tot c.sum l ∧ c.sum ∈ l.map (·.sum)
theorem IsAll.tot {l L : List Chk} (h : IsAll l L) (a : Key) : tot a L = tot a l := by
  by_cases ha : a ∈ l.map (·.sum)
  · have : (⟨a, Proofs.YtnijmegalgoipaaGreatDoor.tot a l⟩ : Chk) ∈ L := (h.mem _).2 ⟨rfl, ha⟩
    exact tot_srt h.srt this
  · rw [tot_none ha, tot_none]
    intro hm
    obtain ⟨c, hc, he⟩ := List.mem_map.1 hm
    exact ha (he ▸ ((h.mem c).1 hc).2)
theorem IsAll.ins {l L : List Chk} (h : IsAll l L) (x : Chk) : IsAll (l ++ [x]) (ins L x) := by
  refine ⟨merge_srt _ h.srt, fun c => ?_⟩
  unfold Proofs.YtnijmegalgoipaaGreatDoor.ins
  rw [merge_mem, h.mem, h.tot, tot_append]
  simp only [Proofs.YtnijmegalgoipaaGreatDoor.tot, List.map_append, List.map_cons, List.map_nil, List.mem_append, List.mem_singleton]
  constructor
  · rintro (rfl | ⟨⟨h1, h2⟩, h3⟩)
    · refine ⟨?_, .inr rfl⟩
      simp only [if_true]
      omega
    · refine ⟨?_, .inl h2⟩
      rw [if_neg (fun e => h3 e.symm), h1]
      omega
  · rintro ⟨h1, h2⟩
    by_cases he : c.sum = x.sum
    · left
      cases c with
      | mk s n =>
        simp only at he h1
        subst he
        simp only [if_true] at h1
        simp only [Chk.mk.injEq, true_and]
        omega
    · right
      rw [if_neg (fun e => he e.symm)] at h1
      refine ⟨⟨by omega, ?_⟩, he⟩
      rcases h2 with h2 | h2
      · exact h2
      · exact absurd h2 he
theorem isAll_nil : IsAll [] [] := ⟨by simp [Srt], fun c => by simp⟩
theorem isAll (l : List Chk) : IsAll l (allM l) := by
  have key : ∀ (m l L : List Chk), IsAll l L → IsAll (l ++ m) (m.foldl ins L) := by
    intro m
    induction m with
    | nil => intro l L h; simpa using h
    | cons x m ih =>
      intro l L h
      have := ih (l ++ [x]) (ins L x) (h.ins x)
      simpa using this
  exact key l [] [] isAll_nil
theorem isNet (l : List Chk) : IsNet l (netM l) := by
  refine ⟨(isAll l).srt.filter _, fun c => ?_⟩
  unfold netM
  rw [List.mem_filter, (isAll l).mem, decide_eq_true_eq]
  constructor
  · rintro ⟨⟨h1, _⟩, h2⟩; exact ⟨h1, h2⟩
  · rintro ⟨h1, h2⟩
    refine ⟨⟨h1, ?_⟩, h2⟩
    refine Classical.byContradiction fun hn => h2 ?_
    rw [h1, tot_none hn]
theorem allM_snoc (l : List Chk) (x : Chk) : allM (l ++ [x]) = ins (allM l) x := by
  unfold allM
  rw [List.foldl_append]
  rfl
theorem netM_of {l L : List Chk} (h : IsNet l L) : netM l = L := (isNet l).uniq h
theorem netM_self {l : List Chk} (h : Srt l) (h0 : ∀ c ∈ l, c.len ≠ 0) : netM l = l := by
  refine netM_of ⟨h, fun c => ⟨fun hc => ⟨(tot_srt h hc).symm, h0 c hc⟩, fun ⟨h1, h2⟩ => ?_⟩⟩
  have hm : c.sum ∈ l.map (·.sum) := Classical.byContradiction fun hn => h2 (by rw [h1, tot_none hn])
  obtain ⟨d, hd, he⟩ := List.mem_map.1 hm
  have := tot_srt h hd
  rw [he, ← h1] at this
  have : c = d := by cases c; cases d; simp only at he this; subst he this; rfl
  rw [this]
  exact hd
theorem netM_congr {l m : List Chk} (h : ∀ a, tot a l = tot a m) : netM l = netM m := netM_of ⟨(isNet m).srt, fun c => by rw [(isNet m).mem, h]⟩
theorem netM_sum {l : List Chk} {c : Chk} (h : c ∈ netM l) : c.sum ∈ l.map (·.sum) := by
  have := ((isNet l).mem c).1 h
  exact Classical.byContradiction fun hn => this.2 (by rw [this.1, tot_none hn])
/-- sums keep their bound -/
theorem tot_bound {l : List Chk} {k : Int} (hk : 0 ≤ k) (h : ∀ c ∈ l, -k ≤ c.len ∧ c.len ≤ k) (a : Key) : -(k * l.length) ≤ tot a l ∧ tot a l ≤ k * l.length := by
  induction l with
  | nil => simp [tot]
  | cons c l ih =>
    have h1 := h c (by simp)
    have h2 := ih (fun d hd => h d (by simp [hd]))
    have e : k * ((c :: l).length : Int) = k * l.length + k := by rw [List.length_cons, Int.natCast_add, Int.mul_add]; simp
    rw [e]
    simp only [tot]
    split <;> omega
theorem ins_length (L : List Chk) (x : Chk) : (ins L x).length ≤ L.length + 1 := by
  unfold ins
  generalize (⟨x.sum, x.len + tot x.sum L⟩ : Chk) = y
  have key : ∀ (d : Bool) (os : List Chk), (merge y d os).length ≤ os.length + (if d then 0 else 1) := by
    intro d os
    induction os generalizing d with
    | nil => cases d <;> simp [merge]
    | cons o os ih =>
      have h1 := ih (d || !decide (o.sum < y.sum))
      have h2 : (if o.sum ≠ y.sum then [o] else []).length ≤ 1 := by split <;> simp
      simp only [merge, List.length_append, List.length_cons]
      cases d with
      | true =>
        simp only [Bool.true_eq_false, false_and, if_false, List.length_nil, Bool.true_or, if_true] at h1 ⊢
        omega
      | false =>
        by_cases hl : o.sum < y.sum
        · simp only [hl, decide_true, Bool.not_true, Bool.or_self, not_true, and_false, if_false, List.length_nil, Bool.false_eq_true] at h1 ⊢
          omega
        · simp only [hl, decide_false, Bool.not_false, Bool.or_true, not_false_eq_true, and_true, if_true, List.length_cons, List.length_nil, Bool.false_eq_true, if_false] at h1 ⊢
          omega
  simpa using key false L
theorem allM_length (l : List Chk) : (allM l).length ≤ l.length := by
  have key : ∀ (m L : List Chk), (m.foldl ins L).length ≤ L.length + m.length := by
    intro m
    induction m with
    | nil => intro L; simp
    | cons x m ih =>
      intro L
      have h1 := ih (ins L x)
      have h2 := ins_length L x
      simp only [List.foldl_cons, List.length_cons]
      omega
  have := key l []
  rw [List.length_nil, Nat.zero_add] at this
  exact this
theorem netM_length (l : List Chk) : (netM l).length ≤ l.length := Nat.le_trans (List.length_filter_le _ _) (allM_length l)
end Go.Proofs.YtnijmegalgoipaaGreatDoor
