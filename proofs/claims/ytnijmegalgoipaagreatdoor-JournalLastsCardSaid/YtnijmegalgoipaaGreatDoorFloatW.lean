/- Regions that draw their order and end with operations in one order, where copies may come up at any time: what is read ahead of the first operation of the tail is read in one world; copies float. -/
import Derived.Test.YtnijmegalgoipaaGreatDoorStillW
namespace Go.Proofs.YtnijmegalgoipaaGreatDoor
open Go.RowKit
section
variable {P : Program} {ops : Array Oper} {Q : Exit → Act → World → Prop} {S : Array Bool → World → Prop} {n : Nat} {w0 : World}
/-- what came up has all it waits for ahead of it -/
def Shut (ops : Array Oper) (L : Array Bool) : Prop := ∀ (j : Nat) (oj : Oper), ops[j]? = some oj → L.getD j false = true → ∀ e ∈ oj.after, Region.binds .any e = true → L.getD e.on false = true
theorem Shut.set {L : Array Bool} {i : Nat} (h : Shut ops L) (hi : i ∈ Region.ready .any ops L) : Shut ops (L.setIfInBounds i true) := by
  obtain ⟨_, oi, hoi, hall⟩ := mem_ready.1 hi
  intro j oj hj hl e he hb
  by_cases hij : i = j
  · subst hij
    obtain rfl : oj = oi := Option.some.inj (hj.symm.trans hoi)
    exact getD_set_true (hall e he hb)
  · rw [getD_set_ne false hij] at hl
    exact getD_set_true (h j oj hj hl e he hb)
/-- whatever order is drawn, with a condition that hangs on what came up already -/
def wpAnyL' (P : Program) (ops : Array Oper) (Q : Exit → Act → World → Prop) (S : Array Bool → World → Prop) : Nat → Array Bool → Act → World → Prop
  | 0, L, a, w => Region.ready .any ops L = [] ∧ Q .normal a w
  | f + 1, L, a, w => (Region.ready .any ops L = [] → Q .normal a w) ∧ ∀ i ∈ Region.ready .any ops L, wpOp P ops Q i (fun a' w' => S (L.setIfInBounds i true) w' ∧ wpAnyL' P ops Q S f (L.setIfInBounds i true) a' w') a w
theorem wpAny_of_L' : ∀ (f : Nat) (L : Array Bool) (a : Act) (w : World), wpAnyL' P ops Q S f L a w → wpAny P .any ops Q f L a w
  | 0, _, _, _, h => h
  | f + 1, _, _, _, h => ⟨h.1, fun i hi => wpOp_mono (fun a' w' h' => wpAny_of_L' f _ a' w' h'.2) (h.2 i hi)⟩
/-- the worlds in which number i may come up -/
def When (ops : Array Oper) (S : Array Bool → World → Prop) (i : Nat) (w : World) : Prop := ∃ L, Shut ops L ∧ L.getD i true = false ∧ S L w
theorem getD_both' {L : Array Bool} {i : Nat} (h : L.getD i true = false) : L.getD i false = false := by
  rcases Nat.lt_or_ge i L.size with h' | h'
  · simp [h'] at h ⊢; exact h
  · simp [Array.getElem?_eq_none h'] at h
theorem wpAnyL'_first {i : Nat} {oi : Oper} {v : Value} (hi : ops[i]? = some oi) (hsel : ∀ (j : Nat) (o : Oper) cs b, ops[j]? = some o → o.op ≠ .select cs b)
    (hQ : ∀ c a w, Q (.panic c) (a.put oi.dst v) w → Q (.panic c) a w) (hS : ∀ L w, S (L.setIfInBounds i true) w ↔ S L w) :
    ∀ (f : Nat) (L : Array Bool) (a : Act) (w : World), Shut ops L →
      (∀ j oj, ops[j]? = some oj → j ≠ i → L.getD j true = false → (∀ e ∈ oj.after, Region.binds .any e = true → e.on ≠ i) → oi.apart ops oj = true) →
      i ∈ Region.ready .any ops L → YieldsIf P ops (When ops S i) oi v a → S L w →
      wpAnyL' P ops Q S f (L.setIfInBounds i true) (a.put oi.dst v) w → wpAnyL' P ops Q S (f + 1) L a w := by
  intro f
  induction f with
  | zero =>
    intro L a w hL _ hr hy hs H
    refine ⟨fun h => (by rw [h] at hr; cases hr), fun j hj => ?_⟩
    by_cases hji : j = i
    · subst hji
      exact hy.wpOp hi ⟨L, hL, (mem_ready.1 hr).1, hs⟩ ⟨(hS L w).2 hs, H⟩
    · have := ready_mono hj hji
      rw [H.1] at this
      cases this
  | succ f ih =>
    intro L a w hL hfree hr hy hs H
    refine ⟨fun h => (by rw [h] at hr; cases hr), fun j hj => ?_⟩
    by_cases hji : j = i
    · subst hji
      exact hy.wpOp hi ⟨L, hL, (mem_ready.1 hr).1, hs⟩ ⟨(hS L w).2 hs, H⟩
    · have h1 := H.2 j (ready_mono hj hji)
      obtain ⟨hjun, oj, hoj, hall⟩ := mem_ready.1 hj
      have hnot : ∀ e ∈ oj.after, Region.binds .any e = true → e.on ≠ i := fun e he hb heq => by
        have h1 := hall e he hb
        rw [heq, getD_both' (mem_ready.1 hr).1] at h1
        cases h1
      have h2 := wpOp_putIf hoj (hfree j oj hoj hji hjun hnot) (fun cs b => hsel i oi cs b hi) (fun cs b => hsel j oj cs b hoj) hQ hy h1
      have hfree' : ∀ k ok, ops[k]? = some ok → k ≠ i → (L.setIfInBounds j true).getD k true = false →
          (∀ e ∈ ok.after, Region.binds .any e = true → e.on ≠ i) → oi.apart ops ok = true := fun k ok hk hki hun hno => by
        refine hfree k ok hk hki ?_ hno
        by_cases hjk : j = k
        · subst hjk; exact hjun
        · rw [getD_set_ne true hjk] at hun; exact hun
      refine wpOp_mono (fun a' w' h3 => ?_) h2
      rw [Array.setIfInBounds_comm _ _ (Ne.symm hji)] at h3
      have h4 := (hS _ _).1 h3.2.1
      exact ⟨h4, ih (L.setIfInBounds j true) a' w' (hL.set hj) hfree' (ready_mono hr (Ne.symm hji)) h3.1 h4 h3.2.2⟩
/-- a copy -/
def isMove (o : Oper) : Bool := (match o.op with | .move _ => true | _ => false)
theorem move_yields {o : Oper} {v : Value} {a : Act} {S : World → Prop} (h : YieldsIf P ops (fun w => w = w0) o v a) (hm : isMove o = true) : YieldsIf P ops S o v a := by
  unfold isMove at hm
  rcases h with ⟨h1, h2⟩ | h
  · refine .inl ⟨h1, fun w _ => ?_⟩
    have h3 := h2 w0 rfl
    unfold execOp at h3 ⊢
    split at hm
    · rename_i x hx
      rw [hx] at h3 ⊢
      simp only [Sem.run_pure] at h3 ⊢
      injection h3 with h4 _
      rw [h4]
    · cases hm
  · exact .inr h
/-- the head: each operation is read in the world that is -/
def wpHead (P : Program) (ops : Array Oper) (w0 : World) (K : Act → Prop) : List Oper → Act → Prop
  | [], a => K a
  | o :: l, a => ∃ v, YieldsIf P ops (fun w => w = w0) o v a ∧ wpHead P ops w0 K l (a.put o.dst v)
def headOk (ops : Array Oper) (g : Nat) : Nat → Nat → Array Bool → Bool
  | 0, k, L => Region.seqB .any ops g k L
  | f + 1, k, L => (Region.ready .any ops L).contains k && Region.free .any ops L k && headOk ops g f (k + 1) (L.setIfInBounds k true)
/-- number i is waited for, at last by number n -/
inductive Led (ops : Array Oper) (n : Nat) : Nat → Prop
  | here : Led ops n n
  | step {i j : Nat} (h : Led ops n j) (hw : Region.waitsFor .any ops j i = true) : Led ops n i
theorem Led.listed {i : Nat} (h : Led ops n i) {L : Array Bool} (hL : Shut ops L) (hn : L.getD n false = true) : L.getD i false = true := by
  induction h with
  | here => exact hn
  | step h hw ih =>
    obtain ⟨oj, hoj, e, he, hb, hon⟩ := Region.waitsFor_spec hw
    rw [← hon]
    exact hL _ oj hoj ih e he hb
/-- who is led to n, found from the back -/
def ledB (ops : Array Oper) : Nat → List Nat → List Nat
  | 0, r => r
  | k + 1, r => ledB ops k (if r.any (fun j => Region.waitsFor .any ops j k) then k :: r else r)
theorem ledB_spec : ∀ (k : Nat) (r : List Nat), (∀ i ∈ r, Led ops n i) → ∀ i ∈ ledB ops k r, Led ops n i
  | 0, _, h => h
  | k + 1, r, h => by
    refine ledB_spec k _ (fun i hi => ?_)
    split at hi
    · rename_i hw
      obtain ⟨j, hj, hjk⟩ := List.any_eq_true.1 hw
      rcases List.mem_cons.1 hi with rfl | hi
      · exact .step (h j hj) hjk
      · exact h i hi
    · exact h i hi
def sunk (ops : Array Oper) (n : Nat) : Bool :=
  let r := ledB ops n [n]
  (List.range n).all fun i => (match ops[i]? with | some o => isMove o | none => false) || r.contains i
theorem sunk_spec (h : sunk ops n = true) {i : Nat} (hi : i < n) {o : Oper} (ho : ops[i]? = some o) : isMove o = true ∨ Led ops n i := by
  have h1 := List.all_eq_true.1 h i (List.mem_range.2 hi)
  simp only [ho, Bool.or_eq_true] at h1
  refine h1.imp id fun hc => ?_
  exact ledB_spec n [n] (fun i hi => by rw [List.mem_singleton.1 hi]; exact .here) i (by simpa using hc)
/-- until number n came up the world is the first one -/
def Still (n : Nat) (w0 : World) (L : Array Bool) (w : World) : Prop := L.getD n false = true ∨ w = w0
theorem wpAnyL'_of_seq : ∀ (l : List Oper) (k : Nat) (L : Array Bool) (a : Act) (w : World), (∀ j, l[j]? = ops[k + j]?) → n < L.size →
    Region.seqB .any ops l.length k L = true → (k = n ∨ L.getD n false = true) → wpList P ops Q l a w → wpAnyL' P ops Q (Still n w0) l.length L a w
  | [], _, _, _, _, _, _, hB, _, h => ⟨by simpa [Region.seqB] using hB, h⟩
  | o :: l, k, L, a, w, hl, hsz, hB, hk, h => by
    have h0 : ops[k]? = some o := by simpa using (hl 0).symm
    simp only [List.length_cons, Region.seqB, Bool.and_eq_true, decide_eq_true_eq] at hB
    refine ⟨fun h1 => (by rw [hB.1] at h1; cases h1), fun i hi => ?_⟩
    rw [hB.1] at hi
    obtain rfl : i = k := by simpa using hi
    have hn : (L.setIfInBounds i true).getD n false = true := by
      rcases hk with rfl | hk
      · simp [hsz]
      · exact getD_set_true hk
    have hw : wpOp P ops Q i (wpList P ops Q l) a w := by unfold wpOp; simp only [h0]; exact h
    exact wpOp_mono (fun a' w' h' => ⟨.inl hn, wpAnyL'_of_seq l (i + 1) _ a' w' (fun j => by have := hl (j + 1); simpa [Nat.add_assoc, Nat.add_comm 1 j] using this) (by simpa using hsz) hB.2 (.inr hn) h'⟩) hw
theorem wpAnyL'_of_head (hsel : Region.noSelect ops = true) (hs : sunk ops n = true) (hQ : ∀ c a d v w, Q (.panic c) (a.put d v) w → Q (.panic c) a w) (r : List Oper) (hr : ∀ j, r[j]? = ops[n + j]?) :
    ∀ (l : List Oper) (k : Nat) (L : Array Bool) (a : Act), (∀ j, j < l.length → l[j]? = ops[k + j]?) → k + l.length = n → n < L.size → Shut ops L →
    headOk ops r.length l.length k L = true → wpHead P ops w0 (fun a => wpList P ops Q r a w0) l a → wpAnyL' P ops Q (Still n w0) (l.length + r.length) L a w0
  | [], k, L, a, _, hk, hsz, _, hB, h => by
    obtain rfl : k = n := by simpa using hk
    rw [List.length_nil, Nat.zero_add]
    exact wpAnyL'_of_seq r k L a w0 hr hsz (by simpa [headOk] using hB) (.inl rfl) h
  | o :: l, k, L, a, hl, hk, hsz, hL, hB, h => by
    have h0 : ops[k]? = some o := by simpa using (hl 0 (by simp)).symm
    simp only [List.length_cons, headOk, Bool.and_eq_true] at hB
    obtain ⟨⟨hrd, hf⟩, hB'⟩ := hB
    have hkn : k < n := by simp only [List.length_cons] at hk; omega
    have hrd' : k ∈ Region.ready .any ops L := by simpa using hrd
    obtain ⟨v, hy, hK⟩ := h
    have hy' : YieldsIf P ops (When ops (Still n w0) k) o v a := by
      rcases sunk_spec hs hkn h0 with hm | hled
      · exact move_yields hy hm
      · rcases hy with ⟨h1, h2⟩ | h1
        · refine .inl ⟨h1, fun w hw => ?_⟩
          obtain ⟨L', hL', hk', hS⟩ := hw
          rcases hS with hS | rfl
          · have := hled.listed hL' hS
            rw [getD_both' hk'] at this
            cases this
          · exact h2 _ rfl
        · exact .inr h1
    rw [List.length_cons, show l.length + 1 + r.length = (l.length + r.length) + 1 by omega]
    refine wpAnyL'_first h0 (Region.noSelect_spec hsel) (fun c a w => hQ c a _ _ w) (fun L w => ?_) _ L a w0 hL (Region.free_spec h0 hf) hrd' hy' (.inr rfl)
      (wpAnyL'_of_head hsel hs hQ r hr l (k + 1) _ _ (fun j hj => by have := hl (j + 1) (by simp; omega); simpa [Nat.add_assoc, Nat.add_comm 1 j] using this) (by simp only [List.length_cons] at hk; omega) (by simpa using hsz) (hL.set hrd') hB' hK)
    unfold Still
    rw [getD_set_ne false (by omega : k ≠ n)]
/-- the check of a whole region -/
def floatB (ops : Array Oper) (n : Nat) : Bool := Region.noSelect ops && decide (n < ops.size) && sunk ops n && headOk ops (ops.size - n) n 0 (Array.replicate ops.size false)
theorem wp_region_float {id : Nat} {a : Act} {w : World} {l : List Oper} (n : Nat) (hm : P.follows .mixedOrders = true) (hB : floatB l.toArray n = true)
    (hQ : ∀ c a d v w, Q (.panic c) (a.put d v) w → Q (.panic c) a w)
    (h : wpHead P l.toArray w.drew (fun a' => wpList P l.toArray Q (l.drop n) a' w.drew) (l.take n) a) : (Code.region id l.toArray true).wp P Q a w := by
  simp only [floatB, Bool.and_eq_true, decide_eq_true_eq] at hB
  obtain ⟨⟨⟨hsel, hn⟩, hs⟩, hh⟩ := hB
  have hn' : n < l.length := by simpa using hn
  have htl : (l.take n).length = n := by simp; omega
  have hdl : (l.drop n).length = l.toArray.size - n := by simp
  refine wp_region_any hm ?_
  have H := wpAnyL'_of_head (w0 := w.drew) hsel hs hQ (l.drop n) (fun j => by simp [List.getElem?_drop]) (l.take n) 0 (Array.replicate l.toArray.size false) a (fun j hj => by
    have hj' : j < n := by rw [htl] at hj; exact hj
    simp [hj']) (by simpa using htl) (by simpa using hn') (fun j oj _ hl => (by rw [getD_replicate_false] at hl; cases hl)) (by rw [htl, hdl]; exact hh) h
  rw [htl, hdl, show n + (l.toArray.size - n) = l.toArray.size by omega] at H
  exact wpAny_of_L' _ _ _ _ H
end
section
variable {P : Program} {N : Nat} {ds : List Deferred} {Q : Post} {K : Env → Prop} {os rest : List Oper} {ops : Array Oper} {l : Env} {w : World} {op : Op} {ty : TypeId} {pos : String} {aft : Array Edge} {d : Nat} {v : Value}
def WF (P : Program) (N : Nat) (ds : List Deferred) (ops : Array Oper) (Q : Env → Prop) (os : List Oper) (l : Env) (w : World) : Prop := ∀ a, Rep N ds l a → wpHead P ops w (fun a' => ∃ l', Rep N ds l' a' ∧ Q l') os a
theorem fN (h : K l) : WF P N ds ops K [] l w := fun _ ha => ⟨_, ha, h⟩
theorem fY (hx : X P l op ty w v w) (hd : Nat.blt d N = true) (h : WF P N ds ops K rest ((d, v) :: l) w) : WF P N ds ops K (⟨some d, op, ty, pos, aft, none⟩ :: rest) l w := fun a ha =>
  ⟨v, .inl ⟨rfl, fun _ hw => by rw [hw]; exact hx _ ha.knows⟩, h _ (ha.put hd v)⟩
theorem wpHead_imp {A B : Act → Prop} (h : ∀ a, A a → B a) : ∀ (os : List Oper) (a : Act), wpHead P ops w A os a → wpHead P ops w B os a
  | [], _, hh => h _ hh
  | _ :: rest, _, ⟨v, hy, hh⟩ => ⟨v, hy, wpHead_imp h rest _ hh⟩
theorem W_float {id : Nat} (n : Nat) (hm : P.follows .mixedOrders = true) (hB : floatB os.toArray n = true)
    (h : WF P N ds os.toArray (fun l => WL P N ds os.toArray (onlyN (fun l w => Q .normal l w)) (os.drop n) l w.drew) (os.take n) l w.drew) : W P N ds Q (.region id os.toArray true) l w := fun a ha =>
  Code.wp_mono (fun e a w hq => by
    obtain ⟨l', hr, hq⟩ := hq
    refine ⟨l', hr, ?_⟩
    cases e with
    | normal => exact hq
    | _ => exact hq.elim) (wp_region_float (Q := lift N ds (onlyN (fun l w => Q .normal l w))) n hm hB (fun c a d v w hq => by
      obtain ⟨_, _, hq⟩ := hq
      exact hq.elim) (wpHead_imp (fun a' h' => by
        obtain ⟨l', hr, hq⟩ := h'
        exact hq a' hr) _ _ (h a ha)))
theorem W_float_s {id : Nat} {y : Code} (n : Nat) (hm : P.follows .mixedOrders = true) (hB : floatB os.toArray n = true)
    (h : WF P N ds os.toArray (fun l => WL P N ds os.toArray (onlyN (W P N ds Q y)) (os.drop n) l w.drew) (os.take n) l w.drew) : W P N ds Q (.seq (.region id os.toArray true) y) l w :=
  W_seq (W_float n hm hB h)
end
/- ---------- regions whose first operations read what a condition keeps, or come up alone and keep it ---------- -/
section
variable {P : Program} {ops : Array Oper} {Q : Exit → Act → World → Prop} {n : Nat} {S0 : World → Prop}
def wpHeadS (P : Program) (ops : Array Oper) (Q : Exit → Act → World → Prop) (S0 : World → Prop) (K : Act → World → Prop) : List Oper → List Bool → Act → World → Prop
  | [], _, a, w => K a w
  | o :: l, true :: r, a, w => ∃ v, YieldsIf P ops S0 o v a ∧ wpHeadS P ops Q S0 K l r (a.put o.dst v) w
  | o :: l, r, a, w => Region.wanted o (yielded ops a.tmps) = true ∧ o.wp P a w (fun a' w' => S0 w' ∧ wpHeadS P ops Q S0 K l r.tail a' w') Q
/-- a copy, or waited for at last by number n -/
def sunkAt (ops : Array Oper) (n k : Nat) : Bool := (match ops[k]? with | some o => isMove o | none => false) || (ledB ops n [n]).contains k
theorem sunkAt_spec {k : Nat} (h : sunkAt ops n k = true) {o : Oper} (ho : ops[k]? = some o) : isMove o = true ∨ Led ops n k := by
  unfold sunkAt at h
  simp only [ho, Bool.or_eq_true] at h
  refine h.imp id fun hc => ?_
  exact ledB_spec n [n] (fun i hi => by rw [List.mem_singleton.1 hi]; exact .here) k (by simpa using hc)
def headOkS (ops : Array Oper) (n g : Nat) : List Bool → Nat → Array Bool → Bool
  | [], k, L => Region.seqB .any ops g k L
  | true :: r, k, L => (Region.ready .any ops L).contains k && Region.free .any ops L k && sunkAt ops n k && headOkS ops n g r (k + 1) (L.setIfInBounds k true)
  | false :: r, k, L => decide (Region.ready .any ops L = [k]) && headOkS ops n g r (k + 1) (L.setIfInBounds k true)
/-- until number n came up the condition holds -/
def Kept_ (n : Nat) (S0 : World → Prop) (L : Array Bool) (w : World) : Prop := L.getD n false = true ∨ S0 w
theorem wpAnyL'_of_seqS : ∀ (l : List Oper) (k : Nat) (L : Array Bool) (a : Act) (w : World), (∀ j, l[j]? = ops[k + j]?) → n < L.size →
    Region.seqB .any ops l.length k L = true → (k = n ∨ L.getD n false = true) → wpList P ops Q l a w → wpAnyL' P ops Q (Kept_ n S0) l.length L a w
  | [], _, _, _, _, _, _, hB, _, h => ⟨by simpa [Region.seqB] using hB, h⟩
  | o :: l, k, L, a, w, hl, hsz, hB, hk, h => by
    have h0 : ops[k]? = some o := by simpa using (hl 0).symm
    simp only [List.length_cons, Region.seqB, Bool.and_eq_true, decide_eq_true_eq] at hB
    refine ⟨fun h1 => (by rw [hB.1] at h1; cases h1), fun i hi => ?_⟩
    rw [hB.1] at hi
    obtain rfl : i = k := by simpa using hi
    have hn : (L.setIfInBounds i true).getD n false = true := by
      rcases hk with rfl | hk
      · simp [hsz]
      · exact getD_set_true hk
    have hw : wpOp P ops Q i (wpList P ops Q l) a w := by unfold wpOp; simp only [h0]; exact h
    exact wpOp_mono (fun a' w' h' => ⟨.inl hn, wpAnyL'_of_seqS l (i + 1) _ a' w' (fun j => by have := hl (j + 1); simpa [Nat.add_assoc, Nat.add_comm 1 j] using this) (by simpa using hsz) hB.2 (.inr hn) h'⟩) hw
theorem wpAnyL'_of_headS (hsel : Region.noSelect ops = true) (hQ : ∀ c a d v w, Q (.panic c) (a.put d v) w → Q (.panic c) a w) (r : List Oper) (hr : ∀ j, r[j]? = ops[n + j]?) :
    ∀ (l : List Oper) (bs : List Bool) (k : Nat) (L : Array Bool) (a : Act) (w : World), (∀ j, j < l.length → l[j]? = ops[k + j]?) → bs.length = l.length → k + l.length = n → n < L.size → Shut ops L →
    headOkS ops n r.length bs k L = true → S0 w → wpHeadS P ops Q S0 (fun a w => wpList P ops Q r a w) l bs a w → wpAnyL' P ops Q (Kept_ n S0) (l.length + r.length) L a w
  | [], [], k, L, a, w, _, _, hk, hsz, _, hB, _, h => by
    obtain rfl : k = n := by simpa using hk
    rw [List.length_nil, Nat.zero_add]
    exact wpAnyL'_of_seqS r k L a w hr hsz (by simpa [headOkS] using hB) (.inl rfl) h
  | [], _ :: _, _, _, _, _, _, hb, _, _, _, _, _, _ => by cases hb
  | _ :: _, [], _, _, _, _, _, hb, _, _, _, _, _, _ => by cases hb
  | o :: l, true :: bs, k, L, a, w, hl, hb, hk, hsz, hL, hB, hS, h => by
    have h0 : ops[k]? = some o := by simpa using (hl 0 (by simp)).symm
    simp only [headOkS, Bool.and_eq_true] at hB
    obtain ⟨⟨⟨hrd, hf⟩, hsk⟩, hB'⟩ := hB
    have hkn : k < n := by simp only [List.length_cons] at hk; omega
    have hrd' : k ∈ Region.ready .any ops L := by simpa using hrd
    obtain ⟨v, hy, hK⟩ := h
    have hy' : YieldsIf P ops (When ops (Kept_ n S0) k) o v a := by
      rcases sunkAt_spec hsk h0 with hm | hled
      · rcases hy with ⟨h1, h2⟩ | h1
        · exact move_yields (w0 := w) (.inl ⟨h1, fun _ e => by rw [e]; exact h2 w hS⟩) hm
        · exact .inr h1
      · rcases hy with ⟨h1, h2⟩ | h1
        · refine .inl ⟨h1, fun w' hw => ?_⟩
          obtain ⟨L', hL', hk', hS'⟩ := hw
          rcases hS' with hS' | hS'
          · have := hled.listed hL' hS'
            rw [getD_both' hk'] at this
            cases this
          · exact h2 _ hS'
        · exact .inr h1
    rw [List.length_cons, show l.length + 1 + r.length = (l.length + r.length) + 1 by omega]
    refine wpAnyL'_first h0 (Region.noSelect_spec hsel) (fun c a w => hQ c a _ _ w) (fun L w => ?_) _ L a w hL (Region.free_spec h0 hf) hrd' hy' (.inr hS)
      (wpAnyL'_of_headS hsel hQ r hr l bs (k + 1) _ _ w (fun j hj => by have := hl (j + 1) (by simp; omega); simpa [Nat.add_assoc, Nat.add_comm 1 j] using this) (by simpa using hb) (by simp only [List.length_cons] at hk; omega) (by simpa using hsz) (hL.set hrd') hB' hS hK)
    unfold Kept_
    rw [getD_set_ne false (by omega : k ≠ n)]
  | o :: l, false :: bs, k, L, a, w, hl, hb, hk, hsz, hL, hB, hS, h => by
    have h0 : ops[k]? = some o := by simpa using (hl 0 (by simp)).symm
    simp only [headOkS, Bool.and_eq_true, decide_eq_true_eq] at hB
    have hrd' : k ∈ Region.ready .any ops L := by rw [hB.1]; simp
    rw [List.length_cons, show l.length + 1 + r.length = (l.length + r.length) + 1 by omega]
    refine ⟨fun h1 => (by rw [hB.1] at h1; cases h1), fun i hi => ?_⟩
    rw [hB.1] at hi
    obtain rfl : i = k := by simpa using hi
    have hw : wpOp P ops Q i (fun a' w' => S0 w' ∧ wpHeadS P ops Q S0 (fun a w => wpList P ops Q r a w) l bs a' w') a w := by
      unfold wpOp
      simp only [h0]
      rw [if_pos h.1]
      exact .inl h.2
    exact wpOp_mono (fun a' w' h' => ⟨.inr h'.1, wpAnyL'_of_headS hsel hQ r hr l bs (i + 1) _ _ w' (fun j hj => by have := hl (j + 1) (by simp; omega); simpa [Nat.add_assoc, Nat.add_comm 1 j] using this) (by simpa using hb) (by simp only [List.length_cons] at hk; omega) (by simpa using hsz) (hL.set hrd') hB.2 h'.1 h'.2⟩) hw
def phaseB (ops : Array Oper) (n : Nat) (bs : List Bool) : Bool := Region.noSelect ops && decide (n < ops.size) && (bs.length == n) && headOkS ops n (ops.size - n) bs 0 (Array.replicate ops.size false)
theorem wp_region_phase {id : Nat} {a : Act} {w : World} {l : List Oper} (S0 : World → Prop) (n : Nat) (bs : List Bool) (hm : P.follows .mixedOrders = true) (hB : phaseB l.toArray n bs = true)
    (hQ : ∀ c a d v w, Q (.panic c) (a.put d v) w → Q (.panic c) a w) (hS : S0 w.drew)
    (h : wpHeadS P l.toArray Q S0 (fun a' w' => wpList P l.toArray Q (l.drop n) a' w') (l.take n) bs a w.drew) : (Code.region id l.toArray true).wp P Q a w := by
  simp only [phaseB, Bool.and_eq_true, decide_eq_true_eq, beq_iff_eq] at hB
  obtain ⟨⟨⟨hsel, hn⟩, hbl⟩, hh⟩ := hB
  have hn' : n < l.length := by simpa using hn
  have htl : (l.take n).length = n := by simp; omega
  have hdl : (l.drop n).length = l.toArray.size - n := by simp
  refine wp_region_any hm ?_
  have H := wpAnyL'_of_headS (n := n) (S0 := S0) hsel hQ (l.drop n) (fun j => by simp [List.getElem?_drop]) (l.take n) bs 0 (Array.replicate l.toArray.size false) a w.drew (fun j hj => by
    have hj' : j < n := by rw [htl] at hj; exact hj
    simp [hj']) (by rw [htl, hbl]) (by simpa using htl) (by simpa using hn') (fun j oj _ hl => (by rw [getD_replicate_false] at hl; cases hl)) (by rw [hdl]; exact hh) hS h
  rw [htl, hdl, show n + (l.toArray.size - n) = l.toArray.size by omega] at H
  exact wpAny_of_L' _ _ _ _ H
end
section
variable {P : Program} {N : Nat} {ds : List Deferred} {Q : Post} {K : Env → World → Prop} {S0 : World → Prop} {os rest : List Oper} {bs : List Bool} {ops : Array Oper} {l : Env} {w : World} {op : Op} {ty : TypeId} {pos : String} {aft : Array Edge} {d : Nat} {v : Value}
def WP (P : Program) (N : Nat) (ds : List Deferred) (ops : Array Oper) (Q : Post) (S0 : World → Prop) (K : Env → World → Prop) (os : List Oper) (bs : List Bool) (l : Env) (w : World) : Prop :=
  ∀ a, Rep N ds l a → wpHeadS P ops (lift N ds Q) S0 (fun a' w' => ∃ l', Rep N ds l' a' ∧ K l' w') os bs a w
theorem pN (h : K l w) : WP P N ds ops Q S0 K [] [] l w := fun _ ha => ⟨_, ha, h⟩
theorem pY (hx : ∀ w, S0 w → X P l op ty w v w) (hd : Nat.blt d N = true) (h : WP P N ds ops Q S0 K rest bs ((d, v) :: l) w) : WP P N ds ops Q S0 K (⟨some d, op, ty, pos, aft, none⟩ :: rest) (true :: bs) l w := fun _ ha =>
  ⟨v, .inl ⟨rfl, fun w hw => hx w hw _ ha.knows⟩, h _ (ha.put hd v)⟩
/-- any plain step that comes up alone -/
theorem pL {od : Option Nat} (h : ∀ Q', (∀ l w, S0 w → WP P N ds ops Q S0 K rest bs l w → Q' .normal l w) → (∀ c l w, Q (.panic c) l w → Q' (.panic c) l w) → WL P N ds ops Q' [⟨od, op, ty, pos, aft, none⟩] l w) : WP P N ds ops Q S0 K (⟨od, op, ty, pos, aft, none⟩ :: rest) (false :: bs) l w := fun a ha => by
  have := h (fun e l w => match e with | .normal => S0 w ∧ WP P N ds ops Q S0 K rest bs l w | .panic c => Q (.panic c) l w | _ => False) (fun l w hs h => ⟨hs, h⟩) (fun c l w h => h) a ha
  unfold wpList at this
  have hw : Region.wanted ⟨od, op, ty, pos, aft, none⟩ (yielded ops a.tmps) = true := rfl
  rw [if_pos hw] at this
  refine ⟨hw, ?_⟩
  rcases this with this | ⟨_, a0, w0, hq⟩
  · unfold Oper.wp at this ⊢
    revert this
    generalize (execOp a.eval ⟨od, op, ty, pos, aft, none⟩).run P w = res
    intro this
    unfold Oper.upon at this ⊢
    split at this
    · simp only [wpList] at this; obtain ⟨l', hr, hs, h⟩ := this; exact ⟨hs, h _ hr⟩
    · simp only [wpList] at this; obtain ⟨l', hr, hs, h⟩ := this; exact ⟨hs, h _ hr⟩
    · simp only [wpList] at this; obtain ⟨l', hr, hs, h⟩ := this; exact ⟨hs, h _ hr⟩
    · refine Calls.mono this fun e w' h => ?_
      cases e with
      | returned v => simp only [wpList] at h; obtain ⟨l', hr, hs, h⟩ := h; exact ⟨hs, h _ hr⟩
      | panicked c => exact h
      | outgrown => obtain ⟨a0, w0, l0, h1, h2⟩ := h; exact h2.elim
    · refine Rows.mono this fun v w' h => ?_
      simp only [wpList] at h; obtain ⟨l', hr, hs, h⟩ := h; exact ⟨hs, h _ hr⟩
    · exact this
    · exact this.elim
  · obtain ⟨l0, _, h2⟩ := hq; exact h2.elim
theorem wpHeadS_imp {Q' : Exit → Act → World → Prop} {A B : Act → World → Prop} (h : ∀ a w, A a w → B a w) : ∀ (os : List Oper) (bs : List Bool) (a : Act) (w : World), wpHeadS P ops Q' S0 A os bs a w → wpHeadS P ops Q' S0 B os bs a w
  | [], _, _, _, hh => h _ _ hh
  | _ :: rest, true :: bs, _, _, ⟨v, hy, hh⟩ => ⟨v, hy, wpHeadS_imp h rest bs _ _ hh⟩
  | _ :: rest, false :: bs, _, _, hh => ⟨hh.1, Oper.wp_mono (fun _ _ h' => ⟨h'.1, wpHeadS_imp h rest bs _ _ h'.2⟩) hh.2⟩
  | _ :: rest, [], _, _, hh => ⟨hh.1, Oper.wp_mono (fun _ _ h' => ⟨h'.1, wpHeadS_imp h rest [] _ _ h'.2⟩) hh.2⟩
theorem W_phase {id : Nat} (S0 : World → Prop) (n : Nat) (bs : List Bool) (hm : P.follows .mixedOrders = true) (hB : phaseB os.toArray n bs = true) (hS : S0 w.drew)
    (h : WP P N ds os.toArray (onlyN (fun l w => Q .normal l w)) S0 (fun l w => WL P N ds os.toArray (onlyN (fun l w => Q .normal l w)) (os.drop n) l w) (os.take n) bs l w.drew) : W P N ds Q (.region id os.toArray true) l w := fun a ha =>
  Code.wp_mono (fun e a w hq => by
    obtain ⟨l', hr, hq⟩ := hq
    refine ⟨l', hr, ?_⟩
    cases e with
    | normal => exact hq
    | _ => exact hq.elim) (wp_region_phase (Q := lift N ds (onlyN (fun l w => Q .normal l w))) S0 n bs hm hB (fun c a d v w hq => by
      obtain ⟨_, _, hq⟩ := hq
      exact hq.elim) hS (wpHeadS_imp (fun a' w' h' => by
        obtain ⟨l', hr, hq⟩ := h'
        exact hq a' hr) _ _ _ _ (h a ha)))
theorem W_phase_s {id : Nat} {y : Code} (S0 : World → Prop) (n : Nat) (bs : List Bool) (hm : P.follows .mixedOrders = true) (hB : phaseB os.toArray n bs = true) (hS : S0 w.drew)
    (h : WP P N ds os.toArray (onlyN (W P N ds Q y)) S0 (fun l w => WL P N ds os.toArray (onlyN (W P N ds Q y)) (os.drop n) l w) (os.take n) bs l w.drew) : W P N ds Q (.seq (.region id os.toArray true) y) l w :=
  W_seq (W_phase S0 n bs hm hB hS h)
end
end Go.Proofs.YtnijmegalgoipaaGreatDoor
