/- Memory words for all proofs of this seat: what a call may have changed (Chg), a block known whole (Blk), a slice that reads as a list of cells (Row), and append over it. -/
import Derived.Below
import Derived.Laws.OwnMore
import Derived.Deep.Draws
import Derived.Deep.OwnRows
import Derived.Laws.Rows
import Derived.Deep.AppendSrc
import Derived.WalkKit
import Derived.Lib.Hide
namespace Go.Proofs.YtnijmegalgoipaaGreatDoor
open Go.RowKit

/- ---------- what a call may have changed ---------- -/
structure Chg (S : Nat → Prop) (w w' : World) : Prop where
  os : w'.os = w.os
  tape : w'.tape = w.tape
  output : w'.output = w.output
  size : w.heap.size ≤ w'.heap.size
  block : ∀ k, k < w.heap.size → ¬ S k → w'.heap[k]? = w.heap[k]?

def More (S : Nat → Prop) (w : World) : Nat → Prop := fun k => S k ∨ w.heap.size ≤ k

section
variable {S T : Nat → Prop} {w w' w'' : World}
theorem Chg.refl (S : Nat → Prop) (w : World) : Chg S w w := ⟨rfl, rfl, rfl, Nat.le_refl _, fun _ _ _ => rfl⟩
theorem Chg.mono (h : Chg S w w') (hs : ∀ k, k < w.heap.size → S k → T k) : Chg T w w' :=
  ⟨h.os, h.tape, h.output, h.size, fun k hk hn => h.block k hk (fun s => hn (hs k hk s))⟩
theorem Chg.trans (h : Chg S w w') (k : Chg T w' w'') (hs : ∀ i, i < w.heap.size → T i → S i) : Chg S w w'' :=
  ⟨k.os.trans h.os, k.tape.trans h.tape, k.output.trans h.output, Nat.le_trans h.size k.size,
   fun i hi hn => (k.block i (Nat.lt_of_lt_of_le hi h.size) (fun t => hn (hs i hi t))).trans (h.block i hi hn)⟩
theorem Chg.next (h : Chg S w w') (k : Chg T w' w'') (hs : ∀ i, T i → S i ∨ w.heap.size ≤ i) : Chg S w w'' :=
  h.trans k (fun i hi t => (hs i t).elim id (fun t => absurd t (by omega)))
theorem Chg.belowAll (h : Chg (fun _ => False) w w') : Below w.heap.size w w' := ⟨h.os, h.tape, h.output, h.size, fun k hk => h.block k hk (fun f => f)⟩
theorem Chg.more (h : Chg S w w') (k : Chg (More S w) w' w'') : Chg S w w'' :=
  h.trans k (fun i hi t => t.elim id (fun t => absurd t (by omega)))
theorem Chg.of_below (h : Below w.heap.size w w') (S : Nat → Prop) : Chg S w w' := ⟨h.os, h.tape, h.output, h.size, fun i hi _ => h.block i hi⟩
theorem Chg.below (h : Chg S w w') {B : Nat} (hB : B ≤ w.heap.size) (hs : ∀ k, S k → B ≤ k) : Below B w w' :=
  ⟨h.os, h.tape, h.output, h.size, fun k hk => h.block k (by omega) (fun s => by have := hs k s; omega)⟩
theorem Chg.drew (h : Chg S w w') : Chg S w w'.drew := ⟨h.os, h.tape, h.output, h.size, h.block⟩
theorem Chg.drewN (h : Chg S w w') (n : Nat) : Chg S w (w'.drewN n) := ⟨h.os, h.tape, h.output, h.size, h.block⟩
theorem Chg.alloc (h : Chg S w w') (o : Obj) : Chg S w (w'.alloc o) :=
  ⟨h.os, h.tape, h.output, Nat.le_trans h.size (by simp), fun i hi hn => (Below.heap_alloc w' o i (Nat.lt_of_lt_of_le hi h.size)).trans (h.block i hi hn)⟩
theorem Chg.setCell (h : Chg S w w') {p : Addr} (hp : S p.block ∨ w.heap.size ≤ p.block) (u : Value) : Chg S w (w'.setCell p u) :=
  ⟨h.os, h.tape, h.output, by simpa [World.setCell] using h.size, fun i hi hn => (Below.heap_setCell w' p u i (by
    rintro rfl
    rcases hp with hp | hp
    · exact hn hp
    · omega)).trans (h.block i hi hn)⟩
theorem Chg.grown {row : Option Nat} (h : Chg S w w') (hg : w'.grownBy w'' row) (hs : ∀ k, row = some k → S k ∨ w.heap.size ≤ k) : Chg S w w'' :=
  ⟨hg.os.trans h.os, hg.tape.trans h.tape, hg.output.trans h.output, Nat.le_trans h.size hg.size,
   fun i hi hn => (hg.block i (Nat.lt_of_lt_of_le hi h.size) (fun e => by
     rcases hs i e.symm with t | t
     · exact hn t
     · omega)).trans (h.block i hi hn)⟩
theorem Chg.setRow (h : Chg S w w') {g : Nat} (hp : S g ∨ w.heap.size ≤ g) (cs : Array Value) : Chg S w (w'.setRow g cs) :=
  ⟨h.os, h.tape, h.output, by simpa [World.setRow] using h.size, fun i hi hn => (setRow_other w' g i cs (by
    rintro rfl
    rcases hp with hp | hp
    · exact hn hp
    · omega)).trans (h.block i hi hn)⟩
theorem Chg.cell (h : Chg S w w') {p : Addr} (hb : p.block < w.heap.size) (hn : ¬ S p.block) : w'.cell? p = w.cell? p := World.cell?_of_block (h.block _ hb hn)
theorem Chg.frozen (h : Chg S w w') {p : Addr} (hb : p.block < w.heap.size) (hn : ¬ S p.block) : w'.frozen? p = w.frozen? p := World.frozen?_of_block (h.block _ hb hn)
theorem below_drewN {B : Nat} {a w : World} (h : Below B a w) (n : Nat) : Below B a (w.drewN n) := ⟨h.os, h.tape, h.output, h.size, h.block⟩
theorem Chg.then_below (h : Chg S w w') (k : Below w'.heap.size w' w'') : Chg S w w'' :=
  h.trans (Chg.of_below k (fun _ => False)) (fun _ _ f => f.elim)
theorem below_then {B : Nat} (h : Below B w w') (k : Below w'.heap.size w' w'') (hB : B ≤ w.heap.size) : Below B w w'' :=
  h.trans (k.mono (Nat.le_trans hB h.size))
end

/- ---------- a block known whole ---------- -/
def Blk (w : World) (g : Nat) (t : TypeId) (cs : Array Value) : Prop := w.heap[g]? = some (.cells cs t (0, 0))
section
variable {w w' : World} {g : Nat} {t : TypeId} {cs : Array Value}
theorem Blk.lt (h : Blk w g t cs) : g < w.heap.size := by
  rcases Nat.lt_or_ge g w.heap.size with hlt | hge
  · exact hlt
  · unfold Blk at h; rw [Array.getElem?_eq_none hge] at h; cases h
theorem Blk.cell (h : Blk w g t cs) (i : Nat) : w.cell? ⟨g, i, none⟩ = cs[i]? := cell_of_row w g i cs t (0, 0) h
theorem Blk.frozen (h : Blk w g t cs) (i : Nat) : w.frozen? ⟨g, i, none⟩ = false := by
  unfold Blk at h
  simp [World.frozen?, h]
theorem Blk.new (w : World) (t : TypeId) (cs : Array Value) : Blk (w.alloc (.cells cs t)) w.heap.size t cs := heap_alloc_new w _
theorem Blk.drew (h : Blk w g t cs) : Blk w.drew g t cs := h
theorem Blk.drewN (h : Blk w g t cs) (n : Nat) : Blk (w.drewN n) g t cs := h
theorem Blk.alloc (h : Blk w g t cs) (o : Obj) : Blk (w.alloc o) g t cs := (Below.heap_alloc w o g h.lt).trans h
theorem Blk.set_ (h : Blk w g t cs) (i : Nat) (u : Value) : Blk (w.setCell ⟨g, i, none⟩ u) g t (cs.setIfInBounds i u) := by
  unfold Blk at h ⊢
  simp [World.setCell, Array.getElem?_modify, h]
theorem Blk.far (h : Blk w g t cs) {p : Addr} (hp : g ≠ p.block) (u : Value) : Blk (w.setCell p u) g t cs := (Below.heap_setCell w p u g hp).trans h
theorem Blk.below {B : Nat} (h : Blk w g t cs) (hb : Below B w w') (hg : g < B) : Blk w' g t cs := (hb.block g hg).trans h
theorem Blk.belowAll (h : Blk w g t cs) (hb : Below w.heap.size w w') : Blk w' g t cs := h.below hb h.lt
theorem Blk.chg {S : Nat → Prop} (h : Blk w g t cs) (hb : Chg S w w') (hg : ¬ S g) : Blk w' g t cs := (hb.block g h.lt hg).trans h
theorem Blk.ne_ {g' : Nat} {t' : TypeId} {cs' : Array Value} (h : Blk w g t cs) (h' : Blk w g' t' cs') (hne : t ≠ t') : g ≠ g' := by
  rintro rfl
  unfold Blk at h h'
  rw [h] at h'
  injection h' with h'
  injection h' with _ ht
  exact hne ht
end

/- ---------- a slice that reads as cells, and may be appended to ---------- -/
/-- 'v' is a slice of n elements of type e ('size' cells each), which hold the cells xs. -/
def Row (w : World) (e : TypeId) (size : Nat) (v : Value) (n : Nat) (xs : List Value) : Prop :=
  xs.length = n * size ∧
  ((v = .slice none 0 0 ∧ n = 0) ∨
   ∃ g off cap cur fz, v = .slice (some ⟨g, off, none⟩) n cap ∧ w.heap[g]? = some (.cells cur e fz) ∧ n ≤ cap ∧ cap ≤ maxLen ∧ off + cap * size ≤ cur.size ∧ (cur.toList.drop off).take (n * size) = xs ∧
     ∀ j, j < cur.size → ¬ (fz.1 ≤ j ∧ j < fz.2))

section
variable {w w' : World} {e : TypeId} {size : Nat} {v : Value} {n : Nat} {xs : List Value}
theorem Row.nil (w : World) (e : TypeId) (size : Nat) : Row w e size (.slice none 0 0) 0 [] := ⟨by simp, .inl ⟨rfl, rfl⟩⟩
theorem Row.len (h : Row w e size v n xs) : xs.length = n * size := h.1
theorem Row.lt (h : Row w e size v n xs) : ∀ k, v.ownBlock = some k → k < w.heap.size := by
  intro k hk
  rcases h.2 with ⟨rfl, _⟩ | ⟨g, off, cap, cur, fz, rfl, hg, _⟩
  · simp [Value.ownBlock] at hk
  · simp [Value.ownBlock] at hk
    subst hk
    exact (Array.getElem?_eq_some_iff.1 hg).1
theorem Row.keep (h : Row w e size v n xs) (hk : ∀ k, v.ownBlock = some k → w'.heap[k]? = w.heap[k]?) : Row w' e size v n xs := by
  refine ⟨h.1, ?_⟩
  rcases h.2 with hn | ⟨g, off, cap, cur, fz, rfl, hg, r⟩
  · exact .inl hn
  · exact .inr ⟨g, off, cap, cur, fz, rfl, (hk g (by simp [Value.ownBlock])).trans hg, r⟩
theorem Row.chg {S : Nat → Prop} (h : Row w e size v n xs) (hc : Chg S w w') (hn : ∀ k, v.ownBlock = some k → ¬ S k) : Row w' e size v n xs :=
  h.keep fun k hk => hc.block k (h.lt k hk) (hn k hk)
theorem Row.belowAll (h : Row w e size v n xs) (hb : Below w.heap.size w w') : Row w' e size v n xs := h.keep fun k hk => hb.block k (h.lt k hk)
theorem Row.below {B : Nat} (h : Row w e size v n xs) (hb : Below B w w') (hB : ∀ k, v.ownBlock = some k → k < B) : Row w' e size v n xs := h.keep fun k hk => hb.block k (hB k hk)
theorem Row.drew (h : Row w e size v n xs) : Row w.drew e size v n xs := h
theorem Row.drewN (h : Row w e size v n xs) (k : Nat) : Row (w.drewN k) e size v n xs := h
theorem Row.alloc (h : Row w e size v n xs) (o : Obj) : Row (w.alloc o) e size v n xs := h.keep fun k hk => Below.heap_alloc w o k (h.lt k hk)
theorem Row.far (h : Row w e size v n xs) {p : Addr} (hp : v.ownBlock ≠ some p.block) (u : Value) : Row (w.setCell p u) e size v n xs :=
  h.keep fun k hk => Below.heap_setCell w p u k (by rintro rfl; exact hp hk)
theorem Row.ne_ {g : Nat} {t : TypeId} {cs : Array Value} (h : Row w e size v n xs) (hb : Blk w g t cs) (hne : e ≠ t) : v.ownBlock ≠ some g := by
  intro hk
  rcases h.2 with ⟨rfl, _⟩ | ⟨g', off, cap, cur, fz, rfl, hg, _⟩
  · simp [Value.ownBlock] at hk
  · simp [Value.ownBlock] at hk
    subst hk
    unfold Blk at hb
    rw [hb] at hg
    injection hg with hg
    injection hg with _ ht
    exact hne ht.symm
theorem Row.of_own {base : Nat} (h : w.ownsRow base e size v n xs) : Row w e size v n xs := by
  refine ⟨h.1, ?_⟩
  rcases h.2 with hn | ⟨g, cap, cur, hv, _, hg, h1, h2, h3, h4⟩
  · exact .inl hn
  · exact .inr ⟨g, 0, cap, cur, (0, 0), hv, hg, h1, h2, by omega, by simpa using h4, fun j _ => by simp⟩
theorem Row.new (w : World) (e : TypeId) (size n : Nat) (cur : Array Value) (hn : n ≤ maxLen) (hc : cur.size = n * size) :
    Row (w.alloc (.cells cur e)) e size (.slice (some ⟨w.heap.size, 0, none⟩) n n) n cur.toList :=
  ⟨by simpa using hc, .inr ⟨w.heap.size, 0, n, cur, (0, 0), rfl, heap_alloc_new w _, Nat.le_refl _, hn, by omega, by simp [List.take_of_length_le, hc], fun j _ => by simp⟩⟩
/-- The shape of a slice with an element. -/
theorem Row.form (h : Row w e size v n xs) (hn : 0 < n) : ∃ g off cap, v = .slice (some ⟨g, off, none⟩) n cap ∧ v.ownBlock = some g ∧ n ≤ cap ∧ cap ≤ maxLen ∧
    (∀ j u, xs[j]? = some u → w.cell? ⟨g, off + j, none⟩ = some u) ∧ (∀ j, j < cap * size → w.frozen? ⟨g, off + j, none⟩ = false) := by
  rcases h.2 with ⟨_, h0⟩ | ⟨g, off, cap, cur, fz, rfl, hg, h1, h2, h3, h4, h5⟩
  · omega
  · refine ⟨g, off, cap, rfl, by simp [Value.ownBlock], h1, h2, fun j u hu => ?_, fun j hj => by
      have := h5 (off + j) (by omega)
      simp only [World.frozen?, hg]
      simp only [Bool.and_eq_false_iff, decide_eq_false_iff_not]
      omega⟩
    rw [cell_of_row w g (off + j) cur e fz hg]
    rw [← h4, List.getElem?_take] at hu
    split at hu
    · rw [List.getElem?_drop] at hu; simpa using hu
    · cases hu
/-- The shape of any such slice: its length stands in the value. -/
theorem Row.shape (h : Row w e size v n xs) : ∃ a cap, v = .slice a n cap ∧ n ≤ cap ∧ cap ≤ maxLen := by
  rcases h.2 with ⟨rfl, rfl⟩ | ⟨g, off, cap, cur, fz, rfl, _, h1, h2, _⟩
  · exact ⟨none, 0, rfl, Nat.le_refl _, by simp [maxLen]⟩
  · exact ⟨_, cap, rfl, h1, h2⟩
theorem Row.nle (h : Row w e size v n xs) : n ≤ 9223372036854775807 := by
  obtain ⟨a, cap, _, h1, h2⟩ := h.shape
  unfold maxLen at h2
  omega
/-- A slice of a slice. -/
theorem Row.cut (h : Row w e size v n xs) {a : Option Addr} {cap : Nat} (hv : v = .slice a n cap) (lo hi : Nat) (hlo : lo ≤ hi) (hhi : hi ≤ n) :
    Row w e size (sliced a lo hi cap size) (hi - lo) ((xs.take (hi * size)).drop (lo * size)) := by
  have hl := h.1
  refine ⟨by rw [List.length_drop, List.length_take, hl, Nat.min_eq_left (Nat.mul_le_mul_right _ hhi), Nat.sub_mul], ?_⟩
  rcases h.2 with ⟨rfl, rfl⟩ | ⟨g, off, cap', cur, fz, rfl, hg, h1, h2, h3, h4, h5⟩
  · left
    injection hv with h1 h2 h3
    subst h1; subst h3
    obtain rfl : hi = 0 := by omega
    obtain rfl : lo = 0 := by omega
    simp [sliced]
  · right
    injection hv with e1 e2 e3
    subst e1; subst e3
    unfold sliced
    by_cases hc : cap' = lo
    · subst hc
      refine ⟨g, off, 0, cur, fz, by simp, hg, by omega, by simp [maxLen], by omega, ?_, h5⟩
      obtain rfl : hi = cap' := by omega
      simp only [Nat.sub_self, Nat.zero_mul, List.take_zero]
      symm
      apply List.drop_eq_nil_of_le
      rw [List.length_take]
      exact Nat.min_le_left _ _
    · refine ⟨g, off + lo * size, cap' - lo, cur, fz, ?_, hg, by omega, by unfold maxLen at *; omega, ?_, ?_, h5⟩
      · rw [if_neg hc]
        simp only [Option.map_some, Addr.add]
        by_cases h0 : lo * size = 0 <;> simp [h0]
      · have : lo * size + (cap' - lo) * size = cap' * size := by rw [← Nat.add_mul]; congr 1; omega
        omega
      · rw [← h4, List.take_take, Nat.min_eq_left (Nat.mul_le_mul_right _ hhi), List.drop_take, List.drop_drop, ← Nat.sub_mul]
theorem ownBlock_sliced {a : Option Addr} {n c lo hi m s k : Nat} (h : (sliced a lo hi m s).ownBlock = some k) : (Value.slice a n c).ownBlock = some k := by
  unfold sliced at h
  cases a with
  | none => simp [Value.ownBlock] at h
  | some a =>
    by_cases hc : m = lo
    · simp only [if_pos hc, Value.ownBlock] at h ⊢; exact h
    · simp only [if_neg hc, Option.map_some, Value.ownBlock] at h ⊢
      rw [← h]; unfold Addr.add; split <;> rfl
end

/- ---------- append ---------- -/
theorem Row.src {P : Program} {w : World} {e e' tx : TypeId} {size : Nat} {v : Value} {n : Nat} {xs : List Value} (h : Row w e size v n xs) (hk : P.underlying tx = some (.slice e'))
    (h1 : ∀ u ∈ xs, u.oneCell' = true) : Src P size tx v n xs w := by
  rcases h.2 with ⟨rfl, rfl⟩ | ⟨g, off, cap, cur, fz, rfl, hg, hc1, hc2, hc3, hc4, hc5⟩
  · obtain rfl : xs = [] := List.eq_nil_of_length_eq_zero (by simpa using h.1)
    exact Src.ofNil w hk 0
  · refine Src.ofSlice w hk ⟨g, off, none⟩ n cap xs h.1 (fun j u hu => ?_) h1
    rw [Addr.add_lit, cell_of_row w g (off + j) cur e fz hg]
    rw [← hc4, List.getElem?_take] at hu
    split at hu
    · rw [List.getElem?_drop] at hu; simpa using hu
    · cases hu

theorem setCells_blk (b : Nat) : ∀ (vs : List Value) (o : Nat) (w : World) (cur : Array Value) (t : TypeId) (fz : Nat × Nat), w.heap[b]? = some (.cells cur t fz) →
    ∃ cur', (w.setCells b o vs).heap[b]? = some (.cells cur' t fz) ∧ cur'.size = cur.size ∧ (∀ j, (j < o ∨ o + vs.length ≤ j) → cur'[j]? = cur[j]?) ∧ (∀ j, j < vs.length → o + j < cur.size → cur'[o + j]? = vs[j]?)
  | [], o, w, cur, t, fz, h => ⟨cur, h, rfl, fun _ _ => rfl, fun j hj => by simp at hj⟩
  | v :: r, o, w, cur, t, fz, h => by
    have h1 : (w.setCell ⟨b, o, none⟩ v).heap[b]? = some (.cells (cur.setIfInBounds o v) t fz) := by simp [World.setCell, Array.getElem?_modify, h]
    obtain ⟨cur', e1, e2, e3, e4⟩ := setCells_blk b r (o + 1) (w.setCell ⟨b, o, none⟩ v) _ t fz h1
    refine ⟨cur', e1, by simpa using e2, fun j hj => ?_, fun j hj hs => ?_⟩
    · simp only [List.length_cons] at hj
      rw [e3 j (by omega), Array.getElem?_setIfInBounds, if_neg (by omega)]
    · cases j with
      | zero =>
        rw [Nat.add_zero, e3 o (by omega), Array.getElem?_setIfInBounds, if_pos rfl, if_pos (by omega)]
        rfl
      | succ j =>
        have := e4 j (by simpa using hj) (by simp; omega)
        rw [show o + (j + 1) = o + 1 + j from by omega, this]
        rfl

theorem setCells_keep (b : Nat) : ∀ (vs : List Value) (o : Nat) (w : World), (w.setCells b o vs).os = w.os ∧ (w.setCells b o vs).tape = w.tape ∧ (w.setCells b o vs).output = w.output ∧ (w.setCells b o vs).heap.size = w.heap.size ∧ ∀ k, k ≠ b → (w.setCells b o vs).heap[k]? = w.heap[k]?
  | [], _, _ => ⟨rfl, rfl, rfl, rfl, fun _ _ => rfl⟩
  | v :: r, o, w => by
    obtain ⟨a, b1, c, d, e⟩ := setCells_keep b r (o + 1) (w.setCell ⟨b, o, none⟩ v)
    refine ⟨a, b1, c, by rw [World.setCells, d]; simp [World.setCell], fun k hk => ?_⟩
    rw [World.setCells, e k hk, Below.heap_setCell _ _ _ _ hk]

/-- APPEND onto a row, whatever is appended. -/
theorem run_append_row {P : Program} (w : World) (t tx ty e : TypeId) (i : TypeInfo) (z : Value) (size bytes : Nat) (ht : P.underlying t = some (.slice e)) (hi : P.info? e = some i) (hz : i.zero = some z)
    (hsize : i.size = size) (hby : i.bytes = bytes) (hzs : z.cells.size = size) (_hsz : 0 < size)
    (v : Value) (n : Nat) (xs : List Value) (hown : Row w e size v n xs) (x : Value) (m : Nat) (news : List Value) (hs : Src P size tx x m news w)
    (h63 : n + m ≤ maxLen) (hbytes : (n + m) * bytes ≤ 140737488355328) :
    ∃ v' w', (Builtin.append_ #[t, tx] ty #[v, x]).run P w = .ok v' w' ∧ Row w' e size v' (n + m) (xs ++ news) ∧ Chg (fun k => v.ownBlock = some k) w w' ∧
      (v'.ownBlock = v.ownBlock ∨ v'.ownBlock = some w.heap.size) := by
  subst hsize
  subst hby
  have hsmall : n + m ≤ 9223372036854775807 := by simp only [maxLen] at h63; omega
  have hlen : (xs ++ news).length = (n + m) * i.size := by rw [List.length_append, hown.1, hs.newsLen, Nat.add_mul]
  have grown : ∀ (old : Nat), old < n + m →
      Row (w.drew.alloc (.cells ((xs ++ news).toArray ++ Builtin.zeroCells z.cells (grownCap w (n + m) old e - (n + m))) e)) e i.size
        (.slice (some ⟨w.heap.size, 0, none⟩) (n + m) (grownCap w (n + m) old e)) (n + m) (xs ++ news) := by
    intro old ho
    have hge := grownCap_ge w (n + m) old e
    have hcm : grownCap w (n + m) old e ≤ maxLen := grownCap_le_maxLen w (n + m) old e h63
    refine ⟨hlen, .inr ⟨w.heap.size, 0, _, _, (0, 0), rfl, heap_alloc_new w.drew _, hge, hcm, ?_, ?_, fun j _ => by simp⟩⟩
    · simp only [Array.size_append, List.size_toArray, size_zeroCells, hzs, hlen, ← Nat.add_mul]
      rw [show n + m + (grownCap w (n + m) old e - (n + m)) = grownCap w (n + m) old e from by omega]
      omega
    · simp only [Array.toList_append, List.drop_zero]
      rw [← hlen]
      exact List.take_left
  have hgc : ∀ o : Obj, Chg (fun k => v.ownBlock = some k) w (w.drew.alloc o) := fun o => ((Chg.refl _ w).drew).alloc o
  rcases hown.2 with ⟨rfl, rfl⟩ | ⟨g, off, cap, cur, fz, rfl, hg, hnc, hcm, hcs, htake, hfz⟩
  · have hx : xs = [] := List.eq_nil_of_length_eq_zero (by simpa using hown.1)
    subst hx
    by_cases hm : m = 0
    · subst hm
      have hn : news = [] := List.eq_nil_of_length_eq_zero (by simpa using hs.newsLen)
      subst hn
      refine ⟨.slice none 0 0, w, ?_, Row.nil w e i.size, Chg.refl _ w, .inl rfl⟩
      rcases hs.kind with ⟨e', hk⟩ | hk <;> simp [Builtin.append_, run_underlying ht, run_underlying hk, sizeOf, typeInfo, hi, hs.len, hs.cells]
    · have hr := run_append_grow_src (P := P) w t tx ty e i z ht hi hz none 0 0 [] (by simp [Builtin.firstCells]) x m news hs (by omega) (by simp only [Nat.zero_add] at *; omega) (growslice_fits (by omega) hbytes)
      exact ⟨_, _, hr, grown 0 (by omega), hgc _, .inr rfl⟩
  · by_cases hroom : n + m ≤ cap
    · have hin : off + n * i.size + news.length ≤ cur.size := by
        rw [hs.newsLen]
        have : n * i.size + m * i.size ≤ cap * i.size := by rw [← Nat.add_mul]; exact Nat.mul_le_mul_right _ hroom
        omega
      have hr := run_append_room_src (P := P) w t tx ty e i ht hi g off n cap x m news hs hroom
        (fun j hj => by rw [cell_of_row w g _ cur e fz hg, Array.getElem?_eq_getElem (by omega)]; rfl) (fun j hj => by
          have := hfz (off + n * i.size + j) (by omega)
          simp only [World.frozen?, hg]
          simp only [Bool.and_eq_false_iff, decide_eq_false_iff_not]
          omega)
      obtain ⟨cur', e1, e2, e3, e4⟩ := setCells_blk g news (off + n * i.size) w cur e fz hg
      obtain ⟨k1, k2, k3, k4, k5⟩ := setCells_keep g news (off + n * i.size) w
      refine ⟨_, _, hr, ⟨hlen, .inr ⟨g, off, cap, cur', fz, rfl, e1, hroom, hcm, by omega, ?_, fun j hj => hfz j (by omega)⟩⟩, ⟨k1, k2, k3, by omega, fun k _ hk => k5 k (by rintro rfl; exact hk (by simp [Value.ownBlock]))⟩, .inl (by simp [Value.ownBlock])⟩
      have hxl := hown.1
      have hnl := hs.newsLen
      have hsum : (n + m) * i.size = n * i.size + m * i.size := Nat.add_mul _ _ _
      apply List.ext_getElem?
      intro j
      rw [List.getElem?_take]
      by_cases hj : j < (n + m) * i.size
      · rw [if_pos hj, List.getElem?_drop, Array.getElem?_toList]
        by_cases hjn : j < n * i.size
        · rw [e3 (off + j) (by omega), List.getElem?_append_left (by omega), ← htake, List.getElem?_take, if_pos hjn, List.getElem?_drop, Array.getElem?_toList]
        · rw [List.getElem?_append_right (by omega)]
          have := e4 (j - n * i.size) (by omega) (by omega)
          rw [show off + n * i.size + (j - n * i.size) = off + j from by omega] at this
          rw [this, hxl]
      · rw [if_neg hj]
        symm
        rw [List.getElem?_eq_none]
        omega
    · have hold : (Builtin.firstCells i.size n (.slice (some ⟨g, off, none⟩) n cap)).run P w.drew = .ok xs.toArray w.drew :=
        run_firstCells_some w.drew i.size n _ n cap xs hown.1 (fun j u hu => by
          rw [Addr.add_lit]
          show w.cell? _ = _
          rw [cell_of_row w g (off + j) cur e fz hg]
          rw [← htake, List.getElem?_take] at hu
          split at hu
          · rw [List.getElem?_drop] at hu; simpa using hu
          · cases hu)
      have hr := run_append_grow_src (P := P) w t tx ty e i z ht hi hz (some ⟨g, off, none⟩) n cap xs hold x m news hs (by omega) (by omega) (growslice_fits (by omega) hbytes)
      exact ⟨_, _, hr, grown cap (by omega), hgc _, .inr rfl⟩

theorem wp_append_row {P : Program} (w : World) {o : Oper} {a : Act} {K : Act → World → Prop} {Q : Exit → Act → World → Prop} (s x : Operand) (t tx : TypeId)
    (ho : o.op = .call { callee := .builtin .append, args := #[s, x], argTypes := #[t, tx] })
    (e : TypeId) (i : TypeInfo) (z : Value) (size bytes : Nat) (ht : P.underlying t = some (.slice e)) (hi : P.info? e = some i) (hz : i.zero = some z)
    (hsize : i.size = size) (hby : i.bytes = bytes) (hzs : z.cells.size = size) (hsz : 0 < size)
    (v : Value) (n : Nat) (xs : List Value) (hs : a.eval s = v) (hown : Row w e size v n xs)
    (xv : Value) (m : Nat) (news : List Value) (hx : a.eval x = xv) (hsrc : Src P size tx xv m news w)
    (h63 : n + m ≤ maxLen) (hbytes : (n + m) * bytes ≤ 140737488355328)
    (h : ∀ v' w', Row w' e size v' (n + m) (xs ++ news) → Chg (fun k => v.ownBlock = some k) w w' → (v'.ownBlock = v.ownBlock ∨ v'.ownBlock = some w.heap.size) → K (a.put o.dst v') w') : o.wp P a w K Q := by
  obtain ⟨v', w', hr, h2, h3, h4⟩ := run_append_row (P := P) w t tx o.type e i z size bytes ht hi hz hsize hby hzs hsz v n xs hown xv m news hsrc h63 hbytes
  unfold Oper.wp execOp
  simp only [ho, resolve, invoke, builtin, Sem.run_bind, Sem.run_pure, Result.andThen_ok, List.map_toArray, List.map_cons, List.map_nil, hs, hx, hr]
  exact h v' w' h2 h3 h4

theorem wpList_append_row {P : Program} (w : World) {ops : Array Oper} {rest : List Oper} {o : Oper} {a : Act} {Q : Exit → Act → World → Prop} (hgd : o.guard = none) (s x : Operand) (t tx : TypeId)
    (ho : o.op = .call { callee := .builtin .append, args := #[s, x], argTypes := #[t, tx] })
    (e : TypeId) (i : TypeInfo) (z : Value) (size bytes : Nat) (ht : P.underlying t = some (.slice e)) (hi : P.info? e = some i) (hz : i.zero = some z)
    (hsize : i.size = size) (hby : i.bytes = bytes) (hzs : z.cells.size = size) (hsz : 0 < size)
    (v : Value) (n : Nat) (xs : List Value) (hs : a.eval s = v) (hown : Row w e size v n xs)
    (xv : Value) (m : Nat) (news : List Value) (hx : a.eval x = xv) (hsrc : Src P size tx xv m news w)
    (h63 : n + m ≤ maxLen) (hbytes : (n + m) * bytes ≤ 140737488355328)
    (h : ∀ v' w', Row w' e size v' (n + m) (xs ++ news) → Chg (fun k => v.ownBlock = some k) w w' → (v'.ownBlock = v.ownBlock ∨ v'.ownBlock = some w.heap.size) → wpList P ops Q rest (a.put o.dst v') w') : wpList P ops Q (o :: rest) a w :=
  wpList_plain hgd fun _ hK => wp_append_row w s x t tx ho e i z size bytes ht hi hz hsize hby hzs hsz v n xs hs hown xv m news hx hsrc h63 hbytes fun v' w' h2 h3 h4 => hK _ _ (h v' w' h2 h3 h4)

theorem step_append_row {P : Program} (w : World) {ops : Array Oper} {o : Oper} {a : Act} {K : Act → World → Prop} {Q : Exit → Act → World → Prop} {E : Prop} (hgd : o.guard = none) (s x : Operand) (t tx : TypeId)
    (ho : o.op = .call { callee := .builtin .append, args := #[s, x], argTypes := #[t, tx] })
    (e : TypeId) (i : TypeInfo) (z : Value) (size bytes : Nat) (ht : P.underlying t = some (.slice e)) (hi : P.info? e = some i) (hz : i.zero = some z)
    (hsize : i.size = size) (hby : i.bytes = bytes) (hzs : z.cells.size = size) (hsz : 0 < size)
    (v : Value) (n : Nat) (xs : List Value) (hs : a.eval s = v) (hown : Row w e size v n xs)
    (xv : Value) (m : Nat) (news : List Value) (hx : a.eval x = xv) (hsrc : Src P size tx xv m news w)
    (h63 : n + m ≤ maxLen) (hbytes : (n + m) * bytes ≤ 140737488355328)
    (h : ∀ v' w', Row w' e size v' (n + m) (xs ++ news) → Chg (fun k => v.ownBlock = some k) w w' → (v'.ownBlock = v.ownBlock ∨ v'.ownBlock = some w.heap.size) → K (a.put o.dst v') w') :
    if Region.wanted o (yielded ops a.tmps) = true then Oper.wp P o a w K Q else E := by
  have hw : Region.wanted o (yielded ops a.tmps) = true := by simp [Region.wanted, hgd]
  rw [if_pos hw]
  exact wp_append_row w s x t tx ho e i z size bytes ht hi hz hsize hby hzs hsz v n xs hs hown xv m news hx hsrc h63 hbytes h

/- ---------- whole blocks: loads and stores of arrays and structs ---------- -/
theorem wpList_load_blk {P : Program} {ops : Array Oper} {rest : List Oper} {o : Oper} {a : Act} {w : World} {Q : Exit → Act → World → Prop} (hgd : o.guard = none) (ty : TypeId) (x : Operand) (ho : o.op = .load ty x)
    (g : Nat) (hx : a.eval x = .pointer (some ⟨g, 0, none⟩)) {t : TypeId} {cs : Array Value} {d : TypeDesc} (hB : Blk w g t cs)
    (hu : P.underlying ty = some d) (hd : (match d with | .struct _ | .array _ _ => true | _ => false) = true) (hi : (P.info? ty).map (·.size) = some cs.size)
    (h : wpList P ops Q rest (a.put o.dst (.agg cs)) w) : wpList P ops Q (o :: rest) a w :=
  wpList_load_row hgd ty x ho g hx t cs (0, 0) d hB hu hd hi h
theorem wpList_store_blk {P : Program} {ops : Array Oper} {rest : List Oper} {o : Oper} {a : Act} {w : World} {Q : Exit → Act → World → Prop} (hgd : o.guard = none) (ty : TypeId) (x y : Operand) (ho : o.op = .store ty x y)
    (g : Nat) (cells : Array Value) (hx : a.eval x = .pointer (some ⟨g, 0, none⟩)) (hy : a.eval y = .agg cells) {t : TypeId} {old : Array Value} (hB : Blk w g t old)
    (hi : (P.info? ty).map (·.size) = some cells.size) (hs : old.size = cells.size) (h1 : ∀ u ∈ cells.toList, u.oneCell' = true)
    (h : ∀ w', Blk w' g t cells → Chg (fun k => k = g) w w' → wpList P ops Q rest (a.put o.dst undef) w') : wpList P ops Q (o :: rest) a w := by
  refine wpList_plain hgd fun _ hK => ?_
  unfold Oper.wp execOp
  simp only [ho, hx, hy, Instr.storeAt, Instr.sureAddr, Sem.run_bind, Sem.run_pure, Result.andThen_ok,
    run_storeVar_row w g t ty old cells hB hi hs (Array.all_eq_true_iff_forall_mem.2 (fun v hv => h1 v (by simpa using hv)))]
  exact hK _ _ (h _ (setRow_heap _ _ _ _ _ _ hB) ((Chg.refl (fun k => k = g) w).setRow (.inl rfl) _))
/-- a result that lies in a block known whole -/
theorem results_blk {P : Program} {fn : Func} {p : Tmp} {ty : TypeId} (h : fn.results = #[.cell p ty]) (tmps : Array Value) (w : World) (g : Nat) {t : TypeId} {cs : Array Value} {d : TypeDesc}
    (hp : tmps.getD p undef = .pointer (some ⟨g, 0, none⟩)) (hB : Blk w g t cs)
    (hu : P.underlying ty = some d) (hd : (match d with | .struct _ | .array _ _ => true | _ => false) = true) (hi : (P.info? ty).map (·.size) = some cs.size) :
    (results fn tmps).run P w = .ok (.agg cs) w := results_cell_row h tmps w g t cs (0, 0) d hp hB hu hd hi
/-- a block told by its cells, one by one -/
theorem Blk.of_row {w : World} {g : Nat} {t : TypeId} {n : Nat} {f : Nat → Value} {cs : Array Value} (h : w.rowIs g t n f) (hn : cs.size = n) (hc : ∀ i, i < n → cs[i]? = some (f i)) : Blk w g t cs := by
  obtain ⟨c, hb, hs, hi⟩ := h
  unfold Blk
  rw [hb]
  congr 2
  apply Array.ext_getElem?
  intro i
  by_cases hlt : i < n
  · rw [hi i hlt, hc i hlt]
  · rw [Array.getElem?_eq_none (by omega), Array.getElem?_eq_none (by omega)]
theorem Blk.row {w : World} {g : Nat} {t : TypeId} {cs : Array Value} (h : Blk w g t cs) {n : Nat} {f : Nat → Value} (hn : cs.size = n) (hc : ∀ i, i < n → cs[i]? = some (f i)) : w.rowIs g t n f := ⟨cs, h, hn, hc⟩

/- ---------- bytes and strings ---------- -/
/-- a byte as a cell -/
def bv (b : UInt8) : Value := .int .u8 b.toNat
theorem bv_one (l : List UInt8) : ∀ u ∈ l.map bv, u.oneCell' = true := by
  intro u hu
  obtain ⟨_, _, rfl⟩ := List.mem_map.1 hu
  rfl
/-- 'string(b)' -/
theorem run_str_of_row {P : Program} (w : World) (src dst e : TypeId) (v : Value) (n : Nat) (l : List UInt8) (hs : P.underlying src = some (.slice e)) (he : P.underlying e = some (.int .u8)) (hd : P.underlying dst = some .string)
    (h : Row w e 1 v n (l.map bv)) : (convert src dst v).run P w = .ok (.string ⟨l.toArray⟩) w := by
  have hl : l.length = n := by have := h.1; simpa using this
  subst hl
  rcases Nat.eq_zero_or_pos l.length with h0 | h0
  · obtain rfl : l = [] := List.eq_nil_of_length_eq_zero h0
    obtain ⟨a, cap, rfl, _, _⟩ := h.shape
    cases a with
    | none => exact run_convert_bytes_nil (P := P) w src e hs he 0 cap dst hd
    | some a => exact run_convert_bytes_back (P := P) w src dst e a cap [] hs he hd (fun j hj => by simp at hj)
  · obtain ⟨g, off, cap, rfl, _, _, _, hc, _⟩ := h.form h0
    exact run_convert_bytes_back (P := P) w src dst e _ cap l hs he hd (fun j hj => by
      rw [Addr.add_lit]
      exact hc j _ (by rw [List.getElem?_map, List.getElem?_eq_getElem hj]; rfl))

/- ---------- copy ---------- -/
/-- COPY inside one block known whole, elements of one cell. -/
theorem run_copy_within {P : Program} (w : World) {g : Nat} {bt : TypeId} {cs : Array Value} (hB : Blk w g bt cs) (t ty e : TypeId) (i : TypeInfo) (ht : P.underlying t = some (.slice e)) (hi : P.info? e = some i) (h1 : i.size = 1)
    (d so n dl dc sc : Nat) (hn : n ≤ dl) (hd : d + n ≤ cs.size) (hs : so + n ≤ cs.size) (hone : ∀ u ∈ cs.toList, u.oneCell' = true) :
    (Builtin.copy_ #[t, t] ty #[.slice (some ⟨g, d, none⟩) dl dc, .slice (some ⟨g, so, none⟩) n sc]).run P w =
      .ok (.int .i64 n) (w.setRow g (cs.toList.take d ++ (cs.toList.drop so).take n ++ cs.toList.drop (d + n)).toArray) := by
  have hl : ((cs.toList.drop so).take n).length = n := by simp; omega
  have hf := run_firstCells_some (P := P) w 1 n ⟨g, so, none⟩ n sc ((cs.toList.drop so).take n) (by omega) (fun j u hu => by
    rw [Addr.add_lit, hB.cell]
    rw [List.getElem?_take] at hu
    split at hu
    · rw [List.getElem?_drop] at hu; simpa using hu
    · cases hu)
  have hst := run_storeCells_at P g d bt ((cs.toList.drop so).take n) 0 cs w hB (by omega) (fun u hu => hone u (List.mem_of_mem_drop (List.mem_of_mem_take hu)))
  rw [hl] at hst
  simp only [Nat.add_zero] at hst
  have hmin : Nat.min n dl = n := Nat.min_eq_left hn
  simp [Builtin.copy_, run_underlying ht, Builtin.lenOf, hmin, sizeOf, typeInfo, hi, h1, hf, hst, goInt]
end Go.Proofs.YtnijmegalgoipaaGreatDoor
