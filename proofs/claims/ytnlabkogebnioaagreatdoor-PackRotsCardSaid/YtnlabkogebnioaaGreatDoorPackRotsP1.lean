/- What PackRots needs, part 1. -/
import Derived.Below
import Derived.Laws.OwnMore
import Derived.Deep.Draws
import Derived.Deep.OwnRows
import Derived.Laws.Rows
import Derived.Deep.AppendSrc
import Derived.WalkKit
import Derived.Lib.Hide
import Derived.OrdersHeld
import Derived.Deep.QuietTactic
import Derived.BigQuiet
import Derived.Deep.MidRow
import Derived.IntWalk
import Derived.Test.YtnlabkogebnioaaGreatDoorProg
import Derived.Laws.BitsAllLaws
import Derived.Laws.Bits64
import Derived.Lib.Bytealg
import Derived.Sort.Walk0
import Derived.StillTail
import Derived.Ground.NamesProg
import Derived.Shelf.Lay
import Derived.Shelf.Strings.SlTrimAscii
import Derived.Lib.SliceRun
import Derived.Defers
import Derived.Recover
namespace Go.Proofs.YtnlabkogebnioaaGreatDoor
open Go.RowKit
structure Chg (S : Nat → Prop) (w w' : World) : Prop where
  os : w'.os = w.os
  tape : w'.tape = w.tape
  output : w'.output = w.output
  size : w.heap.size ≤ w'.heap.size
  block : ∀ k, k < w.heap.size → ¬ S k → w'.heap[k]? = w.heap[k]?
def More (S : Nat → Prop) (w : World) : Nat → Prop := fun k => S k ∨ w.heap.size ≤ k
section
variable {S T : Nat → Prop} {w w' w'' : World}
theorem Chg.refl (S : Nat → Prop) (w : World) : Chg S w w := ⟨rfl, rfl, rfl, Nat.le_refl _, fun _ _ _ => rfl⟩
theorem Chg.mono (h : Chg S w w') (hs : ∀ k, k < w.heap.size → S k → T k) : Chg T w w' :=
 ⟨h.os, h.tape, h.output, h.size, fun k hk hn => h.block k hk (fun s => hn (hs k hk s))⟩
theorem Chg.trans (h : Chg S w w') (k : Chg T w' w'') (hs : ∀ i, i < w.heap.size → T i → S i) : Chg S w w'' :=
  ⟨k.os.trans h.os, k.tape.trans h.tape, k.output.trans h.output, Nat.le_trans h.size k.size,
   fun i hi hn => (k.block i (Nat.lt_of_lt_of_le hi h.size) (fun t => hn (hs i hi t))).trans (h.block i hi hn)⟩
theorem Chg.next (h : Chg S w w') (k : Chg T w' w'') (hs : ∀ i, T i → S i ∨ w.heap.size ≤ i) : Chg S w w'' :=
 h.trans k (fun i hi t => (hs i t).elim id (fun t => absurd t (by omega)))
theorem Chg.belowAll (h : Chg (fun _ => False) w w') : Below w.heap.size w w' := ⟨h.os, h.tape, h.output, h.size, fun k hk => h.block k hk (fun f => f)⟩
theorem Chg.of_below (h : Below w.heap.size w w') (S : Nat → Prop) : Chg S w w' := ⟨h.os, h.tape, h.output, h.size, fun i hi _ => h.block i hi⟩
theorem Chg.below (h : Chg S w w') {B : Nat} (hB : B ≤ w.heap.size) (hs : ∀ k, S k → B ≤ k) : Below B w w' :=
 ⟨h.os, h.tape, h.output, h.size, fun k hk => h.block k (by omega) (fun s => by have := hs k s; omega)⟩
theorem Chg.drew (h : Chg S w w') : Chg S w w'.drew := ⟨h.os, h.tape, h.output, h.size, h.block⟩
theorem Chg.drewN (h : Chg S w w') (n : Nat) : Chg S w (w'.drewN n) := ⟨h.os, h.tape, h.output, h.size, h.block⟩
theorem Chg.alloc (h : Chg S w w') (o : Obj) : Chg S w (w'.alloc o) :=
 ⟨h.os, h.tape, h.output, Nat.le_trans h.size (by simp), fun i hi hn => (Below.heap_alloc w' o i (Nat.lt_of_lt_of_le hi h.size)).trans (h.block i hi hn)⟩
theorem Chg.setCell (h : Chg S w w') {p : Addr} (hp : S p.block ∨ w.heap.size ≤ p.block) (u : Value) : Chg S w (w'.setCell p u) :=
 ⟨h.os, h.tape, h.output, by simpa [World.setCell] using h.size, fun i hi hn => (Below.heap_setCell w' p u i (by
  rintro rfl
  rcases hp with hp | hp
  ·exact hn hp
  ·omega)).trans (h.block i hi hn)⟩
theorem Chg.setRow (h : Chg S w w') {g : Nat} (hp : S g ∨ w.heap.size ≤ g) (cs : Array Value) : Chg S w (w'.setRow g cs) :=
 ⟨h.os, h.tape, h.output, by simpa [World.setRow] using h.size, fun i hi hn => (setRow_other w' g i cs (by
  rintro rfl
  rcases hp with hp | hp
  ·exact hn hp
  ·omega)).trans (h.block i hi hn)⟩
theorem Chg.cell (h : Chg S w w') {p : Addr} (hb : p.block < w.heap.size) (hn : ¬ S p.block) : w'.cell? p = w.cell? p := World.cell?_of_block (h.block _ hb hn)
theorem Chg.then_below (h : Chg S w w') (k : Below w'.heap.size w' w'') : Chg S w w'' :=
 h.trans (Chg.of_below k (fun _ => False)) (fun _ _ f => f.elim)
theorem below_then {B : Nat} (h : Below B w w') (k : Below w'.heap.size w' w'') (hB : B ≤ w.heap.size) : Below B w w'' :=
 h.trans (k.mono (Nat.le_trans hB h.size))
end
def Blk (w : World) (g : Nat) (t : TypeId) (cs : Array Value) : Prop := w.heap[g]? = some (.cells cs t (0, 0))
section
variable {w w' : World} {g : Nat} {t : TypeId} {cs : Array Value}
theorem Blk.lt (h : Blk w g t cs) : g < w.heap.size := by
 rcases Nat.lt_or_ge g w.heap.size with hlt | hge
 ·exact hlt
 ·unfold Blk at h; rw [Array.getElem?_eq_none hge] at h; cases h
theorem Blk.cell (h : Blk w g t cs) (i : Nat) : w.cell? ⟨g, i, none⟩ = cs[i]? := cell_of_row w g i cs t (0, 0) h
theorem Blk.frozen (h : Blk w g t cs) (i : Nat) : w.frozen? ⟨g, i, none⟩ = false := by
 unfold Blk at h
 simp [World.frozen?, h]
theorem Blk.new (w : World) (t : TypeId) (cs : Array Value) : Blk (w.alloc (.cells cs t)) w.heap.size t cs := heap_alloc_new w _
theorem Blk.drew (h : Blk w g t cs) : Blk w.drew g t cs := h
theorem Blk.drewN (h : Blk w g t cs) (n : Nat) : Blk (w.drewN n) g t cs := h
theorem Blk.alloc (h : Blk w g t cs) (o : Obj) : Blk (w.alloc o) g t cs := (Below.heap_alloc w o g h.lt).trans h
theorem Blk.set_ (h : Blk w g t cs) (i : Nat) (u : Value) : Blk (w.setCell ⟨g, i, none⟩ u) g t (cs.setIfInBounds i u) := by
 unfold Blk at h ⊢
 simp [World.setCell, Array.getElem?_modify, h]
theorem Blk.below {B : Nat} (h : Blk w g t cs) (hb : Below B w w') (hg : g < B) : Blk w' g t cs := (hb.block g hg).trans h
theorem Blk.belowAll (h : Blk w g t cs) (hb : Below w.heap.size w w') : Blk w' g t cs := h.below hb h.lt
theorem Blk.chg {S : Nat → Prop} (h : Blk w g t cs) (hb : Chg S w w') (hg : ¬ S g) : Blk w' g t cs := (hb.block g h.lt hg).trans h
end
def Row (w : World) (e : TypeId) (size : Nat) (v : Value) (n : Nat) (xs : List Value) : Prop :=
  xs.length = n * size ∧
  ((v = .slice none 0 0 ∧ n = 0) ∨
   ∃ g off cap cur fz, v = .slice (some ⟨g, off, none⟩) n cap ∧ w.heap[g]? = some (.cells cur e fz) ∧ n ≤ cap ∧ cap ≤ maxLen ∧ off + cap * size ≤ cur.size ∧ (cur.toList.drop off).take (n * size) = xs ∧
     ∀ j, j < cur.size → ¬ (fz.1 ≤ j ∧ j < fz.2))
section
variable {w w' : World} {e : TypeId} {size : Nat} {v : Value} {n : Nat} {xs : List Value}
theorem Row.nil (w : World) (e : TypeId) (size : Nat) : Row w e size (.slice none 0 0) 0 [] := ⟨by simp, .inl ⟨rfl, rfl⟩⟩
theorem Row.lt (h : Row w e size v n xs) : ∀ k, v.ownBlock = some k → k < w.heap.size := by
 intro k hk
 rcases h.2 with ⟨rfl, _⟩ | ⟨g, off, cap, cur, fz, rfl, hg, _⟩
 ·simp [Value.ownBlock] at hk
 ·simp [Value.ownBlock] at hk
  subst hk
  exact (Array.getElem?_eq_some_iff.1 hg).1
theorem Row.keep (h : Row w e size v n xs) (hk : ∀ k, v.ownBlock = some k → w'.heap[k]? = w.heap[k]?) : Row w' e size v n xs := by
 refine ⟨h.1, ?_⟩
 rcases h.2 with hn | ⟨g, off, cap, cur, fz, rfl, hg, r⟩
 ·exact .inl hn
 ·exact .inr ⟨g, off, cap, cur, fz, rfl, (hk g (by simp [Value.ownBlock])).trans hg, r⟩
theorem Row.chg {S : Nat → Prop} (h : Row w e size v n xs) (hc : Chg S w w') (hn : ∀ k, v.ownBlock = some k → ¬ S k) : Row w' e size v n xs :=
 h.keep fun k hk => hc.block k (h.lt k hk) (hn k hk)
theorem Row.belowAll (h : Row w e size v n xs) (hb : Below w.heap.size w w') : Row w' e size v n xs := h.keep fun k hk => hb.block k (h.lt k hk)
theorem Row.alloc (h : Row w e size v n xs) (o : Obj) : Row (w.alloc o) e size v n xs := h.keep fun k hk => Below.heap_alloc w o k (h.lt k hk)
theorem Row.far (h : Row w e size v n xs) {p : Addr} (hp : v.ownBlock ≠ some p.block) (u : Value) : Row (w.setCell p u) e size v n xs :=
 h.keep fun k hk => Below.heap_setCell w p u k (by rintro rfl; exact hp hk)
theorem Row.ne_ {g : Nat} {t : TypeId} {cs : Array Value} (h : Row w e size v n xs) (hb : Blk w g t cs) (hne : e ≠ t) : v.ownBlock ≠ some g := by
 intro hk
 rcases h.2 with ⟨rfl, _⟩ | ⟨g', off, cap, cur, fz, rfl, hg, _⟩
 ·simp [Value.ownBlock] at hk
 ·simp [Value.ownBlock] at hk
  subst hk
  unfold Blk at hb
  rw [hb] at hg
  injection hg with hg
  injection hg with _ ht
  exact hne ht.symm
theorem Row.new (w : World) (e : TypeId) (size n : Nat) (cur : Array Value) (hn : n ≤ maxLen) (hc : cur.size = n * size) :
  Row (w.alloc (.cells cur e)) e size (.slice (some ⟨w.heap.size, 0, none⟩) n n) n cur.toList :=
 ⟨by simpa using hc, .inr ⟨w.heap.size, 0, n, cur, (0, 0), rfl, heap_alloc_new w _, Nat.le_refl _, hn, by omega, by simp [List.take_of_length_le, hc], fun j _ => by simp⟩⟩
theorem Row.form (h : Row w e size v n xs) (hn : 0 < n) : ∃ g off cap, v = .slice (some ⟨g, off, none⟩) n cap ∧ v.ownBlock = some g ∧ n ≤ cap ∧ cap ≤ maxLen ∧
  (∀ j u, xs[j]? = some u → w.cell? ⟨g, off + j, none⟩ = some u) ∧ (∀ j, j < cap * size → w.frozen? ⟨g, off + j, none⟩ = false) := by
 rcases h.2 with ⟨_, h0⟩ | ⟨g, off, cap, cur, fz, rfl, hg, h1, h2, h3, h4, h5⟩
 ·omega
 ·refine ⟨g, off, cap, rfl, by simp [Value.ownBlock], h1, h2, fun j u hu => ?_, fun j hj => by
   have := h5 (off + j) (by omega)
   simp only [World.frozen?, hg]
   simp only [Bool.and_eq_false_iff, decide_eq_false_iff_not]
   omega⟩
  rw [cell_of_row w g (off + j) cur e fz hg]
  rw [← h4, List.getElem?_take] at hu
  split at hu
  ·rw [List.getElem?_drop] at hu; simpa using hu
  ·cases hu
theorem Row.shape (h : Row w e size v n xs) : ∃ a cap, v = .slice a n cap ∧ n ≤ cap ∧ cap ≤ maxLen := by
 rcases h.2 with ⟨rfl, rfl⟩ | ⟨g, off, cap, cur, fz, rfl, _, h1, h2, _⟩
 ·exact ⟨none, 0, rfl, Nat.le_refl _, by simp [maxLen]⟩
 ·exact ⟨_, cap, rfl, h1, h2⟩
theorem Row.cut (h : Row w e size v n xs) {a : Option Addr} {cap : Nat} (hv : v = .slice a n cap) (lo hi : Nat) (hlo : lo ≤ hi) (hhi : hi ≤ n) :
  Row w e size (sliced a lo hi cap size) (hi - lo) ((xs.take (hi * size)).drop (lo * size)) := by
 have hl := h.1
 refine ⟨by rw [List.length_drop, List.length_take, hl, Nat.min_eq_left (Nat.mul_le_mul_right _ hhi), Nat.sub_mul], ?_⟩
 rcases h.2 with ⟨rfl, rfl⟩ | ⟨g, off, cap', cur, fz, rfl, hg, h1, h2, h3, h4, h5⟩
 ·left
  injection hv with h1 h2 h3
  subst h1; subst h3
  obtain rfl : hi = 0 := by omega
  obtain rfl : lo = 0 := by omega
  simp [sliced]
 ·right
  injection hv with e1 e2 e3
  subst e1; subst e3
  unfold sliced
  by_cases hc : cap' = lo
  ·subst hc
   refine ⟨g, off, 0, cur, fz, by simp, hg, by omega, by simp [maxLen], by omega, ?_, h5⟩
   obtain rfl : hi = cap' := by omega
   simp only [Nat.sub_self, Nat.zero_mul, List.take_zero]
   symm
   apply List.drop_eq_nil_of_le
   rw [List.length_take]
   exact Nat.min_le_left _ _
  ·refine ⟨g, off + lo * size, cap' - lo, cur, fz, ?_, hg, by omega, by unfold maxLen at *; omega, ?_, ?_, h5⟩
   ·rw [if_neg hc]
    simp only [Option.map_some, Addr.add]
    by_cases h0 : lo * size = 0 <;> simp [h0]
   ·have : lo * size + (cap' - lo) * size = cap' * size := by rw [← Nat.add_mul]; congr 1; omega
    omega
   ·rw [← h4, List.take_take, Nat.min_eq_left (Nat.mul_le_mul_right _ hhi), List.drop_take, List.drop_drop, ← Nat.sub_mul]
theorem ownBlock_sliced {a : Option Addr} {n c lo hi m s k : Nat} (h : (sliced a lo hi m s).ownBlock = some k) : (Value.slice a n c).ownBlock = some k := by
 unfold sliced at h
 cases a with
 | none => simp [Value.ownBlock] at h
 | some a =>
  by_cases hc : m = lo
  ·simp only [if_pos hc, Value.ownBlock] at h ⊢; exact h
  ·simp only [if_neg hc, Option.map_some, Value.ownBlock] at h ⊢
   rw [← h]; unfold Addr.add; split <;> rfl
end
theorem Row.src {P : Program} {w : World} {e e' tx : TypeId} {size : Nat} {v : Value} {n : Nat} {xs : List Value} (h : Row w e size v n xs) (hk : P.underlying tx = some (.slice e'))
  (h1 : ∀ u ∈ xs, u.oneCell' = true) : Src P size tx v n xs w := by
 rcases h.2 with ⟨rfl, rfl⟩ | ⟨g, off, cap, cur, fz, rfl, hg, hc1, hc2, hc3, hc4, hc5⟩
 ·obtain rfl : xs = [] := List.eq_nil_of_length_eq_zero (by simpa using h.1)
  exact Src.ofNil w hk 0
 ·refine Src.ofSlice w hk ⟨g, off, none⟩ n cap xs h.1 (fun j u hu => ?_) h1
  rw [Addr.add_lit, cell_of_row w g (off + j) cur e fz hg]
  rw [← hc4, List.getElem?_take] at hu
  split at hu
  ·rw [List.getElem?_drop] at hu; simpa using hu
  ·cases hu
theorem setCells_blk (b : Nat) : ∀ (vs : List Value) (o : Nat) (w : World) (cur : Array Value) (t : TypeId) (fz : Nat × Nat), w.heap[b]? = some (.cells cur t fz) →
  ∃ cur', (w.setCells b o vs).heap[b]? = some (.cells cur' t fz) ∧ cur'.size = cur.size ∧ (∀ j, (j < o ∨ o + vs.length ≤ j) → cur'[j]? = cur[j]?) ∧ (∀ j, j < vs.length → o + j < cur.size → cur'[o + j]? = vs[j]?)
 | [], o, w, cur, t, fz, h => ⟨cur, h, rfl, fun _ _ => rfl, fun j hj => by simp at hj⟩
 | v :: r, o, w, cur, t, fz, h => by
  have h1 : (w.setCell ⟨b, o, none⟩ v).heap[b]? = some (.cells (cur.setIfInBounds o v) t fz) := by simp [World.setCell, Array.getElem?_modify, h]
  obtain ⟨cur', e1, e2, e3, e4⟩ := setCells_blk b r (o + 1) (w.setCell ⟨b, o, none⟩ v) _ t fz h1
  refine ⟨cur', e1, by simpa using e2, fun j hj => ?_, fun j hj hs => ?_⟩
  ·simp only [List.length_cons] at hj
   rw [e3 j (by omega), Array.getElem?_setIfInBounds, if_neg (by omega)]
  ·cases j with
   | zero =>
    rw [Nat.add_zero, e3 o (by omega), Array.getElem?_setIfInBounds, if_pos rfl, if_pos (by omega)]
    rfl
   | succ j =>
    have := e4 j (by simpa using hj) (by simp; omega)
    rw [show o + (j + 1) = o + 1 + j from by omega, this]
    rfl
theorem setCells_keep (b : Nat) : ∀ (vs : List Value) (o : Nat) (w : World), (w.setCells b o vs).os = w.os ∧ (w.setCells b o vs).tape = w.tape ∧ (w.setCells b o vs).output = w.output ∧ (w.setCells b o vs).heap.size = w.heap.size ∧ ∀ k, k ≠ b → (w.setCells b o vs).heap[k]? = w.heap[k]?
 | [], _, _ => ⟨rfl, rfl, rfl, rfl, fun _ _ => rfl⟩
 | v :: r, o, w => by
  obtain ⟨a, b1, c, d, e⟩ := setCells_keep b r (o + 1) (w.setCell ⟨b, o, none⟩ v)
  refine ⟨a, b1, c, by rw [World.setCells, d]; simp [World.setCell], fun k hk => ?_⟩
  rw [World.setCells, e k hk, Below.heap_setCell _ _ _ _ hk]
theorem run_append_row {P : Program} (w : World) (t tx ty e : TypeId) (i : TypeInfo) (z : Value) (size bytes : Nat) (ht : P.underlying t = some (.slice e)) (hi : P.info? e = some i) (hz : i.zero = some z)
  (hsize : i.size = size) (hby : i.bytes = bytes) (hzs : z.cells.size = size) (_hsz : 0 < size)
  (v : Value) (n : Nat) (xs : List Value) (hown : Row w e size v n xs) (x : Value) (m : Nat) (news : List Value) (hs : Src P size tx x m news w)
  (h63 : n + m ≤ maxLen) (hbytes : (n + m) * bytes ≤ 140737488355328) :
  ∃ v' w', (Builtin.append_ #[t, tx] ty #[v, x]).run P w = .ok v' w' ∧ Row w' e size v' (n + m) (xs ++ news) ∧ Chg (fun k => v.ownBlock = some k) w w' ∧
   (v'.ownBlock = v.ownBlock ∨ v'.ownBlock = some w.heap.size) := by
 subst hsize
 subst hby
 have hsmall : n + m ≤ 9223372036854775807 := by simp only [maxLen] at h63; omega
 have hlen : (xs ++ news).length = (n + m) * i.size := by rw [List.length_append, hown.1, hs.newsLen, Nat.add_mul]
 have grown : ∀ (old : Nat), old < n + m →
   Row (w.drew.alloc (.cells ((xs ++ news).toArray ++ Builtin.zeroCells z.cells (grownCap w (n + m) old e - (n + m))) e)) e i.size
    (.slice (some ⟨w.heap.size, 0, none⟩) (n + m) (grownCap w (n + m) old e)) (n + m) (xs ++ news) := by
  intro old ho
  have hge := grownCap_ge w (n + m) old e
  have hcm : grownCap w (n + m) old e ≤ maxLen := grownCap_le_maxLen w (n + m) old e h63
  refine ⟨hlen, .inr ⟨w.heap.size, 0, _, _, (0, 0), rfl, heap_alloc_new w.drew _, hge, hcm, ?_, ?_, fun j _ => by simp⟩⟩
  ·simp only [Array.size_append, List.size_toArray, size_zeroCells, hzs, hlen, ← Nat.add_mul]
   rw [show n + m + (grownCap w (n + m) old e - (n + m)) = grownCap w (n + m) old e from by omega]
   omega
  ·simp only [Array.toList_append, List.drop_zero]
   rw [← hlen]
   exact List.take_left
 have hgc : ∀ o : Obj, Chg (fun k => v.ownBlock = some k) w (w.drew.alloc o) := fun o => ((Chg.refl _ w).drew).alloc o
 rcases hown.2 with ⟨rfl, rfl⟩ | ⟨g, off, cap, cur, fz, rfl, hg, hnc, hcm, hcs, htake, hfz⟩
 ·have hx : xs = [] := List.eq_nil_of_length_eq_zero (by simpa using hown.1)
  subst hx
  by_cases hm : m = 0
  ·subst hm
   have hn : news = [] := List.eq_nil_of_length_eq_zero (by simpa using hs.newsLen)
   subst hn
   refine ⟨.slice none 0 0, w, ?_, Row.nil w e i.size, Chg.refl _ w, .inl rfl⟩
   rcases hs.kind with ⟨e', hk⟩ | hk <;> simp [Builtin.append_, run_underlying ht, run_underlying hk, sizeOf, typeInfo, hi, hs.len, hs.cells]
  ·have hr := run_append_grow_src (P := P) w t tx ty e i z ht hi hz none 0 0 [] (by simp [Builtin.firstCells]) x m news hs (by omega) (by simp only [Nat.zero_add] at *; omega) (growslice_fits (by omega) hbytes)
   exact ⟨_, _, hr, grown 0 (by omega), hgc _, .inr rfl⟩
 ·by_cases hroom : n + m ≤ cap
  ·have hin : off + n * i.size + news.length ≤ cur.size := by
    rw [hs.newsLen]
    have : n * i.size + m * i.size ≤ cap * i.size := by rw [← Nat.add_mul]; exact Nat.mul_le_mul_right _ hroom
    omega
   have hr := run_append_room_src (P := P) w t tx ty e i ht hi g off n cap x m news hs hroom
    (fun j hj => by rw [cell_of_row w g _ cur e fz hg, Array.getElem?_eq_getElem (by omega)]; rfl) (fun j hj => by
     have := hfz (off + n * i.size + j) (by omega)
     simp only [World.frozen?, hg]
     simp only [Bool.and_eq_false_iff, decide_eq_false_iff_not]
     omega)
   obtain ⟨cur', e1, e2, e3, e4⟩ := setCells_blk g news (off + n * i.size) w cur e fz hg
   obtain ⟨k1, k2, k3, k4, k5⟩ := setCells_keep g news (off + n * i.size) w
   refine ⟨_, _, hr, ⟨hlen, .inr ⟨g, off, cap, cur', fz, rfl, e1, hroom, hcm, by omega, ?_, fun j hj => hfz j (by omega)⟩⟩, ⟨k1, k2, k3, by omega, fun k _ hk => k5 k (by rintro rfl; exact hk (by simp [Value.ownBlock]))⟩, .inl (by simp [Value.ownBlock])⟩
   have hxl := hown.1
   have hnl := hs.newsLen
   have hsum : (n + m) * i.size = n * i.size + m * i.size := Nat.add_mul _ _ _
   apply List.ext_getElem?
   intro j
   rw [List.getElem?_take]
   by_cases hj : j < (n + m) * i.size
   ·rw [if_pos hj, List.getElem?_drop, Array.getElem?_toList]
    by_cases hjn : j < n * i.size
    ·rw [e3 (off + j) (by omega), List.getElem?_append_left (by omega), ← htake, List.getElem?_take, if_pos hjn, List.getElem?_drop, Array.getElem?_toList]
    ·rw [List.getElem?_append_right (by omega)]
     have := e4 (j - n * i.size) (by omega) (by omega)
     rw [show off + n * i.size + (j - n * i.size) = off + j from by omega] at this
     rw [this, hxl]
   ·rw [if_neg hj]
    symm
    rw [List.getElem?_eq_none]
    omega
  ·have hold : (Builtin.firstCells i.size n (.slice (some ⟨g, off, none⟩) n cap)).run P w.drew = .ok xs.toArray w.drew :=
    run_firstCells_some w.drew i.size n _ n cap xs hown.1 (fun j u hu => by
     rw [Addr.add_lit]
     show w.cell? _ = _
     rw [cell_of_row w g (off + j) cur e fz hg]
     rw [← htake, List.getElem?_take] at hu
     split at hu
     ·rw [List.getElem?_drop] at hu; simpa using hu
     ·cases hu)
   have hr := run_append_grow_src (P := P) w t tx ty e i z ht hi hz (some ⟨g, off, none⟩) n cap xs hold x m news hs (by omega) (by omega) (growslice_fits (by omega) hbytes)
   exact ⟨_, _, hr, grown cap (by omega), hgc _, .inr rfl⟩
theorem wp_append_row {P : Program} (w : World) {o : Oper} {a : Act} {K : Act → World → Prop} {Q : Exit → Act → World → Prop} (s x : Operand) (t tx : TypeId)
  (ho : o.op = .call { callee := .builtin .append, args := #[s, x], argTypes := #[t, tx] })
  (e : TypeId) (i : TypeInfo) (z : Value) (size bytes : Nat) (ht : P.underlying t = some (.slice e)) (hi : P.info? e = some i) (hz : i.zero = some z)
  (hsize : i.size = size) (hby : i.bytes = bytes) (hzs : z.cells.size = size) (hsz : 0 < size)
  (v : Value) (n : Nat) (xs : List Value) (hs : a.eval s = v) (hown : Row w e size v n xs)
  (xv : Value) (m : Nat) (news : List Value) (hx : a.eval x = xv) (hsrc : Src P size tx xv m news w)
  (h63 : n + m ≤ maxLen) (hbytes : (n + m) * bytes ≤ 140737488355328)
  (h : ∀ v' w', Row w' e size v' (n + m) (xs ++ news) → Chg (fun k => v.ownBlock = some k) w w' → (v'.ownBlock = v.ownBlock ∨ v'.ownBlock = some w.heap.size) → K (a.put o.dst v') w') : o.wp P a w K Q := by
 obtain ⟨v', w', hr, h2, h3, h4⟩ := run_append_row (P := P) w t tx o.type e i z size bytes ht hi hz hsize hby hzs hsz v n xs hown xv m news hsrc h63 hbytes
 unfold Oper.wp execOp
 simp only [ho, resolve, invoke, builtin, Sem.run_bind, Sem.run_pure, Result.andThen_ok, List.map_toArray, List.map_cons, List.map_nil, hs, hx, hr]
 exact h v' w' h2 h3 h4
theorem wpList_append_row {P : Program} (w : World) {ops : Array Oper} {rest : List Oper} {o : Oper} {a : Act} {Q : Exit → Act → World → Prop} (hgd : o.guard = none) (s x : Operand) (t tx : TypeId)
  (ho : o.op = .call { callee := .builtin .append, args := #[s, x], argTypes := #[t, tx] })
  (e : TypeId) (i : TypeInfo) (z : Value) (size bytes : Nat) (ht : P.underlying t = some (.slice e)) (hi : P.info? e = some i) (hz : i.zero = some z)
  (hsize : i.size = size) (hby : i.bytes = bytes) (hzs : z.cells.size = size) (hsz : 0 < size)
  (v : Value) (n : Nat) (xs : List Value) (hs : a.eval s = v) (hown : Row w e size v n xs)
  (xv : Value) (m : Nat) (news : List Value) (hx : a.eval x = xv) (hsrc : Src P size tx xv m news w)
  (h63 : n + m ≤ maxLen) (hbytes : (n + m) * bytes ≤ 140737488355328)
  (h : ∀ v' w', Row w' e size v' (n + m) (xs ++ news) → Chg (fun k => v.ownBlock = some k) w w' → (v'.ownBlock = v.ownBlock ∨ v'.ownBlock = some w.heap.size) → wpList P ops Q rest (a.put o.dst v') w') : wpList P ops Q (o :: rest) a w :=
 wpList_plain hgd fun _ hK => wp_append_row w s x t tx ho e i z size bytes ht hi hz hsize hby hzs hsz v n xs hs hown xv m news hx hsrc h63 hbytes fun v' w' h2 h3 h4 => hK _ _ (h v' w' h2 h3 h4)
theorem wpList_load_blk {P : Program} {ops : Array Oper} {rest : List Oper} {o : Oper} {a : Act} {w : World} {Q : Exit → Act → World → Prop} (hgd : o.guard = none) (ty : TypeId) (x : Operand) (ho : o.op = .load ty x)
  (g : Nat) (hx : a.eval x = .pointer (some ⟨g, 0, none⟩)) {t : TypeId} {cs : Array Value} {d : TypeDesc} (hB : Blk w g t cs)
  (hu : P.underlying ty = some d) (hd : (match d with | .struct _ | .array _ _ => true | _ => false) = true) (hi : (P.info? ty).map (·.size) = some cs.size)
  (h : wpList P ops Q rest (a.put o.dst (.agg cs)) w) : wpList P ops Q (o :: rest) a w :=
 wpList_load_row hgd ty x ho g hx t cs (0, 0) d hB hu hd hi h
theorem wpList_store_blk {P : Program} {ops : Array Oper} {rest : List Oper} {o : Oper} {a : Act} {w : World} {Q : Exit → Act → World → Prop} (hgd : o.guard = none) (ty : TypeId) (x y : Operand) (ho : o.op = .store ty x y)
  (g : Nat) (cells : Array Value) (hx : a.eval x = .pointer (some ⟨g, 0, none⟩)) (hy : a.eval y = .agg cells) {t : TypeId} {old : Array Value} (hB : Blk w g t old)
  (hi : (P.info? ty).map (·.size) = some cells.size) (hs : old.size = cells.size) (h1 : ∀ u ∈ cells.toList, u.oneCell' = true)
  (h : ∀ w', Blk w' g t cells → Chg (fun k => k = g) w w' → wpList P ops Q rest (a.put o.dst undef) w') : wpList P ops Q (o :: rest) a w := by
 refine wpList_plain hgd fun _ hK => ?_
 unfold Oper.wp execOp
 simp only [ho, hx, hy, Instr.storeAt, Instr.sureAddr, Sem.run_bind, Sem.run_pure, Result.andThen_ok,
  run_storeVar_row w g t ty old cells hB hi hs (Array.all_eq_true_iff_forall_mem.2 (fun v hv => h1 v (by simpa using hv)))]
 exact hK _ _ (h _ (setRow_heap _ _ _ _ _ _ hB) ((Chg.refl (fun k => k = g) w).setRow (.inl rfl) _))
theorem results_blk {P : Program} {fn : Func} {p : Tmp} {ty : TypeId} (h : fn.results = #[.cell p ty]) (tmps : Array Value) (w : World) (g : Nat) {t : TypeId} {cs : Array Value} {d : TypeDesc}
  (hp : tmps.getD p undef = .pointer (some ⟨g, 0, none⟩)) (hB : Blk w g t cs)
  (hu : P.underlying ty = some d) (hd : (match d with | .struct _ | .array _ _ => true | _ => false) = true) (hi : (P.info? ty).map (·.size) = some cs.size) :
  (results fn tmps).run P w = .ok (.agg cs) w := results_cell_row h tmps w g t cs (0, 0) d hp hB hu hd hi
theorem Blk.of_row {w : World} {g : Nat} {t : TypeId} {n : Nat} {f : Nat → Value} {cs : Array Value} (h : w.rowIs g t n f) (hn : cs.size = n) (hc : ∀ i, i < n → cs[i]? = some (f i)) : Blk w g t cs := by
 obtain ⟨c, hb, hs, hi⟩ := h
 unfold Blk
 rw [hb]
 congr 2
 apply Array.ext_getElem?
 intro i
 by_cases hlt : i < n
 ·rw [hi i hlt, hc i hlt]
 ·rw [Array.getElem?_eq_none (by omega), Array.getElem?_eq_none (by omega)]
theorem Blk.row {w : World} {g : Nat} {t : TypeId} {cs : Array Value} (h : Blk w g t cs) {n : Nat} {f : Nat → Value} (hn : cs.size = n) (hc : ∀ i, i < n → cs[i]? = some (f i)) : w.rowIs g t n f := ⟨cs, h, hn, hc⟩
def bv (b : UInt8) : Value := .int .u8 b.toNat
theorem bv_one (l : List UInt8) : ∀ u ∈ l.map bv, u.oneCell' = true := by
 intro u hu
 obtain ⟨_, _, rfl⟩ := List.mem_map.1 hu
 rfl
theorem run_str_of_row {P : Program} (w : World) (src dst e : TypeId) (v : Value) (n : Nat) (l : List UInt8) (hs : P.underlying src = some (.slice e)) (he : P.underlying e = some (.int .u8)) (hd : P.underlying dst = some .string)
  (h : Row w e 1 v n (l.map bv)) : (convert src dst v).run P w = .ok (.string ⟨l.toArray⟩) w := by
 have hl : l.length = n := by have := h.1; simpa using this
 subst hl
 rcases Nat.eq_zero_or_pos l.length with h0 | h0
 ·obtain rfl : l = [] := List.eq_nil_of_length_eq_zero h0
  obtain ⟨a, cap, rfl, _, _⟩ := h.shape
  cases a with
  | none => exact run_convert_bytes_nil (P := P) w src e hs he 0 cap dst hd
  | some a => exact run_convert_bytes_back (P := P) w src dst e a cap [] hs he hd (fun j hj => by simp at hj)
 ·obtain ⟨g, off, cap, rfl, _, _, _, hc, _⟩ := h.form h0
  exact run_convert_bytes_back (P := P) w src dst e _ cap l hs he hd (fun j hj => by
   rw [Addr.add_lit]
   exact hc j _ (by rw [List.getElem?_map, List.getElem?_eq_getElem hj]; rfl))
theorem run_copy_within {P : Program} (w : World) {g : Nat} {bt : TypeId} {cs : Array Value} (hB : Blk w g bt cs) (t ty e : TypeId) (i : TypeInfo) (ht : P.underlying t = some (.slice e)) (hi : P.info? e = some i) (h1 : i.size = 1)
  (d so n dl dc sc : Nat) (hn : n ≤ dl) (hd : d + n ≤ cs.size) (hs : so + n ≤ cs.size) (hone : ∀ u ∈ cs.toList, u.oneCell' = true) :
  (Builtin.copy_ #[t, t] ty #[.slice (some ⟨g, d, none⟩) dl dc, .slice (some ⟨g, so, none⟩) n sc]).run P w =
   .ok (.int .i64 n) (w.setRow g (cs.toList.take d ++ (cs.toList.drop so).take n ++ cs.toList.drop (d + n)).toArray) := by
 have hl : ((cs.toList.drop so).take n).length = n := by simp; omega
 have hf := run_firstCells_some (P := P) w 1 n ⟨g, so, none⟩ n sc ((cs.toList.drop so).take n) (by omega) (fun j u hu => by
  rw [Addr.add_lit, hB.cell]
  rw [List.getElem?_take] at hu
  split at hu
  ·rw [List.getElem?_drop] at hu; simpa using hu
  ·cases hu)
 have hst := run_storeCells_at P g d bt ((cs.toList.drop so).take n) 0 cs w hB (by omega) (fun u hu => hone u (List.mem_of_mem_drop (List.mem_of_mem_take hu)))
 rw [hl] at hst
 simp only [Nat.add_zero] at hst
 have hmin : Nat.min n dl = n := Nat.min_eq_left hn
 simp [Builtin.copy_, run_underlying ht, Builtin.lenOf, hmin, sizeOf, typeInfo, hi, h1, hf, hst, goInt]
end Go.Proofs.YtnlabkogebnioaaGreatDoor
namespace Go.Proofs.YtnlabkogebnioaaGreatDoor
open Go.RowKit
def Reads (w : World) (size : Nat) (v : Value) (n : Nat) (xs : List Value) : Prop :=
  xs.length = n * size ∧ ∃ a cap, v = .slice a n cap ∧ n ≤ cap ∧ cap ≤ maxLen ∧
    (0 < n → ∃ g off, a = some ⟨g, off, none⟩ ∧ g < w.heap.size ∧ ∀ j u, xs[j]? = some u → w.cell? ⟨g, off + j, none⟩ = some u)
theorem Reads.belowAll {w w' : World} {size : Nat} {v : Value} {n : Nat} {xs : List Value} (h : Reads w size v n xs) (hb : Below w.heap.size w w') : Reads w' size v n xs := by
 obtain ⟨h1, a, cap, h2, h3, h4, h5⟩ := h
 refine ⟨h1, a, cap, h2, h3, h4, fun hn => ?_⟩
 obtain ⟨g, off, e, hg, hc⟩ := h5 hn
 exact ⟨g, off, e, Nat.lt_of_lt_of_le hg hb.size, fun j u hu => (hb.cell (p := ⟨g, off + j, none⟩) hg).trans (hc j u hu)⟩
theorem Row.reads {w : World} {e : TypeId} {size : Nat} {v : Value} {n : Nat} {xs : List Value} (h : Row w e size v n xs) : Reads w size v n xs := by
 obtain ⟨a, cap, hv, h1, h2⟩ := h.shape
 refine ⟨h.1, a, cap, hv, h1, h2, fun hn => ?_⟩
 obtain ⟨g, off, cap', hv', hob, _, _, hc, _⟩ := h.form hn
 rw [hv] at hv'
 injection hv' with ha _ _
 exact ⟨g, off, ha, h.lt g hob, hc⟩
theorem Reads.nle {w : World} {size : Nat} {v : Value} {n : Nat} {xs : List Value} (h : Reads w size v n xs) : n ≤ 9223372036854775807 := by
 obtain ⟨_, a, cap, _, h1, h2, _⟩ := h
 unfold maxLen at h2
 omega
end Go.Proofs.YtnlabkogebnioaaGreatDoor
namespace Go.Proofs.YtnlabkogebnioaaGreatDoor
open Go.RowKit
section
variable {P : Program} {ops : Array Oper} {Q : Exit → Act → World → Prop} {S : World → Prop} {a : Act} {w : World} {o : Oper} {l : List Oper} {bs : List Bool}
def wpOrd (P : Program) (ops : Array Oper) (Q : Exit → Act → World → Prop) (S : World → Prop) : List Oper → List Bool → Act → World → Prop
  | o :: l, true :: r, a, w => ∃ v, YieldsIf P ops S o v a ∧ wpOrd P ops Q S l r (a.put o.dst v) w
  | o :: l, false :: r, a, w => if Region.wanted o (yielded ops a.tmps) then o.wp P a w (fun a' w' => S w' ∧ wpOrd P ops Q S l r a' w') Q else S w ∧ wpOrd P ops Q S l r (a.put o.dst undef) w
  | _, _, a, w => Q .normal a w
def permute (l : List Oper) : List Nat → List Oper
  | [] => []
  | i :: r => l.getD i default :: permute l r
def permOk (ops : Array Oper) : List Nat → List Bool → Array Bool → Bool
  | i :: is, true :: r, listed => decide (i < ops.size) && Region.free .any ops listed i && (Region.ready .any ops listed).contains i && permOk ops is r (listed.setIfInBounds i true)
  | i :: is, false :: r, listed => decide (i < ops.size) && (Region.ready .any ops listed == [i]) && permOk ops is r (listed.setIfInBounds i true)
  | [], [], listed => (Region.ready .any ops listed).isEmpty
  | _, _, _ => false
theorem wpAnyH_of_perm {l : List Oper} (hs : Region.noSelect l.toArray = true) (hQ : ∀ c a d v w, Q (.panic c) (a.put d v) w → Q (.panic c) a w) :
  ∀ (is : List Nat) (r : List Bool) (listed : Array Bool) (a : Act) (w : World), permOk l.toArray is r listed = true → S w → wpOrd P l.toArray Q S (permute l is) r a w → wpAnyH P .any l.toArray Q S is.length listed a w
 | [], [], listed, a, w, hok, _, h => wpAnyH_done (by simpa [permOk] using hok) h _
 | i :: is, true :: r, listed, a, w, hok, hS, h => by
  simp only [permOk, Bool.and_eq_true, decide_eq_true_eq] at hok
  obtain ⟨v, hy, h⟩ := h
  have hi : i < l.length := by simpa using hok.1.1.1
  have ho : l.toArray[i]? = some (l.getD i default) := by simp [hi]
  exact wpAnyH_take ho hs hok.1.1.2 hok.1.2 (fun c a w => hQ c a _ _ w) hy hS (wpAnyH_of_perm hs hQ is r _ _ _ hok.2 hS h)
 | i :: is, false :: r, listed, a, w, hok, hS, h => by
  simp only [permOk, Bool.and_eq_true, decide_eq_true_eq, beq_iff_eq] at hok
  have hi : i < l.length := by simpa using hok.1.1
  have ho : l.toArray[i]? = some (l.getD i default) := by simp [hi]
  refine wpAnyH_all hok.1.2 (by simp) fun j hj => ?_
  obtain rfl : j = i := by simpa using hj
  have hn : ∀ a' w', S w' ∧ wpOrd P l.toArray Q S (permute l is) r a' w' → S w' ∧ wpAnyH P .any l.toArray Q S is.length (listed.setIfInBounds j true) a' w' := fun a' w' h' =>
   ⟨h'.1, wpAnyH_of_perm hs hQ is r _ _ _ hok.2 h'.1 h'.2⟩
  refine wpOp_mono hn ?_
  unfold wpOp
  simp only [ho]
  unfold permute wpOrd at h
  split
  ·rename_i hw; rw [if_pos hw] at h; exact .inl h
  ·rename_i hw; rw [if_neg hw] at h; exact h
 | [], _ :: _, _, _, _, hok, _, _ => by simp [permOk] at hok
 | _ :: _, [], _, _, _, hok, _, _ => by simp [permOk] at hok
theorem wp_region_perm {id : Nat} {l : List Oper} (S : World → Prop) (is : List Nat) (r : List Bool) (hm : P.follows .mixedOrders = true) (hok : (Region.noSelect l.toArray && permOk l.toArray is r (Array.replicate l.toArray.size false) && (is.length == l.length)) = true)
  (hQ : ∀ c a d v w, Q (.panic c) (a.put d v) w → Q (.panic c) a w) (hS : S w.drew) (h : wpOrd P l.toArray Q S (permute l is) r a w.drew) : (Code.region id l.toArray true).wp P Q a w := by
 simp only [Bool.and_eq_true, beq_iff_eq] at hok
 refine wp_region_held (S := S) hm ?_
 have := wpAnyH_of_perm hok.1.1 hQ is r _ _ _ hok.1.2 hS h
 rw [hok.2] at this
 simpa using this
theorem wpOrd_nil (h : Q .normal a w) : wpOrd P ops Q S [] [] a w := h
theorem wpOrd_yes (v : Value) (hw : Region.wanted o (yielded ops a.tmps) = true) (hr : ∀ w, S w → (execOp a.eval o).run P w = .ok (.value v) w)
  (h : wpOrd P ops Q S l bs (a.put o.dst v) w) : wpOrd P ops Q S (o :: l) (true :: bs) a w := ⟨v, .inl ⟨hw, hr⟩, h⟩
theorem wpOrd_no (hw : Region.wanted o (yielded ops a.tmps) = false) (h : wpOrd P ops Q S l bs (a.put o.dst undef) w) : wpOrd P ops Q S (o :: l) (true :: bs) a w :=
 ⟨undef, .inr ⟨hw, rfl⟩, h⟩
theorem wpOrd_alone_no (hw : Region.wanted o (yielded ops a.tmps) = false) (hS : S w) (h : wpOrd P ops Q S l bs (a.put o.dst undef) w) : wpOrd P ops Q S (o :: l) (false :: bs) a w := by
 unfold wpOrd
 rw [if_neg (by simp [hw])]
 exact ⟨hS, h⟩
end
end Go.Proofs.YtnlabkogebnioaaGreatDoor
namespace Go.Proofs.YtnlabkogebnioaaGreatDoor
open Go.RowKit
theorem notT {b : Bool} (h : (!b) = true) : b = false := by cases b <;> simp_all
theorem notF {b : Bool} (h : (!b) = false) : b = true := by cases b <;> simp_all
abbrev Env := List (Nat × Value)
def lk : Env → Nat → Option Value
  | [], _ => none
  | (d, v) :: l, t => bif Nat.beq t d then some v else lk l t
def ev (l : Env) : Operand → Option Value
  | .tmp t => lk l t
  | .const v => some v
  | .global g => some (.pointer (some ⟨g, 0, none⟩))
  | .func f => some (.func (.func f) #[] #[])
structure Rep (N : Nat) (ds : List Deferred) (l : Env) (a : Act) : Prop where
  size : a.tmps.size = N
  defers : a.defers = ds
  val : ∀ t v, lk l t = some v → a.tmps.getD t undef = v
def Knows (l : Env) (ρ : Operand → Value) : Prop := ∀ x v, ev l x = some v → ρ x = v
theorem Rep.knows {N : Nat} {ds : List Deferred} {l : Env} {a : Act} (h : Rep N ds l a) : Knows l a.eval := by
 intro x v hx
 cases x with
 | tmp t => exact h.val t v hx
 | const u => injection hx
 | «global» g => injection hx
 | func f => injection hx
theorem Rep.put {N : Nat} {ds : List Deferred} {l : Env} {a : Act} (h : Rep N ds l a) {d : Nat} (hd : Nat.blt d N = true) (v : Value) : Rep N ds ((d, v) :: l) (a.put (some d) v) := by
 have hd' : d < a.tmps.size := by rw [h.size]; exact of_decide_eq_true (by simpa [Nat.blt_eq] using hd)
 refine ⟨by simpa [Act.put] using h.size, h.defers, fun t u hu => ?_⟩
 unfold lk at hu
 cases ht : Nat.beq t d with
 | true =>
  rw [ht] at hu
  have e : t = d := Nat.eq_of_beq_eq_true ht
  subst e
  simp only [cond_true, Option.some.injEq] at hu
  subst hu
  simp [Act.put, hd']
 | false =>
  rw [ht] at hu
  have e : t ≠ d := Nat.ne_of_beq_eq_false ht
  have := h.val t u hu
  simp only [Act.put, Array.getD_eq_getD_getElem?] at this ⊢
  rw [Array.getElem?_setIfInBounds]
  rw [if_neg (fun h => e h.symm)]
  exact this
def sub : Env → Env → Prop
  | [], _ => True
  | (t, v) :: r, l => lk l t = some v ∧ sub r l
theorem sub_lk : ∀ {r l : Env}, sub r l → ∀ t v, lk r t = some v → lk l t = some v
 | [], _, _, _, _, h => by cases h
 | (d, u) :: r, l, hs, t, v, h => by
  unfold lk at h
  cases ht : Nat.beq t d with
  | true =>
   rw [ht] at h
   have e : t = d := Nat.eq_of_beq_eq_true ht
   subst e
   simp only [cond_true, Option.some.injEq] at h
   subst h
   exact hs.1
  | false =>
   rw [ht] at h
   exact sub_lk hs.2 t v h
theorem Rep.sub {N : Nat} {ds : List Deferred} {r l : Env} {a : Act} (h : Rep N ds l a) (hs : sub r l) : Rep N ds r a :=
 ⟨h.size, h.defers, fun t v ht => h.val t v (sub_lk hs t v ht)⟩
abbrev Post := Exit → Env → World → Prop
def lift (N : Nat) (ds : List Deferred) (Q : Post) : Exit → Act → World → Prop := fun e a w => ∃ l, Rep N ds l a ∧ Q e l w
def W (P : Program) (N : Nat) (ds : List Deferred) (Q : Post) (c : Code) (l : Env) (w : World) : Prop := ∀ a, Rep N ds l a → c.wp P (lift N ds Q) a w
def WL (P : Program) (N : Nat) (ds : List Deferred) (ops : Array Oper) (Q : Post) (os : List Oper) (l : Env) (w : World) : Prop := ∀ a, Rep N ds l a → wpList P ops (lift N ds Q) os a w
def thenQ (next : Env → World → Prop) (Q : Post) : Post
  | .normal, l, w => next l w
  | e, l, w => Q e l w
def inB (id : Nat) (Q : Post) : Post
  | .exit i, l, w => bif Nat.beq i id then Q .normal l w else Q (.exit i) l w
  | e, l, w => Q e l w
section
variable {P : Program} {N : Nat} {ds : List Deferred} {Q : Post} {l r : Env} {w : World} {next : Env → World → Prop} {id i : Nat}
theorem tN (h : next l w) : thenQ next Q .normal l w := h
theorem tR (h : Q .ret l w) : thenQ next Q .ret l w := h
theorem tE (h : Q (.exit i) l w) : thenQ next Q (.exit i) l w := h
theorem tG (h : Q (.goto i) l w) : thenQ next Q (.goto i) l w := h
theorem bN (h : Q .normal l w) : inB id Q .normal l w := h
theorem bR (h : Q .ret l w) : inB id Q .ret l w := h
theorem bG (h : Q (.goto i) l w) : inB id Q (.goto i) l w := h
theorem bH (h : Q .normal l w) : inB id Q (.exit id) l w := by
 show (bif Nat.beq id id then Q .normal l w else Q (.exit id) l w)
 rw [show Nat.beq id id = true from Nat.beq_refl id]
 exact h
theorem bM (hn : Nat.beq i id = false) (h : Q (.exit i) l w) : inB id Q (.exit i) l w := by
 show (bif Nat.beq i id then Q .normal l w else Q (.exit i) l w)
 rw [hn]
 exact h
theorem W_sub {c : Code} (r : Env) (h : W P N ds Q c r w) (hs : sub r l) : W P N ds Q c l w := fun a ha => h a (ha.sub hs)
theorem W_skip (h : Q .normal l w) : W P N ds Q .skip l w := fun _ ha => wp_skip ⟨_, ha, h⟩
theorem W_ret (h : Q .ret l w) : W P N ds Q .ret l w := fun _ ha => wp_ret ⟨_, ha, h⟩
theorem W_exit (h : Q (.exit i) l w) : W P N ds Q (.exit i) l w := fun _ ha => wp_exit ⟨_, ha, h⟩
theorem W_seq {x y : Code} (h : W P N ds (thenQ (W P N ds Q y) Q) x l w) : W P N ds Q (.seq x y) l w := by
 intro a ha
 refine wp_seq (Code.wp_mono (fun e a w hq => ?_) (h a ha))
 obtain ⟨l', hr, hq⟩ := hq
 cases e with
 | normal => exact hq a hr
 | _ => exact ⟨l', hr, hq⟩
theorem W_if {x y : Code} {c : Operand} {b : Bool} (hc : ev l c = some (.bool b)) (h1 : b = true → W P N ds Q x l w) (h0 : b = false → W P N ds Q y l w) : W P N ds Q (.cond c x y) l w :=
 fun a ha => wp_cond_split (ha.knows _ _ hc) (fun h => h1 h a ha) (fun h => h0 h a ha)
theorem W_yes {x y : Code} {c : Operand} {b : Bool} (hc : ev l c = some (.bool b)) (hb : b = true) (h : W P N ds Q x l w) : W P N ds Q (.cond c x y) l w :=
 W_if hc (fun _ => h) (fun h0 => by rw [hb] at h0; cases h0)
theorem W_no {x y : Code} {c : Operand} {b : Bool} (hc : ev l c = some (.bool b)) (hb : b = false) (h : W P N ds Q y l w) : W P N ds Q (.cond c x y) l w :=
 W_if hc (fun h0 => by rw [hb] at h0; cases h0) (fun _ => h)
theorem W_block {c : Code} (h : W P N ds (inB id Q) c l w) : W P N ds Q (.block id c) l w := by
 intro a ha
 refine wp_block (Code.wp_mono (fun e a w hq => ?_) (h a ha))
 obtain ⟨l', hr, hq⟩ := hq
 cases e with
 | exit i =>
  replace hq : (bif Nat.beq i id then Q .normal l' w else Q (.exit i) l' w) := hq
  show (if i = id then lift N ds Q .normal a w else lift N ds Q (.exit i) a w)
  by_cases hi : i = id
  ·subst hi
   rw [show Nat.beq i i = true from Nat.beq_refl i] at hq
   rw [if_pos rfl]
   exact ⟨l', hr, hq⟩
  ·rw [show Nat.beq i id = false from by
    cases hb : Nat.beq i id with
    | false => rfl
    | true => exact absurd (Nat.eq_of_beq_eq_true hb) hi] at hq
   rw [if_neg hi]
   exact ⟨l', hr, hq⟩
 | _ => exact ⟨l', hr, hq⟩
def Again (I : Nat → Env → World → Prop) (n : Nat) (l : Env) (w : World) : Prop := ∃ m r, m < n ∧ I m r w ∧ sub r l
theorem W_loop {c : Code} (I : Nat → Env → World → Prop) (n : Nat) (h0 : I n l w) (hr : ∀ n l w, I n l w → W P N ds (thenQ (Again I n) Q) c l w) : W P N ds Q (.loop c) l w := by
 intro a ha b k cs
 have key : ∀ n a w l, Rep N ds l a → I n l w →
   ∃ e a' w', lift N ds Q e a' w' ∧ Arrives P (lone (b.at a (.code c :: .inLoop c :: k)) cs w) b k cs e a' w' := by
  intro n
  induction n using Nat.strongRecOn with
  | _ n ih =>
   intro a w l ha hI
   obtain ⟨e, a₁, w₁, hq, harr⟩ := hr n l w hI a ha b (.inLoop c :: k) cs
   obtain ⟨l', hl', hq⟩ := hq
   cases e with
   | normal =>
    obtain ⟨m, r, hm, hI', hs⟩ := hq
    obtain ⟨e₂, a₂, w₂, hq₂, harr₂⟩ := ih m hm a₁ w₁ r (hl'.sub hs) hI'
    exact ⟨e₂, a₂, w₂, hq₂, .of_steps (Steps.trans harr (.one step_inLoop)) harr₂⟩
   | exit id => exact ⟨_, a₁, w₁, ⟨l', hl', hq⟩, .pass (x := .inLoop c) rfl (fun _ _ => .inl (by simp)) harr⟩
   | goto l => exact ⟨_, a₁, w₁, ⟨l', hl', hq⟩, .pass (x := .inLoop c) rfl (fun _ _ => .inl (by simp)) harr⟩
   | ret => exact ⟨_, a₁, w₁, ⟨l', hl', hq⟩, .pass (x := .inLoop c) rfl (fun _ _ => .inl (by simp)) harr⟩
   | panic ch => exact ⟨_, a₁, w₁, ⟨l', hl', hq⟩, .pass (x := .inLoop c) rfl (fun _ _ => .inl (by simp)) harr⟩
   | outgrown => exact ⟨_, a₁, w₁, ⟨l', hl', hq⟩, .pass (x := .inLoop c) rfl (fun _ _ => .inl (by simp)) harr⟩
 obtain ⟨e, a', w', hq, harr⟩ := key n a w l ha h0
 exact ⟨e, a', w', hq, .of_steps (.one step_loop) harr⟩
theorem W_lp {c : Code} (I : Nat → Env → World → Prop) (n : Nat) (h0 : ∃ r, I n r w ∧ sub r l) (hr : ∀ n l w, I n l w → W P N ds (thenQ (Again I n) Q) c l w) : W P N ds Q (.loop c) l w := by
 obtain ⟨r, h1, h2⟩ := h0
 exact W_sub r (W_loop I n h1 hr) h2
theorem W_reg {os : List Oper} (h : WL P N ds os.toArray Q os l w) : W P N ds Q (.region id os.toArray false) l w := fun a ha => wp_region_lit (h a ha)
theorem W_rs {os : List Oper} {y : Code} (h : WL P N ds os.toArray (thenQ (W P N ds Q y) Q) os l w) : W P N ds Q (.seq (.region id os.toArray false) y) l w := W_seq (W_reg h)
end
def X (P : Program) (l : Env) (op : Op) (ty : TypeId) (w : World) (v : Value) (w' : World) : Prop :=
  ∀ ρ, Knows l ρ → (execOp ρ ⟨none, op, ty, "", #[], none⟩).run P w = .ok (.value v) w'
def Xs (P : Program) (l : Env) (op : Op) (ty : TypeId) (w : World) (w' : World) : Prop :=
  ∀ ρ, Knows l ρ → (execOp ρ ⟨none, op, ty, "", #[], none⟩).run P w = .ok .skip w'
section
variable {P : Program} {N : Nat} {ds : List Deferred} {Q : Post} {l r : Env} {w w' : World} {ops : Array Oper} {rest : List Oper} {op : Op} {ty : TypeId} {pos : String} {aft : Array Edge} {d : Nat} {v : Value}
theorem Wn (h : Q .normal l w) : WL P N ds ops Q [] l w := fun _ ha => wpList_nil ⟨_, ha, h⟩
theorem WL_sub (r : Env) {os : List Oper} (h : WL P N ds ops Q os r w) (hs : sub r l) : WL P N ds ops Q os l w := fun a ha => h a (ha.sub hs)
theorem st (hx : X P l op ty w v w') (hd : Nat.blt d N = true) (h : WL P N ds ops Q rest ((d, v) :: l) w') : WL P N ds ops Q (⟨some d, op, ty, pos, aft, none⟩ :: rest) l w := by
 intro a ha
 refine wpList_plain rfl fun K hK => ?_
 unfold Oper.wp
 have : (execOp a.eval ⟨some d, op, ty, pos, aft, none⟩).run P w = .ok (.value v) w' := hx _ ha.knows
 rw [this]
 exact hK _ _ (h _ (ha.put hd v))
theorem ss (hx : Xs P l op ty w w') (h : WL P N ds ops Q rest l w') : WL P N ds ops Q (⟨none, op, ty, pos, aft, none⟩ :: rest) l w := by
 intro a ha
 refine wpList_plain rfl fun K hK => ?_
 unfold Oper.wp
 have : (execOp a.eval ⟨none, op, ty, pos, aft, none⟩).run P w = .ok .skip w' := hx _ ha.knows
 rw [this]
 exact hK _ _ (h _ ha)
theorem sm {x : Operand} (hx : ev l x = some v) (hd : Nat.blt d N = true) (h : WL P N ds ops Q rest ((d, v) :: l) w) : WL P N ds ops Q (⟨some d, .move x, ty, pos, aft, none⟩ :: rest) l w :=
 st (fun ρ hρ => by rw [← hρ _ _ hx]; rfl) hd h
theorem sa {x : Operand} (hx : ev l x = some v) (hd : Nat.blt d N = true) (h : WL P N ds ops Q rest ((d, v) :: l) w) : WL P N ds ops Q (⟨some d, .assign x, ty, pos, aft, none⟩ :: rest) l w :=
 st (fun ρ hρ => by rw [← hρ _ _ hx]; rfl) hd h
theorem sb {x : Operand} {b : Bool} (hx : ev l x = some (.bool b)) (hd : Nat.blt d N = true) (h1 : b = true → WL P N ds ops Q rest ((d, .bool true) :: l) w) (h0 : b = false → WL P N ds ops Q rest ((d, .bool false) :: l) w) :
  WL P N ds ops Q (⟨some d, .move x, ty, pos, aft, none⟩ :: rest) l w := by
 cases b with
 | true => exact sm hx hd (h1 rfl)
 | false => exact sm hx hd (h0 rfl)
theorem sbY {x : Operand} {b : Bool} (hx : ev l x = some (.bool b)) (hb : b = true) (hd : Nat.blt d N = true) (h : WL P N ds ops Q rest ((d, .bool true) :: l) w) : WL P N ds ops Q (⟨some d, .move x, ty, pos, aft, none⟩ :: rest) l w := by
 subst hb; exact sm hx hd h
theorem sbN {x : Operand} {b : Bool} (hx : ev l x = some (.bool b)) (hb : b = false) (hd : Nat.blt d N = true) (h : WL P N ds ops Q rest ((d, .bool false) :: l) w) : WL P N ds ops Q (⟨some d, .move x, ty, pos, aft, none⟩ :: rest) l w := by
 subst hb; exact sm hx hd h
theorem gY {dst : Option Nat} {j g : Nat} {b : Bool} (hj : (ops[j]?).bind (·.dst) = some g) (hg : lk l g = some (.bool b)) (hN : Nat.blt g N = true) (h : WL P N ds ops Q (⟨dst, op, ty, pos, aft, none⟩ :: rest) l w) :
  WL P N ds ops Q (⟨dst, op, ty, pos, aft, some (j, b)⟩ :: rest) l w := by
 intro a ha
 have h := h a ha
 have hs : g < a.tmps.size := by rw [ha.size]; exact of_decide_eq_true (by simpa [Nat.blt_eq] using hN)
 have hv := ha.val g _ hg
 have hy : yielded ops a.tmps j = some b := by
  unfold yielded
  rw [hj]
  simp only [Option.bind_some]
  rw [Array.getElem?_eq_getElem hs]
  simp only [Array.getD_eq_getD_getElem?, Array.getElem?_eq_getElem hs, Option.getD_some] at hv
  rw [hv]
 unfold wpList at h ⊢
 rw [if_pos (by simp [Region.wanted])] at h
 rw [if_pos (by simp [Region.wanted, hy])]
 exact h
theorem gN {d j g : Nat} {b : Bool} (hj : (ops[j]?).bind (·.dst) = some g) (hg : lk l g = some (.bool !b)) (hN : Nat.blt g N = true) (hd : Nat.blt d N = true) (h : WL P N ds ops Q rest ((d, undef) :: l) w) :
  WL P N ds ops Q (⟨some d, op, ty, pos, aft, some (j, b)⟩ :: rest) l w := by
 intro a ha
 have hs : g < a.tmps.size := by rw [ha.size]; exact of_decide_eq_true (by simpa [Nat.blt_eq] using hN)
 have hv := ha.val g _ hg
 have hy : yielded ops a.tmps j = some !b := by
  unfold yielded
  rw [hj]
  simp only [Option.bind_some]
  rw [Array.getElem?_eq_getElem hs]
  simp only [Array.getD_eq_getD_getElem?, Array.getElem?_eq_getElem hs, Option.getD_some] at hv
  rw [hv]
 unfold wpList
 rw [if_neg (by simp [Region.wanted, hy])]
 exact h _ (ha.put hd undef)
theorem gU {d j g : Nat} {b : Bool} (hj : (ops[j]?).bind (·.dst) = some g) (hg : lk l g = some undef) (hN : Nat.blt g N = true) (hd : Nat.blt d N = true) (h : WL P N ds ops Q rest ((d, undef) :: l) w) :
  WL P N ds ops Q (⟨some d, op, ty, pos, aft, some (j, b)⟩ :: rest) l w := by
 intro a ha
 have hs : g < a.tmps.size := by rw [ha.size]; exact of_decide_eq_true (by simpa [Nat.blt_eq] using hN)
 have hv := ha.val g _ hg
 have hy : yielded ops a.tmps j = none := by
  unfold yielded
  rw [hj]
  simp only [Option.bind_some]
  rw [Array.getElem?_eq_getElem hs]
  simp only [Array.getD_eq_getD_getElem?, Array.getElem?_eq_getElem hs, Option.getD_some] at hv
  rw [hv]
  rfl
 unfold wpList
 rw [if_neg (by simp [Region.wanted, hy])]
 exact h _ (ha.put hd undef)
end
def CP (ret : Value → World → Prop) (pan : List PanicEntry → World → Prop) : Ending → World → Prop
  | .returned v, w => ret v w
  | .panicked c, w => pan c w
  | .outgrown, _ => False
def evs (l : Env) : List Operand → Option (List Value)
  | [] => some []
  | x :: xs => match ev l x with
    | some v => match evs l xs with
      | some vs => some (v :: vs)
      | none => none
    | none => none
theorem evs_map {l : Env} {ρ : Operand → Value} (hρ : Knows l ρ) : ∀ {xs : List Operand} {vs : List Value}, evs l xs = some vs → xs.map ρ = vs
 | [], vs, h => by injection h
 | x :: xs, vs, h => by
  unfold evs at h
  cases hx : ev l x with
  | none => rw [hx] at h; cases h
  | some v =>
   rw [hx] at h
   cases hxs : evs l xs with
   | none => rw [hxs] at h; cases h
   | some us =>
    rw [hxs] at h
    injection h with h
    subst h
    rw [List.map_cons, hρ _ _ hx, evs_map hρ hxs]
section
variable {P : Program} {N : Nat} {ds : List Deferred} {Q : Post} {l r : Env} {w w' : World} {ops : Array Oper} {rest : List Oper} {op : Op} {ty : TypeId} {pos : String} {aft : Array Edge} {d : Nat} {v : Value}
theorem cR {ret : Value → World → Prop} {pan : List PanicEntry → World → Prop} (h : ret v w) : CP ret pan (.returned v) w := h
theorem sc {f : FuncId} {args : List Operand} {ats : Array TypeId} {fn : Func} {c : Code} (vs : List Value) (hf : P.funcs[f]? = some fn) (hb : fn.body = some c) (hname : (fn.name == "runtime.NumGoroutine") = false)
  (hvs : evs l args = some vs) (hd : Nat.blt d N = true)
  (hc : Calls P f vs.toArray w (CP (fun v w' => WL P N ds ops Q rest ((d, v) :: l) w') (fun c w' => Q (.panic c) l w'))) :
  WL P N ds ops Q (⟨some d, .call { callee := .value (.func f), args := args.toArray, argTypes := ats }, ty, pos, aft, none⟩ :: rest) l w := by
 intro a ha
 refine wpList_plain rfl fun K hK => ?_
 unfold Oper.wp execOp
 have h2 : fn.name ≠ "runtime.NumGoroutine" := by simpa using hname
 have hvs' := evs_map ha.knows hvs
 simp only [resolve, invoke]
 simp [Deferred.ofValue, Act.eval, callFunc, hf, hb, h2, mark]
 have e : List.map (fun x => a.eval x) args = vs := hvs'
 rw [show List.map a.eval args = vs from e]
 refine Calls.mono hc fun e w' h => ?_
 cases e with
 | returned v => exact hK _ _ (h _ (ha.put hd v))
 | panicked c => exact ⟨l, ha, h⟩
 | outgrown => exact h.elim
end
def ResVar (P : Program) (l : Env) (w : World) : ResultVar → Value → Prop
  | .tmp t, v => lk l t = some v
  | .cell p ty, v => ∃ a, lk l p = some (.pointer (some a)) ∧ (loadVar ty a).run P w = .ok v w
def fnPost (P : Program) (fn : Func) (R : Ending → World → Prop) : Post
  | .normal, l, w => ∃ v, (∀ a, (∀ t v, lk l t = some v → a.getD t undef = v) → (results fn a).run P w = .ok v w) ∧ R (.returned v) w
  | .ret, l, w => ∃ v, (∀ a, (∀ t v, lk l t = some v → a.getD t undef = v) → (results fn a).run P w = .ok v w) ∧ R (.returned v) w
  | .panic c, _, w => R (.panicked c) w
  | _, _, _ => False
def env0 (args : List Value) : Env := args.zipIdx.map fun p => (p.2, p.1)
theorem lk_env0 (args : List Value) : ∀ (k t : Nat) (v : Value), lk ((args.zipIdx k).map fun p => (p.2, p.1)) t = some v → k ≤ t ∧ args[t - k]? = some v := by
 induction args with
 | nil => intro k t v h; cases h
 | cons x xs ih =>
  intro k t v h
  simp only [List.zipIdx_cons, List.map_cons] at h
  unfold lk at h
  cases ht : Nat.beq t k with
  | true =>
   rw [ht] at h
   have e : t = k := Nat.eq_of_beq_eq_true ht
   subst e
   simp only [cond_true, Option.some.injEq] at h
   subst h
   simp
  | false =>
   rw [ht] at h
   have e : t ≠ k := Nat.ne_of_beq_eq_false ht
   obtain ⟨h1, h2⟩ := ih (k + 1) t v h
   refine ⟨by omega, ?_⟩
   rw [show t - k = (t - (k + 1)) + 1 by omega, List.getElem?_cons_succ]
   exact h2
theorem W_enter {P : Program} {f : FuncId} {fn : Func} {c : Code} {args : List Value} {w : World} {R : Ending → World → Prop} (N : Nat) (hf : P.funcs[f]? = some fn) (hb : fn.body = some c) (hN : fn.ntmps = N) (hn : Nat.ble args.length N = true)
  (h : W P N [] (fnPost P fn R) c (env0 args) w) : Calls P f args.toArray w R := by
 have hn' : args.length ≤ N := Nat.le_of_ble_eq_true hn
 refine calls_of_wp hf hb (Code.wp_mono (fun e a w hq => ?_) (h _ ⟨by simp; omega, rfl, fun t v ht => ?_⟩))
 ·obtain ⟨l, hr, hq⟩ := hq
  cases e with
  | normal => obtain ⟨v, h1, h2⟩ := hq; exact ⟨hr.defers, v, h1 _ hr.val, h2⟩
  | ret => obtain ⟨v, h1, h2⟩ := hq; exact ⟨hr.defers, v, h1 _ hr.val, h2⟩
  | panic c => exact ⟨hr.defers, hq⟩
  | _ => exact hq.elim
 ·obtain ⟨_, h2⟩ := lk_env0 args 0 t v ht
  rw [Array.getD_eq_getD_getElem?, Array.getElem?_append]
  have hlt : t < args.length := by
   rcases Nat.lt_or_ge t args.length with h | h
   ·exact h
   ·rw [List.getElem?_eq_none (by omega)] at h2; cases h2
  rw [if_pos (by simpa using hlt)]
  simp only [Nat.sub_zero] at h2
  simp [h2]
section
variable {P : Program} {fn : Func} {R : Ending → World → Prop} {l : Env} {w : World}
def resVal (a : Array Value) : ResultVar → Sem Value
  | .tmp t => pure (a.getD t undef)
  | .cell p t => do loadVar t (← asAddr (a.getD p undef))
theorem results_eq (a : Array Value) : results fn a = (do let vs ← fn.results.mapM (resVal a); pure (if h : vs.size = 1 then vs[0] else .tuple vs)) := rfl
theorem run_resVar {x : ResultVar} {v : Value} (h : ResVar P l w x v) (a : Array Value) (ha : ∀ t v, lk l t = some v → a.getD t undef = v) :
  (resVal a x).run P w = .ok v w := by
 unfold resVal
 cases x with
 | tmp t => simp only [Sem.run_pure]; rw [ha t v h]
 | cell p ty =>
  obtain ⟨ad, h1, h2⟩ := h
  simp only [Sem.run_bind]
  rw [ha p _ h1]
  simp [asAddr, h2]
theorem r0 (hf : fn.results = #[]) (hR : R (.returned (.tuple #[])) w) : fnPost P fn R .ret l w ∧ fnPost P fn R .normal l w := by
 have h : ∃ v, (∀ a : Array Value, (∀ t v, lk l t = some v → a.getD t undef = v) → (results fn a).run P w = .ok v w) ∧ R (.returned v) w := ⟨_, fun a ha => by simp [results, hf], hR⟩
 exact ⟨h, h⟩
theorem r1 {x : ResultVar} {v : Value} (hf : fn.results = #[x]) (hx : ResVar P l w x v) (hR : R (.returned v) w) : fnPost P fn R .ret l w ∧ fnPost P fn R .normal l w := by
 have h : ∃ v, (∀ a : Array Value, (∀ t v, lk l t = some v → a.getD t undef = v) → (results fn a).run P w = .ok v w) ∧ R (.returned v) w := ⟨v, fun a ha => by
  have := run_resVar hx a ha
  rw [results_eq, hf]
  simp only [List.mapM_toArray, List.mapM_cons, List.mapM_nil, Sem.run_bind, Sem.run_pure, map_eq_pure_bind]
  simp only [this, Result.andThen_ok]
  rfl, hR⟩
 exact ⟨h, h⟩
theorem r2 {x y : ResultVar} {v u : Value} (hf : fn.results = #[x, y]) (hx : ResVar P l w x v) (hy : ResVar P l w y u) (hR : R (.returned (.tuple #[v, u])) w) : fnPost P fn R .ret l w ∧ fnPost P fn R .normal l w := by
 have h : ∃ v, (∀ a : Array Value, (∀ t v, lk l t = some v → a.getD t undef = v) → (results fn a).run P w = .ok v w) ∧ R (.returned v) w := ⟨.tuple #[v, u], fun a ha => by
  have h1 := run_resVar hx a ha
  have h2 := run_resVar hy a ha
  rw [results_eq, hf]
  simp only [List.mapM_toArray, List.mapM_cons, List.mapM_nil, Sem.run_bind, Sem.run_pure, map_eq_pure_bind]
  simp only [h1, h2, Result.andThen_ok]
  rfl, hR⟩
 exact ⟨h, h⟩
end
section
variable {P : Program} {fn : Func} {R : Ending → World → Prop} {l : Env} {w : World}
theorem rT {t : Nat} {v : Value} (hf : fn.results = #[.tmp t]) (hx : lk l t = some v) (hR : R (.returned v) w) : fnPost P fn R .ret l w ∧ fnPost P fn R .normal l w := r1 hf hx hR
theorem rTT {t t2 : Nat} {v v2 : Value} (hf : fn.results = #[.tmp t, .tmp t2]) (hx : lk l t = some v) (hy : lk l t2 = some v2) (hR : R (.returned (.tuple #[v, v2])) w) : fnPost P fn R .ret l w ∧ fnPost P fn R .normal l w := r2 hf hx hy hR
theorem resCell {ty : TypeId} {p g : Nat} {bt : TypeId} {cs : Array Value} {d : TypeDesc} (hx : lk l p = some (.pointer (some ⟨g, 0, none⟩))) (hB : Blk w g bt cs) (hu : P.underlying ty = some d) (hd : (match d with | .struct _ | .array _ _ => true | _ => false) = true) (hi : (P.info? ty).map (·.size) = some cs.size) :
  ResVar P l w (.cell p ty) (.agg cs) := ⟨_, hx, run_loadVar_row w g bt ty cs (0, 0) d hB hu hd hi⟩
theorem rC {ty : TypeId} {p g : Nat} {bt : TypeId} {cs : Array Value} {d : TypeDesc} (hf : fn.results = #[.cell p ty]) (hx : lk l p = some (.pointer (some ⟨g, 0, none⟩))) (hB : Blk w g bt cs) (hu : P.underlying ty = some d) (hd : (match d with | .struct _ | .array _ _ => true | _ => false) = true) (hi : (P.info? ty).map (·.size) = some cs.size)
  (hR : R (.returned (.agg cs)) w) : fnPost P fn R .ret l w ∧ fnPost P fn R .normal l w := r1 hf (resCell hx hB hu hd hi) hR
theorem rCT {ty : TypeId} {p g t : Nat} {v : Value} {bt : TypeId} {cs : Array Value} {d : TypeDesc} (hf : fn.results = #[.cell p ty, .tmp t]) (hx : lk l p = some (.pointer (some ⟨g, 0, none⟩))) (hB : Blk w g bt cs) (hu : P.underlying ty = some d) (hd : (match d with | .struct _ | .array _ _ => true | _ => false) = true) (hi : (P.info? ty).map (·.size) = some cs.size) (hy : lk l t = some v)
  (hR : R (.returned (.tuple #[.agg cs, v])) w) : fnPost P fn R .ret l w ∧ fnPost P fn R .normal l w := r2 hf (resCell hx hB hu hd hi) hy hR
end
theorem bset {g : Nat} {w0 w w' : World} (hb : Below w0.heap.size w0 w) (hc : Chg (fun k => k = g) w w') (hg : w0.heap.size ≤ g) : Below w0.heap.size w0 w' :=
 ⟨hc.os.trans hb.os, hc.tape.trans hb.tape, hc.output.trans hb.output, Nat.le_trans hb.size hc.size, fun k hk => (hc.block k (Nat.lt_of_lt_of_le hk hb.size) (by omega)).trans (hb.block k hk)⟩
theorem bthen {w0 w w' : World} (hb : Below w0.heap.size w0 w) (hc : Below w.heap.size w w') : Below w0.heap.size w0 w' := below_then hb hc (Nat.le_refl _)
theorem bdrew {w0 w : World} (hb : Below w0.heap.size w0 w) : Below w0.heap.size w0 w.drew := ⟨hb.os, hb.tape, hb.output, hb.size, hb.block⟩
end Go.Proofs.YtnlabkogebnioaaGreatDoor
namespace Go.Proofs.YtnlabkogebnioaaGreatDoor
open Go.RowKit
section
variable {P : Program} {l : Env} {ty t t' : TypeId} {w : World} {x y : Operand} {k k' : IntKind} {m n z : Int}
theorem X.move {v : Value} (hx : ev l x = some v) : X P l (.move x) ty w v w := fun ρ hρ => by rw [← hρ _ _ hx]; rfl
theorem X.assign {v : Value} (hx : ev l x = some v) : X P l (.assign x) ty w v w := fun ρ hρ => by rw [← hρ _ _ hx]; rfl
theorem X.bin {o : BinOp} {a b v : Value} (hx : ev l x = some a) (hy : ev l y = some b) (h : ∀ c d, (eqGuard o t c d a b).run P w = .ok () w) (hr : (binOp o t a b).run P w = .ok v w) : X P l (.binOp o t x y t') ty w v w := fun ρ hρ => by
 unfold execOp
 simp only [hρ _ _ hx, hρ _ _ hy, Sem.run_bind, h, Result.andThen_ok, hr, Sem.run_pure]
theorem guard_int {o : BinOp} (c d : Operand) : (eqGuard o t c d (.int k m) (.int k' n)).run P w = .ok () w := by
 unfold eqGuard
 cases o <;> simp
theorem X.add (hx : ev l x = some (.int k m)) (hy : ev l y = some (.int k n)) (hz : k.wrap (m + n) = z) : X P l (.binOp .add t x y t') ty w (.int k z) w :=
 X.bin hx hy guard_int (by simp [binOp, Op.intArith, hz])
theorem X.sub (hx : ev l x = some (.int k m)) (hy : ev l y = some (.int k n)) (hz : k.wrap (m - n) = z) : X P l (.binOp .sub t x y t') ty w (.int k z) w :=
 X.bin hx hy guard_int (by simp [binOp, Op.intArith, hz])
theorem X.mul (hx : ev l x = some (.int k m)) (hy : ev l y = some (.int k n)) (hz : k.wrap (m * n) = z) : X P l (.binOp .mul t x y t') ty w (.int k z) w :=
 X.bin hx hy guard_int (by simp [binOp, Op.intArith, hz])
theorem X.add64 (hx : ev l x = some (.int .i64 m)) (hy : ev l y = some (.int .i64 n)) (hz : -9223372036854775808 ≤ m + n ∧ m + n ≤ 9223372036854775807) : X P l (.binOp .add t x y t') ty w (.int .i64 (m + n)) w :=
 X.add hx hy (IntWalk.i64_in _ hz)
theorem X.sub64 (hx : ev l x = some (.int .i64 m)) (hy : ev l y = some (.int .i64 n)) (hz : -9223372036854775808 ≤ m - n ∧ m - n ≤ 9223372036854775807) : X P l (.binOp .sub t x y t') ty w (.int .i64 (m - n)) w :=
 X.sub hx hy (IntWalk.i64_in _ hz)
theorem X.mul64 (hx : ev l x = some (.int .i64 m)) (hy : ev l y = some (.int .i64 n)) (hz : -9223372036854775808 ≤ m * n ∧ m * n ≤ 9223372036854775807) : X P l (.binOp .mul t x y t') ty w (.int .i64 (m * n)) w :=
 X.mul hx hy (IntWalk.i64_in _ hz)
theorem X.quo (hx : ev l x = some (.int k m)) (hy : ev l y = some (.int k n)) (h0 : n ≠ 0) (hz : k.wrap (m.tdiv n) = z) : X P l (.binOp .quo t x y t') ty w (.int k z) w :=
 X.bin hx hy guard_int (by simp [binOp, Op.intDiv, h0, hz])
theorem X.rem (hx : ev l x = some (.int k m)) (hy : ev l y = some (.int k n)) (h0 : n ≠ 0) (hz : m.tmod n = z) : X P l (.binOp .rem t x y t') ty w (.int k z) w :=
 X.bin hx hy guard_int (by simp [binOp, Op.intDiv, h0, hz])
theorem X.bits {o : BinOp} (ho : o = .and ∨ o = .or ∨ o = .xor ∨ o = .andNot) (hx : ev l x = some (.int k m)) (hy : ev l y = some (.int k n)) (hz : bits o k m n = z) : X P l (.binOp o t x y t') ty w (.int k z) w :=
 X.bin hx hy guard_int (by rcases ho with rfl | rfl | rfl | rfl <;> simp [binOp, intBits_and, intBits_or, intBits_xor, intBits_andNot, hz])
theorem X.shr {s : Nat} {q : Int} (hx : ev l x = some (.int k m)) (hy : ev l y = some (.int k' n)) (h0 : 0 ≤ n) (h1 : n ≤ k.bits) (hs : n.toNat = s) (hq : (2 : Int) ^ s = q) : X P l (.binOp .shr t x y t') ty w (.int k (m / q)) w :=
 X.bin hx hy guard_int (by simp only [binOp, shift_shr k k' m n h0 h1, hs, hq, Sem.run_pure])
theorem X.shrz {s : Nat} {q : Int} (hx : ev l x = some (.int k m)) (hy : ev l y = some (.int k' n)) (h0 : 0 ≤ n) (h1 : n ≤ k.bits) (hs : n.toNat = s) (hq : (2 : Int) ^ s = q) (hz : m / q = z) : X P l (.binOp .shr t x y t') ty w (.int k z) w := by
 subst hz
 exact X.shr hx hy h0 h1 hs hq
theorem X.shl {s : Nat} {q : Int} (hx : ev l x = some (.int k m)) (hy : ev l y = some (.int k' n)) (h0 : 0 ≤ n) (h1 : n ≤ k.bits) (hs : n.toNat = s) (hq : (2 : Int) ^ s = q) (hz : k.wrap (m * q) = z) : X P l (.binOp .shl t x y t') ty w (.int k z) w :=
 X.bin hx hy guard_int (by simp only [binOp, shift_shl k k' m n h0 h1, hs, hq, hz, Sem.run_pure])
theorem X.lss (hx : ev l x = some (.int k m)) (hy : ev l y = some (.int k n)) : X P l (.binOp .lss t x y t') ty w (.bool (decide (m < n))) w :=
 X.bin hx hy guard_int (by simp [binOp, Op.intCmp])
theorem X.leq (hx : ev l x = some (.int k m)) (hy : ev l y = some (.int k n)) : X P l (.binOp .leq t x y t') ty w (.bool (decide (m ≤ n))) w :=
 X.bin hx hy guard_int (by simp [binOp, Op.intCmp])
theorem X.gtr (hx : ev l x = some (.int k m)) (hy : ev l y = some (.int k n)) : X P l (.binOp .gtr t x y t') ty w (.bool (decide (n < m))) w :=
 X.bin hx hy guard_int (by simp [binOp, Op.intCmp])
theorem X.geq (hx : ev l x = some (.int k m)) (hy : ev l y = some (.int k n)) : X P l (.binOp .geq t x y t') ty w (.bool (decide (n ≤ m))) w :=
 X.bin hx hy guard_int (by simp [binOp, Op.intCmp])
theorem X.eql (hx : ev l x = some (.int k m)) (hy : ev l y = some (.int k n)) : X P l (.binOp .eql t x y t') ty w (.bool (decide (m = n))) w :=
 X.bin hx hy guard_int (by
  have : (m == n) = decide (m = n) := by rw [Bool.eq_iff_iff]; simp
  simp [binOp, Op.intCmp, this])
theorem X.neq (hx : ev l x = some (.int k m)) (hy : ev l y = some (.int k n)) : X P l (.binOp .neq t x y t') ty w (.bool (decide (m ≠ n))) w :=
 X.bin hx hy guard_int (by
  have : (m != n) = decide (m ≠ n) := by rw [Bool.eq_iff_iff]; simp
  simp only [binOp, Op.intCmp, this]
  simp)
theorem X.not {b : Bool} (hx : ev l x = some (.bool b)) : X P l (.unOp .not t x) ty w (.bool (!b)) w := fun ρ hρ => by
 unfold execOp
 simp only [hρ _ _ hx, Op.unary, Sem.run_bind, Sem.run_pure, Result.andThen_ok]
theorem X.convI {src dst : TypeId} {s : TypeDesc} (hx : ev l x = some (.int k m)) (hs : P.underlying src = some s) (hd : P.underlying dst = some (.int k')) (hz : k'.wrap m = z) : X P l (.convert src dst x) ty w (.int k' z) w := fun ρ hρ => by
 unfold execOp
 simp [hρ _ _ hx, convert, run_underlying hs, run_underlying hd, Conv.intToInt, hz]
theorem X.pickT {b c : Operand} {v : Value} (hx : ev l x = some (.bool true)) (hb : ev l b = some v) : X P l (.pick x b c) ty w v w := fun ρ hρ => by
 unfold execOp
 simp [hρ _ _ hx, hρ _ _ hb, asBool]
theorem X.pickF {b c : Operand} {v : Value} (hx : ev l x = some (.bool false)) (hc : ev l c = some v) : X P l (.pick x b c) ty w v w := fun ρ hρ => by
 unfold execOp
 simp [hρ _ _ hx, hρ _ _ hc, asBool]
theorem X.ext {vs : Array Value} {i : Nat} {v : Value} (hx : ev l x = some (.tuple vs)) (hi : vs.toList[i]? = some v) : X P l (.extract x i) ty w v w := fun ρ hρ => by
 rw [Array.getElem?_toList] at hi
 unfold execOp
 simp [hρ _ _ hx, Instr.extract, hi]
theorem X.nilChk {a : Addr} (hx : ev l x = some (.pointer (some a))) : X P l (.nilCheck x) ty w (.pointer (some a)) w := fun ρ hρ => by
 unfold execOp
 simp [hρ _ _ hx]
end
theorem w64 {m : Int} (h : -9223372036854775808 ≤ m ∧ m ≤ 9223372036854775807) : IntKind.i64.wrap m = m := IntWalk.i64_in _ h
theorem w8 (m : Int) : IntKind.u8.wrap m = m % 256 := by rw [IntKind.wrap_u8]
theorem w32 (m : Int) : IntKind.u32.wrap m = m % 4294967296 := by rw [IntKind.wrap_u32]
def str (s : List UInt8) : Value := .string ⟨s.toArray⟩
section
variable {P : Program} {l : Env} {ty t t' : TypeId} {w : World} {x y : Operand} {k k' : IntKind} {m n z : Int} {s a b : List UInt8}
theorem X.lenS {ats : Array TypeId} (hx : ev l x = some (str s)) (ht : ats = #[t]) (hu : P.underlying t = some .string) : X P l (.call { callee := .builtin .len, args := #[x], argTypes := ats }) ty w (.int .i64 s.length) w := fun ρ hρ => by
 subst ht
 unfold execOp
 simp [resolve, invoke, builtin, Builtin.len_, hρ _ _ hx, run_underlying hu, str]
 rfl
theorem X.lenL {ats : Array TypeId} {ad : Option Addr} {q c : Nat} {e : TypeId} (hx : ev l x = some (.slice ad q c)) (ht : ats = #[t]) (hu : P.underlying t = some (.slice e)) : X P l (.call { callee := .builtin .len, args := #[x], argTypes := ats }) ty w (.int .i64 q) w := fun ρ hρ => by
 subst ht
 unfold execOp
 simp [resolve, invoke, builtin, Builtin.len_, hρ _ _ hx, run_underlying hu, goInt]
theorem X.idxS {q : Nat} (hx : ev l x = some (str s)) (hy : ev l y = some (.int k m)) (hu : P.underlying t = some .string) (hm : m = (q : Int)) (hq : q < s.length) : X P l (.index t x y) ty w (bv (s.getD q 0)) w := fun ρ hρ => by
 subst hm
 unfold execOp
 simp only [hρ _ _ hx, hρ _ _ hy, str, run_index_string (P := P) w t ⟨s.toArray⟩ k q hu, Sem.run_bind]
 have h1 : (0 : Int) ≤ (q : Int) ∧ (q : Int) < ((⟨s.toArray⟩ : ByteArray).size : Int) := ⟨by omega, by show (q : Int) < (s.length : Int); omega⟩
 rw [dif_pos h1]
 simp only [Result.andThen_ok, Sem.run_pure, Int.toNat_natCast]
 have e : (⟨s.toArray⟩ : ByteArray)[q]'(by show q < s.length; exact hq) = s.getD q 0 := by
  rw [List.getD_eq_getElem?_getD, List.getElem?_eq_getElem hq]; rfl
 rw [e]; rfl
theorem extract_list (s : List UInt8) (i j : Nat) : Value.string ((⟨s.toArray⟩ : ByteArray).extract i j) = str ((s.take j).drop i) := by
 unfold str
 congr 1
 apply ByteArray.ext
 rw [ByteArray.data_extract]
 apply Array.ext'
 rw [Array.toList_extract]
 simp [List.extract, List.drop_take]
theorem X.toS {j : Nat} (hx : ev l x = some (str s)) (hy : ev l y = some (.int k m)) (hu : P.underlying t = some .string) (hm : m = (j : Int)) (hj : j ≤ s.length) : X P l (.slice t x none (some y) none) ty w (str (s.take j)) w := fun ρ hρ => by
 subst hm
 unfold execOp
 have := run_slice_string_h (P := P) w t ⟨s.toArray⟩ hu k j (by omega) (by show (j : Int) ≤ (s.length : Int); omega)
 simp [hρ _ _ hx, hρ _ _ hy, Instr.sliceAt, run_underlying hu]
 simp only [str] at *
 simp [this, extract_list, str]
theorem X.fromS {i : Nat} (hx : ev l x = some (str s)) (hy : ev l y = some (.int k m)) (hu : P.underlying t = some .string) (hm : m = (i : Int)) (hi : i ≤ s.length) : X P l (.slice t x (some y) none none) ty w (str (s.drop i)) w := fun ρ hρ => by
 subst hm
 unfold execOp
 have := run_slice_string_l (P := P) w t ⟨s.toArray⟩ hu k i (by omega) (by show (i : Int) ≤ (s.length : Int); omega)
 simp [hρ _ _ hx, hρ _ _ hy, Instr.sliceAt, run_underlying hu]
 simp only [str] at *
 have e : (⟨s.toArray⟩ : ByteArray).size = s.length := rfl
 simp [this, extract_list, str, e]
theorem X.cutS {x1 x2 : Operand} {i j : Nat} (hx : ev l x = some (str s)) (h1 : ev l x1 = some (.int k m)) (h2 : ev l x2 = some (.int k' n)) (hu : P.underlying t = some .string) (hm : m = (i : Int)) (hn : n = (j : Int)) (hi : i ≤ j) (hj : j ≤ s.length) : X P l (.slice t x (some x1) (some x2) none) ty w (str ((s.take j).drop i)) w := fun ρ hρ => by
 subst hm hn
 unfold execOp
 have := run_slice_string (P := P) w t ⟨s.toArray⟩ k k' i j hu (by omega) (by omega) (by show (j : Int) ≤ (s.length : Int); omega)
 simp [hρ _ _ hx, hρ _ _ h1, hρ _ _ h2, Instr.sliceAt, run_underlying hu]
 simp only [str] at *
 simp [this, extract_list, str]
theorem guard_str {o : BinOp} {a b : ByteArray} (c d : Operand) : (eqGuard o t c d (.string a) (.string b)).run P w = .ok () w := by
 unfold eqGuard
 cases o <;> simp
theorem X.cat (hx : ev l x = some (str a)) (hy : ev l y = some (str b)) (h : a.length + b.length ≤ 9223372036854775807) : X P l (.binOp .add t x y t') ty w (str (a ++ b)) w :=
 X.bin hx hy guard_str (by
  have e : ¬ (((⟨a.toArray⟩ : ByteArray).size + (⟨b.toArray⟩ : ByteArray).size : Nat) : Int) > IntKind.i64.max := by
   show ¬ ((a.length + b.length : Nat) : Int) > IntKind.i64.max
   simp [IntKind.max, IntKind.bits, IntKind.signed]
   omega
  have e2 : (⟨a.toArray⟩ : ByteArray) ++ ⟨b.toArray⟩ = ⟨(a ++ b).toArray⟩ := by apply ByteArray.ext; simp
  simp only [binOp, str, Op.stringOp]
  rw [if_neg e, e2]
  rfl)
theorem bytes_toList (a : List UInt8) : (⟨a.toArray⟩ : ByteArray).toList = a := by
 rw [ByteArray.toList_eq]
theorem X.eqS (hx : ev l x = some (str a)) (hy : ev l y = some (str b)) : X P l (.binOp .eql t x y t') ty w (.bool (decide (a = b))) w :=
 X.bin hx hy guard_str (by
  have : (a == b) = decide (a = b) := by rw [Bool.eq_iff_iff]; simp
  simp only [binOp, str, Op.stringOp, bytes_toList, this, Sem.run_pure])
theorem X.neS (hx : ev l x = some (str a)) (hy : ev l y = some (str b)) : X P l (.binOp .neq t x y t') ty w (.bool (decide (a ≠ b))) w :=
 X.bin hx hy guard_str (by
  have : (!(a == b)) = decide (a ≠ b) := by rw [Bool.eq_iff_iff]; simp
  simp only [binOp, str, Op.stringOp, bytes_toList, this, Sem.run_pure])
end
end Go.Proofs.YtnlabkogebnioaaGreatDoor
namespace Go.Proofs.YtnlabkogebnioaaGreatDoor
open Go.RowKit
theorem Blk.bel {w w' : World} {g : Nat} {t : TypeId} {cs : Array Value} (h : Blk w g t cs) (hb : Below w.heap.size w w') : Blk w' g t cs := h.belowAll hb
theorem Row.bel {w w' : World} {e : TypeId} {size : Nat} {v : Value} {n : Nat} {xs : List Value} (h : Row w e size v n xs) (hb : Below w.heap.size w w') : Row w' e size v n xs := h.belowAll hb
theorem Reads.bel {w w' : World} {size : Nat} {v : Value} {n : Nat} {xs : List Value} (h : Reads w size v n xs) (hb : Below w.heap.size w w') : Reads w' size v n xs := h.belowAll hb
theorem Blk.range {w : World} {g : Nat} {t : TypeId} {cs : Array Value} (h : Blk w g t cs) : w.rangeAt g 0 cs.toList := fun j v hv => by
 rw [Nat.zero_add, h.cell]
 simpa using hv
theorem Reads.range {w : World} {size : Nat} {g o n c : Nat} {xs : List Value} (h : Reads w size (.slice (some ⟨g, o, none⟩) n c) n xs) (j : Nat) (hj : j < n) : w.rangeAt g (o + j * size) ((xs.drop (j * size)).take size) := by
 obtain ⟨hl, a, cap, hv, _, _, hr⟩ := h
 injection hv with e1 _ _
 obtain ⟨g', o', ha, _, hc⟩ := hr (by omega)
 rw [ha] at e1
 injection e1 with e1
 injection e1 with e2 e3
 subst e2 e3
 intro i v hv
 rw [List.getElem?_take] at hv
 split at hv
 ·rw [List.getElem?_drop] at hv
  rw [Nat.add_assoc]
  exact hc _ _ hv
 ·cases hv
theorem Reads.cellAt {w : World} {size : Nat} {g o n c : Nat} {xs : List Value} (h : Reads w size (.slice (some ⟨g, o, none⟩) n c) n xs) (hn : 0 < n) {j : Nat} {v : Value} (hv : xs[j]? = some v) : w.cell? ⟨g, o + j, none⟩ = some v := by
 obtain ⟨hl, a, cap, hv', _, _, hr⟩ := h
 injection hv' with e1 _ _
 obtain ⟨g', o', ha, _, hc⟩ := hr hn
 rw [ha] at e1
 injection e1 with e1
 injection e1 with e2 e3
 subst e2 e3
 exact hc _ _ hv
theorem Reads.shape {w : World} {size n : Nat} {v : Value} {xs : List Value} (h : Reads w size v n xs) : ∃ a c, v = .slice a n c ∧ n ≤ c ∧ c ≤ 9223372036854775807 := by
 obtain ⟨_, a, cap, hv, h1, h2, _⟩ := h
 exact ⟨a, cap, hv, h1, h2⟩
theorem Reads.some_ {w : World} {size n : Nat} {v : Value} {xs : List Value} (h : Reads w size v n xs) (hn : 0 < n) : ∃ g o c, v = .slice (some ⟨g, o, none⟩) n c ∧ g < w.heap.size := by
 obtain ⟨_, a, cap, hv, _, _, hr⟩ := h
 obtain ⟨g, o, ha, hg, _⟩ := hr hn
 subst ha
 exact ⟨g, o, cap, hv, hg⟩
section
variable {P : Program} {N : Nat} {ds : List Deferred} {Q : Post} {l : Env} {w w' : World} {ops : Array Oper} {rest : List Oper} {ty t t' : TypeId} {pos : String} {aft : Array Edge} {d : Nat} {v u : Value} {x y : Operand} {k : IntKind} {m : Int} {g o n c : Nat}
theorem X.fa {off i : Nat} (hr : ∀ g o, (Instr.fieldAt t (.pointer (some ⟨g, o, none⟩)) i).run P w = .ok (.pointer (some ⟨g, o + off, none⟩)) w) (hx : ev l x = some (.pointer (some ⟨g, o, none⟩))) :
  X P l (.fieldAddr t x i) ty w (.pointer (some ⟨g, o + off, none⟩)) w := fun ρ hρ => by
 unfold execOp
 simp only [hρ _ _ hx, Sem.run_bind, hr, Result.andThen_ok, Sem.run_pure]
theorem X.idxA {e : TypeId} {size j : Nat} (hx : ev l x = some (.slice (some ⟨g, o, none⟩) n c)) (hy : ev l y = some (.int k m)) (hu : P.underlying t = some (.slice e)) (hi : (P.info? e).map (·.size) = some size) (hm : m = (j : Int)) (hj : j < n) :
  X P l (.indexAddr t x y) ty w (.pointer (some ⟨g, o + j * size, none⟩)) w := fun ρ hρ => by
 subst hm
 unfold execOp
 obtain ⟨q, hq, hs⟩ := Option.map_eq_some_iff.1 hi
 simp [hρ _ _ hx, hρ _ _ hy, Instr.indexAt, run_underlying hu, asIntOf, sizeOf, typeInfo, hq, hs, Addr.add_mid]
 intro h; omega
theorem X.idxArr {e : TypeId} {size j len : Nat} (hx : ev l x = some (.pointer (some ⟨g, o, none⟩))) (hy : ev l y = some (.int k m)) (hu : P.underlying t = some (.array len e)) (hi : (P.info? e).map (·.size) = some size) (hm : m = (j : Int)) (hj : j < len) :
  X P l (.indexAddr t x y) ty w (.pointer (some ⟨g, o + j * size, none⟩)) w := fun ρ hρ => by
 subst hm
 unfold execOp
 obtain ⟨q, hq, hs⟩ := Option.map_eq_some_iff.1 hi
 simp [hρ _ _ hx, hρ _ _ hy, Instr.indexAt, run_underlying hu, asIntOf, Instr.sureAddr, sizeOf, typeInfo, hq, hs, Addr.add_mid]
 intro h; omega
theorem X.ld {de : TypeDesc} (hx : ev l x = some (.pointer (some ⟨g, o, none⟩))) (hu : P.underlying t = some de) (hd : de.isRow = false) (hc : w.cell? ⟨g, o, none⟩ = some v) : X P l (.load t x) ty w v w := fun ρ hρ => by
 unfold execOp
 have : (loadVar t ⟨g, o, none⟩).run P w = .ok v w := by
  unfold loadVar isAgg
  cases de <;> simp [TypeDesc.isRow] at hd <;> simp [run_underlying hu, run_load, hc]
 simp [hρ _ _ hx, Instr.loadAt, Instr.sureAddr, this]
theorem X.ldN {de : TypeDesc} {cs : List Value} (hx : ev l x = some (.pointer (some ⟨g, o, none⟩))) (hu : P.underlying t = some de) (hd : de.isRow = true) (hi : (P.info? t).map (·.size) = some cs.length) (hc : w.rangeAt g o cs) : X P l (.load t x) ty w (.agg cs.toArray) w := fun ρ hρ => by
 unfold execOp
 simp [hρ _ _ hx, Instr.loadAt, Instr.sureAddr, run_loadVar_mid (P := P) w g o t cs de hc hu hd hi]
theorem X.ldB {de : TypeDesc} {bt : TypeId} {cs : Array Value} (hx : ev l x = some (.pointer (some ⟨g, o, none⟩))) (hB : Blk w g bt cs) (hu : P.underlying t = some de) (hd : de.isRow = false) (hc : cs[o]? = some v) : X P l (.load t x) ty w v w :=
 X.ld hx hu hd (by rw [hB.cell]; exact hc)
theorem X.ldBN {de : TypeDesc} {bt : TypeId} {cs : Array Value} (hx : ev l x = some (.pointer (some ⟨g, 0, none⟩))) (hB : Blk w g bt cs) (hu : P.underlying t = some de) (hd : de.isRow = true) (hi : (P.info? t).map (·.size) = some cs.size) : X P l (.load t x) ty w (.agg cs) w := by
 have := X.ldN (ty := ty) (cs := cs.toList) hx hu hd (by simpa using hi) hB.range
 simpa using this
theorem X.ldL {de : TypeDesc} {bt : TypeId} {cs : Array Value} (hx : ev l x = some (.pointer (some ⟨g, o, none⟩))) (hB : Blk w g bt cs) (hu : P.underlying t = some de) (hd : de.isRow = false) (hc : cs.toList[o]? = some v) : X P l (.load t x) ty w v w :=
 X.ldB hx hB hu hd (by rw [← Array.getElem?_toList]; exact hc)
theorem run_store1 {a : Addr} (ht : (P.info? t).map (·.size) = some 1) (h1 : v.oneCell' = true) (hc : (w.cell? a).isSome = true) (hf : w.frozen? a = false) : (storeVar t a v).run P w = .ok () (w.setCell a v) := by
 obtain ⟨q, hq, hs⟩ := Option.map_eq_some_iff.1 ht
 obtain ⟨u, hu⟩ := Option.isSome_iff_exists.1 hc
 have hcs : v.cells = #[v] := by cases v <;> simp [Value.oneCell'] at h1 <;> rfl
 have ha : a.add 0 = a := by simp [Addr.add]
 have : (store a v).run P w = .ok () (w.setCell a v) := by rw [run_store P w a v .plain h1]; simp [hu, hf]
 have hz : (sizeOf t).run P w = .ok 1 w := by simp [sizeOf, typeInfo, hq, hs]
 unfold storeVar
 simp only [hcs, Sem.run_bind, hz, Result.andThen_ok]
 simp [storeCells, ha, this]
theorem Xs.st (hx : ev l x = some (.pointer (some ⟨g, o, none⟩))) (hy : ev l y = some v) (ht : (P.info? t).map (·.size) = some 1) (h1 : v.oneCell' = true) (hc : (w.cell? ⟨g, o, none⟩).isSome = true) (hf : w.frozen? ⟨g, o, none⟩ = false) :
  Xs P l (.store t x y) ty w (w.setCell ⟨g, o, none⟩ v) := fun ρ hρ => by
 unfold execOp
 simp [hρ _ _ hx, hρ _ _ hy, Instr.storeAt, Instr.sureAddr, run_store1 ht h1 hc hf]
theorem ssB {bt : TypeId} {cs : Array Value} (hx : ev l x = some (.pointer (some ⟨g, o, none⟩))) (hy : ev l y = some v) (hB : Blk w g bt cs) (ht : (P.info? t).map (·.size) = some 1) (h1 : v.oneCell' = true) (ho : o < cs.size)
  (h : ∀ w', Blk w' g bt (cs.setIfInBounds o v) → Chg (fun k => k = g) w w' → WL P N ds ops Q rest l w') : WL P N ds ops Q (⟨none, .store t x y, ty, pos, aft, none⟩ :: rest) l w :=
 ss (Xs.st hx hy ht h1 (by rw [hB.cell, Array.getElem?_eq_getElem ho]; rfl) (hB.frozen o)) (h _ (hB.set_ o v) ((Chg.refl (fun k => k = g) w).setCell (p := ⟨g, o, none⟩) (.inl rfl) v))
theorem ssBN {bt : TypeId} {old cells : Array Value} (hx : ev l x = some (.pointer (some ⟨g, 0, none⟩))) (hy : ev l y = some (.agg cells)) (hB : Blk w g bt old) (hi : (P.info? t).map (·.size) = some cells.size) (hs : old.size = cells.size) (h1 : cells.toList.all (·.oneCell') = true)
  (h : ∀ w', Blk w' g bt cells → Chg (fun k => k = g) w w' → WL P N ds ops Q rest l w') : WL P N ds ops Q (⟨none, .store t x y, ty, pos, aft, none⟩ :: rest) l w :=
 ss (w' := w.setRow g cells) (fun ρ hρ => by
  unfold execOp
  simp only [hρ _ _ hx, hρ _ _ hy, Instr.storeAt, Instr.sureAddr, Sem.run_bind, Sem.run_pure, Result.andThen_ok,
   run_storeVar_row w g bt t old cells hB hi hs (by rw [← Array.all_toList]; exact h1)])
  (h _ (setRow_heap _ _ _ _ _ _ hB) ((Chg.refl (fun k => k = g) w).setRow (.inl rfl) _))
theorem sal {cs : Array Value} {q : Value} {sz by_ : Nat} (hi : (P.info? t).map (fun i => (i.zero, i.size, i.bytes)) = some (some q, sz, by_)) (hq : q.cells = cs) (hd : Nat.blt d N = true)
  (h : ∀ g w', Blk w' g t cs → w.heap.size ≤ g → Below w.heap.size w w' → g < w'.heap.size → WL P N ds ops Q rest ((d, .pointer (some ⟨g, 0, none⟩)) :: l) w') : WL P N ds ops Q (⟨some d, .alloc t, ty, pos, aft, none⟩ :: rest) l w := by
 refine st (w' := w.alloc (.cells cs t)) (fun ρ _ => ?_) hd (h _ _ (Blk.new w t cs) (Nat.le_refl _) ((Below.refl _ _).alloc (Nat.le_refl _) _) (by simp))
 obtain ⟨i, h1, h2⟩ := Option.map_eq_some_iff.1 hi
 injection h2 with h2 h3
 unfold execOp
 simp [Instr.alloc, zeroValue, typeInfo, h1, h2, newVar, newRow, hq]
theorem salA {cs : Array Value} {sz by_ : Nat} (hi : (P.info? t).map (fun i => (i.zero, i.size, i.bytes)) = some (some (.agg cs), sz, by_)) (hd : Nat.blt d N = true)
  (h : ∀ g w', Blk w' g t cs → w.heap.size ≤ g → Below w.heap.size w w' → g < w'.heap.size → WL P N ds ops Q rest ((d, .pointer (some ⟨g, 0, none⟩)) :: l) w') : WL P N ds ops Q (⟨some d, .alloc t, ty, pos, aft, none⟩ :: rest) l w := sal hi rfl hd h
theorem sal1 {q : Value} {sz by_ : Nat} (hi : (P.info? t).map (fun i => (i.zero, i.size, i.bytes)) = some (some q, sz, by_)) (hq : q.cells = #[q]) (hd : Nat.blt d N = true)
  (h : ∀ g w', Blk w' g t #[q] → w.heap.size ≤ g → Below w.heap.size w w' → g < w'.heap.size → WL P N ds ops Q rest ((d, .pointer (some ⟨g, 0, none⟩)) :: l) w') : WL P N ds ops Q (⟨some d, .alloc t, ty, pos, aft, none⟩ :: rest) l w := sal hi hq hd h
theorem sboxA {cs : Array Value} (hx : ev l x = some (.agg cs)) (hd : Nat.blt d N = true)
  (h : ∀ g w', Blk w' g t cs → w.heap.size ≤ g → Below w.heap.size w w' → g < w'.heap.size → WL P N ds ops Q rest ((d, .pointer (some ⟨g, 0, none⟩)) :: l) w') : WL P N ds ops Q (⟨some d, .box t x, ty, pos, aft, none⟩ :: rest) l w := by
 refine st (w' := w.alloc (.cells cs t)) (fun ρ hρ => ?_) hd (h _ _ (Blk.new w t cs) (Nat.le_refl _) ((Below.refl _ _).alloc (Nat.le_refl _) _) (by simp))
 unfold execOp
 simp [hρ _ _ hx, Instr.box, newVar, newRow, Value.cells]
theorem sbox {cs : Array Value} (hx : ev l x = some v) (hq : v.cells = cs) (hd : Nat.blt d N = true)
  (h : ∀ g w', Blk w' g t cs → w.heap.size ≤ g → Below w.heap.size w w' → g < w'.heap.size → WL P N ds ops Q rest ((d, .pointer (some ⟨g, 0, none⟩)) :: l) w') : WL P N ds ops Q (⟨some d, .box t x, ty, pos, aft, none⟩ :: rest) l w := by
 refine st (w' := w.alloc (.cells cs t)) (fun ρ hρ => ?_) hd (h _ _ (Blk.new w t cs) (Nat.le_refl _) ((Below.refl _ _).alloc (Nat.le_refl _) _) (by simp))
 unfold execOp
 simp [hρ _ _ hx, Instr.box, newVar, newRow, hq]
def evp (l : Env) : List (Nat × Operand) → Option (List (Nat × Value))
  | [] => some []
  | (i, x) :: xs => match ev l x with
    | some v => match evp l xs with
      | some vs => some ((i, v) :: vs)
      | none => none
    | none => none
theorem evp_map {ρ : Operand → Value} (hρ : Knows l ρ) : ∀ {xs : List (Nat × Operand)} {vs : List (Nat × Value)}, evp l xs = some vs → xs.map (fun p => (p.1, ρ p.2)) = vs
 | [], vs, h => by injection h
 | (i, x) :: xs, vs, h => by
  unfold evp at h
  cases hx : ev l x with
  | none => rw [hx] at h; cases h
  | some v =>
   rw [hx] at h
   cases hxs : evp l xs with
   | none => rw [hxs] at h; cases h
   | some us =>
    rw [hxs] at h
    injection h with h
    subst h
    rw [List.map_cons, evp_map hρ hxs, hρ _ _ hx]
theorem X.bld {ps : List (Nat × Operand)} {vs : List (Nat × Value)} (hp : evp l ps = some vs) (hr : (Instr.build t vs.toArray).run P w = .ok v w) : X P l (.build t ps.toArray) ty w v w := fun ρ hρ => by
 unfold execOp
 have := evp_map hρ hp
 simp only [List.map_toArray, Sem.run_bind]
 rw [this, hr]
 rfl
theorem sbs {len e : Nat} {ps : List (Nat × Operand)} {vs : List (Nat × Value)} {cs : Array Value} (size : Nat) (hp : evp l ps = some vs) (hr : (Instr.buildSlice t len vs.toArray).run P w = .ok (.slice (some ⟨w.heap.size, 0, none⟩) len len) (w.alloc (.cells cs e))) (hn : len ≤ maxLen) (hc : cs.size = len * size) (hd : Nat.blt d N = true)
  (h : ∀ g w', Row w' e size (.slice (some ⟨g, 0, none⟩) len len) len cs.toList → w.heap.size ≤ g → Below w.heap.size w w' → WL P N ds ops Q rest ((d, .slice (some ⟨g, 0, none⟩) len len) :: l) w') : WL P N ds ops Q (⟨some d, .buildSlice t len ps.toArray, ty, pos, aft, none⟩ :: rest) l w := by
 refine st (w' := w.alloc (.cells cs e)) (fun ρ hρ => ?_) hd (h _ _ (Row.new w e size len cs hn hc) (Nat.le_refl _) ((Below.refl _ _).alloc (Nat.le_refl _) _))
 unfold execOp
 have := evp_map hρ hp
 simp only [List.map_toArray, Sem.run_bind]
 rw [this, hr]
 rfl
theorem run_buildSlice1 {e : TypeId} {i : TypeInfo} {z : Value} (w : World) (hu : P.underlying t = some (.slice e)) (hi : P.info? e = some i) (hz : i.zero = some z) (hs : v.cells.size = i.size) (hzs : z.cells.size = i.size) (h0 : 0 < i.size) (hle : i.size ≤ 1000) :
  (Instr.buildSlice t 1 #[(0, v)]).run P w = .ok (.slice (some ⟨w.heap.size, 0, none⟩) 1 1) (w.alloc (.cells v.cells e)) := by
 have hfill : ∀ cells : Array Value, cells.size = i.size → Instr.fill (fun i_1 => some (i_1 * i.size, i.size)) cells [(0, v)] = some v.cells := by
  intro cells hc
  unfold Instr.fill
  simp only [Nat.zero_mul, Nat.zero_add]
  rw [if_neg (by simp [hs, hc])]
  unfold Instr.fill
  congr 1
  apply Array.ext_getElem?
  intro j
  have key : ∀ (vs : List Value) (k : Nat) (cs : Array Value), k + vs.length ≤ cs.size → ((vs.zipIdx k).foldl (fun cs x => cs.setIfInBounds x.2 x.1) cs)[j]? = if k ≤ j ∧ j < k + vs.length then vs[j - k]? else cs[j]? := by
   intro vs
   induction vs with
   | nil => intro k cs _; simp; omega
   | cons u us ih =>
    intro k cs hk
    simp only [List.zipIdx_cons, List.foldl_cons]
    rw [ih (k + 1) _ (by simp at hk ⊢; omega)]
    by_cases h1 : k + 1 ≤ j ∧ j < k + 1 + us.length
    ·rw [if_pos h1, if_pos (by simp; omega), show j - k = (j - (k + 1)) + 1 by omega, List.getElem?_cons_succ]
    ·rw [if_neg h1]
     by_cases h2 : j = k
     ·subst h2
      rw [if_pos (by simp)]
      rw [Array.getElem?_setIfInBounds_self]
      simp at hk
      rw [if_pos (by omega)]
      simp
     ·rw [if_neg (by simp; omega), Array.getElem?_setIfInBounds_ne (by omega)]
  have := key v.cells.toList 0 cells (by simp; omega)
  simp only [Nat.zero_le, true_and, Nat.zero_add, Nat.sub_zero] at this
  rw [← Array.foldl_toList, Array.toList_zipIdx]
  rw [this]
  by_cases hj : j < v.cells.size
  ·rw [if_pos (by simpa using hj)]; simp
  ·rw [if_neg (by simpa using hj), Array.getElem?_eq_none (by omega), Array.getElem?_eq_none (by omega)]
 have h1 : ¬ (1 * i.size > 2 ^ 24) := by omega
 have h2 : ¬ (1 * i.size = 0) := by omega
 unfold Instr.buildSlice
 simp only [Sem.run_bind, run_underlying hu, Result.andThen_ok, sizeOf, typeInfo, run_program, hi, Sem.run_pure, if_neg h1, if_neg h2, zeroValue, hz]
 rw [hfill _ (by simp)]
 simp [newRow]
theorem info_of {t : TypeId} {z : Value} {size bytes : Nat} (h : (P.info? t).map (fun i => (i.zero, i.size, i.bytes)) = some (some z, size, bytes)) : ∃ i, P.info? t = some i ∧ i.zero = some z ∧ i.size = size ∧ i.bytes = bytes := by
 obtain ⟨i, hi, h2⟩ := Option.map_eq_some_iff.1 h
 simp only [Prod.mk.injEq] at h2
 exact ⟨i, hi, h2.1, h2.2.1, h2.2.2⟩
theorem sbs1 {e : TypeId} {z : Value} {size bytes : Nat} (hx : ev l x = some v) (hu : P.underlying t = some (.slice e)) (hinfo : (P.info? e).map (fun i => (i.zero, i.size, i.bytes)) = some (some z, size, bytes)) (hs : v.cells.size = size) (hzs : z.cells.size = size) (h0 : 0 < size) (hle : size ≤ 1000) (hd : Nat.blt d N = true)
  (h : ∀ g w', Row w' e size (.slice (some ⟨g, 0, none⟩) 1 1) 1 v.cells.toList → w.heap.size ≤ g → Below w.heap.size w w' → WL P N ds ops Q rest ((d, .slice (some ⟨g, 0, none⟩) 1 1) :: l) w') : WL P N ds ops Q (⟨some d, .buildSlice t 1 #[(0, x)], ty, pos, aft, none⟩ :: rest) l w := by
 obtain ⟨i, hi, hz, his, _⟩ := info_of hinfo
 subst his
 exact sbs (ps := [(0, x)]) (vs := [(0, v)]) i.size (by unfold evp; rw [hx]; rfl) (run_buildSlice1 w hu hi hz hs hzs h0 hle) (by simp [maxLen]) (by omega) hd h
theorem sapp {e : TypeId} {z : Value} {size bytes : Nat} {xs news : List Value} {q : Nat} {tx : TypeId} (hx : ev l x = some v) (hy : ev l y = some u) (ht : P.underlying t = some (.slice e)) (hinfo : (P.info? e).map (fun i => (i.zero, i.size, i.bytes)) = some (some z, size, bytes)) (hzs : z.cells.size = size) (hsz : 0 < size) (hown : Row w e size v n xs) (hsrc : Src P size tx u q news w)
  (h63 : n + q ≤ maxLen) (hbytes : (n + q) * bytes ≤ 140737488355328) (hd : Nat.blt d N = true)
  (h : ∀ v' w', Row w' e size v' (n + q) (xs ++ news) → Chg (fun k => v.ownBlock = some k) w w' → (v'.ownBlock = v.ownBlock ∨ v'.ownBlock = some w.heap.size) → WL P N ds ops Q rest ((d, v') :: l) w') :
  WL P N ds ops Q (⟨some d, .call { callee := .builtin .append, args := #[x, y], argTypes := #[t, tx] }, ty, pos, aft, none⟩ :: rest) l w := by
 obtain ⟨i, hi, hz, hsize, hby⟩ := info_of hinfo
 obtain ⟨v', w', hr, h2, h3, h4⟩ := run_append_row (P := P) w t tx ty e i z size bytes ht hi hz hsize hby hzs hsz v n xs hown u q news hsrc h63 hbytes
 refine st (fun ρ hρ => ?_) hd (h v' w' h2 h3 h4)
 unfold execOp
 simp only [resolve, invoke, builtin, Sem.run_bind, Sem.run_pure, Result.andThen_ok, List.map_toArray, List.map_cons, List.map_nil, hρ _ _ hx, hρ _ _ hy, hr]
theorem Reads.src {size : Nat} {tx e' : TypeId} {q : Nat} {xs : List Value} (h : Reads w size u q xs) (hk : P.underlying tx = some (.slice e')) (h1 : ∀ u ∈ xs, u.oneCell' = true) : Src P size tx u q xs w := by
 obtain ⟨hl, a, cap, rfl, hc1, hc2, hr⟩ := h
 rcases Nat.eq_zero_or_pos q with h0 | h0
 ·subst h0
  obtain rfl : xs = [] := List.eq_nil_of_length_eq_zero (by simpa using hl)
  cases a with
  | none => exact Src.ofNil w hk cap
  | some a => exact Src.ofSlice w hk a 0 cap [] (by simp) (fun j u hu => by simp at hu) h1
 ·obtain ⟨g, o, rfl, _, hc⟩ := hr h0
  exact Src.ofSlice w hk ⟨g, o, none⟩ q cap xs hl (fun j u hu => by rw [Addr.add_mid]; exact hc j u hu) h1
theorem X.strOf {s : List UInt8} {src dst e : TypeId} {q : Nat} (hx : ev l x = some v) (hs : P.underlying src = some (.slice e)) (he : P.underlying e = some (.int .u8)) (hd : P.underlying dst = some .string) (hR : Reads w 1 v q (s.map bv)) : X P l (.convert src dst x) ty w (str s) w := fun ρ hρ => by
 have hr : (convert src dst v).run P w = .ok (.string ⟨s.toArray⟩) w := by
  obtain ⟨hl, a, cap, rfl, hc1, hc2, hr⟩ := hR
  have hl' : s.length = q := by simpa using hl
  subst hl'
  rcases Nat.eq_zero_or_pos s.length with h0 | h0
  ·obtain rfl : s = [] := List.eq_nil_of_length_eq_zero h0
   cases a with
   | none => exact run_convert_bytes_nil (P := P) w src e hs he 0 cap dst hd
   | some a => exact run_convert_bytes_back (P := P) w src dst e a cap [] hs he hd (fun j hj => by simp at hj)
  ·obtain ⟨g, o, rfl, _, hc⟩ := hr h0
   exact run_convert_bytes_back (P := P) w src dst e _ cap s hs he hd (fun j hj => by
    rw [Addr.add_mid]
    exact hc j _ (by rw [List.getElem?_map, List.getElem?_eq_getElem hj]; rfl))
 unfold execOp
 simp [hρ _ _ hx, hr, str]
theorem smk {e : TypeId} {z : Value} {size bytes q : Nat} {k' : IntKind} {m' : Int} (hx : ev l x = some (.int k m)) (hy : ev l y = some (.int k' m')) (hm : m = (q : Int)) (hm' : m' = (q : Int)) (ht : P.underlying t = some (.slice e)) (hinfo : (P.info? e).map (fun i => (i.zero, i.size, i.bytes)) = some (some z, size, bytes)) (hbytes : bytes * q ≤ 281474976710656) (h63 : q ≤ maxLen) (hd : Nat.blt d N = true)
  (h : ∀ g w', Row w' e size (.slice (some ⟨g, 0, none⟩) q q) q (madeCells z.cells (q * size)).toList → w.heap.size ≤ g → Below w.heap.size w w' → WL P N ds ops Q rest ((d, .slice (some ⟨g, 0, none⟩) q q) :: l) w') :
  WL P N ds ops Q (⟨some d, .makeSlice t x y, ty, pos, aft, none⟩ :: rest) l w := by
 obtain ⟨i, hi, hz, hsize, hby⟩ := info_of hinfo
 subst hm hm' hsize hby
 have hb' : (i.bytes : Int) * (q : Int) ≤ 281474976710656 := by
  have h : ((i.bytes * q : Nat) : Int) ≤ 281474976710656 := by omega
  rwa [Int.natCast_mul] at h
 have hr := run_make (P := P) w t e i z ht hi hz k k' q q (by omega) (Int.le_refl _) hb' (by simp only [maxLen] at h63; omega)
 simp only [Int.toNat_natCast] at hr
 refine st (w' := w.alloc (.cells (madeCells z.cells (q * i.size)) e)) (fun ρ hρ => ?_) hd (h _ _ (Row.new w e i.size q _ h63 (by simp [madeCells])) (Nat.le_refl _) ((Below.refl _ _).alloc (Nat.le_refl _) _))
 unfold execOp
 simp [hρ _ _ hx, hρ _ _ hy, hr]
end
end Go.Proofs.YtnlabkogebnioaaGreatDoor
namespace Go.Proofs.YtnlabkogebnioaaGreatDoor
theorem siz3 : (Tryz.prog.info? 3).map (·.size) = some 1 := by kernel_rfl
theorem siz4 : (Tryz.prog.info? 4).map (·.size) = some 1 := by kernel_rfl
theorem inf5 : (Tryz.prog.info? 5).map (fun i => (i.zero, i.size, i.bytes)) = some (some (.int .u8 0), 1, 1) := by kernel_rfl
theorem siz5 : (Tryz.prog.info? 5).map (·.size) = some 1 := by kernel_rfl
theorem siz9 : (Tryz.prog.info? 9).map (·.size) = some 1 := by kernel_rfl
theorem siz23 : (Tryz.prog.info? 23).map (·.size) = some 1 := by kernel_rfl
theorem inf25 : (Tryz.prog.info? 25).map (fun i => (i.zero, i.size, i.bytes)) = some (some (.agg #[.slice none 0 0]), 1, 24) := by kernel_rfl
theorem siz25 : (Tryz.prog.info? 25).map (·.size) = some 1 := by kernel_rfl
theorem siz26 : (Tryz.prog.info? 26).map (·.size) = some 1 := by kernel_rfl
theorem inf60 : (Tryz.prog.info? 60).map (fun i => (i.zero, i.size, i.bytes)) = some (some (.agg (List.replicate 32 (.int .u8 0) : List Value).toArray), 32, 32) := by kernel_rfl
theorem siz60 : (Tryz.prog.info? 60).map (·.size) = some 32 := by kernel_rfl
theorem inf66 : (Tryz.prog.info? 66).map (fun i => (i.zero, i.size, i.bytes)) = some (some (.agg (List.replicate 32 (.int .u8 0) ++ [.int .i64 0, .int .i64 0, .int .i64 0] : List Value).toArray), 35, 56) := by kernel_rfl
theorem siz66 : (Tryz.prog.info? 66).map (·.size) = some 35 := by kernel_rfl
theorem fa66_0 {w : World} (g o : Nat) : (Instr.fieldAt 66 (.pointer (some ⟨g, o, none⟩)) 0).run Tryz.prog w = .ok (.pointer (some ⟨g, o + 0, none⟩)) w := by kernel_rfl
theorem fa66_1 {w : World} (g o : Nat) : (Instr.fieldAt 66 (.pointer (some ⟨g, o, none⟩)) 1).run Tryz.prog w = .ok (.pointer (some ⟨g, o + 32, none⟩)) w := by kernel_rfl
theorem fa66_2 {w : World} (g o : Nat) : (Instr.fieldAt 66 (.pointer (some ⟨g, o, none⟩)) 2).run Tryz.prog w = .ok (.pointer (some ⟨g, o + 33, none⟩)) w := by kernel_rfl
theorem fa66_3 {w : World} (g o : Nat) : (Instr.fieldAt 66 (.pointer (some ⟨g, o, none⟩)) 3).run Tryz.prog w = .ok (.pointer (some ⟨g, o + 34, none⟩)) w := by kernel_rfl
theorem inf92 : (Tryz.prog.info? 92).map (fun i => (i.zero, i.size, i.bytes)) = some (some (.pointer none), 1, 8) := by kernel_rfl
theorem siz92 : (Tryz.prog.info? 92).map (·.size) = some 1 := by kernel_rfl
theorem fa97_0 {w : World} (g o : Nat) : (Instr.fieldAt 97 (.pointer (some ⟨g, o, none⟩)) 0).run Tryz.prog w = .ok (.pointer (some ⟨g, o + 0, none⟩)) w := by kernel_rfl
theorem fa97_1 {w : World} (g o : Nat) : (Instr.fieldAt 97 (.pointer (some ⟨g, o, none⟩)) 1).run Tryz.prog w = .ok (.pointer (some ⟨g, o + 1, none⟩)) w := by kernel_rfl
theorem fa97_2 {w : World} (g o : Nat) : (Instr.fieldAt 97 (.pointer (some ⟨g, o, none⟩)) 2).run Tryz.prog w = .ok (.pointer (some ⟨g, o + 2, none⟩)) w := by kernel_rfl
theorem fa97_3 {w : World} (g o : Nat) : (Instr.fieldAt 97 (.pointer (some ⟨g, o, none⟩)) 3).run Tryz.prog w = .ok (.pointer (some ⟨g, o + 3, none⟩)) w := by kernel_rfl
theorem fa110_0 {w : World} (g o : Nat) : (Instr.fieldAt 110 (.pointer (some ⟨g, o, none⟩)) 0).run Tryz.prog w = .ok (.pointer (some ⟨g, o + 0, none⟩)) w := by kernel_rfl
theorem fa110_1 {w : World} (g o : Nat) : (Instr.fieldAt 110 (.pointer (some ⟨g, o, none⟩)) 1).run Tryz.prog w = .ok (.pointer (some ⟨g, o + 1, none⟩)) w := by kernel_rfl
theorem fa110_2 {w : World} (g o : Nat) : (Instr.fieldAt 110 (.pointer (some ⟨g, o, none⟩)) 2).run Tryz.prog w = .ok (.pointer (some ⟨g, o + 2, none⟩)) w := by kernel_rfl
theorem fa110_3 {w : World} (g o : Nat) : (Instr.fieldAt 110 (.pointer (some ⟨g, o, none⟩)) 3).run Tryz.prog w = .ok (.pointer (some ⟨g, o + 3, none⟩)) w := by kernel_rfl
theorem fa110_4 {w : World} (g o : Nat) : (Instr.fieldAt 110 (.pointer (some ⟨g, o, none⟩)) 4).run Tryz.prog w = .ok (.pointer (some ⟨g, o + 4, none⟩)) w := by kernel_rfl
theorem fa110_5 {w : World} (g o : Nat) : (Instr.fieldAt 110 (.pointer (some ⟨g, o, none⟩)) 5).run Tryz.prog w = .ok (.pointer (some ⟨g, o + 5, none⟩)) w := by kernel_rfl
theorem fa112_0 {w : World} (g o : Nat) : (Instr.fieldAt 112 (.pointer (some ⟨g, o, none⟩)) 0).run Tryz.prog w = .ok (.pointer (some ⟨g, o + 0, none⟩)) w := by kernel_rfl
theorem fa112_1 {w : World} (g o : Nat) : (Instr.fieldAt 112 (.pointer (some ⟨g, o, none⟩)) 1).run Tryz.prog w = .ok (.pointer (some ⟨g, o + 1, none⟩)) w := by kernel_rfl
theorem fa112_2 {w : World} (g o : Nat) : (Instr.fieldAt 112 (.pointer (some ⟨g, o, none⟩)) 2).run Tryz.prog w = .ok (.pointer (some ⟨g, o + 2, none⟩)) w := by kernel_rfl
theorem fa112_3 {w : World} (g o : Nat) : (Instr.fieldAt 112 (.pointer (some ⟨g, o, none⟩)) 3).run Tryz.prog w = .ok (.pointer (some ⟨g, o + 3, none⟩)) w := by kernel_rfl
theorem fa119_0 {w : World} (g o : Nat) : (Instr.fieldAt 119 (.pointer (some ⟨g, o, none⟩)) 0).run Tryz.prog w = .ok (.pointer (some ⟨g, o + 0, none⟩)) w := by kernel_rfl
theorem fa119_1 {w : World} (g o : Nat) : (Instr.fieldAt 119 (.pointer (some ⟨g, o, none⟩)) 1).run Tryz.prog w = .ok (.pointer (some ⟨g, o + 1, none⟩)) w := by kernel_rfl
theorem fa119_2 {w : World} (g o : Nat) : (Instr.fieldAt 119 (.pointer (some ⟨g, o, none⟩)) 2).run Tryz.prog w = .ok (.pointer (some ⟨g, o + 2, none⟩)) w := by kernel_rfl
theorem siz123 : (Tryz.prog.info? 123).map (·.size) = some 1 := by kernel_rfl
theorem siz124 : (Tryz.prog.info? 124).map (·.size) = some 1 := by kernel_rfl
theorem fa126_0 {w : World} (g o : Nat) : (Instr.fieldAt 126 (.pointer (some ⟨g, o, none⟩)) 0).run Tryz.prog w = .ok (.pointer (some ⟨g, o + 0, none⟩)) w := by kernel_rfl
theorem fa126_1 {w : World} (g o : Nat) : (Instr.fieldAt 126 (.pointer (some ⟨g, o, none⟩)) 1).run Tryz.prog w = .ok (.pointer (some ⟨g, o + 1, none⟩)) w := by kernel_rfl
theorem fa126_2 {w : World} (g o : Nat) : (Instr.fieldAt 126 (.pointer (some ⟨g, o, none⟩)) 2).run Tryz.prog w = .ok (.pointer (some ⟨g, o + 2, none⟩)) w := by kernel_rfl
theorem siz145 : (Tryz.prog.info? 145).map (·.size) = some 1 := by kernel_rfl
theorem inf159 : (Tryz.prog.info? 159).map (fun i => (i.zero, i.size, i.bytes)) = some (some (.agg #[.int .u8 0, str [], .int .i64 0, .int .i64 0]), 4, 40) := by kernel_rfl
theorem siz159 : (Tryz.prog.info? 159).map (·.size) = some 4 := by kernel_rfl
theorem fa159_0 {w : World} (g o : Nat) : (Instr.fieldAt 159 (.pointer (some ⟨g, o, none⟩)) 0).run Tryz.prog w = .ok (.pointer (some ⟨g, o + 0, none⟩)) w := by kernel_rfl
theorem fa159_1 {w : World} (g o : Nat) : (Instr.fieldAt 159 (.pointer (some ⟨g, o, none⟩)) 1).run Tryz.prog w = .ok (.pointer (some ⟨g, o + 1, none⟩)) w := by kernel_rfl
theorem fa159_2 {w : World} (g o : Nat) : (Instr.fieldAt 159 (.pointer (some ⟨g, o, none⟩)) 2).run Tryz.prog w = .ok (.pointer (some ⟨g, o + 2, none⟩)) w := by kernel_rfl
theorem fa159_3 {w : World} (g o : Nat) : (Instr.fieldAt 159 (.pointer (some ⟨g, o, none⟩)) 3).run Tryz.prog w = .ok (.pointer (some ⟨g, o + 3, none⟩)) w := by kernel_rfl
theorem inf170 : (Tryz.prog.info? 170).map (fun i => (i.zero, i.size, i.bytes)) = some (some (.agg #[.slice none 0 0]), 1, 24) := by kernel_rfl
theorem fa170_0 {w : World} (g o : Nat) : (Instr.fieldAt 170 (.pointer (some ⟨g, o, none⟩)) 0).run Tryz.prog w = .ok (.pointer (some ⟨g, o + 0, none⟩)) w := by kernel_rfl
theorem inf191 : (Tryz.prog.info? 191).map (fun i => (i.zero, i.size, i.bytes)) = some (some (.agg #[.int .i64 0, str []]), 2, 24) := by kernel_rfl
theorem siz191 : (Tryz.prog.info? 191).map (·.size) = some 2 := by kernel_rfl
theorem fa222_0 {w : World} (g o : Nat) : (Instr.fieldAt 222 (.pointer (some ⟨g, o, none⟩)) 0).run Tryz.prog w = .ok (.pointer (some ⟨g, o + 0, none⟩)) w := by kernel_rfl
theorem fa222_1 {w : World} (g o : Nat) : (Instr.fieldAt 222 (.pointer (some ⟨g, o, none⟩)) 1).run Tryz.prog w = .ok (.pointer (some ⟨g, o + 1, none⟩)) w := by kernel_rfl
theorem fa222_2 {w : World} (g o : Nat) : (Instr.fieldAt 222 (.pointer (some ⟨g, o, none⟩)) 2).run Tryz.prog w = .ok (.pointer (some ⟨g, o + 2, none⟩)) w := by kernel_rfl
theorem inf231 : (Tryz.prog.info? 231).map (fun i => (i.zero, i.size, i.bytes)) = some (some (.agg (List.replicate 256 (.int .u32 0) : List Value).toArray), 256, 1024) := by kernel_rfl
theorem siz231 : (Tryz.prog.info? 231).map (·.size) = some 256 := by kernel_rfl
end Go.Proofs.YtnlabkogebnioaaGreatDoor
namespace Go.Proofs.YtnlabkogebnioaaGreatDoor
open Go.RowKit
def WO (P : Program) (N : Nat) (ds : List Deferred) (os : List Oper) (Q : Post) (S : World → Prop) (is : List Nat) (bs : List Bool) (l : Env) (w : World) : Prop :=
  ∀ a, Rep N ds l a → wpOrd P os.toArray (lift N ds Q) S (permute os is) bs a w
section
variable {P : Program} {N : Nat} {ds : List Deferred} {Q : Post} {S : World → Prop} {os : List Oper} {is : List Nat} {bs : List Bool} {l r : Env} {w w' : World} {op : Op} {ty : TypeId} {pos : String} {aft : Array Edge} {d i j g : Nat} {v : Value} {b : Bool}
theorem W_dr {id : Nat} (S : World → Prop) (is : List Nat) (bs : List Bool) (hm : P.follows .mixedOrders = true) (hok : (Region.noSelect os.toArray && permOk os.toArray is bs (Array.replicate os.toArray.size false) && (is.length == os.length)) = true)
  (hQ : ∀ c l w, Q (.panic c) l w → Q (.panic c) [] w) (hS : S w.drew) (h : WO P N ds os Q S is bs l w.drew) : W P N ds Q (.region id os.toArray true) l w := fun a ha =>
 wp_region_perm S is bs hm hok (fun c a d v w hq => by
  obtain ⟨l', hr, hq⟩ := hq
  refine ⟨[], ⟨?_, ?_, fun t v h => by cases h⟩, hQ c l' w hq⟩
  ·have := hr.size
   cases d <;> simpa [Act.put] using this
  ·have := hr.defers
   cases d <;> simpa [Act.put] using this) hS (h a ha)
def onlyN (next : Env → World → Prop) : Post
  | .normal, l, w => next l w
  | _, _, _ => False
theorem nN {next : Env → World → Prop} (h : next l w) : onlyN next .normal l w := h
theorem W_drN {id : Nat} (S : World → Prop) (is : List Nat) (bs : List Bool) (hm : P.follows .mixedOrders = true) (hok : (Region.noSelect os.toArray && permOk os.toArray is bs (Array.replicate os.toArray.size false) && (is.length == os.length)) = true)
  (hS : S w.drew) (h : WO P N ds os (onlyN (fun l w => Q .normal l w)) S is bs l w.drew) : W P N ds Q (.region id os.toArray true) l w := fun a ha =>
 Code.wp_mono (fun e a w hq => by
  obtain ⟨l', hr, hq⟩ := hq
  refine ⟨l', hr, ?_⟩
  cases e with
  | normal => exact hq
  | _ => exact hq.elim) (W_dr (Q := onlyN (fun l w => Q .normal l w)) S is bs hm hok (fun _ _ _ h => h) hS h a ha)
theorem W_drsN {id : Nat} {y : Code} (S : World → Prop) (is : List Nat) (bs : List Bool) (hm : P.follows .mixedOrders = true) (hok : (Region.noSelect os.toArray && permOk os.toArray is bs (Array.replicate os.toArray.size false) && (is.length == os.length)) = true)
  (hS : S w.drew) (h : WO P N ds os (onlyN (W P N ds Q y)) S is bs l w.drew) : W P N ds Q (.seq (.region id os.toArray true) y) l w :=
 W_seq (W_drN S is bs hm hok hS h)
theorem oN (h : Q .normal l w) : WO P N ds os Q S [] [] l w := fun _ ha => wpOrd_nil ⟨_, ha, h⟩
theorem permute_cons {o : Oper} (ho : os[i]? = some o) : permute os (i :: is) = o :: permute os is := by
 show os.getD i default :: permute os is = _
 rw [List.getD_eq_getElem?_getD, ho]
 rfl
theorem oY (ho : os[i]? = some ⟨some d, op, ty, pos, aft, none⟩) (hx : ∀ w, S w → X P l op ty w v w) (hd : Nat.blt d N = true) (h : WO P N ds os Q S is bs ((d, v) :: l) w) : WO P N ds os Q S (i :: is) (true :: bs) l w := fun a ha => by
 rw [permute_cons ho]
 exact wpOrd_yes v rfl (fun w hw => hx w hw _ ha.knows) (h _ (ha.put hd v))
theorem yield_of {ops : Array Oper} {a : Act} (ha : Rep N ds l a) (hj : (ops[j]?).bind (·.dst) = some g) (hg : lk l g = some (.bool b)) (hN : Nat.blt g N = true) : yielded ops a.tmps j = some b := by
 have hs : g < a.tmps.size := by rw [ha.size]; exact of_decide_eq_true (by simpa [Nat.blt_eq] using hN)
 have hv := ha.val g _ hg
 unfold yielded
 rw [hj]
 simp only [Option.bind_some]
 rw [Array.getElem?_eq_getElem hs]
 simp only [Array.getD_eq_getD_getElem?, Array.getElem?_eq_getElem hs, Option.getD_some] at hv
 rw [hv]
theorem oYg (ho : os[i]? = some ⟨some d, op, ty, pos, aft, some (j, b)⟩) (hj : (os.toArray[j]?).bind (·.dst) = some g) (hg : lk l g = some (.bool b)) (hN : Nat.blt g N = true) (hx : ∀ w, S w → X P l op ty w v w) (hd : Nat.blt d N = true) (h : WO P N ds os Q S is bs ((d, v) :: l) w) : WO P N ds os Q S (i :: is) (true :: bs) l w := fun a ha => by
 rw [permute_cons ho]
 exact wpOrd_yes v (by simp [Region.wanted, yield_of ha hj hg hN]) (fun w hw => hx w hw _ ha.knows) (h _ (ha.put hd v))
theorem oNg {m : Bool} (ho : os[i]? = some ⟨some d, op, ty, pos, aft, some (j, b)⟩) (hj : (os.toArray[j]?).bind (·.dst) = some g) (hg : lk l g = some (.bool !b)) (hN : Nat.blt g N = true) (hS : S w) (hd : Nat.blt d N = true) (h : WO P N ds os Q S is bs ((d, undef) :: l) w) : WO P N ds os Q S (i :: is) (m :: bs) l w := fun a ha => by
 rw [permute_cons ho]
 have hw : Region.wanted ⟨some d, op, ty, pos, aft, some (j, b)⟩ (yielded os.toArray a.tmps) = false := by simp [Region.wanted, yield_of ha hj hg hN]
 cases m with
 | true => exact wpOrd_no hw (h _ (ha.put hd undef))
 | false => exact wpOrd_alone_no hw hS (h _ (ha.put hd undef))
theorem oL {o : Oper} (ho : os[i]? = some o) (h : ∀ Q', (∀ l w, S w → WO P N ds os Q S is bs l w → Q' .normal l w) → (∀ c l w, Q (.panic c) l w → Q' (.panic c) l w) → WL P N ds os.toArray Q' [o] l w) : WO P N ds os Q S (i :: is) (false :: bs) l w := fun a ha => by
 rw [permute_cons ho]
 have := h (fun e l w => match e with | .normal => S w ∧ WO P N ds os Q S is bs l w | .panic c => Q (.panic c) l w | _ => False) (fun l w hs h => ⟨hs, h⟩) (fun c l w h => h) a ha
 unfold wpList at this
 unfold wpOrd
 split
 ·rename_i hw
  rw [if_pos hw] at this
  rcases this with this | ⟨_, a0, w0, hq⟩
  ·unfold Oper.wp at this ⊢
   revert this
   generalize (execOp a.eval o).run P w = res
   intro this
   unfold Oper.upon at this ⊢
   split at this
   ·simp only [wpList] at this; obtain ⟨l', hr, hs, h⟩ := this; exact ⟨hs, h _ hr⟩
   ·simp only [wpList] at this; obtain ⟨l', hr, hs, h⟩ := this; exact ⟨hs, h _ hr⟩
   ·simp only [wpList] at this; obtain ⟨l', hr, hs, h⟩ := this; exact ⟨hs, h _ hr⟩
   ·refine Calls.mono this fun e w' h => ?_
    cases e with
    | returned v => simp only [wpList] at h; obtain ⟨l', hr, hs, h⟩ := h; exact ⟨hs, h _ hr⟩
    | panicked c => exact h
    | outgrown => obtain ⟨a0, w0, l0, h1, h2⟩ := h; exact h2.elim
   ·refine Rows.mono this fun v w' h => ?_
    simp only [wpList] at h; obtain ⟨l', hr, hs, h⟩ := h; exact ⟨hs, h _ hr⟩
   ·exact this
   ·exact this.elim
  ·obtain ⟨l0, _, h2⟩ := hq; exact h2.elim
 ·rename_i hw
  rw [if_neg hw] at this
  simp only [wpList] at this
  obtain ⟨l', hr, hs, h⟩ := this
  exact ⟨hs, h _ hr⟩
end
end Go.Proofs.YtnlabkogebnioaaGreatDoor
namespace Go.Proofs.YtnlabkogebnioaaGreatDoor
def byteI (n : Int) : UInt8 := UInt8.ofNat (n % 256).toNat
theorem byteI_toNat (n : Int) : ((byteI n).toNat : Int) = n % 256 := by
 unfold byteI
 rw [UInt8.toNat_ofNat_of_lt' (by have := Int.emod_lt_of_pos n (show (0 : Int) < 256 by decide); have := Int.emod_nonneg n (show (256 : Int) ≠ 0 by decide); simp [UInt8.size]; omega)]
 have := Int.emod_nonneg n (show (256 : Int) ≠ 0 by decide)
 omega
theorem wb (n : Int) : IntKind.u8.wrap n = ((byteI n).toNat : Int) := by rw [w8, byteI_toNat]
def four (n : Int) : List UInt8 := [byteI n, byteI (n / 256), byteI (n / 65536), byteI (n / 16777216)]
theorem four_length (n : Int) : (four n).length = 4 := rfl
end Go.Proofs.YtnlabkogebnioaaGreatDoor
namespace Go.Proofs.YtnlabkogebnioaaGreatDoor
open Go.RowKit
theorem flat_at {α β : Type} (f : α → List β) (k : Nat) : ∀ (l : List α) (j : Nat) (a : α), (∀ a ∈ l, (f a).length = k) → l[j]? = some a → ((l.flatMap f).drop (j * k)).take k = f a
 | [], j, a, _, h => by simp at h
 | x :: l, 0, a, hk, h => by
  simp at h
  subst h
  have := hk x (by simp)
  simp [List.flatMap_cons, this]
 | x :: l, j + 1, a, hk, h => by
  have hx := hk x (by simp)
  rw [List.flatMap_cons, Nat.succ_mul, Nat.add_comm, ← List.drop_drop]
  rw [List.drop_append_of_le_length (by omega), List.drop_of_length_le (l := f x) (by omega), List.nil_append]
  exact flat_at f k l j a (fun a ha => hk a (by simp [ha])) (by simpa using h)
theorem flat_length {α β : Type} (f : α → List β) (k : Nat) : ∀ (l : List α), (∀ a ∈ l, (f a).length = k) → (l.flatMap f).length = l.length * k
 | [], _ => by simp
 | x :: l, h => by
  rw [List.flatMap_cons, List.length_append, h x (by simp), flat_length f k l (fun a ha => h a (by simp [ha])), List.length_cons, Nat.succ_mul]
  omega
end Go.Proofs.YtnlabkogebnioaaGreatDoor
namespace Go.Proofs.YtnlabkogebnioaaGreatDoor
open Go.RowKit
section
variable {P : Program} {N : Nat} {ds : List Deferred} {Q : Post} {l : Env} {w w' : World} {ops : Array Oper} {rest : List Oper} {ty t t' : TypeId} {pos : String} {aft : Array Edge} {d : Nat} {v u : Value} {x y : Operand} {k k' : IntKind} {m m' : Int} {g o n c : Nat}
theorem X.slA {e : TypeId} {q : TypeInfo} (hx : ev l x = some (.pointer (some ⟨g, o, none⟩))) (hu : P.underlying t = some (.array n e)) (hi : P.info? e = some q) : X P l (.slice t x none none none) ty w (.slice (some ⟨g, o, none⟩) n n) w := fun ρ hρ => by
 unfold execOp
 have : (Instr.sliceAt t (.pointer (some ⟨g, o, none⟩)) none none none).run P w = .ok (.slice (some ⟨g, o, none⟩) n n) w := by
  unfold Instr.sliceAt
  simp [run_underlying hu, Instr.sureAddr, Instr.sliceBounds, sizeOf, typeInfo, hi, Addr.add]
 simp [hρ _ _ hx, this]
theorem infoSome {t : TypeId} {s : Nat} (h : (P.info? t).map (·.size) = some s) : ∃ q, P.info? t = some q := by
 obtain ⟨q, h1, _⟩ := Option.map_eq_some_iff.1 h
 exact ⟨q, h1⟩
theorem X.slArr {e : TypeId} {s : Nat} (hx : ev l x = some (.pointer (some ⟨g, o, none⟩))) (hu : P.underlying t = some (.array n e)) (hi : (P.info? e).map (·.size) = some s) : X P l (.slice t x none none none) ty w (.slice (some ⟨g, o, none⟩) n n) w := by
 obtain ⟨q, hq⟩ := infoSome hi
 exact X.slA hx hu hq
end
theorem Row.apart_ {w : World} {e e' : TypeId} {size size' n n' : Nat} {v v' : Value} {xs xs' : List Value} (h : Row w e size v n xs) (h' : Row w e' size' v' n' xs') (hne : e ≠ e') (k : Nat) (hk : v.ownBlock = some k) : ¬ v'.ownBlock = some k := by
 intro hk'
 rcases h.2 with ⟨rfl, _⟩ | ⟨g, off, cap, cur, fz, rfl, hg, _⟩
 ·simp [Value.ownBlock] at hk
 ·rcases h'.2 with ⟨rfl, _⟩ | ⟨g', off', cap', cur', fz', rfl, hg', _⟩
  ·simp [Value.ownBlock] at hk'
  ·simp [Value.ownBlock] at hk hk'
   subst hk
   subst hk'
   rw [hg] at hg'
   injection hg' with hg'
   injection hg' with _ ht
   exact hne ht
theorem bapp {v : Value} {w0 w w' : World} (hb : Below w0.heap.size w0 w) (hc : Chg (fun k => v.ownBlock = some k) w w') (hg : ∀ k, v.ownBlock = some k → w0.heap.size ≤ k) : Below w0.heap.size w0 w' :=
 ⟨hc.os.trans hb.os, hc.tape.trans hb.tape, hc.output.trans hb.output, Nat.le_trans hb.size hc.size, fun k hk => (hc.block k (Nat.lt_of_lt_of_le hk hb.size) (fun e => by have := hg k e; omega)).trans (hb.block k hk)⟩
theorem own_next {v v' : Value} {B n : Nat} (h : v'.ownBlock = v.ownBlock ∨ v'.ownBlock = some n) (h0 : ∀ k, v.ownBlock = some k → B ≤ k) (hn : B ≤ n) : ∀ k, v'.ownBlock = some k → B ≤ k := by
 intro k hk
 rcases h with h | h
 ·exact h0 k (h.symm.trans hk)
 ·rw [h] at hk; injection hk with hk; omega
end Go.Proofs.YtnlabkogebnioaaGreatDoor
namespace Go.Proofs.YtnlabkogebnioaaGreatDoor
theorem ofInt32 (x : UInt32) : BitVec.ofInt 32 (x.toNat : Int) = x.toBitVec := by
 rw [BitVec.ofInt_natCast]; apply BitVec.eq_of_toNat_eq; simp
theorem wrap32_nat (n : Nat) (h : n < 4294967296) : IntKind.u32.wrap (n : Int) = n := by
 simp [IntKind.wrap, IntKind.bits, IntKind.signed]; omega
theorem or_u32 (x y : UInt32) : bits .or .u32 (x.toNat : Int) (y.toNat : Int) = ((x ||| y).toNat : Int) := by
 show IntKind.u32.wrap ((BitVec.ofInt 32 (x.toNat : Int) ||| BitVec.ofInt 32 (y.toNat : Int)).toNat : Int) = _
 rw [ofInt32, ofInt32, ← UInt32.toBitVec_or]; exact wrap32_nat _ (x ||| y).toNat_lt
theorem and_u32 (x y : UInt32) : bits .and .u32 (x.toNat : Int) (y.toNat : Int) = ((x &&& y).toNat : Int) := by
 show IntKind.u32.wrap ((BitVec.ofInt 32 (x.toNat : Int) &&& BitVec.ofInt 32 (y.toNat : Int)).toNat : Int) = _
 rw [ofInt32, ofInt32, ← UInt32.toBitVec_and]; exact wrap32_nat _ (x &&& y).toNat_lt
theorem xor_u32 (x y : UInt32) : bits .xor .u32 (x.toNat : Int) (y.toNat : Int) = ((x ^^^ y).toNat : Int) := by
 show IntKind.u32.wrap ((BitVec.ofInt 32 (x.toNat : Int) ^^^ BitVec.ofInt 32 (y.toNat : Int)).toNat : Int) = _
 rw [ofInt32, ofInt32, ← UInt32.toBitVec_xor]; exact wrap32_nat _ (x ^^^ y).toNat_lt
theorem add_u32 (x y : UInt32) : ((x.toNat : Int) + (y.toNat : Int)) % 4294967296 = ((x + y).toNat : Int) := by
 rw [UInt32.toNat_add]; omega
theorem shr_u32 (x : UInt32) (n : Nat) (h : n < 32) : (x.toNat : Int) / ((2 : Int) ^ n) = ((x >>> (UInt32.ofNat n)).toNat : Int) := by
 rw [UInt32.toNat_shiftRight, UInt32.toNat_ofNat_of_lt' (by simp [UInt32.size]; omega), Nat.mod_eq_of_lt h, Nat.shiftRight_eq_div_pow]
 norm_cast
theorem shl_u32 (x : UInt32) (n : Nat) (h : n < 32) : (x.toNat : Int) * ((2 : Int) ^ n) % 4294967296 = ((x <<< (UInt32.ofNat n)).toNat : Int) := by
 rw [UInt32.toNat_shiftLeft, UInt32.toNat_ofNat_of_lt' (by simp [UInt32.size]; omega), Nat.mod_eq_of_lt h, Nat.shiftLeft_eq]
 rw [Int.natCast_emod, Int.natCast_mul, Int.natCast_pow]; rfl
theorem u8_to_u32 (b : UInt8) : (b.toNat : Int) % 4294967296 = (b.toUInt32.toNat : Int) := by
 have := b.toNat_lt; rw [UInt8.toNat_toUInt32]; omega
theorem u32_to_u8 (x : UInt32) : (x.toNat : Int) % 256 = (x.toUInt8.toNat : Int) := by
 rw [UInt32.toNat_toUInt8]; omega
theorem lt_u32 (x : UInt32) : (x.toNat : Int) < 4294967296 := by have := x.toNat_lt; omega
end Go.Proofs.YtnlabkogebnioaaGreatDoor
namespace Go.Proofs.YtnlabkogebnioaaGreatDoor
open Go.RowKit
theorem take_next' {α : Type} {l : List α} {j : Nat} {x : α} (h : l[j]? = some x) : l.take (j + 1) = l.take j ++ [x] := by
 obtain ⟨hj, rfl⟩ := List.getElem?_eq_some_iff.1 h
 exact List.take_succ_eq_append_getElem hj
theorem Row.one {w : World} {e : TypeId} {size n : Nat} {v : Value} {xs : List Value} (h : Row w e size v n xs) : v.oneCell' = true := by
 obtain ⟨a, c, rfl, _, _⟩ := h.shape
 rfl
theorem Row.blt {w : World} {e : TypeId} {size n g o c k : Nat} {xs : List Value} (h : Row w e size (.slice (some ⟨g, o, none⟩) k c) n xs) (hn : 0 < n) : g < w.heap.size := by
 obtain ⟨g', o', c', he, hl⟩ := h.reads.some_ hn
 injection he with e1 _ _
 injection e1 with e1
 injection e1 with e1 _ _
 rwa [e1]
end Go.Proofs.YtnlabkogebnioaaGreatDoor
namespace Go.Proofs.YtnlabkogebnioaaGreatDoor
open Go.RowKit
abbrev Key := List UInt8
theorem klt_irrefl (a : Key) : ¬ a < a := List.lt_irrefl a
theorem klt_trans {a b c : Key} (h : a < b) (k : b < c) : a < c := List.lt_trans h k
theorem klt_asymm {a b : Key} (h : a < b) : ¬ b < a := fun k => klt_irrefl _ (klt_trans h k)
theorem klt_tri (a b : Key) : a < b ∨ a = b ∨ b < a := by
 by_cases h : a < b
 ·exact .inl h
 ·by_cases k : b < a
  ·exact .inr (.inr k)
  ·exact .inr (.inl (List.le_antisymm (List.not_lt.1 k) (List.not_lt.1 h)))
end Go.Proofs.YtnlabkogebnioaaGreatDoor
namespace Go.Proofs.YtnlabkogebnioaaGreatDoor
theorem ofInt8 (x : UInt8) : BitVec.ofInt 8 (x.toNat : Int) = x.toBitVec := by
 rw [BitVec.ofInt_natCast]; apply BitVec.eq_of_toNat_eq; simp
theorem wrap8_nat (n : Nat) (h : n < 256) : IntKind.u8.wrap (n : Int) = n := by
 simp [IntKind.wrap, IntKind.bits, IntKind.signed]; omega
theorem or_u8 (x y : UInt8) : bits .or .u8 (x.toNat : Int) (y.toNat : Int) = ((x ||| y).toNat : Int) := by
 show IntKind.u8.wrap ((BitVec.ofInt 8 (x.toNat : Int) ||| BitVec.ofInt 8 (y.toNat : Int)).toNat : Int) = _
 rw [ofInt8, ofInt8, ← UInt8.toBitVec_or]; exact wrap8_nat _ (x ||| y).toNat_lt
theorem and_u8 (x y : UInt8) : bits .and .u8 (x.toNat : Int) (y.toNat : Int) = ((x &&& y).toNat : Int) := by
 show IntKind.u8.wrap ((BitVec.ofInt 8 (x.toNat : Int) &&& BitVec.ofInt 8 (y.toNat : Int)).toNat : Int) = _
 rw [ofInt8, ofInt8, ← UInt8.toBitVec_and]; exact wrap8_nat _ (x &&& y).toNat_lt
theorem xor_u8 (x y : UInt8) : bits .xor .u8 (x.toNat : Int) (y.toNat : Int) = ((x ^^^ y).toNat : Int) := by
 show IntKind.u8.wrap ((BitVec.ofInt 8 (x.toNat : Int) ^^^ BitVec.ofInt 8 (y.toNat : Int)).toNat : Int) = _
 rw [ofInt8, ofInt8, ← UInt8.toBitVec_xor]; exact wrap8_nat _ (x ^^^ y).toNat_lt
end Go.Proofs.YtnlabkogebnioaaGreatDoor
namespace Go.Proofs.YtnlabkogebnioaaGreatDoor
namespace Crc
def poly : UInt32 := 2197175160
def half (x : UInt32) : UInt32 := if x &&& 1 = 1 then (x >>> 1) ^^^ poly else x >>> 1
def half8 (x : UInt32) : UInt32 := half (half (half (half (half (half (half (half x)))))))
def row (b : UInt8) : UInt32 := half8 b.toUInt32
def step (x : UInt32) (b : UInt8) : UInt32 := (x >>> 8) ^^^ row (x.toUInt8 ^^^ b)
def ones : UInt32 := 4294967295
def crc (l : List UInt8) : UInt32 := (l.foldl step ones) ^^^ ones
end Crc
end Go.Proofs.YtnlabkogebnioaaGreatDoor
namespace Go.Proofs.YtnlabkogebnioaaGreatDoor
open Go.RowKit
structure Ent where
  sum : List UInt8
  pack : Int
  pos : Int
  len : Int
  deriving DecidableEq
def fitN (n : Int) : Bool := decide (0 ≤ n ∧ n ≤ 4294967295)
def fitE (e : Ent) : Bool := fitN e.pack && fitN e.pos && fitN e.len
def S32 (l : List Ent) : Prop := ∀ e ∈ l, e.sum.length = 32
def Up (l : List Ent) : Prop := l.Pairwise (fun x y => x.sum < y.sum)
theorem Up.ext : ∀ {l m : List Ent}, Up l → Up m → (∀ x, x ∈ l ↔ x ∈ m) → l = m
 | [], [], _, _, _ => rfl
 | [], y :: m, _, _, h => absurd ((h y).2 (by simp)) (by simp)
 | x :: l, [], _, _, h => absurd ((h x).1 (by simp)) (by simp)
 | x :: l, y :: m, hl, hm, h => by
  have hl' := List.pairwise_cons.1 hl
  have hm' := List.pairwise_cons.1 hm
  have e : x = y := by
   rcases List.mem_cons.1 ((h x).1 (by simp)) with e | hx
   ·exact e
   ·rcases List.mem_cons.1 ((h y).2 (by simp)) with e | hy
    ·exact e.symm
    ·exact absurd (klt_trans (hm'.1 x hx) (hl'.1 y hy)) (klt_irrefl _)
  subst e
  refine congrArg (x :: ·) (Up.ext hl'.2 hm'.2 fun z => ?_)
  constructor
  ·intro hz
   rcases List.mem_cons.1 ((h z).1 (by simp [hz])) with rfl | h2
   ·exact absurd (hl'.1 z hz) (klt_irrefl _)
   ·exact h2
  ·intro hz
   rcases List.mem_cons.1 ((h z).2 (by simp [hz])) with rfl | h2
   ·exact absurd (hm'.1 z hz) (klt_irrefl _)
   ·exact h2
theorem Up.at_ {l : List Ent} (h : Up l) {i j : Nat} {x y : Ent} (hx : l[i]? = some x) (hy : l[j]? = some y) (hij : i < j) : x.sum < y.sum := by
 obtain ⟨h1, rfl⟩ := List.getElem?_eq_some_iff.1 hx
 obtain ⟨h2, rfl⟩ := List.getElem?_eq_some_iff.1 hy
 exact List.pairwise_iff_getElem.1 h i j h1 h2 hij
theorem Up.nodup {l : List Ent} (h : Up l) : (l.map (·.sum)).Nodup := by
 rw [List.Nodup, List.pairwise_map]
 exact h.imp fun {a b} hab e => by rw [e] at hab; exact klt_irrefl _ hab
structure IsIdx (l' l : List Ent) : Prop where
  perm : l'.Perm l
  up : Up l'
theorem IsIdx.uniq {l l1 l2 : List Ent} (h1 : IsIdx l1 l) (h2 : IsIdx l2 l) : l1 = l2 := h1.up.ext h2.up fun x => by rw [h1.perm.mem_iff, h2.perm.mem_iff]
def ordM (l : List Ent) : List Ent := l.mergeSort (fun x y => !decide (y.sum < x.sum))
theorem ordM_perm (l : List Ent) : (ordM l).Perm l := List.mergeSort_perm _ _
theorem up_of {l : List Ent} (h : l.Pairwise (fun x y => ¬ y.sum < x.sum)) (hn : (l.map (·.sum)).Nodup) : Up l := by
 rw [List.Nodup, List.pairwise_map] at hn
 exact (h.and hn).imp fun {a b} hab => by
  rcases klt_tri a.sum b.sum with k | k | k
  ·exact k
  ·exact absurd k hab.2
  ·exact absurd k hab.1
theorem ordM_idx {l : List Ent} (hn : (l.map (·.sum)).Nodup) : IsIdx (ordM l) l := ⟨ordM_perm l, by
 refine up_of ?_ (((ordM_perm l).map _).nodup_iff.2 hn)
 have h := List.pairwise_mergeSort (le := fun x y : Ent => !decide (y.sum < x.sum)) (fun a b c h1 h2 => by
  simp only [Bool.not_eq_true', decide_eq_false_iff_not] at *
  intro h
  rcases klt_tri a.sum b.sum with k | k | k
  ·exact h2 (klt_trans h k)
  ·exact h2 (k ▸ h)
  ·exact h1 k) (fun a b => by
  simp only [Bool.or_eq_true, Bool.not_eq_true', decide_eq_false_iff_not]
  by_cases k : b.sum < a.sum
  ·exact .inr (klt_asymm k)
  ·exact .inl k) l
 exact h.imp fun {a b} hab => by simpa using hab⟩
theorem IsIdx.nodup {l l' : List Ent} (h : IsIdx l' l) : (l.map (·.sum)).Nodup := (h.perm.map _).nodup_iff.1 h.up.nodup
theorem IsIdx.eq {l l' : List Ent} (h : IsIdx l' l) : l' = ordM l := h.uniq (ordM_idx h.nodup)
def makeM (l : List Ent) : List Ent × Int := if 65536 < l.length then ([], 31) else if l.all fitE = false then ([], 1) else if (l.map (·.sum)).Nodup then (ordM l, 0) else ([], 16)
theorem make_mem {l : List Ent} {x : Ent} (h : x ∈ (makeM l).1) : x ∈ l := by
 unfold makeM at h
 split at h
 ·simp at h
 split at h
 ·simp at h
 split at h
 ·exact (ordM_perm l).mem_iff.1 h
 ·simp at h
theorem make_S32 {l : List Ent} (h : S32 l) : S32 (makeM l).1 := fun e he => h e (make_mem he)
def findM (l : List Ent) (a : List UInt8) : Option Ent := l.find? fun e => decide (e.sum = a)
def upB : List Ent → Bool
  | [] => true
  | [_] => true
  | c :: d :: l => decide (c.sum < d.sum) && upB (d :: l)
theorem upB_iff : ∀ l : List Ent, upB l = true ↔ Up l
 | [] => by simp [upB, Up]
 | [_] => by simp [upB, Up]
 | c :: d :: l => by
  have ih := upB_iff (d :: l)
  simp only [upB, Bool.and_eq_true, decide_eq_true_eq, ih]
  constructor
  ·rintro ⟨h1, h2⟩
   rw [Up, List.pairwise_cons]
   refine ⟨fun e he => ?_, h2⟩
   rcases List.mem_cons.1 he with rfl | he
   ·exact h1
   ·exact klt_trans h1 ((List.pairwise_cons.1 h2).1 e he)
  ·intro h
   rw [Up, List.pairwise_cons] at h
   exact ⟨h.1 d (by simp), h.2⟩
theorem up_snoc {l : List Ent} {x : Ent} (h : Up l) (hx : ∀ y ∈ l, y.sum < x.sum) : Up (l ++ [x]) := by
 unfold Up
 rw [List.pairwise_append]
 refine ⟨h, by simp, fun a ha b hb => ?_⟩
 simp at hb
 subst hb
 exact hx a ha
theorem upB_take {l : List Ent} {i : Nat} {c d : Ent} (h : upB (l.take (i + 1)) = true) (hc : l[i]? = some c) (hd : l[i + 1]? = some d) (hlt : c.sum < d.sum) : upB (l.take (i + 2)) = true := by
 rw [upB_iff] at h ⊢
 rw [List.take_add_one (i := i + 1), hd]
 refine up_snoc h fun a ha => ?_
 obtain ⟨j, hj⟩ := List.mem_iff_getElem?.1 ha
 have hjl := (List.getElem?_eq_some_iff.1 hj).1
 rw [List.length_take] at hjl
 by_cases hji : j = i
 ·subst hji
  rw [List.getElem?_take_of_lt (by omega), hc] at hj
  injection hj with hj
  rw [← hj]
  exact hlt
 ·have hc' : (l.take (i + 1))[i]? = some c := by rw [List.getElem?_take_of_lt (by omega), hc]
  exact klt_trans (h.at_ hj hc' (by omega)) hlt
end Go.Proofs.YtnlabkogebnioaaGreatDoor
namespace Go.Proofs.YtnlabkogebnioaaGreatDoor
open Go.RowKit
section
variable {P : Program} {N : Nat} {ds : List Deferred} {Q : Post} {l : Env} {w : World} {ops : Array Oper} {rest : List Oper} {x y : Operand} {ty t : TypeId} {pos : String} {aft : Array Edge} {d g o n c : Nat}
theorem X.mvB {b c : Bool} (hx : ev l x = some (.bool b)) (hb : b = c) : X P l (.move x) ty w (.bool c) w := by
 subst hb
 exact X.move hx
theorem scpT {e bt tx : TypeId} {s : List UInt8} {cs : Array Value} (hx : ev l x = some (.slice (some ⟨g, o, none⟩) n c)) (hy : ev l y = some (str s)) (hu : P.underlying t = some (.slice e)) (hi : (P.info? e).map (·.size) = some 1) (hB : Blk w g bt cs) (hl : n ≤ s.length) (ho : o + n ≤ cs.size) (hd : Nat.blt d N = true)
  (h : ∀ w', Blk w' g bt (cs.toList.take o ++ (s.take n).map bv ++ cs.toList.drop (o + n)).toArray → Chg (fun k => k = g) w w' → WL P N ds ops Q rest ((d, .int .i64 n) :: l) w') :
  WL P N ds ops Q (⟨some d, .call { callee := .builtin .copy, args := #[x, y], argTypes := #[t, tx] }, ty, pos, aft, none⟩ :: rest) l w := by
 obtain ⟨q, hq, hq1⟩ := Option.map_eq_some_iff.1 hi
 have hln : (s.take n).length = n := by rw [List.length_take]; omega
 have hst := run_storeCells_at P g o bt ((s.take n).map bv) 0 cs w hB (by simp only [List.length_map, hln]; simpa using ho) (bv_one _)
 simp only [Nat.add_zero, List.length_map, hln] at hst
 have hfc : (Builtin.firstCells 1 n (str s)).run P w = .ok ((s.take n).map bv).toArray w := by
  have e0 : ((⟨s.toArray⟩ : ByteArray).extract 0 n).data = (s.take n).toArray := by
   have := extract_list s 0 n
   unfold str at this
   injection this with this
   rw [this, List.drop_zero]
  show ((pure (((⟨s.toArray⟩ : ByteArray).extract 0 n).data.map fun b => Value.int .u8 b.toNat) : Sem (Array Value))).run P w = _
  rw [e0, Sem.run_pure, List.map_toArray]
  rfl
 obtain ⟨bs, hbs⟩ : ∃ bs, (s.take n).map bv = bs := ⟨_, rfl⟩
 rw [hbs] at hst hfc h
 have hr : (Builtin.copy_ #[t, tx] ty #[.slice (some ⟨g, o, none⟩) n c, str s]).run P w = .ok (.int .i64 n) (w.setRow g (cs.toList.take o ++ bs ++ cs.toList.drop (o + n)).toArray) := by
  have e1 : (Builtin.lenOf (str s)).run P w = .ok s.length w := by simp [Builtin.lenOf, str]; rfl
  have e2 : Nat.min s.length n = n := Nat.min_eq_right hl
  unfold Builtin.copy_
  simp [run_underlying hu, e1, e2, sizeOf, typeInfo, hq, hq1, hfc, hst, goInt]
 refine st (fun ρ hρ => ?_) hd (h _ (setRow_heap _ _ _ _ _ _ hB) ((Chg.refl (fun k => k = g) w).setRow (.inl rfl) _))
 unfold execOp
 simp only [resolve, invoke, builtin, Sem.run_bind, Sem.run_pure, Result.andThen_ok, List.map_toArray, List.map_cons, List.map_nil, hρ _ _ hx, hρ _ _ hy, hr]
end
end Go.Proofs.YtnlabkogebnioaaGreatDoor
namespace Go.Proofs.YtnlabkogebnioaaGreatDoor
open Go.RowKit
section
variable {κ ν : Type} [DecidableEq κ]
def mget : List (κ × ν) → κ → Option ν
  | [], _ => none
  | (a, v) :: m, k => if k = a then some v else mget m k
def mput : List (κ × ν) → κ → ν → List (κ × ν)
  | [], k, v => [(k, v)]
  | (a, u) :: m, k, v => if k = a then (a, v) :: m else (a, u) :: mput m k v
def mdel : List (κ × ν) → κ → List (κ × ν)
  | [], _ => []
  | (a, u) :: m, k => if k = a then m else (a, u) :: mdel m k
theorem mget_mput (m : List (κ × ν)) (k : κ) (v : ν) (q : κ) : mget (mput m k v) q = if q = k then some v else mget m q := by
 induction m with
 | nil => rfl
 | cons p m ih =>
  obtain ⟨a, u⟩ := p
  unfold mput
  by_cases h : k = a
  ·subst h
   rw [if_pos rfl]
   unfold mget
   by_cases hq : q = k
   ·simp [hq]
   ·simp [hq]
  ·rw [if_neg h]
   unfold mget
   rw [ih]
   by_cases hq : q = a
   ·subst hq
    rw [if_pos rfl, if_neg (fun e => h e.symm), if_pos rfl]
   ·rw [if_neg hq, if_neg hq]
theorem mget_none {m : List (κ × ν)} {k : κ} : mget m k = none ↔ k ∉ m.map (·.1) := by
 induction m with
 | nil => simp [mget]
 | cons p m ih =>
  obtain ⟨a, u⟩ := p
  unfold mget
  by_cases h : k = a
  ·simp [h]
  ·simp [h, ih]
theorem mput_keys (m : List (κ × ν)) (k : κ) (v : ν) : (mput m k v).map (·.1) = if k ∈ m.map (·.1) then m.map (·.1) else m.map (·.1) ++ [k] := by
 induction m with
 | nil => simp [mput]
 | cons p m ih =>
  obtain ⟨a, u⟩ := p
  unfold mput
  by_cases h : k = a
  ·simp [h]
  ·rw [if_neg h, List.map_cons, ih]
   by_cases hm : k ∈ m.map (·.1)
   ·rw [if_pos hm, if_pos (by simp only [List.map_cons, List.mem_cons]; exact .inr hm)]
    rfl
   ·rw [if_neg hm, if_neg (by simp only [List.map_cons, List.mem_cons]; rintro (h1 | h1); exact h h1; exact hm h1)]
    rfl
theorem mput_nodup {m : List (κ × ν)} (h : (m.map (·.1)).Nodup) (k : κ) (v : ν) : ((mput m k v).map (·.1)).Nodup := by
 rw [mput_keys]
 split
 ·exact h
 ·rename_i hk
  rw [List.nodup_append]
  refine ⟨h, by simp, fun a ha b hb => ?_⟩
  simp at hb
  subst hb
  rintro rfl
  exact hk ha
end
structure KeyLaw {κ : Type} [DecidableEq κ] (P : Program) (kt : TypeId) (enc : κ → Value) : Prop where
  check : ∀ (b : Bool) (k : κ) (w : World), (Instr.checkKey b 10000 kt (enc k)).run P w = .ok () w
  find : ∀ (k : κ) (ks : List (κ × Value × Nat)) (w : World), (Instr.findKey kt (enc k) (ks.map fun p => ⟨enc p.1, p.2.1, p.2.2⟩)).run P w =
    .ok ((ks.findIdx? fun p => decide (k = p.1)).bind fun i => (ks[i]?).map fun p => (i, p.2.1)) w
  same : ∀ k, Instr.sameBits 10000 (enc k) (enc k) = true
structure MapAt {κ ν : Type} [DecidableEq κ] (w : World) (b : Nat) (enc : κ → Value) (encv : ν → Value) (m : List (κ × ν)) : Prop where
  nodup : (m.map (·.1)).Nodup
  obj : ∃ (ts : List Nat) (clock : Nat), ts.length = m.length ∧ ts.Pairwise (· < ·) ∧ (∀ t ∈ ts, t < clock) ∧ w.heap[b]? = some (.map ((m.zip ts).map fun p => (⟨enc p.1.1, encv p.1.2, p.2⟩ : MapEntry)).toArray clock)
section
variable {κ ν : Type} [DecidableEq κ] {w w' : World} {b : Nat} {enc : κ → Value} {encv : ν → Value} {m : List (κ × ν)} {P : Program} {kt t e : TypeId}
theorem MapAt.lt (h : MapAt w b enc encv m) : b < w.heap.size := by
 obtain ⟨ts, clock, _, _, _, hb⟩ := h.obj
 exact (Array.getElem?_eq_some_iff.1 hb).1
theorem MapAt.bel (h : MapAt w b enc encv m) (hb : Below w.heap.size w w') : MapAt w' b enc encv m := by
 have hl := h.lt
 obtain ⟨ts, clock, h1, h2, h3, h4⟩ := h.obj
 exact ⟨h.nodup, ts, clock, h1, h2, h3, (hb.block b hl).trans h4⟩
theorem MapAt.chg {S : Nat → Prop} (h : MapAt w b enc encv m) (hc : Chg S w w') (hn : ¬ S b) : MapAt w' b enc encv m := by
 have hl := h.lt
 obtain ⟨ts, clock, h1, h2, h3, h4⟩ := h.obj
 exact ⟨h.nodup, ts, clock, h1, h2, h3, (hc.block b hl hn).trans h4⟩
theorem find_zip (k : κ) (m : List (κ × ν)) (ts : List Nat) (hl : ts.length = m.length) :
  (((m.zip ts).map fun p => (p.1.1, encv p.1.2, p.2)).findIdx? fun p => decide (k = p.1)) = m.findIdx? fun p => decide (k = p.1) := by
 induction m generalizing ts with
 | nil => simp
 | cons p m ih =>
  cases ts with
  | nil => simp at hl
  | cons t ts =>
   simp only [List.zip_cons_cons, List.map_cons, List.findIdx?_cons]
   rw [ih ts (by simpa using hl)]
theorem mget_find (k : κ) (m : List (κ × ν)) : mget m k = (m.findIdx? fun p => decide (k = p.1)).bind fun i => (m[i]?).map (·.2) := by
 induction m with
 | nil => rfl
 | cons p m ih =>
  obtain ⟨a, v⟩ := p
  unfold mget
  rw [List.findIdx?_cons]
  by_cases h : k = a
  ·simp [h]
  ·simp only [h, decide_false, if_false, ih]
   cases m.findIdx? fun p => decide (k = p.1) <;> simp
theorem run_find (K : KeyLaw P kt enc) (k : κ) (m : List (κ × ν)) (ts : List Nat) (hl : ts.length = m.length) (w : World) :
  (Instr.findKey kt (enc k) ((m.zip ts).map fun p => (⟨enc p.1.1, encv p.1.2, p.2⟩ : MapEntry))).run P w =
   .ok ((m.findIdx? fun p => decide (k = p.1)).bind fun i => (m[i]?).map fun p => (i, encv p.2)) w := by
 have := K.find k ((m.zip ts).map fun p => (p.1.1, encv p.1.2, p.2)) w
 rw [List.map_map] at this
 rw [show ((m.zip ts).map fun p => (⟨enc p.1.1, encv p.1.2, p.2⟩ : MapEntry)) = (m.zip ts).map ((fun p : κ × Value × Nat => (⟨enc p.1, p.2.1, p.2.2⟩ : MapEntry)) ∘ fun p => (p.1.1, encv p.1.2, p.2)) from rfl, this]
 rw [find_zip k m ts hl]
 congr 1
 cases hf : m.findIdx? fun p => decide (k = p.1) with
 | none => rfl
 | some i =>
  have hi : i < m.length := (List.findIdx?_eq_some_iff_getElem.1 hf).1
  simp only [Option.bind_some, List.getElem?_map]
  rw [List.getElem?_eq_getElem (by simp; omega), List.getElem?_eq_getElem hi]
  simp
theorem getMap {es : Array MapEntry} {clock : Nat} (hb : w.heap[b]? = some (.map es clock)) : (getObj b).run P w = .ok (.map es clock) w := by simp [getObj, Sem.run, hb]
theorem setMap {es : Array MapEntry} {clock : Nat} (o : Obj) (hb : w.heap[b]? = some (.map es clock)) : (setObj b o).run P w = .ok () { w with heap := w.heap.setIfInBounds b o } := by simp [setObj, Sem.run, hb]
theorem MapAt.lookup (h : MapAt w b enc encv m) (K : KeyLaw P kt enc) (ht : P.underlying t = some (.map kt e)) {z : Value} (hz : (zeroValue e).run P w = .ok z w) (k : κ) :
  (Instr.lookup t (.map (some b)) (enc k) false).run P w = .ok (((mget m k).map encv).getD z) w := by
 obtain ⟨ts, clock, h1, h2, h3, h4⟩ := h.obj
 unfold Instr.lookup
 simp only [Sem.run_bind, run_underlying ht, Result.andThen_ok, getMap h4, Sem.run_pure, K.check, run_find K k m ts h1, mget_find]
 cases hf : m.findIdx? fun p => decide (k = p.1) with
 | none => simp [hz]
 | some i =>
  have hi : i < m.length := (List.findIdx?_eq_some_iff_getElem.1 hf).1
  simp [List.getElem?_eq_getElem hi]
theorem MapAt.lookupOk (h : MapAt w b enc encv m) (K : KeyLaw P kt enc) (ht : P.underlying t = some (.map kt e)) {z : Value} (hz : (zeroValue e).run P w = .ok z w) (k : κ) :
  (Instr.lookup t (.map (some b)) (enc k) true).run P w = .ok (.tuple #[((mget m k).map encv).getD z, .bool (mget m k).isSome]) w := by
 obtain ⟨ts, clock, h1, h2, h3, h4⟩ := h.obj
 unfold Instr.lookup
 simp only [Sem.run_bind, run_underlying ht, Result.andThen_ok, getMap h4, Sem.run_pure, K.check, run_find K k m ts h1, mget_find]
 cases hf : m.findIdx? fun p => decide (k = p.1) with
 | none => simp [hz]
 | some i =>
  have hi : i < m.length := (List.findIdx?_eq_some_iff_getElem.1 hf).1
  simp [List.getElem?_eq_getElem hi]
theorem chgSet (w : World) (b : Nat) (o : Obj) : Chg (fun k => k = b) w { w with heap := w.heap.setIfInBounds b o } :=
 ⟨rfl, rfl, rfl, by simp, fun k hk hn => by
  show (w.heap.setIfInBounds b o)[k]? = _
  rw [Array.getElem?_setIfInBounds, if_neg (fun e => hn e.symm)]⟩
theorem zip_put (k : κ) (v : ν) : ∀ (m : List (κ × ν)) (ts : List Nat) (i : Nat), ts.length = m.length → (m.findIdx? fun p => decide (k = p.1)) = some i →
  (((m.zip ts).map fun p => (⟨enc p.1.1, encv p.1.2, p.2⟩ : MapEntry)).toArray.modify i fun e => { e with key := enc k, val := encv v }) = (((mput m k v).zip ts).map fun p => (⟨enc p.1.1, encv p.1.2, p.2⟩ : MapEntry)).toArray
 | [], ts, i, _, h => by simp at h
 | (a, u) :: m, [], i, hl, _ => by simp at hl
 | (a, u) :: m, t :: ts, i, hl, h => by
  rw [List.findIdx?_cons] at h
  unfold mput
  by_cases hk : k = a
  ·subst hk
   simp at h
   subst h
   simp
  ·simp only [hk, decide_false] at h
   rw [if_neg hk]
   cases hf : m.findIdx? fun p => decide (k = p.1) with
   | none => rw [hf] at h; simp at h
   | some j =>
    rw [hf] at h
    simp at h
    subst h
    have ih := zip_put k v m ts j (by simpa using hl) hf
    apply Array.ext'
    have ih' := congrArg Array.toList ih
    simp only [Array.toList_modify, List.zip_cons_cons, List.map_cons] at ih' ⊢
    simp only [List.modify_succ_cons]
    rw [ih']
theorem mput_new (k : κ) (v : ν) : ∀ (m : List (κ × ν)), (m.findIdx? fun p => decide (k = p.1)) = none → mput m k v = m ++ [(k, v)]
 | [], _ => rfl
 | (a, u) :: m, h => by
  rw [List.findIdx?_cons] at h
  unfold mput
  by_cases hk : k = a
  ·simp [hk] at h
  ·simp only [hk, decide_false] at h
   rw [if_neg hk, mput_new k v m (by cases hf : m.findIdx? fun p => decide (k = p.1) with | none => rfl | some i => rw [hf] at h; simp at h)]
   rfl
theorem mput_length_old (k : κ) (v : ν) : ∀ (m : List (κ × ν)) (i : Nat), (m.findIdx? fun p => decide (k = p.1)) = some i → (mput m k v).length = m.length
 | [], _, h => by simp at h
 | (a, u) :: m, i, h => by
  rw [List.findIdx?_cons] at h
  unfold mput
  by_cases hk : k = a
  ·simp [hk]
  ·simp only [hk, decide_false] at h
   rw [if_neg hk]
   cases hf : m.findIdx? fun p => decide (k = p.1) with
   | none => rw [hf] at h; simp at h
   | some j => rw [List.length_cons, mput_length_old k v m j hf, List.length_cons]
theorem MapAt.update (h : MapAt w b enc encv m) (K : KeyLaw P kt enc) (ht : P.underlying t = some (.map kt e)) (k : κ) (v : ν) :
  ∃ w', (Instr.mapUpdate t (.map (some b)) (enc k) (encv v)).run P w = .ok () w' ∧ MapAt w' b enc encv (mput m k v) ∧ Chg (fun q => q = b) w w' := by
 have hlt := h.lt
 obtain ⟨ts, clock, h1, h2, h3, h4⟩ := h.obj
 cases hf : m.findIdx? fun p => decide (k = p.1) with
 | none =>
  refine ⟨{ w with heap := w.heap.setIfInBounds b (.map (((mput m k v).zip (ts ++ [clock])).map fun p => (⟨enc p.1.1, encv p.1.2, p.2⟩ : MapEntry)).toArray (clock + 1)) }, ?_, ⟨mput_nodup h.nodup k v, ts ++ [clock], clock + 1, ?_, ?_, ?_, ?_⟩, chgSet _ _ _⟩
  ·unfold Instr.mapUpdate
   simp only [Sem.run_bind, run_underlying ht, Result.andThen_ok, getMap h4, K.check, run_find K k m ts h1, hf, Option.bind_none]
   rw [setMap _ h4, mput_new k v m hf, List.zip_append (by omega)]
   simp
  ·rw [mput_new k v m hf]; simp [h1]
  ·rw [List.pairwise_append]; exact ⟨h2, by simp, fun a ha c hc => by simp at hc; subst hc; exact h3 a ha⟩
  ·intro q hq
   rw [List.mem_append] at hq
   rcases hq with hq | hq
   ·have := h3 q hq; omega
   ·simp at hq; omega
  ·simp [hlt]
 | some i =>
  have hi : i < m.length := (List.findIdx?_eq_some_iff_getElem.1 hf).1
  have hki : m[i].1 = k := by
   have := (List.findIdx?_eq_some_iff_getElem.1 hf).2.1
   simpa using (of_decide_eq_true this).symm
  refine ⟨{ w with heap := w.heap.setIfInBounds b (.map (((mput m k v).zip ts).map fun p => (⟨enc p.1.1, encv p.1.2, p.2⟩ : MapEntry)).toArray clock) }, ?_, ⟨mput_nodup h.nodup k v, ts, clock, ?_, h2, h3, ?_⟩, chgSet _ _ _⟩
  ·unfold Instr.mapUpdate
   simp only [Sem.run_bind, run_underlying ht, Result.andThen_ok, getMap h4, K.check, run_find K k m ts h1, hf, Option.bind_some, List.getElem?_eq_getElem hi, Option.map_some]
   have hold : (((((m.zip ts).map fun p => (⟨enc p.1.1, encv p.1.2, p.2⟩ : MapEntry)).toArray[i]?).map (·.key)).getD (enc k)) = enc k := by
    rw [List.getElem?_toArray, List.getElem?_map, List.getElem?_eq_getElem (by simp; omega)]
    simp [hki]
   rw [hold]
   have hst : (Instr.keyThatStays (enc k) (enc k)).run P w = .ok (enc k) w := by
    unfold Instr.keyThatStays
    rw [K.same k]
    rfl
   simp only [hst, Result.andThen_ok]
   rw [setMap _ h4, zip_put k v m ts i h1 hf]
  ·rw [mput_length_old k v m i hf]; exact h1
  ·simp [hlt]
theorem MapAt.made (w : World) (enc : κ → Value) (encv : ν → Value) : MapAt (w.alloc (.map #[] 0)) w.heap.size enc encv ([] : List (κ × ν)) :=
 ⟨by simp, [], 0, rfl, by simp, by simp, heap_alloc_new w _⟩
end
section
variable {κ ν : Type} [DecidableEq κ] {enc : κ → Value} {encv : ν → Value} {m : List (κ × ν)} {P : Program} {N : Nat} {ds : List Deferred} {Q : Post} {l : Env} {w w' : World} {ops : Array Oper} {rest : List Oper} {ty t kt e : TypeId} {pos : String} {aft : Array Edge} {d b : Nat} {x y u : Operand}
theorem smm (hd : Nat.blt d N = true) (h : ∀ b w', MapAt w' b enc encv ([] : List (κ × ν)) → w.heap.size ≤ b → Below w.heap.size w w' → b < w'.heap.size → WL P N ds ops Q rest ((d, .map (some b)) :: l) w') : WL P N ds ops Q (⟨some d, .makeMap t none, ty, pos, aft, none⟩ :: rest) l w := by
 refine st (w' := w.alloc (.map #[] 0)) (fun ρ _ => ?_) hd (h _ _ (MapAt.made w enc encv) (Nat.le_refl _) ((Below.refl _ _).alloc (Nat.le_refl _) _) (by simp))
 unfold execOp
 simp [Instr.makeMap]
theorem X.look {z : Value} (K : KeyLaw P kt enc) (hx : ev l x = some (.map (some b))) (k : κ) (hy : ev l y = some (enc k)) (ht : P.underlying t = some (.map kt e)) (hz : (zeroValue e).run P w = .ok z w) (hM : MapAt w b enc encv m) :
  X P l (.lookup t x y false) ty w (((mget m k).map encv).getD z) w := fun ρ hρ => by
 unfold execOp
 simp only [hρ _ _ hx, hρ _ _ hy, Sem.run_bind, hM.lookup K ht hz k, Result.andThen_ok, Sem.run_pure]
theorem X.lookOk {z : Value} (K : KeyLaw P kt enc) (hx : ev l x = some (.map (some b))) (k : κ) (hy : ev l y = some (enc k)) (ht : P.underlying t = some (.map kt e)) (hz : (zeroValue e).run P w = .ok z w) (hM : MapAt w b enc encv m) :
  X P l (.lookup t x y true) ty w (.tuple #[((mget m k).map encv).getD z, .bool (mget m k).isSome]) w := fun ρ hρ => by
 unfold execOp
 simp only [hρ _ _ hx, hρ _ _ hy, Sem.run_bind, hM.lookupOk K ht hz k, Result.andThen_ok, Sem.run_pure]
theorem smu (K : KeyLaw P kt enc) (hx : ev l x = some (.map (some b))) (k : κ) (v : ν) (hy : ev l y = some (enc k)) (hu : ev l u = some (encv v)) (ht : P.underlying t = some (.map kt e)) (hM : MapAt w b enc encv m)
  (h : ∀ w', MapAt w' b enc encv (mput m k v) → Chg (fun q => q = b) w w' → WL P N ds ops Q rest l w') : WL P N ds ops Q (⟨none, .mapUpdate t x y u, ty, pos, aft, none⟩ :: rest) l w := by
 obtain ⟨w', hr, h1, h2⟩ := hM.update K ht k v
 refine ss (w' := w') (fun ρ hρ => ?_) (h w' h1 h2)
 unfold execOp
 simp only [hρ _ _ hx, hρ _ _ hy, hρ _ _ hu, Sem.run_bind, hr, Result.andThen_ok, Sem.run_pure]
end
theorem beqBytes (a b : ByteArray) : (a == b) = (a.data == b.data) := rfl
theorem keyStr {P : Program} {kt : TypeId} (hu : P.underlying kt = some .string) : KeyLaw P kt str where
 check b k w := by
  unfold Instr.checkKey
  simp [run_underlying hu, str]
 find k ks w := by
  have key : ∀ (ks : List (List UInt8 × Value × Nat)) (j : Nat), Instr.findNow .string (str k) (ks.map fun p => (⟨str p.1, p.2.1, p.2.2⟩ : MapEntry)) j = some ((ks.findIdx? fun p => decide (k = p.1)).bind fun i => (ks[i]?).map fun p => (i + j, p.2.1)) := by
   intro ks
   induction ks with
   | nil => intro j; rfl
   | cons p ks ih =>
    intro j
    simp only [List.map_cons, Instr.findNow, Instr.sameNow, str, List.findIdx?_cons]
    have e : ((⟨k.toArray⟩ : ByteArray) == ⟨p.1.toArray⟩) = decide (k = p.1) := by
     rw [beqBytes, Bool.eq_iff_iff, beq_iff_eq, decide_eq_true_eq]
     constructor
     ·intro h
      have := congrArg Array.toList h
      simpa using this
     ·intro h; rw [h]
    rw [e]
    by_cases h : k = p.1
    ·simp [h]
    ·simp only [h, decide_false]
     have := ih (j + 1)
     simp only [str] at this
     rw [this]
     cases ks.findIdx? fun p => decide (k = p.1) with
     | none => rfl
     | some i =>
      simp only [Option.map_some, Option.bind_some, List.getElem?_cons_succ, if_false, Bool.false_eq_true]
      rw [show i + 1 + j = i + (j + 1) by omega]
  unfold Instr.findKey
  simp only [Sem.run_bind, run_underlying hu, Result.andThen_ok, key ks 0, Sem.run_pure, Nat.add_zero]
 same k := by
  show ((⟨k.toArray⟩ : ByteArray) == ⟨k.toArray⟩) = true
  rw [beqBytes]
  simp
end Go.Proofs.YtnlabkogebnioaaGreatDoor
namespace Go.Proofs.YtnlabkogebnioaaGreatDoor
open Go.RowKit
section
variable {κ ν : Type} [DecidableEq κ]
theorem mdel_length (m : List (κ × ν)) (k : κ) (i : Nat) (h : (m.findIdx? fun p => decide (k = p.1)) = some i) : mdel m k = m.eraseIdx i := by
 induction m generalizing i with
 | nil => simp at h
 | cons p m ih =>
  obtain ⟨a, u⟩ := p
  rw [List.findIdx?_cons] at h
  unfold mdel
  by_cases hk : k = a
  ·simp [hk] at h
   subst h
   simp [hk]
  ·simp only [hk, decide_false] at h
   rw [if_neg hk]
   cases hf : m.findIdx? fun p => decide (k = p.1) with
   | none => rw [hf] at h; simp at h
   | some j =>
    rw [hf] at h
    simp at h
    subst h
    rw [List.eraseIdx_cons_succ, ih j hf]
theorem mdel_none (m : List (κ × ν)) (k : κ) (h : (m.findIdx? fun p => decide (k = p.1)) = none) : mdel m k = m := by
 induction m with
 | nil => rfl
 | cons p m ih =>
  obtain ⟨a, u⟩ := p
  rw [List.findIdx?_cons] at h
  unfold mdel
  by_cases hk : k = a
  ·simp [hk] at h
  ·simp only [hk, decide_false] at h
   rw [if_neg hk, ih (by cases hf : m.findIdx? fun p => decide (k = p.1) with | none => rfl | some j => rw [hf] at h; simp at h)]
theorem mget_cons (a : κ) (u : ν) (m : List (κ × ν)) (q : κ) : mget ((a, u) :: m) q = if q = a then some u else mget m q := rfl
theorem mget_mdel {m : List (κ × ν)} (hn : (m.map (·.1)).Nodup) (k q : κ) : mget (mdel m k) q = if q = k then none else mget m q := by
 induction m with
 | nil => simp [mdel, mget]
 | cons p m ih =>
  obtain ⟨a, u⟩ := p
  rw [List.map_cons, List.nodup_cons] at hn
  unfold mdel
  by_cases hk : k = a
  ·subst hk
   rw [if_pos rfl]
   by_cases hq : q = k
   ·subst hq
    rw [if_pos rfl]
    exact mget_none.2 hn.1
   ·rw [if_neg hq, mget_cons, if_neg hq]
  ·rw [if_neg hk, mget_cons, mget_cons, ih hn.2]
   by_cases hq : q = a
   ·subst hq
    rw [if_pos rfl, if_neg (fun e => hk e.symm), if_pos rfl]
   ·rw [if_neg hq, if_neg hq]
end
section
variable {κ ν : Type} [DecidableEq κ] {w w' : World} {b : Nat} {enc : κ → Value} {encv : ν → Value} {m : List (κ × ν)} {P : Program} {kt t e : TypeId}
theorem findIdx_key {m : List (κ × ν)} {k : κ} {i : Nat} (h : (m.findIdx? fun p => decide (k = p.1)) = some i) : ∃ v, m[i]? = some (k, v) ∧ mget m k = some v := by
 have hi := (List.findIdx?_eq_some_iff_getElem.1 h).1
 have hk : m[i].1 = k := by
  have := (List.findIdx?_eq_some_iff_getElem.1 h).2.1
  simpa using (of_decide_eq_true this).symm
 refine ⟨m[i].2, by rw [List.getElem?_eq_getElem hi, ← hk], ?_⟩
 rw [mget_find, h]
 simp [List.getElem?_eq_getElem hi]
theorem mput_same {m : List (κ × ν)} {k : κ} {v : ν} (h : mget m k = some v) : mput m k v = m := by
 induction m with
 | nil => cases h
 | cons p m ih =>
  obtain ⟨a, u⟩ := p
  unfold mget at h
  unfold mput
  by_cases hk : k = a
  ·rw [if_pos hk] at h ⊢
   injection h with h
   rw [h]
  ·rw [if_neg hk] at h ⊢
   rw [ih h]
theorem MapAt.del (h : MapAt w b enc encv m) (K : KeyLaw P kt enc) (ht : P.underlying t = some (.map kt e)) (k : κ) (t2 ty : TypeId) :
  ∃ w', (Builtin.delete_ #[t, t2] ty #[.map (some b), enc k]).run P w = .ok (.tuple #[]) w' ∧ MapAt w' b enc encv (mdel m k) ∧ Chg (fun q => q = b) w w' := by
 have hlt := h.lt
 obtain ⟨ts, clock, h1, h2, h3, h4⟩ := h.obj
 cases hf : m.findIdx? fun p => decide (k = p.1) with
 | none =>
  refine ⟨{ w with heap := w.heap.setIfInBounds b (.map ((m.zip ts).map fun p => (⟨enc p.1.1, encv p.1.2, p.2⟩ : MapEntry)).toArray clock) }, ?_, ?_, chgSet _ _ _⟩
  ·unfold Builtin.delete_
   simp only [List.getElem?_toArray, List.getElem?_cons_zero, List.getElem?_cons_succ, Sem.run_bind, run_underlying ht, Result.andThen_ok, getMap h4, K.check, run_find K k m ts h1, hf, Option.bind_none]
   rw [setMap _ h4]
   simp
  ·rw [mdel_none m k hf]
   exact ⟨h.nodup, ts, clock, h1, h2, h3, by simp [hlt]⟩
 | some i =>
  obtain ⟨v, hiv, hgv⟩ := findIdx_key hf
  have hi : i < m.length := (List.getElem?_eq_some_iff.1 hiv).1
  have hzip : ((m.zip ts).map fun p => (⟨enc p.1.1, encv p.1.2, p.2⟩ : MapEntry)).eraseIdx i = ((m.eraseIdx i).zip (ts.eraseIdx i)).map fun p => (⟨enc p.1.1, encv p.1.2, p.2⟩ : MapEntry) := by
   clear hf hiv hgv h4 h2 h3 hlt h
   induction m generalizing ts i with
   | nil => simp
   | cons p m ih =>
    cases ts with
    | nil => simp at h1
    | cons t ts =>
     cases i with
     | zero => simp
     | succ i => simp only [List.zip_cons_cons, List.map_cons, List.eraseIdx_cons_succ]; rw [ih ts (by simpa using h1) i (by simpa using hi)]
  refine ⟨{ w with heap := w.heap.setIfInBounds b (.map (((m.eraseIdx i).zip (ts.eraseIdx i)).map fun p => (⟨enc p.1.1, encv p.1.2, p.2⟩ : MapEntry)).toArray clock) }, ?_, ?_, chgSet _ _ _⟩
  ·unfold Builtin.delete_
   simp only [List.getElem?_toArray, List.getElem?_cons_zero, List.getElem?_cons_succ, Sem.run_bind, run_underlying ht, Result.andThen_ok, getMap h4, K.check, run_find K k m ts h1, hf, Option.bind_some, hiv, Option.map_some]
   rw [setMap _ h4]
   have : ((((m.zip ts).map fun p => (⟨enc p.1.1, encv p.1.2, p.2⟩ : MapEntry)).toArray).eraseIdxIfInBounds i) = (((m.eraseIdx i).zip (ts.eraseIdx i)).map fun p => (⟨enc p.1.1, encv p.1.2, p.2⟩ : MapEntry)).toArray := by
    rw [← hzip]
    rw [Array.eraseIdxIfInBounds, dif_pos (by simp; omega)]
    simp
   rw [this]
   simp
  ·rw [mdel_length m k i hf]
   refine ⟨?_, ts.eraseIdx i, clock, ?_, h2.sublist (List.eraseIdx_sublist ..), fun q hq => h3 q ((List.eraseIdx_sublist ..).subset hq), by simp [hlt]⟩
   ·exact h.nodup.sublist ((List.eraseIdx_sublist ..).map _)
   ·rw [List.length_eraseIdx_of_lt (by omega), List.length_eraseIdx_of_lt hi]; omega
end
section
variable {κ ν : Type} [DecidableEq κ] {enc : κ → Value} {encv : ν → Value} {m : List (κ × ν)} {P : Program} {N : Nat} {ds : List Deferred} {Q : Post} {l : Env} {w w' : World} {ops : Array Oper} {rest : List Oper} {ty t kt e t2 : TypeId} {pos : String} {aft : Array Edge} {d b : Nat} {x y u : Operand}
theorem sdel (K : KeyLaw P kt enc) (hx : ev l x = some (.map (some b))) (k : κ) (hy : ev l y = some (enc k)) (ht : P.underlying t = some (.map kt e)) (hM : MapAt w b enc encv m)
  (h : ∀ w', MapAt w' b enc encv (mdel m k) → Chg (fun q => q = b) w w' → WL P N ds ops Q rest l w') : WL P N ds ops Q (⟨none, .call { callee := .builtin .delete, args := #[x, y], argTypes := #[t, t2] }, ty, pos, aft, none⟩ :: rest) l w := by
 obtain ⟨w', hr, h1, h2⟩ := hM.del K ht k t2 ty
 intro a ha
 refine wpList_plain rfl fun Kc hK => ?_
 unfold Oper.wp
 have : (execOp a.eval ⟨none, .call { callee := .builtin .delete, args := #[x, y], argTypes := #[t, t2] }, ty, pos, aft, none⟩).run P w = .ok (.value (.tuple #[])) w' := by
  unfold execOp
  simp only [resolve, invoke, builtin, Sem.run_bind, Sem.run_pure, Result.andThen_ok, List.map_toArray, List.map_cons, List.map_nil, ha.knows _ _ hx, ha.knows _ _ hy, hr]
 rw [this]
 exact hK _ _ (h w' h1 h2 _ ha)
end
end Go.Proofs.YtnlabkogebnioaaGreatDoor
namespace Go.Proofs.YtnlabkogebnioaaGreatDoor
open Go.RowKit
section
variable {ν μ : Type}
def sput : List (Key × ν) → Key → ν → List (Key × ν)
  | [], k, v => [(k, v)]
  | (a, u) :: m, k, v => if k = a then (a, v) :: m else if k < a then (k, v) :: (a, u) :: m else (a, u) :: sput m k v
def Rising (m : List (Key × ν)) : Prop := m.Pairwise (fun p q => p.1 < q.1)
theorem Rising.nodup {m : List (Key × ν)} (h : Rising m) : (m.map (·.1)).Nodup := by
 rw [List.nodup_iff_pairwise_ne, List.pairwise_map]
 exact h.imp (fun h e => by rw [e] at h; exact klt_irrefl _ h)
theorem mget_above {m : List (Key × ν)} {k : Key} (h : ∀ p ∈ m, k < p.1) : mget m k = none := by
 rw [mget_none]
 intro hk
 obtain ⟨p, hp, rfl⟩ := List.mem_map.1 hk
 exact klt_irrefl _ (h p hp)
theorem mget_sput {m : List (Key × ν)} (h : Rising m) (k : Key) (v : ν) (q : Key) : mget (sput m k v) q = if q = k then some v else mget m q := by
 induction m with
 | nil => rfl
 | cons p m ih =>
  obtain ⟨a, u⟩ := p
  unfold sput
  by_cases h1 : k = a
  ·subst h1
   rw [if_pos rfl]
   simp only [mget]
   by_cases hq : q = k
   ·simp [hq]
   ·simp [hq]
  ·rw [if_neg h1]
   by_cases h2 : k < a
   ·rw [if_pos h2]
    simp only [mget]
   ·rw [if_neg h2]
    simp only [mget]
    rw [ih (List.pairwise_cons.1 h).2]
    by_cases hq : q = a
    ·subst hq
     rw [if_pos rfl, if_neg (fun e => h1 e.symm), if_pos rfl]
    ·rw [if_neg hq, if_neg hq]
theorem sput_mem {m : List (Key × ν)} {k : Key} {v : ν} {p : Key × ν} (h : p ∈ sput m k v) : p = (k, v) ∨ p ∈ m := by
 induction m with
 | nil => simpa [sput] using h
 | cons q m ih =>
  obtain ⟨a, u⟩ := q
  unfold sput at h
  split at h
  ·rename_i hk
   subst hk
   rcases List.mem_cons.1 h with h | h
   ·exact .inl h
   ·exact .inr (List.mem_cons_of_mem _ h)
  ·split at h
   ·rcases List.mem_cons.1 h with h | h
    ·exact .inl h
    ·exact .inr h
   ·rcases List.mem_cons.1 h with h | h
    ·exact .inr (by rw [h]; exact List.mem_cons_self ..)
    ·exact (ih h).imp id (List.mem_cons_of_mem _)
theorem Rising.sput {m : List (Key × ν)} (h : Rising m) (k : Key) (v : ν) : Rising (sput m k v) := by
 induction m with
 | nil => exact List.pairwise_singleton _ _
 | cons p m ih =>
  obtain ⟨a, u⟩ := p
  have h1 := List.pairwise_cons.1 h
  unfold Go.Proofs.YtnlabkogebnioaaGreatDoor.sput
  split
  ·exact List.pairwise_cons.2 ⟨h1.1, h1.2⟩
  ·split
   ·rename_i hk
    refine List.pairwise_cons.2 ⟨fun q hq => ?_, h⟩
    rcases List.mem_cons.1 hq with hq | hq
    ·rw [hq]; exact hk
    ·exact klt_trans hk (h1.1 q hq)
   ·rename_i hne hlt
    refine List.pairwise_cons.2 ⟨fun q hq => ?_, ih h1.2⟩
    rcases sput_mem hq with hq | hq
    ·rw [hq]
     exact ((klt_tri a k).resolve_right (fun e => e.elim (fun e => hne e.symm) hlt))
    ·exact h1.1 q hq
theorem mdel_mem {m : List (Key × ν)} {k : Key} {p : Key × ν} (h : p ∈ mdel m k) : p ∈ m := by
 induction m with
 | nil => cases h
 | cons q m ih =>
  obtain ⟨a, u⟩ := q
  unfold mdel at h
  split at h
  ·exact List.mem_cons_of_mem _ h
  ·rcases List.mem_cons.1 h with h | h
   ·rw [h]; exact List.mem_cons_self ..
   ·exact List.mem_cons_of_mem _ (ih h)
theorem Rising.del {m : List (Key × ν)} (h : Rising m) (k : Key) : Rising (mdel m k) := by
 induction m with
 | nil => exact List.Pairwise.nil
 | cons p m ih =>
  obtain ⟨a, u⟩ := p
  have h1 := List.pairwise_cons.1 h
  unfold mdel
  split
  ·exact h1.2
  ·exact List.pairwise_cons.2 ⟨fun q hq => h1.1 q (mdel_mem hq), ih h1.2⟩
theorem mget_map (f : ν → μ) (m : List (Key × ν)) (k : Key) : mget (m.map fun p => (p.1, f p.2)) k = (mget m k).map f := by
 induction m with
 | nil => rfl
 | cons p m ih =>
  obtain ⟨a, u⟩ := p
  simp only [List.map_cons, mget]
  split
  ·rfl
  ·exact ih
theorem mput_map (f : ν → μ) (m : List (Key × ν)) (k : Key) (v : ν) : (mput m k v).map (fun p => (p.1, f p.2)) = mput (m.map fun p => (p.1, f p.2)) k (f v) := by
 induction m with
 | nil => rfl
 | cons p m ih =>
  obtain ⟨a, u⟩ := p
  simp only [List.map_cons, mput]
  split
  ·rfl
  ·rw [List.map_cons, ih]
theorem mdel_map (f : ν → μ) (m : List (Key × ν)) (k : Key) : (mdel m k).map (fun p => (p.1, f p.2)) = mdel (m.map fun p => (p.1, f p.2)) k := by
 induction m with
 | nil => rfl
 | cons p m ih =>
  obtain ⟨a, u⟩ := p
  simp only [List.map_cons, mdel]
  split
  ·rfl
  ·rw [List.map_cons, ih]
theorem keys_perm {m : List (Key × ν)} {m' : List (Key × μ)} (h : (m.map (·.1)).Nodup) (h' : (m'.map (·.1)).Nodup) (he : ∀ k, (mget m k).isSome = (mget m' k).isSome) : (m.map (·.1)).Perm (m'.map (·.1)) := by
 refine (List.perm_ext_iff_of_nodup h h').2 fun k => ?_
 have := he k
 constructor
 ·intro hk
  refine Classical.byContradiction fun hn => ?_
  rw [mget_none.2 hn] at this
  cases hg : mget m k with
  | none => exact mget_none.1 hg hk
  | some v => rw [hg] at this; cases this
 ·intro hk
  refine Classical.byContradiction fun hn => ?_
  rw [mget_none.2 hn] at this
  cases hg : mget m' k with
  | none => exact mget_none.1 hg hk
  | some v => rw [hg] at this; cases this
end
structure FileD where
  last : List UInt8
  now : List UInt8
  pend : List (Nat × List UInt8)
deriving DecidableEq
def newFile : FileD := ⟨[], [], []⟩
def overM (l : List UInt8) (at_ : Nat) (d : List UInt8) : List UInt8 := l.take at_ ++ d ++ l.drop (at_ + d.length)
theorem overM_length {l : List UInt8} {at_ : Nat} {d : List UInt8} (h : at_ ≤ l.length) : (overM l at_ d).length = max l.length (at_ + d.length) := by
 unfold overM
 rw [List.length_append, List.length_append, List.length_take, List.length_drop]
 omega
theorem overM_end (l d : List UInt8) : overM l l.length d = l ++ d := by
 unfold overM
 rw [List.take_length, List.drop_of_length_le (by omega), List.append_nil]
def lastsM (f : FileD) : FileD := { f with last := f.now, pend := [] }
def pendLen : List (Nat × List UInt8) → Nat
  | [] => 0
  | p :: l => p.2.length + pendLen l
theorem pendLen_append (l m : List (Nat × List UInt8)) : pendLen (l ++ m) = pendLen l + pendLen m := by
 induction l with
 | nil => simp [pendLen]
 | cons p l ih => simp only [List.cons_append, pendLen, ih]; omega
def bytesM : List UInt8 → List (Nat × List UInt8) → List UInt8
  | s, [] => s
  | s, p :: l => bytesM (overM s p.1 p.2) l
theorem bytesM_snoc (s : List UInt8) (l : List (Nat × List UInt8)) (p : Nat × List UInt8) : bytesM s (l ++ [p]) = overM (bytesM s l) p.1 p.2 := by
 induction l generalizing s with
 | nil => rfl
 | cons q l ih => exact ih _
def PutsOk : Nat → List (Nat × List UInt8) → Prop
  | _, [] => True
  | n, p :: l => p.1 ≤ n ∧ p.2 ≠ [] ∧ PutsOk (max n (p.1 + p.2.length)) l
structure FOk (f : FileD) : Prop where
  now : f.now = bytesM f.last f.pend
  puts : PutsOk f.last.length f.pend
theorem bytesM_len : ∀ (l : List (Nat × List UInt8)) (s : List UInt8), PutsOk s.length l → s.length ≤ (bytesM s l).length
 | [], _, _ => Nat.le_refl _
 | p :: l, s, hp => by
  have h1 := overM_length (l := s) (d := p.2) hp.1
  exact Nat.le_trans (by omega) (bytesM_len l _ (by rw [h1]; exact hp.2.2))
theorem putsOk_snoc : ∀ (l : List (Nat × List UInt8)) (s : List UInt8) (p : Nat × List UInt8), PutsOk s.length l → p.1 ≤ (bytesM s l).length → p.2 ≠ [] → PutsOk s.length (l ++ [p])
 | [], _, _, _, h, h2 => ⟨h, h2, trivial⟩
 | q :: l, s, p, hp, h, h2 => by
  have h1 := overM_length (l := s) (d := q.2) hp.1
  refine ⟨hp.1, hp.2.1, ?_⟩
  have := putsOk_snoc l (overM s q.1 q.2) p (by rw [h1]; exact hp.2.2) h h2
  rwa [h1] at this
theorem FOk.new : FOk newFile := ⟨rfl, trivial⟩
theorem FOk.last_le {f : FileD} (h : FOk f) : f.last.length ≤ f.now.length := by rw [h.now]; exact bytesM_len _ _ h.puts
theorem FOk.lasts (f : FileD) : FOk (lastsM f) := ⟨rfl, trivial⟩
def laidM (f : FileD) (at_ : Nat) (d : List UInt8) : FileD := ⟨f.last, overM f.now at_ d, f.pend ++ [(at_, d)]⟩
theorem FOk.laid {f : FileD} (h : FOk f) {at_ : Nat} {d : List UInt8} (ha : at_ ≤ f.now.length) (hd : d ≠ []) : FOk (laidM f at_ d) :=
 ⟨by show _ = bytesM f.last (f.pend ++ [(at_, d)]); rw [bytesM_snoc, ← h.now]; rfl, putsOk_snoc _ _ _ h.puts (by show at_ ≤ (bytesM f.last f.pend).length; rw [← h.now]; exact ha) hd⟩
structure DiskD where
  files : List (Key × FileD)
  limit : Int
  used : Int
  refused : Int
  stops : Bool
  left : Int
def usedM : List (Key × FileD) → Nat
  | [] => 0
  | p :: r => p.2.now.length + usedM r
structure DOk (D : DiskD) : Prop where
  srt : Rising D.files
  lim : 0 ≤ D.limit ∧ D.limit ≤ 16777216
  used : D.used = usedM D.files
  room : D.used ≤ D.limit
  ref : 0 ≤ D.refused
  stp : D.stops = true → 0 ≤ D.left ∧ D.left ≤ 9223372036854775807
  fok : ∀ n f, mget D.files n = some f → FOk f
theorem usedM_get {m : List (Key × FileD)} {k : Key} {f : FileD} (h : mget m k = some f) : f.now.length ≤ usedM m := by
 induction m with
 | nil => simp [mget] at h
 | cons p m ih =>
  obtain ⟨a, u⟩ := p
  unfold mget at h
  unfold usedM
  split at h
  ·injection h with h
   subst h
   exact Nat.le_add_right ..
  ·have := ih h
   simp only
   omega
theorem usedM_sput {m : List (Key × FileD)} (hm : Rising m) (k : Key) (f : FileD) : usedM (sput m k f) + ((mget m k).map (fun g => g.now.length)).getD 0 = usedM m + f.now.length := by
 induction m with
 | nil => simp [sput, usedM, mget]
 | cons p m ih =>
  obtain ⟨a, u⟩ := p
  have h1 := List.pairwise_cons.1 hm
  unfold sput
  by_cases hk : k = a
  ·subst hk
   rw [if_pos rfl]
   simp only [usedM, mget, if_true, Option.map_some, Option.getD_some]
   omega
  ·rw [if_neg hk]
   by_cases hlt : k < a
   ·rw [if_pos hlt]
    rw [mget_above (fun q hq => by
     rcases List.mem_cons.1 hq with hq | hq
     ·rw [hq]; exact hlt
     ·exact klt_trans hlt (h1.1 q hq))]
    simp only [usedM, Option.map_none, Option.getD_none]
    omega
   ·rw [if_neg hlt]
    have := ih h1.2
    simp only [usedM, mget, if_neg hk]
    omega
theorem usedM_del {m : List (Key × FileD)} (k : Key) : usedM (mdel m k) + ((mget m k).map (fun g => g.now.length)).getD 0 = usedM m := by
 induction m with
 | nil => simp [mdel, usedM, mget]
 | cons p m ih =>
  obtain ⟨a, u⟩ := p
  unfold mdel
  by_cases hk : k = a
  ·subst hk
   rw [if_pos rfl]
   simp only [usedM, mget, if_true, Option.map_some, Option.getD_some]
   omega
  ·rw [if_neg hk]
   simp only [usedM, mget, if_neg hk]
   omega
theorem DOk.len {D : DiskD} (h : DOk D) {n : Key} {f : FileD} (hf : mget D.files n = some f) : f.now.length ≤ 16777216 ∧ f.last.length ≤ 16777216 ∧ (f.now.length : Int) ≤ D.used := by
 have h1 := usedM_get hf
 have h2 := (h.fok n f hf).last_le
 have h3 := h.used
 have h4 := h.room
 have h5 := h.lim
 omega
def letterB (b : UInt8) : Bool := (decide (97 ≤ b.toNat) && decide (b.toNat ≤ 122)) || (decide (48 ≤ b.toNat) && decide (b.toNat ≤ 57)) || b == 46 || b == 45 || b == 95
def nameOk (s : List UInt8) : Bool := !s.isEmpty && decide (s.length ≤ 64) && s.all letterB
def tickM (D : DiskD) : DiskD := if D.stops = true then { D with left := D.left - 1 } else D
def opM (D : DiskD) (k : DiskD → Int × DiskD) : Int × DiskD := if D.stops = true ∧ D.left = 0 then (19, D) else k (tickM D)
def fileM (D : DiskD) (n : Key) (k : FileD → Int × DiskD) : Int × DiskD := match mget D.files n with
  | none => (15, D)
  | some f => k f
def moreM (f : FileD) (at_ : Nat) (d : List UInt8) : Nat := at_ + d.length - f.now.length
def putM (D : DiskD) (n : Key) (f : FileD) (at_ : Nat) (d : List UInt8) : Int × DiskD :=
  if d = [] then (0, D) else if D.limit < D.used + moreM f at_ d then (17, { D with refused := D.refused + 1 })
  else (0, { D with files := sput D.files n (laidM f at_ d), used := D.used + moreM f at_ d })
def createM (D : DiskD) (n : Key) : Int × DiskD := opM D fun D => if nameOk n = true then (if (mget D.files n).isSome then (16, D) else (0, { D with files := sput D.files n newFile })) else (1, D)
def appendM (D : DiskD) (n : Key) (d : List UInt8) : Int × DiskD := opM D fun D => fileM D n fun f => putM D n f f.now.length d
def syncM (D : DiskD) (n : Key) : Int × DiskD := opM D fun D => fileM D n fun f => (0, { D with files := sput D.files n (lastsM f) })
def removeM (D : DiskD) (n : Key) : Int × DiskD := opM D fun D => fileM D n fun f => (0, { D with files := mdel D.files n, used := D.used - f.now.length })
def rotM (D : DiskD) (n : Key) (at_ : Int) (b : UInt8) : Int × DiskD := fileM D n fun f => if at_ < 0 ∨ (f.now.length : Int) ≤ at_ then (1, D) else (0, { D with files := sput D.files n ⟨f.now.set at_.toNat b, f.now.set at_.toNat b, []⟩ })
def readM (D : DiskD) (n : Key) (at_ k : Int) : List UInt8 × Int := match mget D.files n with
  | none => ([], 15)
  | some f => if k < 0 ∨ at_ < 0 ∨ (f.now.length : Int) < at_ then ([], 1) else ((f.now.drop at_.toNat).take k.toNat, 0)
def sizeM (D : DiskD) (n : Key) : Int × Int := match mget D.files n with
  | none => (0, 15)
  | some f => (f.now.length, 0)
def newM (limit : Int) : DiskD := ⟨[], limit, 0, 0, false, 0⟩
theorem tick_ok {D : DiskD} (h : DOk D) (hl : ¬ (D.stops = true ∧ D.left = 0)) : DOk (tickM D) := by
 unfold tickM
 split
 ·rename_i hs
  have := h.stp hs
  have h0 : D.left ≠ 0 := fun e => hl ⟨hs, e⟩
  exact ⟨h.srt, h.lim, h.used, h.room, h.ref, fun _ => ⟨by show 0 ≤ D.left - 1; omega, by show D.left - 1 ≤ _; omega⟩, h.fok⟩
 ·exact h
theorem tick_files (D : DiskD) : (tickM D).files = D.files := by unfold tickM; split <;> rfl
end Go.Proofs.YtnlabkogebnioaaGreatDoor
namespace Go.Proofs.YtnlabkogebnioaaGreatDoor
open Go.RowKit
def encPtr (g : Nat) : Value := .pointer (some ⟨g, 0, none⟩)
def pendCellsD (p : Nat × List UInt8) : List Value := [.int .i64 p.1, str p.2]
theorem putCells_one (p : Nat × List UInt8) : ∀ v ∈ pendCellsD p, v.oneCell' = true := by
 intro v hv
 simp only [pendCellsD, List.mem_cons, List.not_mem_nil, or_false] at hv
 rcases hv with rfl | rfl <;> rfl
structure FRec where
  blk : Nat
  vl : Value
  vn : Value
  vp : Value
  f : FileD
def FRec.owns (r : FRec) (k : Nat) : Prop := k = r.blk ∨ r.vl.ownBlock = some k ∨ r.vn.ownBlock = some k ∨ r.vp.ownBlock = some k
structure FileAt (w : World) (r : FRec) : Prop where
  blk : Blk w r.blk 126 #[r.vl, r.vn, r.vp]
  last : Row w 5 1 r.vl r.f.last.length (r.f.last.map bv)
  now : Row w 5 1 r.vn r.f.now.length (r.f.now.map bv)
  pend : Row w 191 2 r.vp r.f.pend.length (r.f.pend.flatMap pendCellsD)
  apart : ∀ k, r.vl.ownBlock = some k → r.vn.ownBlock ≠ some k
theorem Row.heap_cells {w : World} {e : TypeId} {size n : Nat} {v : Value} {xs : List Value} (h : Row w e size v n xs) {k : Nat} (hk : v.ownBlock = some k) : ∃ cs fz, w.heap[k]? = some (.cells cs e fz) := by
 rcases h.2 with ⟨rfl, _⟩ | ⟨g, off, cap, cur, fz, rfl, hg, _⟩
 ·simp [Value.ownBlock] at hk
 ·simp [Value.ownBlock] at hk
  subst hk
  exact ⟨_, _, hg⟩
theorem FileAt.cells {w : World} {r : FRec} (h : FileAt w r) {k : Nat} (hk : r.owns k) : ∃ cs t fz, w.heap[k]? = some (.cells cs t fz) ∧ (t = 126 ∨ t = 5 ∨ t = 191) := by
 rcases hk with rfl | hk | hk | hk
 ·exact ⟨_, _, _, h.blk, .inl rfl⟩
 ·obtain ⟨cs, fz, e⟩ := h.last.heap_cells hk; exact ⟨cs, _, fz, e, .inr (.inl rfl)⟩
 ·obtain ⟨cs, fz, e⟩ := h.now.heap_cells hk; exact ⟨cs, _, fz, e, .inr (.inl rfl)⟩
 ·obtain ⟨cs, fz, e⟩ := h.pend.heap_cells hk; exact ⟨cs, _, fz, e, .inr (.inr rfl)⟩
theorem FileAt.lt {w : World} {r : FRec} (h : FileAt w r) {k : Nat} (hk : r.owns k) : k < w.heap.size := by
 obtain ⟨cs, t, fz, e, _⟩ := h.cells hk
 exact (Array.getElem?_eq_some_iff.1 e).1
theorem FileAt.ne_blk {w : World} {r : FRec} (h : FileAt w r) {g : Nat} {t : TypeId} {cs : Array Value} (hB : Blk w g t cs) (h1 : t ≠ 126) (h2 : t ≠ 5) (h3 : t ≠ 191) : ¬ r.owns g := fun hk => by
 obtain ⟨cs', t', fz, e, ht⟩ := h.cells hk
 have hB : w.heap[g]? = some (.cells cs t (0, 0)) := hB
 rw [hB] at e
 injection e with e
 injection e with _ e
 subst e
 exact ht.elim h1 (fun h => h.elim h2 h3)
theorem FileAt.ne_map {w : World} {r : FRec} (h : FileAt w r) {g : Nat} {es : Array MapEntry} {c : Nat} (hB : w.heap[g]? = some (.map es c)) : ¬ r.owns g := fun hk => by
 obtain ⟨cs', t', fz, e, ht⟩ := h.cells hk
 rw [hB] at e
 cases e
theorem FileAt.keep {w w' : World} {r : FRec} (h : FileAt w r) (hk : ∀ k, r.owns k → w'.heap[k]? = w.heap[k]?) : FileAt w' r :=
 ⟨(hk _ (.inl rfl)).trans h.blk, h.last.keep fun k e => hk k (.inr (.inl e)), h.now.keep fun k e => hk k (.inr (.inr (.inl e))), h.pend.keep fun k e => hk k (.inr (.inr (.inr e))), h.apart⟩
theorem FileAt.chg {w w' : World} {r : FRec} {S : Nat → Prop} (h : FileAt w r) (hc : Chg S w w') (hn : ∀ k, r.owns k → ¬ S k) : FileAt w' r :=
 h.keep fun k hk => hc.block k (h.lt hk) (hn k hk)
theorem FileAt.bel {w w' : World} {r : FRec} (h : FileAt w r) (hb : Below w.heap.size w w') : FileAt w' r := h.keep fun k hk => hb.block k (h.lt hk)
def diskCells (b : Nat) (D : DiskD) : Array Value := #[.map (some b), .int .i64 D.limit, .int .i64 D.used, .int .i64 D.refused, .bool D.stops, .int .i64 D.left]
structure DiskIn (w : World) (g b : Nat) (D : DiskD) (rs : List (Key × FRec)) (S : Nat → Prop) : Prop where
  blk : Blk w g 110 (diskCells b D)
  map : MapAt w b str encPtr (rs.map fun p => (p.1, p.2.blk))
  files : ∀ n, mget D.files n = (mget rs n).map FRec.f
  at_ : ∀ n r, mget rs n = some r → FileAt w r
  apart : ∀ n m r s k, mget rs n = some r → mget rs m = some s → n ≠ m → r.owns k → ¬ s.owns k
  inS : S g ∧ S b
  inR : ∀ n r k, mget rs n = some r → r.owns k → S k
def DiskAt (w : World) (g : Nat) (D : DiskD) (S : Nat → Prop) : Prop := ∃ b rs, DiskIn w g b D rs S
def Ext (S : Nat → Prop) (w w' : World) : Nat → Prop := fun k => S k ∨ (w.heap.size ≤ k ∧ k < w'.heap.size)
section
variable {w w' : World} {g b : Nat} {D D' : DiskD} {rs : List (Key × FRec)} {S T : Nat → Prop} {n : Key} {r r' : FRec}
theorem DiskIn.bel (h : DiskIn w g b D rs S) (hb : Below w.heap.size w w') : DiskIn w' g b D rs S :=
 ⟨h.blk.belowAll hb, h.map.bel hb, h.files, fun n r hr => (h.at_ n r hr).bel hb, h.apart, h.inS, h.inR⟩
theorem DiskIn.mono (h : DiskIn w g b D rs S) (hs : ∀ k, S k → T k) : DiskIn w g b D rs T :=
 ⟨h.blk, h.map, h.files, h.at_, h.apart, ⟨hs _ h.inS.1, hs _ h.inS.2⟩, fun n r k hr hk => hs k (h.inR n r k hr hk)⟩
theorem DiskIn.ne (h : DiskIn w g b D rs S) (hr : mget rs n = some r) : ¬ r.owns g ∧ ¬ r.owns b := by
 refine ⟨(h.at_ n r hr).ne_blk h.blk (by decide) (by decide) (by decide), ?_⟩
 obtain ⟨ts, clock, h1, h2, h3, h4⟩ := h.map.obj
 exact (h.at_ n r hr).ne_map h4
theorem DiskIn.gb (h : DiskIn w g b D rs S) : g ≠ b := by
 rintro rfl
 obtain ⟨ts, clock, h1, h2, h3, h4⟩ := h.map.obj
 have hB : w.heap[g]? = some (.cells (diskCells g D) 110 (0, 0)) := h.blk
 rw [hB] at h4
 cases h4
theorem DiskIn.keys (h : DiskIn w g b D rs S) : (rs.map (·.1)).Nodup := by
 have := h.map.nodup
 rwa [List.map_map, show ((fun x => x.1) ∘ fun p : Key × FRec => (p.1, p.2.blk)) = (fun p : Key × FRec => p.1) from rfl] at this
theorem DiskIn.chg (h : DiskIn w g b D rs S) (hc : Chg T w w') (hs : ∀ k, S k → ¬ T k) : DiskIn w' g b D rs S :=
 ⟨h.blk.chg hc (hs _ h.inS.1), h.map.chg hc (hs _ h.inS.2), h.files, fun n r hr => (h.at_ n r hr).chg hc (fun k hk => hs k (h.inR n r k hr hk)), h.apart, h.inS, h.inR⟩
theorem DiskAt.bel (h : DiskAt w g D S) (hb : Below w.heap.size w w') : DiskAt w' g D S := by
 obtain ⟨b, rs, h⟩ := h
 exact ⟨b, rs, h.bel hb⟩
theorem DiskAt.mono (h : DiskAt w g D S) (hs : ∀ k, S k → T k) : DiskAt w g D T := by
 obtain ⟨b, rs, h⟩ := h
 exact ⟨b, rs, h.mono hs⟩
theorem DiskAt.chg (h : DiskAt w g D S) (hc : Chg T w w') (hs : ∀ k, S k → ¬ T k) : DiskAt w' g D S := by
 obtain ⟨b, rs, h⟩ := h
 exact ⟨b, rs, h.chg hc hs⟩
theorem DiskIn.file (h : DiskIn w g b D rs S) (hr : mget rs n = some r) (hc : Chg (fun k => k = g ∨ r.owns k) w w') (hB : Blk w' g 110 (diskCells b D')) (hf : ∀ m, mget D'.files m = if m = n then some r'.f else mget D.files m)
  (hr' : FileAt w' r') (hb : r'.blk = r.blk) (ho : ∀ k, r'.owns k → r.owns k ∨ w.heap.size ≤ k) : DiskIn w' g b D' (mput rs n r') (Ext S w w') := by
 have hkk : ∀ m s k, m ≠ n → mget rs m = some s → s.owns k → ¬ (k = g ∨ r.owns k) := fun m s k hm hs hk e => by
  rcases e with rfl | e
  ·exact (h.ne hs).1 hk
  ·exact h.apart m n s r k hs hr hm hk e
 have hat : ∀ m s, m ≠ n → mget rs m = some s → FileAt w' s := fun m s hm hs => (h.at_ m s hs).chg hc (fun k hk => hkk m s k hm hs hk)
 refine ⟨hB, ?_, fun m => ?_, fun m s hs => ?_, fun m m' s s' k hs hs' hne hk hk' => ?_, ⟨.inl h.inS.1, .inl h.inS.2⟩, fun m s k hs hk => ?_⟩
 ·rw [mput_map FRec.blk, hb, mput_same (by rw [mget_map, hr]; rfl)]
  exact h.map.chg hc (fun e => e.elim (fun e => h.gb e.symm) (h.ne hr).2)
 ·rw [hf, mget_mput]
  split
  ·rfl
  ·exact h.files m
 ·rw [mget_mput] at hs
  split at hs
  ·injection hs with hs
   rw [← hs]
   exact hr'
  ·rename_i hm
   exact hat m s hm hs
 ·rw [mget_mput] at hs hs'
  split at hs
  ·injection hs with hs
   subst hs
   rename_i hm
   rw [if_neg (fun e => hne (hm.trans e.symm))] at hs'
   have hm' : m' ≠ n := fun e => hne (hm.trans e.symm)
   rcases ho k hk with e | e
   ·exact h.apart m' n s' r k hs' hr hm' hk' e
   ·have := (h.at_ m' s' hs').lt hk'
    omega
  ·rename_i hm
   split at hs'
   ·injection hs' with hs'
    subst hs'
    rcases ho k hk' with e | e
    ·exact h.apart m n s r k hs hr hm hk e
    ·have := (h.at_ m s hs).lt hk
     omega
   ·exact h.apart m m' s s' k hs hs' hne hk hk'
 ·rw [mget_mput] at hs
  split at hs
  ·injection hs with hs
   subst hs
   rcases ho k hk with e | e
   ·exact .inl (h.inR n r k hr e)
   ·exact .inr ⟨e, hr'.lt hk⟩
  ·exact .inl (h.inR m s k hs hk)
theorem DiskIn.self (h : DiskIn w g b D rs S) (hc : Chg (fun k => k = g) w w') (hB : Blk w' g 110 (diskCells b D')) (hf : D'.files = D.files) : DiskIn w' g b D' rs S :=
 ⟨hB, h.map.chg hc (fun e => h.gb e.symm), fun n => by rw [hf]; exact h.files n, fun n r hr => (h.at_ n r hr).chg hc (fun k hk e => (h.ne hr).1 (by rw [← e]; exact hk)), h.apart, h.inS, h.inR⟩
theorem DiskIn.add (h : DiskIn w g b D rs S) (hc : Chg (fun k => k = g ∨ k = b) w w') (hB : Blk w' g 110 (diskCells b D')) (hM : MapAt w' b str encPtr (mput (rs.map fun p => (p.1, p.2.blk)) n r'.blk))
  (hf : ∀ m, mget D'.files m = if m = n then some r'.f else mget D.files m) (hr' : FileAt w' r') (ho : ∀ k, r'.owns k → w.heap.size ≤ k) : DiskIn w' g b D' (mput rs n r') (Ext S w w') := by
 have hat : ∀ m s, mget rs m = some s → FileAt w' s := fun m s hs => (h.at_ m s hs).chg hc (fun k hk e => e.elim (fun e => (h.ne hs).1 (by rw [← e]; exact hk)) (fun e => (h.ne hs).2 (by rw [← e]; exact hk)))
 refine ⟨hB, ?_, fun m => ?_, fun m s hs => ?_, fun m m' s s' k hs hs' hne hk hk' => ?_, ⟨.inl h.inS.1, .inl h.inS.2⟩, fun m s k hs hk => ?_⟩
 ·rw [mput_map FRec.blk]
  exact hM
 ·rw [hf, mget_mput]
  split
  ·rfl
  ·exact h.files m
 ·rw [mget_mput] at hs
  split at hs
  ·injection hs with hs
   rw [← hs]
   exact hr'
  ·exact hat m s hs
 ·rw [mget_mput] at hs hs'
  split at hs
  ·injection hs with hs
   subst hs
   rename_i hm
   rw [if_neg (fun e => hne (hm.trans e.symm))] at hs'
   have := ho k hk
   have := (h.at_ m' s' hs').lt hk'
   omega
  ·split at hs'
   ·injection hs' with hs'
    subst hs'
    have := ho k hk'
    have := (h.at_ m s hs).lt hk
    omega
   ·exact h.apart m m' s s' k hs hs' hne hk hk'
 ·rw [mget_mput] at hs
  split at hs
  ·injection hs with hs
   subst hs
   exact .inr ⟨ho k hk, hr'.lt hk⟩
  ·exact .inl (h.inR m s k hs hk)
theorem DiskIn.sub {rs' : List (Key × FRec)} (h : DiskIn w g b D rs S) (σ : Key → Key) (hσ : ∀ n r, mget rs' n = some r → mget rs (σ n) = some r) (hi : ∀ n m r s, mget rs' n = some r → mget rs' m = some s → n ≠ m → σ n ≠ σ m)
  (hc : Chg (fun k => k = g ∨ k = b) w w') (hB : Blk w' g 110 (diskCells b D')) (hM : MapAt w' b str encPtr (rs'.map fun p => (p.1, p.2.blk))) (hf : ∀ m, mget D'.files m = (mget rs' m).map FRec.f) : DiskIn w' g b D' rs' S := by
 have hat : ∀ m s, mget rs m = some s → FileAt w' s := fun m s hs => (h.at_ m s hs).chg hc (fun k hk e => e.elim (fun e => (h.ne hs).1 (by rw [← e]; exact hk)) (fun e => (h.ne hs).2 (by rw [← e]; exact hk)))
 exact ⟨hB, hM, hf, fun m s hs => hat _ s (hσ m s hs), fun m m' s s' k hs hs' hne => h.apart _ _ s s' k (hσ m s hs) (hσ m' s' hs') (hi m m' s s' hs hs' hne), h.inS, fun m s k hs hk => h.inR _ s k (hσ m s hs) hk⟩
theorem Ext.of : ∀ k, S k → Ext S w w' k := fun _ h => Or.inl h
end
end Go.Proofs.YtnlabkogebnioaaGreatDoor
namespace Go.Proofs.YtnlabkogebnioaaGreatDoor
open Go.RowKit
def WH (P : Program) (N : Nat) (ds : List Deferred) (ops : Array Oper) (Q : Env → Prop) (os : List Oper) (l : Env) (w : World) : Prop := ∀ a, Rep N ds l a → wpStill P ops w (fun a' => ∃ l', Rep N ds l' a' ∧ Q l') os a
section
variable {P : Program} {N : Nat} {ds : List Deferred} {Q : Post} {K : Env → Prop} {os rest : List Oper} {ops : Array Oper} {l : Env} {w : World} {op : Op} {ty : TypeId} {pos : String} {aft : Array Edge} {d : Nat} {v : Value}
theorem hN (h : K l) : WH P N ds ops K [] l w := fun _ ha => wpStill_nil ⟨_, ha, h⟩
theorem hY (hx : X P l op ty w v w) (hd : Nat.blt d N = true) (h : WH P N ds ops K rest ((d, v) :: l) w) : WH P N ds ops K (⟨some d, op, ty, pos, aft, none⟩ :: rest) l w := fun a ha => by
 refine wpStill_step fun K' hK' => ?_
 rw [if_pos (by rfl)]
 unfold Oper.still
 have : (execOp a.eval ⟨some d, op, ty, pos, aft, none⟩).run P w = .ok (.value v) w := hx _ ha.knows
 rw [this, Oper.stillUpon_value]
 exact hK' _ (h _ (ha.put hd v))
theorem wpStill_imp {A B : Act → Prop} (h : ∀ a, A a → B a) : ∀ (os : List Oper) (a : Act), wpStill P ops w A os a → wpStill P ops w B os a
 | [], _, hh => h _ hh
 | o :: rest, a, hh => by
  unfold wpStill at hh ⊢
  split at hh
  ·rename_i hw
   rw [if_pos hw]
   exact Oper.still_mono (fun a' h' => wpStill_imp h rest a' h') hh
  ·rename_i hw
   rw [if_neg hw]
   exact wpStill_imp h rest _ hh
theorem W_still {id : Nat} (n : Nat) (hm : P.follows .mixedOrders = true) (hB : Region.lexTailB .any os.toArray n = true)
  (h : WH P N ds os.toArray (fun l => WL P N ds os.toArray Q (os.drop n) l w.drew) (os.take n) l w.drew) : W P N ds Q (.region id os.toArray true) l w := fun a ha => by
 refine wp_region_still_tail n hm hB ?_
 have := h a ha
 refine wpStill_imp ?_ _ _ this
 rintro a' ⟨l', hr, hq⟩
 exact hq a' hr
theorem W_still_s {id : Nat} {y : Code} (n : Nat) (hm : P.follows .mixedOrders = true) (hB : Region.lexTailB .any os.toArray n = true)
  (h : WH P N ds os.toArray (fun l => WL P N ds os.toArray (thenQ (W P N ds Q y) Q) (os.drop n) l w.drew) (os.take n) l w.drew) : W P N ds Q (.seq (.region id os.toArray true) y) l w :=
 W_seq (W_still n hm hB h)
end
end Go.Proofs.YtnlabkogebnioaaGreatDoor
namespace Go.Proofs.YtnlabkogebnioaaGreatDoor
open Go.RowKit Go.Shelf
shelf_lay Lays.n160 Nm 160 at Tryz as Tryz.lays160
theorem guard_ptr {P : Program} {w : World} {t : TypeId} {o : BinOp} {p q : Option Addr} (c d : Operand) : (eqGuard o t c d (.pointer p) (.pointer q)).run P w = .ok () w := by
 unfold eqGuard
 cases o <;> simp
theorem nilEqP (w : World) (a : Addr) : (binOp .eql 41 (.pointer (some a)) (.pointer none)).run Tryz.prog w = .ok (.bool false) w := by kernel_rfl
theorem nilEqN (w : World) : (binOp .eql 41 (.pointer none) (.pointer none)).run Tryz.prog w = .ok (.bool true) w := by kernel_rfl
theorem nilEqPf (w : World) (a : Addr) : (binOp .eql 120 (.pointer (some a)) (.pointer none)).run Tryz.prog w = .ok (.bool false) w := by kernel_rfl
theorem nilEqNf (w : World) : (binOp .eql 120 (.pointer none) (.pointer none)).run Tryz.prog w = .ok (.bool true) w := by kernel_rfl
theorem nilNePf (w : World) (a : Addr) : (binOp .neq 120 (.pointer (some a)) (.pointer none)).run Tryz.prog w = .ok (.bool true) w := by kernel_rfl
theorem nilNeNf (w : World) : (binOp .neq 120 (.pointer none) (.pointer none)).run Tryz.prog w = .ok (.bool false) w := by kernel_rfl
section
variable {l : Env} {x : Operand} {w : World} {t' ty : TypeId} {a : Addr} {p : Option Addr}
theorem X.dEq (hx : ev l x = some (.pointer p)) : X Tryz.prog l (.binOp .eql 41 x (.const (.pointer none)) t') ty w (.bool p.isNone) w :=
 X.bin hx rfl guard_ptr (by cases p with | none => exact nilEqN w | some a => exact nilEqP w a)
theorem X.fEq (hx : ev l x = some (.pointer p)) : X Tryz.prog l (.binOp .eql 120 x (.const (.pointer none)) t') ty w (.bool p.isNone) w :=
 X.bin hx rfl guard_ptr (by cases p with | none => exact nilEqNf w | some a => exact nilEqPf w a)
theorem X.fNe (hx : ev l x = some (.pointer p)) : X Tryz.prog l (.binOp .neq 120 x (.const (.pointer none)) t') ty w (.bool p.isSome) w :=
 X.bin hx rfl guard_ptr (by cases p with | none => exact nilNeNf w | some a => exact nilNePf w a)
end
def lettersB : List UInt8 := [97, 98, 99, 100, 101, 102, 103, 104, 105, 106, 107, 108, 109, 110, 111, 112, 113, 114, 115, 116, 117, 118, 119, 120, 121, 122, 48, 49, 50, 51, 52, 53, 54, 55, 56, 57, 46, 45, 95]
set_option maxRecDepth 20000 in
theorem letters_has (b : UInt8) : lettersB.contains b = letterB b := by
 have h : ∀ n, n < 256 → lettersB.contains (UInt8.ofNat n) = letterB (UInt8.ofNat n) := by decide
 have := h b.toNat b.toNat_lt
 rwa [UInt8.ofNat_toNat] at this
theorem dropWhile_nil {p : UInt8 → Bool} : ∀ {l : List UInt8}, l.dropWhile p = [] ↔ l.all p = true
 | [] => by simp
 | a :: l => by
  rw [List.dropWhile_cons, List.all_cons]
  by_cases h : p a = true
  ·rw [if_pos h, dropWhile_nil, h, Bool.true_and]
  ·rw [if_neg h]
   simp [h]
theorem all_dropWhile {p : UInt8 → Bool} : ∀ (l : List UInt8), (l.dropWhile p).all p = l.all p
 | [] => rfl
 | a :: l => by
  rw [List.dropWhile_cons]
  by_cases h : p a = true
  ·rw [if_pos h, all_dropWhile, List.all_cons, h, Bool.true_and]
  ·rw [if_neg h]
theorem all_reverse' {p : UInt8 → Bool} (l : List UInt8) : l.reverse.all p = l.all p := by
 rw [List.all_reverse]
theorem trim_nil (s : List UInt8) : (Lib.trimS s lettersB = []) ↔ s.all letterB = true := by
 unfold Lib.trimS Lib.trimLeftS Lib.trimRightS
 rw [dropWhile_nil, show (fun x => lettersB.contains x) = letterB from funext letters_has, all_reverse', all_dropWhile, all_reverse']
set_option maxRecDepth 10000 in
theorem Trim_any (s : List UInt8) (w : World) (hs : s.length ≤ 9223372036854775807) :
  Calls Tryz.prog 152 #[str s, str lettersB] w fun e w' => e = .returned (str (Lib.trimS s lettersB)) ∧ Below w.heap.size w w' := by
 have := Any.strings_Trim_laid Tryz.lays160 (by kernel_rfl) ⟨s.toArray⟩ ⟨lettersB.toArray⟩ w (by show s.toArray.size ≤ _; simpa using hs) (by decide) (ascii_of_all (by decide))
 exact this
theorem nameOk_eq (s : List UInt8) : nameOk s = (decide (s ≠ []) && decide (s.length ≤ 64) && decide (Lib.trimS s lettersB = [])) := by
 unfold nameOk
 rw [show decide (Lib.trimS s lettersB = []) = s.all letterB from by rw [Bool.eq_iff_iff, decide_eq_true_eq]; exact trim_nil s]
 cases s <;> rfl
theorem named_any (s : List UInt8) (w : World) :
  Calls Tryz.prog 112 #[str s] w fun e w' => e = .returned (.bool (nameOk s)) ∧ Below w.heap.size w w' := by
 rw [nameOk_eq]
 refine W_enter (args := [str s]) 15 Tryz.func112 rfl rfl rfl (W_sub [(0, str s)] ?_ ⟨rfl, trivial⟩)
 have hbw := Below.refl w.heap.size w
 refine W_rs (sa rfl rfl (Wn (tN (W_rs (sm rfl rfl (st (X.neS rfl rfl) rfl (sb rfl rfl (fun h5 => ?_) (fun h5 => ?_))))))))
 ·first | replace h5 := of_decide_eq_true h5 | replace h5 := of_decide_eq_false (notT h5) | replace h5 := notT h5 | skip
  refine gY (g := 5) rfl rfl rfl (sm rfl rfl (gY (g := 5) rfl rfl rfl (st (X.lenS rfl rfl Tryz.underlying9) rfl (gY (g := 5) rfl rfl rfl (st (X.leq rfl rfl) rfl (st (X.pickT rfl rfl) rfl (sb rfl rfl (fun h10 => ?_) (fun h10 => ?_))))))))
  ·first | replace h10 := of_decide_eq_true h10 | replace h10 := of_decide_eq_false (notT h10) | replace h10 := notT h10 | skip
   refine gY (g := 10) rfl rfl rfl (sm rfl rfl (gY (g := 10) rfl rfl rfl (sc _ Tryz.func152 rfl (by kernel_rfl) rfl rfl ((Trim_any s _ (by omega)).mono ?_))))
   rintro e_ w1 ⟨rfl, hb⟩
   refine cR ?_
   replace hbw := bthen hbw hb
   have hz_w1 := hb.size
   clear hb
   refine gY (g := 10) rfl rfl rfl (st (X.eqS rfl rfl) rfl (st (X.pickT rfl rfl) rfl (sa rfl rfl (Wn (tN (W_ret ?_))))))
   exact (rT rfl rfl ⟨by simp [*] <;> omega, hbw⟩).1
  ·first | replace h10 := of_decide_eq_false h10 | replace h10 := of_decide_eq_true (notF h10) | replace h10 := notF h10 | skip
   refine gN (g := 10) rfl rfl rfl rfl (gN (g := 10) rfl rfl rfl rfl (gN (g := 10) rfl rfl rfl rfl (st (X.pickF rfl rfl) rfl (sa rfl rfl (Wn (tN (W_ret ?_)))))))
   exact (rT rfl rfl ⟨by simp [*] <;> omega, hbw⟩).1
 ·first | replace h5 := of_decide_eq_false h5 | replace h5 := of_decide_eq_true (notF h5) | replace h5 := notF h5 | skip
  refine gN (g := 5) rfl rfl rfl rfl (gN (g := 5) rfl rfl rfl rfl (gN (g := 5) rfl rfl rfl rfl (st (X.pickF rfl rfl) rfl (sm rfl rfl (gN (g := 10) rfl rfl rfl rfl (gN (g := 10) rfl rfl rfl rfl (gN (g := 10) rfl rfl rfl rfl (st (X.pickF rfl rfl) rfl (sa rfl rfl (Wn ?_))))))))))
  refine tN (W_ret ?_)
  exact (rT rfl rfl ⟨by simp [*] <;> omega, hbw⟩).1
theorem ready_live (g b : Nat) (D : DiskD) (rs : List (Key × FRec)) (S : Nat → Prop) (w : World) (h : DiskIn w g b D rs S) (hok : DOk D) (hl : ¬ (D.stops = true ∧ D.left = 0)) :
  Calls Tryz.prog 96 #[.pointer (some ⟨g, 0, none⟩)] w fun e w' => e = .returned (.int .i64 0) ∧ DiskIn w' g b (tickM D) rs S ∧ Chg (fun k => k = g) w w' := by
 have hB : Blk w g 110 #[.map (some b), .int .i64 D.limit, .int .i64 D.used, .int .i64 D.refused, .bool D.stops, .int .i64 D.left] := h.blk
 have hlt := hB.lt
 have hst := hok.stp
 unfold tickM
 refine W_enter (args := [.pointer (some ⟨g, 0, none⟩)]) 30 Tryz.func96 rfl rfl rfl (W_sub [(0, .pointer (some ⟨g, 0, none⟩))] ?_ ⟨rfl, trivial⟩)
 have hcw := Chg.refl (fun k => k = g) w
 refine W_rs (sa rfl rfl (Wn (tN (W_seq (W_block (W_rs (sm rfl rfl (st (X.dEq rfl) rfl (sa rfl rfl (Wn ?_))))))))))
 refine tN (W_no rfl (rfl) (W_rs (sm rfl rfl (st (X.nilChk rfl) rfl (st (X.fa fa110_4 rfl) rfl (st (X.ldL rfl hB Tryz.underlying4 rfl rfl) rfl (sb rfl rfl (fun h11 => ?_) (fun h11 => ?_))))))))
 ·first | replace h11 := of_decide_eq_true h11 | replace h11 := of_decide_eq_false (notT h11) | replace h11 := notT h11 | skip
  have hst1 := hst h11
  refine gY (g := 11) rfl rfl rfl (sm rfl rfl (gY (g := 11) rfl rfl rfl (st (X.nilChk rfl) rfl (gY (g := 11) rfl rfl rfl (st (X.fa fa110_5 rfl) rfl (gY (g := 11) rfl rfl rfl (st (X.ldL rfl hB Tryz.underlying3 rfl rfl) rfl (gY (g := 11) rfl rfl rfl (st (X.eql rfl rfl) rfl (st (X.pickT rfl rfl) rfl ?_))))))))))
  refine sa rfl rfl (Wn (tN (W_if rfl (fun h6 => ?_) (fun h6 => ?_))))
  ·first | replace h6 := of_decide_eq_true h6 | replace h6 := of_decide_eq_false (notT h6) | replace h6 := notT h6 | skip
   exact absurd ⟨h11, h6⟩ hl
  ·first | replace h6 := of_decide_eq_false h6 | replace h6 := of_decide_eq_true (notF h6) | replace h6 := notF h6 | skip
   refine W_rs (sm rfl rfl (st (X.nilChk rfl) rfl (st (X.fa fa110_4 rfl) rfl (st (X.ldL rfl hB Tryz.underlying4 rfl rfl) rfl (sa rfl rfl (Wn (tN (W_yes rfl (h11) (W_reg (sm rfl rfl ?_))))))))))
   refine st (X.nilChk rfl) rfl (st (X.fa fa110_5 rfl) rfl (st (X.ldL rfl hB Tryz.underlying3 rfl rfl) rfl (st (X.sub64 rfl rfl (by omega)) rfl (st (X.nilChk rfl) rfl (st (X.fa fa110_5 rfl) rfl (ssB rfl rfl hB siz3 rfl (by first | decide | simp) (fun w1 hB_ hc_ => ?_)))))))
   replace hB := hB_
   clear hB_
   replace hcw := hcw.next hc_ (fun i_ hi_ => by first | exact .inl hi_ | exact .inl (.inl hi_) | (right; subst hi_; omega) | (left; subst hi_; show _ ≤ _; omega) | (left; subst hi_; assumption))
   have hz_w1 := hc_.size
   clear hc_
   refine Wn (bN (tN (W_rs (sa rfl rfl (Wn (tN (W_ret ((rT rfl rfl ⟨rfl, ?_, hcw⟩).1))))))))
   rw [if_pos h11]
   exact h.self hcw hB rfl
 ·first | replace h11 := of_decide_eq_false h11 | replace h11 := of_decide_eq_true (notF h11) | replace h11 := notF h11 | skip
  refine gN (g := 11) rfl rfl rfl rfl (gN (g := 11) rfl rfl rfl rfl (gN (g := 11) rfl rfl rfl rfl (gN (g := 11) rfl rfl rfl rfl (gN (g := 11) rfl rfl rfl rfl (st (X.pickF rfl rfl) rfl (sa rfl rfl (Wn (tN (W_no rfl (rfl) (W_rs ?_))))))))))
  refine sm rfl rfl (st (X.nilChk rfl) rfl (st (X.fa fa110_4 rfl) rfl (st (X.ldL rfl hB Tryz.underlying4 rfl rfl) rfl (sa rfl rfl (Wn (tN (W_no rfl (h11) (W_skip (bN (tN ?_))))))))))
  refine W_rs (sa rfl rfl (Wn (tN (W_ret ((rT rfl rfl ⟨rfl, ?_, hcw⟩).1)))))
  rw [if_neg (by rw [h11]; decide)]
  exact h.self hcw hB rfl
theorem ready_dead (g b : Nat) (D : DiskD) (w : World) (hB : Blk w g 110 (diskCells b D)) (hl : D.stops = true ∧ D.left = 0) :
  Calls Tryz.prog 96 #[.pointer (some ⟨g, 0, none⟩)] w fun e w' => e = .returned (.int .i64 19) ∧ Below w.heap.size w w' := by
 have hB : Blk w g 110 #[.map (some b), .int .i64 D.limit, .int .i64 D.used, .int .i64 D.refused, .bool D.stops, .int .i64 D.left] := hB
 refine W_enter (args := [.pointer (some ⟨g, 0, none⟩)]) 30 Tryz.func96 rfl rfl rfl (W_sub [(0, .pointer (some ⟨g, 0, none⟩))] ?_ ⟨rfl, trivial⟩)
 have hbw := Below.refl w.heap.size w
 refine W_rs (sa rfl rfl (Wn (tN (W_seq (W_block (W_rs (sm rfl rfl (st (X.dEq rfl) rfl (sa rfl rfl (Wn ?_))))))))))
 refine tN (W_no rfl (rfl) (W_rs (sm rfl rfl (st (X.nilChk rfl) rfl (st (X.fa fa110_4 rfl) rfl (st (X.ldL rfl hB Tryz.underlying4 rfl rfl) rfl (sbY rfl (hl.1) rfl (gY (g := 11) rfl rfl rfl (sm rfl rfl (gY (g := 11) rfl rfl rfl ?_))))))))))
 refine st (X.nilChk rfl) rfl (gY (g := 11) rfl rfl rfl (st (X.fa fa110_5 rfl) rfl (gY (g := 11) rfl rfl rfl (st (X.ldL rfl hB Tryz.underlying3 rfl rfl) rfl (gY (g := 11) rfl rfl rfl (st (X.eql rfl rfl) rfl (st (X.pickT rfl rfl) rfl (sa rfl rfl (Wn (tN ?_))))))))))
 refine W_yes rfl (decide_eq_true hl.2) (W_rs (sa rfl rfl (Wn (tN (W_ret (bR (tR ?_)))))))
 exact (rT rfl rfl ⟨rfl, hbw⟩).1
theorem zptr (w : World) : (zeroValue 120).run Tryz.prog w = .ok (.pointer none) w := by kernel_rfl
theorem find_some (g b : Nat) (D : DiskD) (rs : List (Key × FRec)) (S : Nat → Prop) (n : Key) (r : FRec) (w : World) (h : DiskIn w g b D rs S) (hr : mget rs n = some r) :
  Calls Tryz.prog 57 #[.pointer (some ⟨g, 0, none⟩), str n] w fun e w' => e = .returned (.tuple #[.pointer (some ⟨r.blk, 0, none⟩), .int .i64 0]) ∧ Below w.heap.size w w' := by
 have hB : Blk w g 110 #[.map (some b), .int .i64 D.limit, .int .i64 D.used, .int .i64 D.refused, .bool D.stops, .int .i64 D.left] := h.blk
 have hM := h.map
 have hv : ((mget (rs.map fun p => (p.1, p.2.blk)) n).map encPtr).getD (.pointer none) = encPtr r.blk := by rw [mget_map, hr]; rfl
 refine W_enter (args := [.pointer (some ⟨g, 0, none⟩), str n]) 18 Tryz.func57 rfl rfl rfl (W_sub [(0, .pointer (some ⟨g, 0, none⟩)), (1, str n)] ?_ ⟨rfl, rfl, trivial⟩)
 have hbw := Below.refl w.heap.size w
 refine W_rs (sa rfl rfl (sa rfl rfl (Wn (tN (W_seq (W_rs (sm rfl rfl (st (X.dEq rfl) rfl (Wn (tN ?_))))))))))
 refine W_no rfl (rfl) (W_skip (tN (W_rs (sm rfl rfl (st (X.nilChk rfl) rfl (st (X.fa fa110_0 rfl) rfl (st (X.ldL rfl hB Tryz.underlying108 rfl rfl) rfl (sm rfl rfl (st (v := encPtr r.blk) (by rw [← hv]; exact X.look (keyStr Tryz.underlying9) rfl n rfl Tryz.underlying108 (zptr _) (hM.bel hbw)) rfl ?_)))))))))
 refine sa rfl rfl (Wn (tN (W_seq (W_rs (sm rfl rfl (st (X.fEq rfl) rfl (Wn (tN (W_no rfl (rfl) (W_skip ?_))))))))))
 refine tN (W_rs (sm rfl rfl (sa rfl rfl (sa rfl rfl (Wn (tN (W_ret ?_)))))))
 exact (rTT rfl rfl rfl ⟨rfl, hbw⟩).1
theorem find_none (g b : Nat) (D : DiskD) (rs : List (Key × FRec)) (S : Nat → Prop) (n : Key) (w : World) (h : DiskIn w g b D rs S) (hr : mget rs n = none) :
  Calls Tryz.prog 57 #[.pointer (some ⟨g, 0, none⟩), str n] w fun e w' => e = .returned (.tuple #[.pointer none, .int .i64 15]) ∧ Below w.heap.size w w' := by
 have hB : Blk w g 110 #[.map (some b), .int .i64 D.limit, .int .i64 D.used, .int .i64 D.refused, .bool D.stops, .int .i64 D.left] := h.blk
 have hM := h.map
 have hv : ((mget (rs.map fun p => (p.1, p.2.blk)) n).map encPtr).getD (.pointer none) = .pointer none := by rw [mget_map, hr]; rfl
 refine W_enter (args := [.pointer (some ⟨g, 0, none⟩), str n]) 18 Tryz.func57 rfl rfl rfl (W_sub [(0, .pointer (some ⟨g, 0, none⟩)), (1, str n)] ?_ ⟨rfl, rfl, trivial⟩)
 have hbw := Below.refl w.heap.size w
 refine W_rs (sa rfl rfl (sa rfl rfl (Wn (tN (W_seq (W_rs (sm rfl rfl (st (X.dEq rfl) rfl (Wn (tN ?_))))))))))
 refine W_no rfl (rfl) (W_skip (tN (W_rs (sm rfl rfl (st (X.nilChk rfl) rfl (st (X.fa fa110_0 rfl) rfl (st (X.ldL rfl hB Tryz.underlying108 rfl rfl) rfl (sm rfl rfl (st (v := .pointer none) (by rw [← hv]; exact X.look (keyStr Tryz.underlying9) rfl n rfl Tryz.underlying108 (zptr _) (hM.bel hbw)) rfl ?_)))))))))
 refine sa rfl rfl (Wn (tN (W_seq (W_rs (sm rfl rfl (st (X.fEq rfl) rfl (Wn (tN (W_yes rfl (rfl) (W_rs ?_))))))))))
 refine sa rfl rfl (sa rfl rfl (Wn (tN (W_ret (tR ?_)))))
 exact (rTT rfl rfl rfl ⟨rfl, hbw⟩).1
end Go.Proofs.YtnlabkogebnioaaGreatDoor
namespace Go.Proofs.YtnlabkogebnioaaGreatDoor
open Go.RowKit
section
variable {P : Program} {l : Env} {w : World} {ty t e : TypeId} {x y z : Operand} {k k' : IntKind} {m m' : Int} {a : Option Addr} {n c size : Nat}
theorem elem_of (hu : P.underlying t = some (.slice e)) : P.elem t = e := by
 unfold Program.elem
 rw [hu]
theorem size_of (hi : (P.info? e).map (·.size) = some size) : (sizeOf e).run P w = .ok size w := by
 obtain ⟨q, hq, hs⟩ := Option.map_eq_some_iff.1 hi
 simp [sizeOf, typeInfo, hq, hs]
theorem X.fromL {i : Nat} (hx : ev l x = some (.slice a n c)) (hy : ev l y = some (.int k m)) (hu : P.underlying t = some (.slice e)) (hi : (P.info? e).map (·.size) = some size) (hm : m = (i : Int)) (hin : i ≤ n) : X P l (.slice t x (some y) none none) ty w (sliced a i n c size) w := fun ρ hρ => by
 subst hm
 have he := elem_of hu
 have := run_slice_l (P := P) w t a n c (by rw [he]; exact hu) k (i : Int) (by omega) (by omega)
 unfold execOp
 simp [hρ _ _ hx, hρ _ _ hy, Instr.sliceAt, run_underlying hu, this, he, size_of hi, Result.andThen]
theorem X.cutL {i j : Nat} (hx : ev l x = some (.slice a n c)) (hy : ev l y = some (.int k m)) (hz : ev l z = some (.int k' m')) (hu : P.underlying t = some (.slice e)) (hi : (P.info? e).map (·.size) = some size) (hm : m = (i : Int)) (hm' : m' = (j : Int)) (hij : i ≤ j) (hin : j ≤ c) : X P l (.slice t x (some y) (some z) none) ty w (sliced a i j c size) w := fun ρ hρ => by
 subst hm hm'
 have he := elem_of hu
 have := run_slice_lh (P := P) w t a n c (by rw [he]; exact hu) k k' (i : Int) (j : Int) (by omega) (by omega) (by omega)
 unfold execOp
 simp [hρ _ _ hx, hρ _ _ hy, hρ _ _ hz, Instr.sliceAt, run_underlying hu, this, he, size_of hi, Result.andThen]
theorem X.fullL {j : Nat} (hx : ev l x = some (.slice a n c)) (hy : ev l y = some (.int k m)) (hz : ev l z = some (.int k' m')) (hu : P.underlying t = some (.slice e)) (hi : (P.info? e).map (·.size) = some size) (hm : m = (j : Int)) (hm' : m' = (j : Int)) (hin : j ≤ c) : X P l (.slice t x none (some y) (some z)) ty w (sliced a 0 j j size) w := fun ρ hρ => by
 subst hm hm'
 have he := elem_of hu
 have := run_slice_hm (P := P) w t a n c (by rw [he]; exact hu) k k' (j : Int) (j : Int) (by omega) (by omega) (by omega)
 unfold execOp
 simp [hρ _ _ hx, hρ _ _ hy, hρ _ _ hz, Instr.sliceAt, run_underlying hu, this, he, size_of hi, Result.andThen]
theorem X.min2 {p q r : Int} {ats : Array TypeId} (hx : ev l x = some (.int k p)) (hy : ev l y = some (.int k' q)) (hr : r = (if q < p then q else p)) : X P l (.call { callee := .builtin .min, args := #[x, y], argTypes := ats }) ty w (.int k r) w := fun ρ hρ => by
 subst hr
 unfold execOp
 simp only [resolve, invoke, builtin, Sem.run_bind, Sem.run_pure, Result.andThen_ok, List.map_toArray, List.map_cons, List.map_nil, hρ _ _ hx, hρ _ _ hy, run_min_int2]
theorem X.max2 {p q r : Int} {ats : Array TypeId} (hx : ev l x = some (.int k p)) (hy : ev l y = some (.int k' q)) (hr : r = (if q > p then q else p)) : X P l (.call { callee := .builtin .max, args := #[x, y], argTypes := ats }) ty w (.int k r) w := fun ρ hρ => by
 subst hr
 unfold execOp
 simp only [resolve, invoke, builtin, Sem.run_bind, Sem.run_pure, Result.andThen_ok, List.map_toArray, List.map_cons, List.map_nil, hρ _ _ hx, hρ _ _ hy, run_max_int2]
end
theorem sliced_zero (a : Option Addr) (n c s : Nat) : sliced a 0 n c s = .slice a n c := by
 unfold sliced
 cases a with
 | none => simp
 | some a => simp [Addr.add]
theorem Row.full {w : World} {e : TypeId} {size n c : Nat} {a : Option Addr} {xs : List Value} (h : Row w e size (.slice a n c) n xs) : Row w e size (.slice a n n) n xs := by
 refine ⟨h.1, ?_⟩
 rcases h.2 with ⟨hv, h0⟩ | ⟨g, off, cap, cur, fz, hv, hg, h1, h2, h3, h4, h5⟩
 ·injection hv with e1 e2 e3
  subst e1 e2
  exact .inl ⟨rfl, rfl⟩
 ·injection hv with e1 _ e3
  subst e1 e3
  have : n * size ≤ c * size := Nat.mul_le_mul_right _ h1
  exact .inr ⟨g, off, n, cur, fz, rfl, hg, Nat.le_refl _, by omega, by omega, h4, h5⟩
theorem Row.store_ {w : World} {e : TypeId} {n cap g o : Nat} {xs : List Value} (h : Row w e 1 (.slice (some ⟨g, o, none⟩) n cap) n xs) (j : Nat) (hj : j < n) (u : Value) : Row (w.setCell ⟨g, o + j, none⟩ u) e 1 (.slice (some ⟨g, o, none⟩) n cap) n (xs.set j u) := by
 refine ⟨by rw [List.length_set]; exact h.1, ?_⟩
 rcases h.2 with ⟨h0, _⟩ | ⟨g', off, cap', cur, fz, hv, hg, h1, h2, h3, h4, h5⟩
 ·cases h0
 ·injection hv with ha _ hc
  subst hc
  injection ha with ha
  injection ha with hg' ho
  subst hg'
  subst ho
  refine .inr ⟨g, o, cap, cur.setIfInBounds (o + j) u, fz, rfl, by simp [World.setCell, Array.getElem?_modify, hg], h1, h2, by simpa using h3, ?_, fun j hj => h5 j (by simpa using hj)⟩
  rw [← h4]
  apply List.ext_getElem?
  intro i
  have hl := h.1
  rw [← h4] at hl
  rw [List.getElem?_take, List.getElem?_set]
  simp only [Nat.mul_one] at *
  by_cases hi : i < n
  ·rw [if_pos hi, List.getElem?_drop, Array.getElem?_toList, Array.getElem?_setIfInBounds]
   by_cases hij : j = i
   ·subst hij
    rw [if_pos rfl, if_pos (by omega), if_pos rfl, if_pos (by omega)]
   ·rw [if_neg (by omega), if_neg hij, List.getElem?_take, if_pos hi, List.getElem?_drop, Array.getElem?_toList]
  ·rw [if_neg hi, if_neg (by omega), List.getElem?_take, if_neg hi]
theorem Row.stores {e : TypeId} {n cap g o : Nat} : ∀ (vs : List Value) {w : World} {xs : List Value} (_ : Row w e 1 (.slice (some ⟨g, o, none⟩) n cap) n xs) (i : Nat) (_ : i + vs.length ≤ n), Row (w.setCells g (o + i) vs) e 1 (.slice (some ⟨g, o, none⟩) n cap) n (xs.take i ++ vs ++ xs.drop (i + vs.length))
 | [], w, xs, h, i, _ => by
  simp only [List.append_nil, List.length_nil, Nat.add_zero, List.take_append_drop]
  exact h
 | v :: vs, w, xs, h, i, hi => by
  have hl := h.1
  simp only [List.length_cons] at hi
  have h1 := h.store_ i (by omega) v
  have ih := Row.stores vs h1 (i + 1) (by omega)
  have e1 : (xs.set i v).take (i + 1) = xs.take i ++ [v] := by
   rw [List.set_eq_take_append_cons_drop, if_pos (by omega), List.take_append, List.length_take, Nat.min_eq_left (by omega), List.take_of_length_le (by rw [List.length_take]; omega), show i + 1 - i = 1 by omega]
   simp
  have e2 : (xs.set i v).drop (i + 1 + vs.length) = xs.drop (i + (vs.length + 1)) := by
   rw [List.set_eq_take_append_cons_drop, if_pos (by omega), List.drop_append, List.length_take, Nat.min_eq_left (by omega), List.drop_of_length_le (by rw [List.length_take]; omega), show i + 1 + vs.length - i = vs.length + 1 by omega, List.drop_succ_cons, List.drop_drop, List.nil_append]
   congr 1
   omega
  rw [e1, e2] at ih
  simp only [List.length_cons, List.append_assoc, List.singleton_append] at ih ⊢
  exact ih
section
variable {P : Program} {N : Nat} {ds : List Deferred} {Q : Post} {l : Env} {w : World} {ops : Array Oper} {rest : List Oper} {x y : Operand} {ty t : TypeId} {pos : String} {aft : Array Edge} {d n c : Nat}
theorem scpW {e tx : TypeId} {s : List UInt8} {i : Nat} {a : Option Addr} {xs : List Value} (hx : ev l x = some (sliced a i n c 1)) (hy : ev l y = some (str s)) (hu : P.underlying t = some (.slice e)) (hi : (P.info? e).map (·.size) = some 1) (hR : Row w e 1 (.slice a n c) n xs) (hl : i + s.length ≤ n) (hd : Nat.blt d N = true)
  (h : ∀ w', Row w' e 1 (.slice a n c) n (xs.take i ++ s.map bv ++ xs.drop (i + s.length)) → Chg (fun k => (Value.slice a n c).ownBlock = some k) w w' → WL P N ds ops Q rest ((d, .int .i64 s.length) :: l) w') :
  WL P N ds ops Q (⟨some d, .call { callee := .builtin .copy, args := #[x, y], argTypes := #[t, tx] }, ty, pos, aft, none⟩ :: rest) l w := by
 obtain ⟨q, hq, hq1⟩ := Option.map_eq_some_iff.1 hi
 have e1 : (Builtin.lenOf (str s)).run P w = .ok s.length w := by simp [Builtin.lenOf, str]; rfl
 have hfc : (Builtin.firstCells 1 s.length (str s)).run P w = .ok (s.map bv).toArray w := by
  simp [Builtin.firstCells, str]
  exact fun _ _ => rfl
 have hmin : Nat.min s.length (n - i) = s.length := Nat.min_eq_left (by omega)
 have key : ∀ w', (match (if c = i then a else a.map (·.add (i * 1))) with | some b => (storeCells b (s.map bv)).run P w | none => .ok () w) = .ok () w' → Row w' e 1 (.slice a n c) n (xs.take i ++ s.map bv ++ xs.drop (i + s.length)) → Chg (fun k => (Value.slice a n c).ownBlock = some k) w w' →
   WL P N ds ops Q (⟨some d, .call { callee := .builtin .copy, args := #[x, y], argTypes := #[t, tx] }, ty, pos, aft, none⟩ :: rest) l w := fun w' hst hR' hC => by
  have hr : (Builtin.copy_ #[t, tx] ty #[sliced a i n c 1, str s]).run P w = .ok (.int .i64 s.length) w' := by
   unfold Builtin.copy_ sliced
   simp only [List.getElem?_toArray, List.getElem?_cons_zero, List.getElem?_cons_succ, Sem.run_bind, run_underlying hu, Result.andThen_ok, e1, hmin, sizeOf, typeInfo]
   cases hb : (if c = i then a else a.map (·.add (i * 1))) with
   | none =>
    rw [hb] at hst
    injection hst with _ hst
    subst hst
    simp [hq, hq1, hfc, goInt]
   | some b =>
    rw [hb] at hst
    simp [hq, hq1, hfc, hst, goInt]
  refine st (fun ρ hρ => ?_) hd (h _ hR' hC)
  unfold execOp
  simp only [resolve, invoke, builtin, Sem.run_bind, Sem.run_pure, Result.andThen_ok, List.map_toArray, List.map_cons, List.map_nil, hρ _ _ hx, hρ _ _ hy, hr]
 rcases Nat.eq_zero_or_pos s.length with h0 | h0
 ·obtain rfl : s = [] := List.eq_nil_of_length_eq_zero h0
  refine key w ?_ (by simpa using hR) (Chg.refl _ _)
  split <;> rfl
 ·obtain ⟨g, off, cap, hv, hg, h1, h2, hc, hf⟩ := hR.form (by omega)
  injection hv with ea _ ec
  subst ea ec
  have hlen := hR.1
  have hst := run_storeCells_cells (P := P) g (off + i) (s.map bv) 0 w (fun j hj => by
   rw [List.length_map] at hj
   rw [show off + i + 0 + j = off + (i + j) by omega, hc (i + j) _ (List.getElem?_eq_getElem (by omega))]
   rfl) (fun j hj => by
   rw [List.length_map] at hj
   rw [show off + i + 0 + j = off + (i + j) by omega]
   exact hf (i + j) (by omega)) (bv_one s)
  rw [Nat.add_zero] at hst
  obtain ⟨k1, k2, k3, k4, k5⟩ := setCells_keep g (s.map bv) (off + i) w
  refine key (w.setCells g (off + i) (s.map bv)) ?_ ?_ ⟨k1, k2, k3, by omega, fun k _ hk => k5 k (by rintro rfl; exact hk (by simp [Value.ownBlock]))⟩
  ·rw [if_neg (by omega)]
   simp only [Option.map_some, Addr.add_mid, Nat.mul_one]
   exact hst
  ·have := hR.stores (s.map bv) i (by rw [List.length_map]; omega)
   rwa [List.length_map] at this
end
end Go.Proofs.YtnlabkogebnioaaGreatDoor
namespace Go.Proofs.YtnlabkogebnioaaGreatDoor
open Go.RowKit
theorem over_any (v : Value) (l : List UInt8) (at_ : Nat) (d : List UInt8) (w : World) (hR : Row w 5 1 v l.length (l.map bv)) (hat : at_ ≤ l.length) (hlen : at_ + d.length ≤ 70368744177664) (hll : l.length ≤ 70368744177664) :
  Calls Tryz.prog 118 #[v, .int .i64 at_, str d] w fun e w' => ∃ v', e = .returned v' ∧ Row w' 5 1 v' (overM l at_ d).length ((overM l at_ d).map bv) ∧ Chg (fun k => v.ownBlock = some k) w w' ∧ ∀ k, v'.ownBlock = some k → v.ownBlock = some k ∨ w.heap.size ≤ k := by
 obtain ⟨a0, c0, rfl, hc0, _⟩ := hR.shape
 refine W_enter (args := [.slice a0 l.length c0, .int .i64 at_, str d]) 23 Tryz.func118 rfl rfl rfl (W_sub [(0, .slice a0 l.length c0), (1, .int .i64 at_), (2, str d)] ?_ ⟨rfl, rfl, rfl, trivial⟩)
 have hcw := Chg.refl (fun k => (Value.slice a0 l.length c0).ownBlock = some k) w
 refine W_rs (sa rfl rfl (Wn (tN (W_seq (W_block (W_lp (fun nw1_ lw1_ w1 => ∃ j : Nat, ∃ a : Option Addr, ∃ c : Nat, nw1_ = (at_ + d.length - l.length) - j ∧ lw1_ = ([(0, .slice a (l.length + j) c), (1, .int .i64 at_), (2, str d)] : Env) ∧ (j ≤ at_ + d.length - l.length) ∧ (Chg (fun k => (Value.slice a0 l.length c0).ownBlock = some k) w w1) ∧ (Row w1 5 1 (.slice a (l.length + j) c) (l.length + j) ((l ++ List.replicate j 0).map bv)) ∧ (∀ k, (Value.slice a (l.length + j) c).ownBlock = some k → (Value.slice a0 l.length c0).ownBlock = some k ∨ w.heap.size ≤ k)) _ ⟨_, ⟨0, a0, c0, rfl, rfl, by omega, hcw, by simpa using hR, fun k hk => .inl hk⟩, ⟨rfl, rfl, rfl, trivial⟩⟩ ?_))))))
 clear hcw
 rintro nw1_ lw1_ w1 ⟨j, a, c, rfl, rfl, hj, hcw, hR, hO⟩
 refine W_seq (W_rs (sm rfl rfl (st (X.lenL rfl rfl Tryz.underlying123) rfl (sm rfl rfl (sm rfl rfl (st (X.lenS rfl rfl Tryz.underlying9) rfl (st (X.add64 rfl rfl (by omega)) rfl (st (X.lss rfl rfl) rfl (Wn (tN ?_))))))))))
 refine W_if rfl (fun h13 => ?_) (fun h13 => ?_)
 ·first | replace h13 := of_decide_eq_true h13 | replace h13 := of_decide_eq_false (notT h13) | replace h13 := notT h13 | skip
  refine W_skip (tN (W_block (W_reg (sm rfl rfl (sbs1 rfl Tryz.underlying123 inf5 rfl rfl (by decide) (by decide) rfl (fun g15 w2 hR15 hg15 hb => ?_))))))
  replace hcw := hcw.then_below hb
  replace hR := hR.bel hb
  have hz_w2 := hb.size
  clear hb
  have hl15 := hR15.blt (by decide)
  refine sapp rfl rfl Tryz.underlying123 inf5 rfl (by decide) hR (hR15.src Tryz.underlying123 (bv_one [0])) (by simp only [maxLen]; omega) (by omega) rfl (fun v' w3 hR2 hC2 hv => ?_)
  obtain ⟨a', c', rfl, _, _⟩ := hR2.shape
  have hzz := hcw.size
  replace hcw := hcw.next hC2 (fun i hi => hO i hi)
  replace hO : ∀ k, (Value.slice a' (l.length + (j + 1)) c').ownBlock = some k → (Value.slice a0 l.length c0).ownBlock = some k ∨ w.heap.size ≤ k := fun k hk => by
   rcases hv with hv | hv
   ·exact hO k (hv.symm.trans hk)
   ·rw [show (Value.slice a' (l.length + (j + 1)) c').ownBlock = _ from hv] at hk
    injection hk with hk
    omega
  replace hR : Row w3 5 1 (.slice a' (l.length + (j + 1)) c') (l.length + (j + 1)) ((l ++ List.replicate (j + 1) 0).map bv) := by
   rw [List.replicate_succ', ← List.append_assoc, List.map_append]
   exact hR2
  refine sa rfl rfl (Wn (bN (tN ⟨_, _, ?_, ⟨j + 1, a', c', rfl, rfl, by omega, hcw, hR, hO⟩, ⟨rfl, rfl, rfl, trivial⟩⟩)))
  omega
 ·first | replace h13 := of_decide_eq_false h13 | replace h13 := of_decide_eq_true (notF h13) | replace h13 := notF h13 | skip
  have hj2 : j = at_ + d.length - l.length := by omega
  refine W_exit (tE (tE (bH (tN (W_rs (sm rfl rfl (sm rfl rfl (st (X.fromL (i := at_) rfl rfl Tryz.underlying123 siz5 rfl (by omega)) rfl (sm rfl rfl (scpW (i := at_) rfl rfl Tryz.underlying123 siz5 hR (by omega) rfl (fun w4 hR3 hC3 => ?_)))))))))))
  replace hcw := hcw.next hC3 (fun i hi => hO i hi)
  refine Wn (tN (W_rs (sm rfl rfl (sa rfl rfl (Wn (tN (W_ret ((rT rfl rfl ⟨_, rfl, ?_, hcw, hO⟩).1))))))))
  have e1 : l.length + j = (overM l at_ d).length := by rw [overM_length hat]; omega
  have e2 : ((l ++ List.replicate j 0).map bv).take at_ ++ d.map bv ++ ((l ++ List.replicate j 0).map bv).drop (at_ + d.length) = (overM l at_ d).map bv := by
   unfold overM
   rw [List.map_append, List.map_append, List.take_append_of_le_length (by simpa using hat), ← List.map_take]
   by_cases hz : at_ + d.length ≤ l.length
   ·obtain rfl : j = 0 := by omega
    simp
   ·rw [List.drop_of_length_le (by simp; omega), List.drop_of_length_le (by omega)]
    simp
  rw [e2] at hR3
  rw [← e1]
  exact hR3
theorem Row.one1 {w : World} {e : TypeId} {size n : Nat} {v : Value} {xs : List Value} (h : Row w e size v n xs) : v.oneCell' = true := by
 obtain ⟨a, c, rfl, _⟩ := h.shape
 rfl
theorem bslB (w : World) : (Instr.buildSlice 123 0 #[]).run Tryz.prog w = .ok (.slice (some ⟨w.heap.size, 0, none⟩) 0 0) (w.alloc (.cells #[] 5)) := by kernel_rfl
theorem X.slNil {P : Program} {l : Env} {x : Operand} {w : World} {t t' ty e : TypeId} {a : Option Addr} {n c : Nat} (hu : P.underlying t = some (.slice e)) (hx : ev l x = some (.slice a n c)) : X P l (.binOp .eql t x (.const (.slice none 0 0)) t') ty w (.bool a.isNone) w :=
 X.bin hx rfl (fun _ _ => by unfold eqGuard; simp) (Lib.run_eql_slice_nil w _ _ a n c 0 0 hu)
theorem CloneB_any (v : Value) (l : List UInt8) (w : World) (hR : Row w 5 1 v l.length (l.map bv)) (hl : l.length ≤ 70368744177664) :
  Calls Tryz.prog 103 #[v] w fun e w' => ∃ v', e = .returned v' ∧ Row w' 5 1 v' l.length (l.map bv) ∧ (∀ k, v'.ownBlock = some k → w.heap.size ≤ k) ∧ Below w.heap.size w w' := by
 obtain ⟨a, c, rfl, _, _⟩ := hR.shape
 refine W_enter (args := [.slice a l.length c]) 8 Tryz.func103 rfl rfl rfl (W_sub [(0, .slice a l.length c)] ?_ ⟨rfl, trivial⟩)
 have hbw := Below.refl w.heap.size w
 refine W_rs (sa rfl rfl (Wn (tN (W_seq (W_rs (sm rfl rfl (st (X.slNil Tryz.underlying123 rfl) rfl (Wn (tN (W_if rfl (fun h4 => ?_) (fun h4 => ?_)))))))))))
 ·first | replace h4 := of_decide_eq_true h4 | replace h4 := of_decide_eq_false (notT h4) | replace h4 := notT h4 | skip
  obtain rfl : a = none := Option.isNone_iff_eq_none.1 h4
  have h0 : l = [] := by
   rcases hR.2 with ⟨_, h0⟩ | ⟨g, off, cap, cur, fz, hv, _⟩
   ·exact List.eq_nil_of_length_eq_zero h0
   ·cases hv
  refine W_rs (sa rfl rfl (Wn (tN (W_ret (tR ?_)))))
  subst h0
  exact (rT rfl rfl ⟨_, rfl, Row.nil _ _ _, fun k hk => by simp [Value.ownBlock] at hk, hbw⟩).1
 ·first | replace h4 := of_decide_eq_false h4 | replace h4 := of_decide_eq_true (notF h4) | replace h4 := notF h4 | skip
  refine W_skip (tN (W_rs (sbs (ps := []) (vs := []) (cs := #[]) 1 rfl (bslB _) (by simp [maxLen]) rfl rfl (fun g5 w1 hR5 hg5 hb => ?_))))
  replace hbw := bthen hbw hb
  have hz5 := hb.size
  clear hb
  refine sm rfl rfl (sapp rfl rfl Tryz.underlying123 inf5 rfl (by decide) hR5 ((hR.bel hbw).src Tryz.underlying123 (bv_one l)) (by simp only [maxLen]; omega) (by omega) rfl (fun v' w2 hR2 hC2 hv => ?_))
  have hO : ∀ k, v'.ownBlock = some k → w.heap.size ≤ k := own_next hv (fun k hk => by simp [Value.ownBlock] at hk; omega) (by omega)
  replace hbw := bapp hbw hC2 (fun k hk => by simp [Value.ownBlock] at hk; omega)
  refine sa rfl rfl (Wn (tN (W_ret ((rT rfl rfl ⟨v', rfl, ?_, hO, hbw⟩).1))))
  rw [Nat.zero_add] at hR2
  exact hR2
theorem lasts_any (g : Nat) (vl vn vp : Value) (l : List UInt8) (w : World) (hB : Blk w g 126 #[vl, vn, vp]) (hN : Row w 5 1 vn l.length (l.map bv)) (hl : l.length ≤ 70368744177664) :
  Calls Tryz.prog 59 #[.pointer (some ⟨g, 0, none⟩)] w fun e w' => e = .returned (.tuple #[]) ∧ ∃ vl', Blk w' g 126 #[vl', vn, .slice none 0 0] ∧ Row w' 5 1 vl' l.length (l.map bv) ∧ Row w' 5 1 vn l.length (l.map bv) ∧ (∀ k, vl'.ownBlock = some k → w.heap.size ≤ k) ∧ Chg (fun k => k = g) w w' := by
 have hlt := hB.lt
 refine W_enter (args := [.pointer (some ⟨g, 0, none⟩)]) 13 Tryz.func59 rfl rfl rfl (W_sub [(0, .pointer (some ⟨g, 0, none⟩))] ?_ ⟨rfl, trivial⟩)
 have hcw := Chg.refl (fun k => k = g) w
 refine W_reg (sm rfl rfl (sm rfl rfl (sm rfl rfl (st (X.nilChk rfl) rfl (st (X.fa fa126_1 rfl) rfl (st (X.ldL rfl hB Tryz.underlying123 rfl rfl) rfl (sc _ Tryz.func103 rfl (by kernel_rfl) rfl rfl ((CloneB_any vn l _ hN hl).mono ?_))))))))
 rintro e_ w1 ⟨v', rfl, hV, hO, hb⟩
 refine cR ?_
 replace hcw := hcw.then_below hb
 replace hN := hN.bel hb
 replace hB := hB.bel hb
 have hz_w1 := hb.size
 clear hb
 refine st (X.nilChk rfl) rfl (st (X.fa fa126_0 rfl) rfl (ssB rfl rfl hB siz123 hV.one1 (by simp) (fun w2 hB1 hC1 => ?_)))
 replace hV := hV.chg hC1 (fun k hk e => hV.ne_ hB (by decide) (by rw [← e]; exact hk))
 replace hN := hN.chg hC1 (fun k hk e => hN.ne_ hB (by decide) (by rw [← e]; exact hk))
 replace hcw := hcw.next hC1 (fun i hi => .inl hi)
 refine st (X.nilChk rfl) rfl (st (X.fa fa126_2 rfl) rfl (ssB rfl rfl hB1 siz124 rfl (by simp) (fun w3 hB2 hC2 => ?_)))
 replace hV := hV.chg hC2 (fun k hk e => hV.ne_ hB1 (by decide) (by rw [← e]; exact hk))
 replace hN := hN.chg hC2 (fun k hk e => hN.ne_ hB1 (by decide) (by rw [← e]; exact hk))
 replace hcw := hcw.next hC2 (fun i hi => .inl hi)
 refine Wn ?_
 exact (r0 rfl ⟨rfl, v', hB2, hV, hN, hO, hcw⟩).2
end Go.Proofs.YtnlabkogebnioaaGreatDoor
namespace Go.Proofs.YtnlabkogebnioaaGreatDoor
open Go.RowKit
theorem bwrite (i : Int) (s : List UInt8) (w : World) : (Instr.build 191 #[(0, .int .i64 i), (1, str s)]).run Tryz.prog w = .ok (.agg #[.int .i64 i, str s]) w := by kernel_rfl
theorem Row.ne2 {w : World} {e : TypeId} {size n : Nat} {v : Value} {xs : List Value} {g : Nat} {t : TypeId} {cs : Array Value} (h : Row w e size v n xs) (hB : Blk w g t cs) (hne : e ≠ t) : ∀ k, v.ownBlock = some k → ¬ k = g :=
 fun k hk e => h.ne_ hB hne (by rw [← e]; exact hk)
theorem own_slice (a : Option Addr) (n c n' c' : Nat) : (Value.slice a n c).ownBlock = (Value.slice a n' c').ownBlock := by cases a <;> rfl
set_option maxRecDepth 10000 in
set_option maxHeartbeats 1000000 in
theorem put_any (g b : Nat) (D : DiskD) (rs : List (Key × FRec)) (S : Nat → Prop) (n : Key) (r : FRec) (at_ : Nat) (d : List UInt8) (w : World) (h : DiskIn w g b D rs S) (hok : DOk D) (hr : mget rs n = some r) (hat : at_ ≤ r.f.now.length) (hd : d.length ≤ 1099511627776) (hp : r.f.pend.length ≤ 1099511627776) (href : D.refused ≤ 4611686018427387904) :
  Calls Tryz.prog 97 #[.pointer (some ⟨g, 0, none⟩), .pointer (some ⟨r.blk, 0, none⟩), .int .i64 at_, str d] w fun e w' => e = .returned (.int .i64 (putM D n r.f at_ d).1) ∧ DiskAt w' g (putM D n r.f at_ d).2 (Ext S w w') ∧ Chg S w w' := by
 have hB : Blk w g 110 #[.map (some b), .int .i64 D.limit, .int .i64 D.used, .int .i64 D.refused, .bool D.stops, .int .i64 D.left] := h.blk
 have hlt := hB.lt
 have hfile := h.at_ n r hr
 have hfn : mget D.files n = some r.f := by rw [h.files, hr]; rfl
 have hF := hfile.blk
 have hflt := hF.lt
 have hgf : r.blk ≠ g := fun e => (h.ne hr).1 (.inl e.symm)
 have hNo := hfile.now
 have hLa := hfile.last
 have hPe := hfile.pend
 obtain ⟨hn1, hn2, hn3⟩ := hok.len hfn
 have hlim := hok.lim
 have hroom := hok.room
 have hused := hok.used
 have href0 := hok.ref
 obtain ⟨an, cn, hvn, hcn, hcn2⟩ := hNo.shape
 obtain ⟨ap, cp, hvp, hcp, hcp2⟩ := hPe.shape
 have hS1 : ∀ k, (k = g ∨ r.owns k) → S k := fun k hk => hk.elim (fun e => e ▸ h.inS.1) (h.inR n r k hr)
 rw [hvn] at hNo hF
 rw [hvp] at hPe hF
 have hmz : (moreM r.f at_ d : Int) = if (0 : Int) > (at_ : Int) + d.length - r.f.now.length then 0 else (at_ : Int) + d.length - r.f.now.length := by unfold moreM; split <;> omega
 have hml : moreM r.f at_ d ≤ d.length := by unfold moreM; omega
 refine W_enter (args := [.pointer (some ⟨g, 0, none⟩), .pointer (some ⟨r.blk, 0, none⟩), .int .i64 at_, str d]) 80 Tryz.func97 rfl rfl rfl (W_sub [(0, .pointer (some ⟨g, 0, none⟩)), (1, .pointer (some ⟨r.blk, 0, none⟩)), (2, .int .i64 at_), (3, str d)] ?_ ⟨rfl, rfl, rfl, rfl, trivial⟩)
 have hcw := Chg.refl (fun k => k = g ∨ r.owns k) w
 refine W_rs (sa rfl rfl (Wn (tN (W_seq (W_rs (sm rfl rfl (st (X.eqS rfl rfl) rfl (Wn (tN (W_if rfl (fun h12 => ?_) (fun h12 => ?_)))))))))))
 ·first | replace h12 := of_decide_eq_true h12 | replace h12 := of_decide_eq_false (notT h12) | replace h12 := notT h12 | skip
  refine W_rs (sa rfl rfl (Wn (tN (W_ret (tR ?_)))))
  subst h12
  refine (rT rfl rfl ⟨rfl, ⟨b, rs, ?_⟩, Chg.refl _ _⟩).1
  exact h.mono Ext.of
 ·first | replace h12 := of_decide_eq_false h12 | replace h12 := of_decide_eq_true (notF h12) | replace h12 := notF h12 | skip
  refine W_skip (tN (W_rs (sm rfl rfl (sm rfl rfl (st (X.lenS rfl rfl Tryz.underlying9) rfl (st (X.add64 rfl rfl (by omega)) rfl (sm rfl rfl (st (X.nilChk rfl) rfl (st (X.fa fa126_1 rfl) rfl (st (X.ldL rfl hF Tryz.underlying123 rfl rfl) rfl ?_))))))))))
  refine st (X.lenL rfl rfl Tryz.underlying123) rfl (st (X.sub64 rfl rfl (by omega)) rfl (st (X.max2 (r := (moreM r.f at_ d : Nat)) rfl rfl hmz) rfl (sa rfl rfl (Wn (tN (W_seq (W_still_s 10 (by kernel_rfl) (by kernel_rfl) ?_)))))))
  obtain ⟨w1, hw_⟩ : ∃ w1 : World, w1 = World.drew w := ⟨_, rfl⟩
  rw [← hw_]
  have hb : Below w.heap.size w w1 := by rw [hw_]; exact bdrew (Below.refl _ _)
  clear hw_
  replace hcw := hcw.then_below hb
  replace hB := hB.bel hb
  replace hF := hF.bel hb
  replace hNo := hNo.bel hb
  replace hLa := hLa.bel hb
  replace hPe := hPe.bel hb
  have hz_w1 := hb.size
  clear hb
  refine hY (X.move rfl) rfl (hY (X.nilChk rfl) rfl (hY (X.fa fa110_2 rfl) rfl (hY (X.ldL rfl hB Tryz.underlying3 rfl rfl) rfl (hY (X.move rfl) rfl (hY (X.add64 rfl rfl (by omega)) rfl (hY (X.move rfl) rfl (hY (X.nilChk rfl) rfl (hY (X.fa fa110_1 rfl) rfl (hY (X.ldL rfl hB Tryz.underlying3 rfl rfl) rfl (hN ?_))))))))))
  refine st (X.gtr rfl rfl) rfl (Wn (tN (W_if rfl (fun h34 => ?_) (fun h34 => ?_))))
  ·first | replace h34 := of_decide_eq_true h34 | replace h34 := of_decide_eq_false (notT h34) | replace h34 := notT h34 | skip
   refine W_rs (sm rfl rfl (st (X.nilChk rfl) rfl (st (X.fa fa110_3 rfl) rfl (st (X.ldL rfl hB Tryz.underlying3 rfl rfl) rfl (st (X.add64 rfl rfl (by omega)) rfl (st (X.nilChk rfl) rfl (st (X.fa fa110_3 rfl) rfl (ssB rfl rfl hB siz3 rfl (by simp) (fun w2 hB2 hC2 => ?_)))))))))
   replace hLa := hLa.chg hC2 (hLa.ne2 hB (by decide))
   replace hPe := hPe.chg hC2 (hPe.ne2 hB (by decide))
   replace hNo := hNo.chg hC2 (hNo.ne2 hB (by decide))
   replace hF := hF.chg hC2 hgf
   replace hcw := hcw.next hC2 (fun i hi => .inl (.inl hi))
   refine Wn (tN (W_rs (sa rfl rfl (Wn (tN (W_ret (tR ?_)))))))
   have e1 : putM D n r.f at_ d = (17, { D with refused := D.refused + 1 }) := by unfold putM; rw [if_neg h12, if_pos (by omega)]
   rw [e1]
   refine (rT rfl rfl ⟨rfl, ⟨b, _, h.file (r' := r) hr hcw hB2 ?_ ⟨by rw [hvn, hvp]; exact hF, hLa, by rw [hvn]; exact hNo, by rw [hvp]; exact hPe, hfile.apart⟩ rfl (fun k hk => .inl hk)⟩, hcw.mono (fun k _ hk => hS1 k hk)⟩).1
   intro m
   show mget D.files m = _
   split
   ·rename_i hm
    rw [hm, hfn]
   ·rfl
  ·first | replace h34 := of_decide_eq_false h34 | replace h34 := of_decide_eq_true (notF h34) | replace h34 := notF h34 | skip
   refine W_skip (tN (W_rs (sm rfl rfl (sm rfl rfl (st (X.nilChk rfl) rfl (st (X.fa fa126_1 rfl) rfl (st (X.ldL rfl hF Tryz.underlying123 rfl rfl) rfl (sm rfl rfl (sm rfl rfl (sc _ Tryz.func118 rfl (by kernel_rfl) rfl rfl ((over_any _ r.f.now at_ d _ hNo hat (by omega) (by omega)).mono ?_)))))))))))
   rintro e_ w3 ⟨v', rfl, hNw, hC1, hO1⟩
   refine cR ?_
   replace hB := hB.chg hC1 (fun e => hNo.ne2 hB (by decide) _ e rfl)
   replace hF := hF.chg hC1 (fun e => hNo.ne2 hF (by decide) _ e rfl)
   replace hLa := hLa.chg hC1 (fun k hk e => hfile.apart k hk (by rw [hvn]; exact e))
   replace hPe := hPe.chg hC1 (fun k hk => hPe.apart_ hNo (by decide) k hk)
   replace hcw := hcw.next hC1 (fun i hi => .inl (.inr (.inr (.inr (.inl (by rw [hvn]; exact hi))))))
   refine st (X.nilChk rfl) rfl (st (X.fa fa126_1 rfl) rfl (ssB rfl rfl hF siz123 hNw.one1 (by simp) (fun w4 hF2 hC2 => ?_)))
   replace hB := hB.chg hC2 (fun e => hgf e.symm)
   replace hLa := hLa.chg hC2 (hLa.ne2 hF (by decide))
   replace hPe := hPe.chg hC2 (hPe.ne2 hF (by decide))
   replace hNw := hNw.chg hC2 (hNw.ne2 hF (by decide))
   replace hF : Blk w4 r.blk 126 #[r.vl, v', .slice ap r.f.pend.length cp] := hF2
   replace hcw := hcw.next hC2 (fun i hi => .inl (.inr (.inl hi)))
   clear hF2 hNo
   refine Wn (tN (W_rs (sm rfl rfl (st (X.nilChk rfl) rfl (st (X.fa fa126_2 rfl) rfl (st (X.ldL rfl hF Tryz.underlying124 rfl rfl) rfl (st (X.lenL rfl rfl Tryz.underlying124) rfl (sa rfl rfl (Wn (tN ?_))))))))))
   refine W_rs (sm rfl rfl (sm rfl rfl (st (X.nilChk rfl) rfl (st (X.fa fa126_2 rfl) rfl (st (X.ldL rfl hF Tryz.underlying124 rfl rfl) rfl (sm rfl rfl (sm rfl rfl (st (X.fullL (j := r.f.pend.length) rfl rfl rfl Tryz.underlying124 siz191 rfl rfl hcp) rfl ?_))))))))
   rw [sliced_zero]
   refine sm rfl rfl (sm rfl rfl (st (X.bld rfl (bwrite _ _ _)) rfl (sbs1 rfl Tryz.underlying124 inf191 rfl rfl (by decide) (by decide) rfl (fun g68 w5 hR68 hg68 hb => ?_))))
   replace hB := hB.bel hb
   replace hF := hF.bel hb
   replace hLa := hLa.bel hb
   replace hPe := hPe.bel hb
   replace hNw := hNw.bel hb
   replace hcw := hcw.then_below hb
   clear hb
   refine sapp rfl rfl Tryz.underlying124 inf191 rfl (by decide) hPe.full (hR68.src Tryz.underlying124 (putCells_one (at_, d))) (by simp only [maxLen]; omega) (by omega) rfl (fun vq w6 hPw hC4 hv4 => ?_)
   have hzc := hcw.size
   replace hB := hB.chg hC4 (fun e => hPe.full.ne2 hB (by decide) _ e rfl)
   replace hF := hF.chg hC4 (fun e => hPe.full.ne2 hF (by decide) _ e rfl)
   replace hLa := hLa.chg hC4 (fun k hk => hLa.apart_ hPe.full (by decide) k hk)
   replace hNw := hNw.chg hC4 (fun k hk => hNw.apart_ hPe.full (by decide) k hk)
   replace hcw := hcw.next hC4 (fun i hi => .inl (.inr (.inr (.inr (.inr (by rw [hvp]; exact (own_slice ..).trans hi))))))
   have hO4 : ∀ k, vq.ownBlock = some k → r.vp.ownBlock = some k ∨ w.heap.size ≤ k := fun k hk => by
    rcases hv4 with hv4 | hv4
    ·left
     rw [hvp]
     exact (own_slice ..).trans (hv4.symm.trans hk)
    ·rw [hv4] at hk
     injection hk with hk
     right
     omega
   refine st (X.nilChk rfl) rfl (st (X.fa fa126_2 rfl) rfl (ssB rfl rfl hF siz124 hPw.one1 (by simp) (fun w7 hF2 hC2 => ?_)))
   replace hB := hB.chg hC2 (fun e => hgf e.symm)
   replace hLa := hLa.chg hC2 (hLa.ne2 hF (by decide))
   replace hPw := hPw.chg hC2 (hPw.ne2 hF (by decide))
   replace hNw := hNw.chg hC2 (hNw.ne2 hF (by decide))
   replace hF : Blk w7 r.blk 126 #[r.vl, v', vq] := hF2
   replace hcw := hcw.next hC2 (fun i hi => .inl (.inr (.inl hi)))
   clear hF2
   refine Wn (tN (W_rs (sm rfl rfl (st (X.nilChk rfl) rfl (st (X.fa fa110_2 rfl) rfl (st (X.ldL rfl hB Tryz.underlying3 rfl rfl) rfl (sm rfl rfl (st (X.add64 rfl rfl (by omega)) rfl (st (X.nilChk rfl) rfl (st (X.fa fa110_2 rfl) rfl ?_))))))))))
   refine ssB rfl rfl hB siz3 rfl (by simp) (fun w8 hB2 hC2 => ?_)
   replace hLa := hLa.chg hC2 (hLa.ne2 hB (by decide))
   replace hPw := hPw.chg hC2 (hPw.ne2 hB (by decide))
   replace hNw := hNw.chg hC2 (hNw.ne2 hB (by decide))
   replace hF := hF.chg hC2 hgf
   replace hcw := hcw.next hC2 (fun i hi => .inl (.inl hi))
   refine Wn (tN (W_rs (sa rfl rfl (Wn (tN (W_ret ?_))))))
   have e1 : putM D n r.f at_ d = (0, { D with files := sput D.files n (laidM r.f at_ d), used := D.used + moreM r.f at_ d }) := by unfold putM; rw [if_neg h12, if_neg (by omega)]
   rw [e1]
   refine (rT rfl rfl ⟨rfl, ⟨b, _, h.file (r' := ⟨r.blk, r.vl, v', vq, laidM r.f at_ d⟩) hr hcw hB2 ?_ ⟨hF, hLa, hNw, ?_, ?_⟩ rfl ?_⟩, hcw.mono (fun k _ hk => hS1 k hk)⟩).1
   ·intro m
    exact mget_sput hok.srt n _ m
   ·show Row _ _ 2 vq (r.f.pend ++ [(at_, d)]).length ((r.f.pend ++ [(at_, d)]).flatMap pendCellsD)
    rw [List.length_append, List.flatMap_append]
    exact hPw
   ·intro k hk hk2
    rcases hO1 k hk2 with e | e
    ·exact hfile.apart k hk (by rw [hvn]; exact e)
    ·have := hfile.lt (.inr (.inl hk))
     omega
   ·rintro k (e | e | e | e)
    ·exact .inl (.inl e)
    ·exact .inl (.inr (.inl e))
    ·rcases hO1 k e with e | e
     ·exact .inl (.inr (.inr (.inl (by rw [hvn]; exact e))))
     ·exact .inr (by omega)
    ·rcases hO4 k e with e | e
     ·exact .inl (.inr (.inr (.inr e)))
     ·exact .inr e
end Go.Proofs.YtnlabkogebnioaaGreatDoor
namespace Go.Proofs.YtnlabkogebnioaaGreatDoor
open Go.RowKit
def DPost (g : Nat) (S : Nat → Prop) (w : World) (x : Int × DiskD) (e : Ending) (w' : World) : Prop := e = .returned (.int .i64 x.1) ∧ DiskAt w' g x.2 (Ext S w w') ∧ Chg S w w'
structure DBud (D : DiskD) : Prop where
  pend : ∀ n f, mget D.files n = some f → pendLen f.pend ≤ 1099511627776 ∧ f.pend.length ≤ 1099511627776
  ref : D.refused ≤ 4611686018427387904
theorem tick_bud {D : DiskD} (h : DBud D) : DBud (tickM D) := by
 unfold tickM
 split
 ·exact ⟨h.pend, h.ref⟩
 ·exact h
theorem opM_live {D : DiskD} (hl : ¬ (D.stops = true ∧ D.left = 0)) (k : DiskD → Int × DiskD) : opM D k = k (tickM D) := if_neg hl
theorem opM_dead {D : DiskD} (hl : D.stops = true ∧ D.left = 0) (k : DiskD → Int × DiskD) : opM D k = (19, D) := if_pos hl
theorem fileM_some {D : DiskD} {n : Key} {f : FileD} (h : mget D.files n = some f) (k : FileD → Int × DiskD) : fileM D n k = k f := by unfold fileM; rw [h]
theorem fileM_none {D : DiskD} {n : Key} (h : mget D.files n = none) (k : FileD → Int × DiskD) : fileM D n k = (15, D) := by unfold fileM; rw [h]
theorem tick_get {D : DiskD} {n : Key} {o : Option FileD} (h : mget D.files n = o) : mget (tickM D).files n = o := by rw [tick_files]; exact h
section
variable {w w1 w' : World} {g : Nat} {S : Nat → Prop} {D : DiskD} {x : Int × DiskD} {e : Ending}
theorem DPost.same (h : DiskAt w g D S) (hb : Below w.heap.size w w') {i : Int} (he : x = (i, D)) : DPost g S w x (.returned (.int .i64 i)) w' := by
 subst he
 exact ⟨rfl, (h.bel hb).mono Ext.of, Chg.of_below hb S⟩
theorem DPost.of {b : Nat} {rs : List (Key × FRec)} (h : DiskIn w' g b D rs S) (hC : Chg S w w') {i : Int} (he : x = (i, D)) : DPost g S w x (.returned (.int .i64 i)) w' := by
 subst he
 exact ⟨rfl, ⟨b, rs, h.mono Ext.of⟩, hC⟩
theorem Ext.up (hz : w.heap.size ≤ w1.heap.size) : ∀ k, Ext S w1 w' k → Ext S w w' k := fun k hk => hk.imp id (fun e => ⟨by omega, e.2⟩)
theorem DPost.up (hC : Chg S w w1) (hD : DiskAt w' g x.2 (Ext S w1 w')) (hC2 : Chg S w1 w') {y : Int × DiskD} (he : y = x) : DPost g S w y (.returned (.int .i64 x.1)) w' := by
 subst he
 exact ⟨rfl, hD.mono (Ext.up hC.size), hC.next hC2 (fun _ h => .inl h)⟩
end
theorem bdisk (b : Nat) (n : Int) (w : World) : (Instr.build 110 #[(0, .map (some b)), (1, .int .i64 n)]).run Tryz.prog w = .ok (.agg (diskCells b (newM n))) w := by kernel_rfl
theorem New_ok (n : Int) (w : World) (hn : 0 ≤ n ∧ n ≤ 16777216) :
  Calls Tryz.prog 16 #[.int .i64 n] w fun e w' => ∃ g S, e = .returned (.tuple #[.pointer (some ⟨g, 0, none⟩), .int .i64 0]) ∧ DiskAt w' g (newM n) S ∧ (∀ k, S k → w.heap.size ≤ k ∧ k < w'.heap.size) ∧ Below w.heap.size w w' := by
 refine W_enter (args := [.int .i64 n]) 14 Tryz.func16 rfl rfl rfl (W_sub [(0, .int .i64 n)] ?_ ⟨rfl, trivial⟩)
 have hbw := Below.refl w.heap.size w
 refine W_rs (sa rfl rfl (sa rfl rfl (Wn (tN (W_seq (W_rs (sm rfl rfl (st (X.lss rfl rfl) rfl (sb rfl rfl (fun h6 => ?_) (fun h6 => ?_))))))))))
 ·first | replace h6 := of_decide_eq_true h6 | replace h6 := of_decide_eq_false (notT h6) | replace h6 := notT h6 | skip
  omega
 ·first | replace h6 := of_decide_eq_false h6 | replace h6 := of_decide_eq_true (notF h6) | replace h6 := notF h6 | skip
  refine gY (g := 6) rfl rfl rfl (sm rfl rfl (gY (g := 6) rfl rfl rfl (st (X.gtr rfl rfl) rfl (st (X.pickF rfl rfl) rfl (Wn (tN (W_no rfl (decide_eq_false (by omega)) (W_skip (tN (W_rs ?_))))))))))
  refine smm (κ := Key) (enc := str) (encv := encPtr) rfl (fun b w1 hM hbg hb hbl => ?_)
  replace hbw := bthen hbw hb
  clear hb
  refine sm rfl rfl (st (X.bld rfl (bdisk _ _ _)) rfl (sboxA rfl rfl (fun g13 w2 hB13 hg13 hb hl13 => ?_)))
  have hpend := hb
  replace hbw := bthen hbw hb
  have hz_w2 := hb.size
  clear hb
  refine sa rfl rfl (sa rfl rfl (Wn (tN ?_)))
  replace hM := hM.bel hpend
  clear hpend
  refine W_ret ?_
  have hM' := hM
  have hMl := hM'.lt
  refine (rTT rfl rfl rfl ⟨g13, fun k => k = g13 ∨ k = b, rfl, ⟨b, [], hB13, hM', fun n => rfl, fun n r hr => (by cases hr), fun n m r s k hr => (by cases hr), ⟨.inl rfl, .inr rfl⟩, fun n r k hr => (by cases hr)⟩, fun k hk => ?_, hbw⟩).1
  rcases hk with rfl | rfl <;> omega
theorem Size_any (g : Nat) (D : DiskD) (S : Nat → Prop) (n : Key) (w : World) (h : DiskAt w g D S) : Calls Tryz.prog 20 #[.pointer (some ⟨g, 0, none⟩), str n] w fun e w' => e = .returned (.tuple #[.int .i64 (sizeM D n).1, .int .i64 (sizeM D n).2]) ∧ Below w.heap.size w w' := by
 obtain ⟨b, rs, h⟩ := h
 unfold sizeM
 rw [h.files]
 cases hr : mget rs n with
 | none =>
  refine W_enter (args := [.pointer (some ⟨g, 0, none⟩), str n]) 22 Tryz.func20 rfl rfl rfl (W_sub [(0, .pointer (some ⟨g, 0, none⟩)), (1, str n)] ?_ ⟨rfl, rfl, trivial⟩)
  have hbw := Below.refl w.heap.size w
  refine W_rs (sa rfl rfl (sa rfl rfl (Wn (tN (W_rs (sm rfl rfl (sm rfl rfl (sc _ Tryz.func57 rfl (by kernel_rfl) rfl rfl ((find_none g b D rs S n _ (h.bel hbw) hr).mono ?_)))))))))
  rintro e_ w1 ⟨rfl, hb⟩
  refine cR ?_
  replace hbw := bthen hbw hb
  have hz_w1 := hb.size
  clear hb
  refine sm rfl rfl (st (X.ext rfl rfl) rfl (st (X.ext rfl rfl) rfl (sa rfl rfl (sa rfl rfl (Wn (tN (W_seq (W_rs (sm rfl rfl (st (X.neq rfl rfl) rfl ?_))))))))))
  refine Wn (tN (W_yes rfl (rfl) (W_rs (sm rfl rfl (sa rfl rfl (sa rfl rfl (Wn (tN (W_ret (tR ?_))))))))))
  exact (rTT rfl rfl rfl ⟨rfl, hbw⟩).1
 | some r =>
  have hfile := h.at_ n r hr
  have hF := hfile.blk
  obtain ⟨a, c, hvn, _⟩ := hfile.now.shape
  rw [hvn] at hF
  refine W_enter (args := [.pointer (some ⟨g, 0, none⟩), str n]) 22 Tryz.func20 rfl rfl rfl (W_sub [(0, .pointer (some ⟨g, 0, none⟩)), (1, str n)] ?_ ⟨rfl, rfl, trivial⟩)
  have hbw := Below.refl w.heap.size w
  refine W_rs (sa rfl rfl (sa rfl rfl (Wn (tN (W_rs (sm rfl rfl (sm rfl rfl (sc _ Tryz.func57 rfl (by kernel_rfl) rfl rfl ((find_some g b D rs S n r _ (h.bel hbw) hr).mono ?_)))))))))
  rintro e_ w1 ⟨rfl, hb⟩
  refine cR ?_
  replace hbw := bthen hbw hb
  replace hF := hF.bel hb
  have hz_w1 := hb.size
  clear hb
  refine sm rfl rfl (st (X.ext rfl rfl) rfl (st (X.ext rfl rfl) rfl (sa rfl rfl (sa rfl rfl (Wn (tN (W_seq (W_rs (sm rfl rfl (st (X.neq rfl rfl) rfl ?_))))))))))
  refine Wn (tN (W_no rfl (rfl) (W_skip (tN (W_rs (sm rfl rfl (st (X.nilChk rfl) rfl (st (X.fa fa126_1 rfl) rfl (st (X.ldL rfl hF Tryz.underlying123 rfl rfl) rfl (st (X.lenL rfl rfl Tryz.underlying123) rfl ?_))))))))))
  refine sa rfl rfl (sa rfl rfl (Wn (tN (W_ret ?_))))
  exact (rTT rfl rfl rfl ⟨rfl, hbw⟩).1
set_option maxRecDepth 10000 in
theorem Read_any (g : Nat) (D : DiskD) (S : Nat → Prop) (n : Key) (i k : Int) (w : World) (h : DiskAt w g D S) (hok : DOk D) : Calls Tryz.prog 60 #[.pointer (some ⟨g, 0, none⟩), str n, .int .i64 i, .int .i64 k] w fun e w' => e = .returned (.tuple #[str (readM D n i k).1, .int .i64 (readM D n i k).2]) ∧ Below w.heap.size w w' := by
 obtain ⟨b, rs, h⟩ := h
 unfold readM
 have hff := h.files n
 cases hr : mget rs n with
 | none =>
  rw [h.files, hr]
  refine W_enter (args := [.pointer (some ⟨g, 0, none⟩), str n, .int .i64 i, .int .i64 k]) 56 Tryz.func60 rfl rfl rfl (W_sub [(0, .pointer (some ⟨g, 0, none⟩)), (1, str n), (2, .int .i64 i), (3, .int .i64 k)] ?_ ⟨rfl, rfl, rfl, rfl, trivial⟩)
  have hbw := Below.refl w.heap.size w
  refine W_rs (sa rfl rfl (sa rfl rfl (Wn (tN (W_rs (sm rfl rfl (sm rfl rfl (sc _ Tryz.func57 rfl (by kernel_rfl) rfl rfl ((find_none g b D rs S n _ (h.bel hbw) hr).mono ?_)))))))))
  rintro e_ w1 ⟨rfl, hb⟩
  refine cR ?_
  replace hbw := bthen hbw hb
  have hz_w1 := hb.size
  clear hb
  refine sm rfl rfl (st (X.ext rfl rfl) rfl (st (X.ext rfl rfl) rfl (sa rfl rfl (sa rfl rfl (Wn (tN (W_seq (W_block (W_rs (sm rfl rfl ?_))))))))))
  refine st (X.neq rfl rfl) rfl (sa rfl rfl (Wn (tN (W_yes rfl (rfl) (W_rs (sm rfl rfl (sa rfl rfl (sa rfl rfl (Wn (tN ?_))))))))))
  refine W_ret (bR (tR ?_))
  exact (rTT rfl rfl rfl ⟨rfl, hbw⟩).1
 | some r =>
  rw [hr] at hff
  rw [hff]
  have hfile := h.at_ n r hr
  have hF := hfile.blk
  have hNo := hfile.now
  have hlen := (hok.len hff).1
  obtain ⟨a, c, hvn, hc1, _⟩ := hfile.now.shape
  rw [hvn] at hF hNo
  simp only [Option.map_some]
  refine W_enter (args := [.pointer (some ⟨g, 0, none⟩), str n, .int .i64 i, .int .i64 k]) 56 Tryz.func60 rfl rfl rfl (W_sub [(0, .pointer (some ⟨g, 0, none⟩)), (1, str n), (2, .int .i64 i), (3, .int .i64 k)] ?_ ⟨rfl, rfl, rfl, rfl, trivial⟩)
  have hbw := Below.refl w.heap.size w
  refine W_rs (sa rfl rfl (sa rfl rfl (Wn (tN (W_rs (sm rfl rfl (sm rfl rfl (sc _ Tryz.func57 rfl (by kernel_rfl) rfl rfl ((find_some g b D rs S n r _ (h.bel hbw) hr).mono ?_)))))))))
  rintro e_ w1 ⟨rfl, hb⟩
  refine cR ?_
  replace hbw := bthen hbw hb
  replace hF := hF.bel hb
  replace hNo := hNo.bel hb
  have hz_w1 := hb.size
  clear hb
  refine sm rfl rfl (st (X.ext rfl rfl) rfl (st (X.ext rfl rfl) rfl (sa rfl rfl (sa rfl rfl (Wn (tN (W_seq (W_block (W_rs (sm rfl rfl ?_))))))))))
  refine st (X.neq rfl rfl) rfl (sa rfl rfl (Wn (tN (W_no rfl (rfl) (W_rs (sm rfl rfl (st (X.lss rfl rfl) rfl (sb rfl rfl (fun h25 => ?_) (fun h25 => ?_)))))))))
  ·first | replace h25 := of_decide_eq_true h25 | replace h25 := of_decide_eq_false (notT h25) | replace h25 := notT h25 | skip
   refine gN (g := 25) rfl rfl rfl rfl (gN (g := 25) rfl rfl rfl rfl (st (X.pickT rfl rfl) rfl (sm rfl rfl (gN (g := 29) rfl rfl rfl rfl (gN (g := 29) rfl rfl rfl rfl (gN (g := 29) rfl rfl rfl rfl (gN (g := 29) rfl rfl rfl rfl (gN (g := 29) rfl rfl rfl rfl (gN (g := 29) rfl rfl rfl rfl (gN (g := 29) rfl rfl rfl rfl ?_))))))))))
   refine st (X.pickT rfl rfl) rfl (sa rfl rfl (Wn (tN (W_yes rfl (rfl) (W_rs (sa rfl rfl (sa rfl rfl (Wn (tN (W_ret (bR (tR ?_))))))))))))
   rw [if_pos (by omega)]
   exact (rTT rfl rfl rfl ⟨rfl, hbw⟩).1
  ·first | replace h25 := of_decide_eq_false h25 | replace h25 := of_decide_eq_true (notF h25) | replace h25 := notF h25 | skip
   refine gY (g := 25) rfl rfl rfl (sm rfl rfl (gY (g := 25) rfl rfl rfl (st (X.lss rfl rfl) rfl (st (X.pickF rfl rfl) rfl (sb rfl rfl (fun h29 => ?_) (fun h29 => ?_))))))
   ·first | replace h29 := of_decide_eq_true h29 | replace h29 := of_decide_eq_false (notT h29) | replace h29 := notT h29 | skip
    refine gN (g := 29) rfl rfl rfl rfl (gN (g := 29) rfl rfl rfl rfl (gN (g := 29) rfl rfl rfl rfl (gN (g := 29) rfl rfl rfl rfl (gN (g := 29) rfl rfl rfl rfl (gN (g := 29) rfl rfl rfl rfl (gN (g := 29) rfl rfl rfl rfl (st (X.pickT rfl rfl) rfl (sa rfl rfl (Wn (tN ?_))))))))))
    refine W_yes rfl (rfl) (W_rs (sa rfl rfl (sa rfl rfl (Wn (tN (W_ret (bR (tR ?_))))))))
    rw [if_pos (by omega)]
    exact (rTT rfl rfl rfl ⟨rfl, hbw⟩).1
   ·first | replace h29 := of_decide_eq_false h29 | replace h29 := of_decide_eq_true (notF h29) | replace h29 := notF h29 | skip
    refine gY (g := 29) rfl rfl rfl (sm rfl rfl (gY (g := 29) rfl rfl rfl (sm rfl rfl (gY (g := 29) rfl rfl rfl (st (X.nilChk rfl) rfl (gY (g := 29) rfl rfl rfl (st (X.fa fa126_1 rfl) rfl (gY (g := 29) rfl rfl rfl (st (X.ldL rfl hF Tryz.underlying123 rfl rfl) rfl (gY (g := 29) rfl rfl rfl ?_))))))))))
    refine st (X.lenL rfl rfl Tryz.underlying123) rfl (gY (g := 29) rfl rfl rfl (st (X.gtr rfl rfl) rfl (st (X.pickF rfl rfl) rfl (sa rfl rfl (Wn (tN (W_if rfl (fun h22 => ?_) (fun h22 => ?_))))))))
    ·first | replace h22 := of_decide_eq_true h22 | replace h22 := of_decide_eq_false (notT h22) | replace h22 := notT h22 | skip
     refine W_rs (sa rfl rfl (sa rfl rfl (Wn (tN (W_ret (bR (tR ?_)))))))
     rw [if_pos (by omega)]
     exact (rTT rfl rfl rfl ⟨rfl, hbw⟩).1
    ·first | replace h22 := of_decide_eq_false h22 | replace h22 := of_decide_eq_true (notF h22) | replace h22 := notF h22 | skip
     refine W_skip (bN (tN (W_still_s 18 (by kernel_rfl) (by kernel_rfl) ?_)))
     obtain ⟨w2, hw_⟩ : ∃ w2 : World, w2 = World.drew w1 := ⟨_, rfl⟩
     rw [← hw_]
     have hb : Below w1.heap.size w1 w2 := by rw [hw_]; exact bdrew (Below.refl _ _)
     clear hw_
     replace hbw := bthen hbw hb
     replace hF := hF.bel hb
     replace hNo := hNo.bel hb
     have hz_w2 := hb.size
     clear hb
     refine hY (X.move rfl) rfl (hY (X.nilChk rfl) rfl (hY (X.fa fa126_1 rfl) rfl (hY (X.ldL rfl hF Tryz.underlying123 rfl rfl) rfl (hY (X.move rfl) rfl (hY (X.move rfl) rfl (hY (X.move rfl) rfl (hY (X.move rfl) rfl (hY (X.nilChk rfl) rfl (hY (X.fa fa126_1 rfl) rfl (hY (X.ldL rfl hF Tryz.underlying123 rfl rfl) rfl ?_))))))))))
     refine hY (X.lenL rfl rfl Tryz.underlying123) rfl (hY (X.move rfl) rfl (hY (X.sub64 rfl rfl (by omega)) rfl ?_))
     have hmn : (i.toNat + min k.toNat (r.f.now.length - i.toNat) : Nat) = i + (if (r.f.now.length : Int) - i < k then (r.f.now.length : Int) - i else k) := by split <;> omega
     refine hY (X.min2 rfl rfl rfl) rfl (hY (X.add64 rfl rfl (by omega)) rfl (hY (X.cutL (i := i.toNat) (j := i.toNat + min k.toNat (r.f.now.length - i.toNat)) rfl rfl rfl Tryz.underlying123 siz5 (by omega) (by rw [← hmn]) (by omega) (by omega)) rfl ?_))
     refine hY (X.strOf (s := (r.f.now.take (i.toNat + min k.toNat (r.f.now.length - i.toNat))).drop i.toNat) (q := i.toNat + min k.toNat (r.f.now.length - i.toNat) - i.toNat) rfl Tryz.underlying123 Tryz.underlying5 Tryz.underlying9 (by
 have := (hNo.cut rfl i.toNat (i.toNat + min k.toNat (r.f.now.length - i.toNat)) (by omega) (by omega)).reads
 rw [Nat.mul_one, Nat.mul_one, ← List.map_take, ← List.map_drop] at this
 exact this)) rfl ?_
     refine hN (sa rfl rfl (sa rfl rfl (Wn (tN (W_ret ?_)))))
     rw [if_neg (by omega)]
     refine (rTT rfl rfl rfl ⟨?_, hbw⟩).1
     rw [List.drop_take, Nat.add_sub_cancel_left]
     have e1 : (r.f.now.drop i.toNat).take k.toNat = (r.f.now.drop i.toNat).take (min k.toNat (r.f.now.length - i.toNat)) := by rw [List.take_eq_take_min, List.length_drop]
     rw [e1]
end Go.Proofs.YtnlabkogebnioaaGreatDoor
namespace Go.Proofs.YtnlabkogebnioaaGreatDoor
open Go.RowKit
theorem halved_any (x : UInt32) (w : World) : Calls Tryz.prog 217 #[.int .u32 x.toNat] w fun e w' => e = .returned (.int .u32 (Crc.half x).toNat) ∧ w = w' := by
 have h1 : ((x.toNat : Int) / 2) = ((x >>> 1).toNat : Int) := shr_u32 x 1 (by omega)
 refine W_enter (args := [.int .u32 x.toNat]) 11 Tryz.func217 rfl rfl rfl (W_sub [(0, .int .u32 x.toNat)] ?_ ⟨rfl, trivial⟩)
 refine W_rs (sa rfl rfl (Wn (tN (W_seq (W_rs (sm rfl rfl (st (X.bits (by simp) rfl rfl (and_u32 x 1)) rfl ?_)))))))
 refine st (X.eql rfl rfl) rfl (Wn (tN (W_if rfl (fun h5 => ?_) (fun h5 => ?_))))
 ·first | replace h5 := of_decide_eq_true h5 | replace h5 := of_decide_eq_false (notT h5) | replace h5 := notT h5 | skip
  refine W_rs (sm rfl rfl (st (X.shrz (q := 2) rfl rfl (by decide) (by decide) rfl rfl h1) rfl (st (X.bits (by simp) rfl rfl (xor_u32 _ Crc.poly)) rfl ?_)))
  refine sa rfl rfl (Wn (tN (W_ret (tR ((rT rfl rfl ⟨?_, rfl⟩).1)))))
  unfold Crc.half; rw [if_pos (UInt32.toNat.inj (by show _ = 1; omega))]
 ·first | replace h5 := of_decide_eq_false h5 | replace h5 := of_decide_eq_true (notF h5) | replace h5 := notF h5 | skip
  refine W_skip (tN (W_rs (sm rfl rfl (st (X.shrz (q := 2) rfl rfl (by decide) (by decide) rfl rfl h1) rfl (sa rfl rfl (Wn (tN (W_ret ((rT rfl rfl ⟨?_, rfl⟩).1)))))))))
  unfold Crc.half; rw [if_neg (fun e => h5 (by rw [e]; rfl))]
def halfN : Nat → UInt32 → UInt32
  | 0, x => x
  | n + 1, x => Crc.half (halfN n x)
theorem row_any (b : UInt8) (w : World) : Calls Tryz.prog 183 #[.int .u8 b.toNat] w fun e w' => e = .returned (.int .u32 (Crc.row b).toNat) ∧ w = w' := by
 refine W_enter (args := [.int .u8 b.toNat]) 12 Tryz.func183 rfl rfl rfl (W_sub [(0, .int .u8 b.toNat)] ?_ ⟨rfl, trivial⟩)
 refine W_rs (sa rfl rfl (Wn (tN (W_rs (sm rfl rfl (st (X.convI rfl Tryz.underlying5 Tryz.underlying145 ((w32 _).trans (u8_to_u32 b))) rfl (sa rfl rfl (Wn (tN (W_seq ?_))))))))))
 refine W_rs (sm rfl rfl (Wn (tN (W_block (W_lp (fun nw1_ lw1_ w1 => ∃ j : Nat, nw1_ = 8 - j ∧ lw1_ = ([(3, .int .u32 (halfN j b.toUInt32).toNat), (6, .int .i64 j)] : Env) ∧ (j ≤ 8) ∧ (w = w1)) _ ⟨_, ⟨0, rfl, rfl, by omega, rfl⟩, ⟨rfl, rfl, trivial⟩⟩ ?_)))))
 rintro nw1_ lw1_ w1 ⟨j, rfl, rfl, hj, hw⟩
 refine W_rs (st (X.lss rfl rfl) rfl (Wn (tN (W_seq (W_if rfl (fun h7 => ?_) (fun h7 => ?_))))))
 ·first | replace h7 := of_decide_eq_true h7 | replace h7 := of_decide_eq_false (notT h7) | replace h7 := notT h7 | skip
  refine W_skip (tN (W_seq (W_block (W_reg (sm rfl rfl (sc _ Tryz.func217 rfl (by kernel_rfl) rfl rfl ((halved_any (halfN j b.toUInt32) _).mono ?_)))))))
  rintro e_ w_ ⟨rfl, rfl⟩
  refine cR (sa rfl rfl (Wn (bN (tN (W_reg (st (X.add64 rfl rfl (by omega)) rfl (sm rfl rfl (Wn (tN ⟨_, _, ?_, ⟨j + 1, rfl, rfl, by omega, hw⟩, ⟨rfl, rfl, trivial⟩⟩)))))))))
  omega
 ·first | replace h7 := of_decide_eq_false h7 | replace h7 := of_decide_eq_true (notF h7) | replace h7 := notF h7 | skip
  refine W_exit (tE (tE (bH (tN (W_rs (sm rfl rfl (sa rfl rfl (Wn (tN (W_ret ((rT rfl rfl ⟨?_, hw⟩).1)))))))))))
  obtain rfl : j = 8 := by omega
  rfl
theorem rep_size (n : Nat) (v : Value) : (List.replicate n v).toArray.size = n := by simp
def tabV : Array Value := ((List.range 256).map fun k => Value.int .u32 (Crc.row (UInt8.ofNat k)).toNat).toArray
theorem tabV_size : tabV.size = 256 := by simp [tabV]
theorem tabV_at (k : Nat) (h : k < 256) : tabV[k]? = some (.int .u32 (Crc.row (UInt8.ofNat k)).toNat) := by
 simp [tabV, h]
theorem tabV_one : tabV.toList.all (·.oneCell') = true := by
 simp [tabV, Value.oneCell']
def TabTo (cs : Array Value) (j : Nat) : Prop := cs.size = 256 ∧ ∀ k, k < j → cs[k]? = some (.int .u32 (Crc.row (UInt8.ofNat k)).toNat)
theorem TabTo.all {cs : Array Value} (h : TabTo cs 256) : cs = tabV := by
 apply Array.ext_getElem?
 intro k
 by_cases hk : k < 256
 ·rw [h.2 k hk, tabV_at k hk]
 ·rw [Array.getElem?_eq_none (by rw [h.1]; omega), Array.getElem?_eq_none (by rw [tabV_size]; omega)]
theorem TabTo.next {cs : Array Value} {j : Nat} (h : TabTo cs j) (hj : j < 256) : TabTo (cs.setIfInBounds j (.int .u32 (Crc.row (UInt8.ofNat j)).toNat)) (j + 1) := by
 refine ⟨by simpa using h.1, fun k hk => ?_⟩
 rw [Array.getElem?_setIfInBounds]
 by_cases e : j = k
 ·subst e; rw [if_pos rfl, if_pos (by rw [h.1]; exact hj)]
 ·rw [if_neg e]; exact h.2 k (by omega)
theorem table_any (w : World) : Calls Tryz.prog 156 #[] w fun e w' => e = .returned (.agg tabV) ∧ Below w.heap.size w w' := by
 refine W_enter (args := []) 13 Tryz.func156 rfl rfl rfl ?_
 have hbw := Below.refl w.heap.size w
 refine W_rs (salA inf231 rfl (fun g0 w1 hB0 hg0 hb hl0 => ?_))
 replace hbw := bthen hbw hb
 have hz_w1 := hb.size
 clear hb
 refine Wn (tN (W_rs (salA inf231 rfl (fun g1 w2 hB1 hg1 hb hl1 => ?_))))
 replace hbw := bthen hbw hb
 replace hB0 := hB0.bel hb
 have hz_w2 := hb.size
 clear hb
 refine Wn (tN (W_seq (W_rs (sm rfl rfl (Wn (tN (W_block (W_lp (fun nw3_ lw3_ w3 => ∃ j : Nat, ∃ cs : Array Value, nw3_ = 256 - j ∧ lw3_ = ([(0, .pointer (some ⟨g0, 0, none⟩)), (1, .pointer (some ⟨g1, 0, none⟩)), (3, .int .i64 j)] : Env) ∧ (j ≤ 256) ∧ (TabTo cs j) ∧ (Blk w3 g0 231 (List.replicate 256 (.int .u32 0)).toArray) ∧ (Blk w3 g1 231 cs) ∧ (Below w.heap.size w w3)) _ ⟨_, ⟨0, _, rfl, rfl, by omega, ⟨rep_size 256 _, fun k hk => by omega⟩, hB0, hB1, hbw⟩, ⟨rfl, rfl, rfl, trivial⟩⟩ ?_))))))))
 clear hB0 hB1 hbw
 rintro nw3_ lw3_ w3 ⟨j, cs, rfl, rfl, hj, hcs, hB0, hB1, hbw⟩
 have hz_w3 := hbw.size
 have hlt_hB0_w3 := hB0.lt
 have hlt_hB1_w3 := hB1.lt
 refine W_rs (st (X.lss rfl rfl) rfl (Wn (tN (W_seq (W_if rfl (fun h4 => ?_) (fun h4 => ?_))))))
 ·first | replace h4 := of_decide_eq_true h4 | replace h4 := of_decide_eq_false (notT h4) | replace h4 := notT h4 | skip
  skip
  refine W_skip (tN (W_seq (W_block (W_rs (sm rfl rfl (sa rfl rfl (Wn (tN (W_reg (sm rfl rfl ?_))))))))))
  refine sm rfl rfl (st (X.convI rfl Tryz.underlying3 Tryz.underlying5 ((w8 _).trans (show ((j : Int) % 256) = ((UInt8.ofNat j).toNat : Int) by rw [UInt8.toNat_ofNat']; omega))) rfl ?_)
  refine sc _ Tryz.func183 rfl (by kernel_rfl) rfl rfl ((row_any (UInt8.ofNat j) _).mono ?_)
  rintro e_ w_ ⟨rfl, rfl⟩
  refine cR (st (X.idxArr rfl rfl Tryz.underlying231 siz145 rfl (by omega)) rfl (ssB rfl rfl hB1 siz145 rfl (by rw [hcs.1]; omega) (fun w4 hB_ hc_ => ?_)))
  rw [Nat.zero_add, Nat.mul_one] at hB_
  replace hB0 := hB0.chg hc_ (by show ¬ _ = _; omega)
  replace hB1 := hB_
  replace hbw := bset hbw hc_ (by omega)
  clear hB_ hc_
  refine Wn (bN (tN (W_reg (st (X.add64 rfl rfl (by omega)) rfl (sm rfl rfl (Wn (tN ⟨_, _, ?_, ⟨j + 1, _, rfl, rfl, by omega, hcs.next (by omega), hB0, hB1, hbw⟩, ⟨rfl, rfl, rfl, trivial⟩⟩)))))))
  omega
 ·first | replace h4 := of_decide_eq_false h4 | replace h4 := of_decide_eq_true (notF h4) | replace h4 := notF h4 | skip
  obtain rfl : j = 256 := by omega
  obtain rfl := hcs.all
  refine W_exit (tE (tE (bH (tN (W_rs (st (X.ldBN rfl hB1 Tryz.underlying231 rfl (by rw [tabV_size]; exact siz231)) rfl ?_))))))
  refine ssBN rfl rfl hB0 (by rw [tabV_size]; exact siz231) (by rw [tabV_size]; exact rep_size 256 _) tabV_one (fun w5 hB_ hc_ => ?_)
  replace hB0 := hB_
  clear hB_
  replace hB1 := hB1.chg hc_ (by first | (show ¬ _ = _; omega) | (intro k_ hk_; simp [Value.ownBlock] at hk_; subst hk_; show ¬ _ = _; omega) | assumption | trivial)
  replace hbw := bset hbw hc_ (by omega)
  have hz_w5 := hc_.size
  clear hc_
  refine Wn (tN (W_ret ?_))
  exact (rC rfl rfl hB0 Tryz.underlying231 rfl (by rw [tabV_size]; exact siz231) ⟨rfl, hbw⟩).1
theorem xor_ones (x : UInt32) : bits .xor .u32 (x.toNat : Int) 4294967295 = ((x ^^^ Crc.ones).toNat : Int) := xor_u32 x Crc.ones
theorem toU8_xor (x : UInt32) (b : UInt8) : bits .xor .u8 ((x.toUInt8).toNat : Int) (b.toNat : Int) = ((x.toUInt8 ^^^ b).toNat : Int) := xor_u8 _ b
theorem More_any (c : UInt32) (s : List UInt8) (w : World) (hs : s.length ≤ 9223372036854775807) : Calls Tryz.prog 119 #[.int .u32 c.toNat, str s] w fun e w' => e = .returned (.int .u32 ((s.foldl Crc.step (c ^^^ Crc.ones)) ^^^ Crc.ones).toNat) ∧ Below w.heap.size w w' := by
 refine W_enter (args := [.int .u32 c.toNat, str s]) 30 Tryz.func119 rfl rfl rfl (W_sub [(0, .int .u32 c.toNat), (1, str s)] ?_ ⟨rfl, rfl, trivial⟩)
 have hbw := Below.refl w.heap.size w
 refine W_rs (sa rfl rfl (Wn (tN (W_rs (sc _ Tryz.func156 rfl (by kernel_rfl) rfl rfl ((table_any _).mono ?_))))))
 rintro e_ w1 ⟨rfl, hb⟩
 refine cR ?_
 replace hbw := bthen hbw hb
 have hz_w1 := hb.size
 clear hb
 refine sm rfl rfl (st (X.bits (by simp) rfl rfl (xor_ones c)) rfl ?_)
 refine salA inf231 rfl (fun g5 w2 hB5 hg5 hb hl5 => ?_)
 replace hbw := bthen hbw hb
 have hz_w2 := hb.size
 clear hb
 refine ssBN rfl rfl hB5 (by rw [tabV_size]; exact siz231) (by rw [tabV_size]; exact rep_size 256 _) tabV_one (fun w3 hB_ hc_ => ?_)
 replace hB5 := hB_
 clear hB_
 replace hbw := bset hbw hc_ (by omega)
 have hz_w3 := hc_.size
 clear hc_
 refine sa rfl rfl (Wn (tN (W_seq (W_rs (sm rfl rfl (st (X.lenS rfl rfl Tryz.underlying9) rfl (sm rfl rfl (Wn (tN (W_block ?_))))))))))
 refine W_lp (fun nw4_ lw4_ w4 => ∃ j : Nat, nw4_ = s.length - j ∧ lw4_ = ([(1, str s), (5, .pointer (some ⟨g5, 0, none⟩)), (6, .int .u32 ((s.take j).foldl Crc.step (c ^^^ Crc.ones)).toNat), (12, .int .i64 s.length), (13, .int .i64 j)] : Env) ∧ (j ≤ s.length) ∧ (Blk w4 g5 231 tabV) ∧ (Below w.heap.size w w4)) _ ⟨_, ⟨0, rfl, rfl, by omega, hB5, hbw⟩, ⟨rfl, rfl, rfl, rfl, rfl, trivial⟩⟩ ?_
 clear hB5 hbw
 rintro nw4_ lw4_ w4 ⟨j, rfl, rfl, hj, hB5, hbw⟩
 have hz_w4 := hbw.size
 have hlt_hB5_w4 := hB5.lt
 refine W_rs (st (X.lss rfl rfl) rfl (Wn (tN (W_seq (W_if rfl (fun h14 => ?_) (fun h14 => ?_))))))
 ·first | replace h14 := of_decide_eq_true h14 | replace h14 := of_decide_eq_false (notT h14) | replace h14 := notT h14 | skip
  obtain ⟨x, hx⟩ : ∃ x, (s.take j).foldl Crc.step (c ^^^ Crc.ones) = x := ⟨_, rfl⟩
  have htk : (s.take (j + 1)).foldl Crc.step (c ^^^ Crc.ones) = Crc.step x (s.getD j 0) := by
   rw [List.take_succ_eq_append_getElem (by omega), List.foldl_append, hx]; simp [List.getD, List.getElem?_eq_getElem (show j < s.length by omega)]
  rw [hx]
  refine W_skip (tN (W_seq (W_block (W_rs (sm rfl rfl (sa rfl rfl (Wn (tN (W_reg (sm rfl rfl ?_))))))))))
  refine st (X.shrz (q := 256) rfl rfl (by decide) (by decide) rfl rfl (shr_u32 x 8 (by omega))) rfl (sm rfl rfl (st (X.convI rfl Tryz.underlying145 Tryz.underlying5 ((w8 _).trans (u32_to_u8 x))) rfl (sm rfl rfl (sm rfl rfl (st (X.idxS rfl rfl Tryz.underlying9 rfl (by omega)) rfl (st (X.bits (by simp) rfl rfl (toU8_xor x _)) rfl ?_))))))
  refine st (X.idxArr (j := (x.toUInt8 ^^^ s.getD j 0).toNat) rfl rfl Tryz.underlying231 siz145 rfl (UInt8.toNat_lt _)) rfl (st (X.ldB rfl hB5 Tryz.underlying145 rfl (by rw [Nat.zero_add, Nat.mul_one, tabV_at _ (UInt8.toNat_lt _), UInt8.ofNat_toNat])) rfl ?_)
  refine st (X.bits (by simp) rfl rfl (xor_u32 _ _)) rfl ?_
  refine sa rfl rfl (Wn (bN (tN (W_reg (st (X.add64 rfl rfl (by omega)) rfl (sm rfl rfl (Wn (tN ⟨_, _, ?_, ⟨j + 1, rfl, rfl, by omega, hB5, hbw⟩, ⟨rfl, rfl, by rw [htk]; rfl, rfl, rfl, trivial⟩⟩))))))))
  omega
 ·first | replace h14 := of_decide_eq_false h14 | replace h14 := of_decide_eq_true (notF h14) | replace h14 := notF h14 | skip
  refine W_exit (tE (tE (bH (tN (W_rs (sm rfl rfl (st (X.bits (by simp) rfl rfl (xor_ones _)) rfl ?_)))))))
  refine sa rfl rfl (Wn (tN (W_ret ((rT rfl rfl ⟨?_, hbw⟩).1))))
  rw [List.take_of_length_le (by omega)]
theorem Crc_any (s : List UInt8) (w : World) (hs : s.length ≤ 9223372036854775807) : Calls Tryz.prog 78 #[str s] w fun e w' => e = .returned (.int .u32 (Crc.crc s).toNat) ∧ Below w.heap.size w w' := by
 refine W_enter (args := [str s]) 5 Tryz.func78 rfl rfl rfl (W_sub [(0, str s)] ?_ ⟨rfl, trivial⟩)
 have hbw := Below.refl w.heap.size w
 refine W_rs (sa rfl rfl (Wn (tN (W_rs (sm rfl rfl (sc _ Tryz.func119 rfl (by kernel_rfl) rfl rfl ((More_any 0 s _ hs).mono ?_)))))))
 rintro e_ w1 ⟨rfl, hb⟩
 refine cR ?_
 replace hbw := bthen hbw hb
 have hz_w1 := hb.size
 clear hb
 refine sa rfl rfl (Wn (tN (W_ret ?_)))
 exact (rT rfl rfl ⟨rfl, hbw⟩).1
end Go.Proofs.YtnlabkogebnioaaGreatDoor
namespace Go.Proofs.YtnlabkogebnioaaGreatDoor
open Go.RowKit
section
variable {α : Type} {f : α → List Value} {q : TypeId} {k : Nat}
theorem Reads.rec_ {w : World} {g o c : Nat} {l : List α} (h : Reads w k (.slice (some ⟨g, o, none⟩) l.length c) l.length (l.flatMap f)) (hk : ∀ a ∈ l, (f a).length = k) {j : Nat} {x : α} (hx : l[j]? = some x) : w.rangeAt g (o + j * k) (f x) := by
 have hj := (List.getElem?_eq_some_iff.1 hx).1
 have := h.range j hj
 rwa [flat_at f k l j x hk hx] at this
end
end Go.Proofs.YtnlabkogebnioaaGreatDoor
namespace Go.Proofs.YtnlabkogebnioaaGreatDoor
open Go.RowKit
section
variable {P : Program} {ops : Array Oper} {Q : Exit → Act → World → Prop} {S : Array Bool → World → Prop} {n : Nat} {w0 : World}
def Shut (ops : Array Oper) (L : Array Bool) : Prop := ∀ (j : Nat) (oj : Oper), ops[j]? = some oj → L.getD j false = true → ∀ e ∈ oj.after, Region.binds .any e = true → L.getD e.on false = true
theorem Shut.set {L : Array Bool} {i : Nat} (h : Shut ops L) (hi : i ∈ Region.ready .any ops L) : Shut ops (L.setIfInBounds i true) := by
 obtain ⟨_, oi, hoi, hall⟩ := mem_ready.1 hi
 intro j oj hj hl e he hb
 by_cases hij : i = j
 ·subst hij
  obtain rfl : oj = oi := Option.some.inj (hj.symm.trans hoi)
  exact getD_set_true (hall e he hb)
 ·rw [getD_set_ne false hij] at hl
  exact getD_set_true (h j oj hj hl e he hb)
def wpAnyL' (P : Program) (ops : Array Oper) (Q : Exit → Act → World → Prop) (S : Array Bool → World → Prop) : Nat → Array Bool → Act → World → Prop
  | 0, L, a, w => Region.ready .any ops L = [] ∧ Q .normal a w
  | f + 1, L, a, w => (Region.ready .any ops L = [] → Q .normal a w) ∧ ∀ i ∈ Region.ready .any ops L, wpOp P ops Q i (fun a' w' => S (L.setIfInBounds i true) w' ∧ wpAnyL' P ops Q S f (L.setIfInBounds i true) a' w') a w
theorem wpAny_of_L' : ∀ (f : Nat) (L : Array Bool) (a : Act) (w : World), wpAnyL' P ops Q S f L a w → wpAny P .any ops Q f L a w
 | 0, _, _, _, h => h
 | f + 1, _, _, _, h => ⟨h.1, fun i hi => wpOp_mono (fun a' w' h' => wpAny_of_L' f _ a' w' h'.2) (h.2 i hi)⟩
def When (ops : Array Oper) (S : Array Bool → World → Prop) (i : Nat) (w : World) : Prop := ∃ L, Shut ops L ∧ L.getD i true = false ∧ S L w
theorem getD_both' {L : Array Bool} {i : Nat} (h : L.getD i true = false) : L.getD i false = false := by
 rcases Nat.lt_or_ge i L.size with h' | h'
 ·simp [h'] at h ⊢; exact h
 ·simp [Array.getElem?_eq_none h'] at h
theorem wpAnyL'_first {i : Nat} {oi : Oper} {v : Value} (hi : ops[i]? = some oi) (hsel : ∀ (j : Nat) (o : Oper) cs b, ops[j]? = some o → o.op ≠ .select cs b)
  (hQ : ∀ c a w, Q (.panic c) (a.put oi.dst v) w → Q (.panic c) a w) (hS : ∀ L w, S (L.setIfInBounds i true) w ↔ S L w) :
  ∀ (f : Nat) (L : Array Bool) (a : Act) (w : World), Shut ops L →
   (∀ j oj, ops[j]? = some oj → j ≠ i → L.getD j true = false → (∀ e ∈ oj.after, Region.binds .any e = true → e.on ≠ i) → oi.apart ops oj = true) →
   i ∈ Region.ready .any ops L → YieldsIf P ops (When ops S i) oi v a → S L w →
   wpAnyL' P ops Q S f (L.setIfInBounds i true) (a.put oi.dst v) w → wpAnyL' P ops Q S (f + 1) L a w := by
 intro f
 induction f with
 | zero =>
  intro L a w hL _ hr hy hs H
  refine ⟨fun h => (by rw [h] at hr; cases hr), fun j hj => ?_⟩
  by_cases hji : j = i
  ·subst hji
   exact hy.wpOp hi ⟨L, hL, (mem_ready.1 hr).1, hs⟩ ⟨(hS L w).2 hs, H⟩
  ·have := ready_mono hj hji
   rw [H.1] at this
   cases this
 | succ f ih =>
  intro L a w hL hfree hr hy hs H
  refine ⟨fun h => (by rw [h] at hr; cases hr), fun j hj => ?_⟩
  by_cases hji : j = i
  ·subst hji
   exact hy.wpOp hi ⟨L, hL, (mem_ready.1 hr).1, hs⟩ ⟨(hS L w).2 hs, H⟩
  ·have h1 := H.2 j (ready_mono hj hji)
   obtain ⟨hjun, oj, hoj, hall⟩ := mem_ready.1 hj
   have hnot : ∀ e ∈ oj.after, Region.binds .any e = true → e.on ≠ i := fun e he hb heq => by
    have h1 := hall e he hb
    rw [heq, getD_both' (mem_ready.1 hr).1] at h1
    cases h1
   have h2 := wpOp_putIf hoj (hfree j oj hoj hji hjun hnot) (fun cs b => hsel i oi cs b hi) (fun cs b => hsel j oj cs b hoj) hQ hy h1
   have hfree' : ∀ k ok, ops[k]? = some ok → k ≠ i → (L.setIfInBounds j true).getD k true = false →
     (∀ e ∈ ok.after, Region.binds .any e = true → e.on ≠ i) → oi.apart ops ok = true := fun k ok hk hki hun hno => by
    refine hfree k ok hk hki ?_ hno
    by_cases hjk : j = k
    ·subst hjk; exact hjun
    ·rw [getD_set_ne true hjk] at hun; exact hun
   refine wpOp_mono (fun a' w' h3 => ?_) h2
   rw [Array.setIfInBounds_comm _ _ (Ne.symm hji)] at h3
   have h4 := (hS _ _).1 h3.2.1
   exact ⟨h4, ih (L.setIfInBounds j true) a' w' (hL.set hj) hfree' (ready_mono hr (Ne.symm hji)) h3.1 h4 h3.2.2⟩
def isMove (o : Oper) : Bool := (match o.op with | .move _ => true | _ => false)
theorem move_yields {o : Oper} {v : Value} {a : Act} {S : World → Prop} (h : YieldsIf P ops (fun w => w = w0) o v a) (hm : isMove o = true) : YieldsIf P ops S o v a := by
 unfold isMove at hm
 rcases h with ⟨h1, h2⟩ | h
 ·refine .inl ⟨h1, fun w _ => ?_⟩
  have h3 := h2 w0 rfl
  unfold execOp at h3 ⊢
  split at hm
  ·rename_i x hx
   rw [hx] at h3 ⊢
   simp only [Sem.run_pure] at h3 ⊢
   injection h3 with h4 _
   rw [h4]
  ·cases hm
 ·exact .inr h
inductive Led (ops : Array Oper) (n : Nat) : Nat → Prop
  | here : Led ops n n
  | step {i j : Nat} (h : Led ops n j) (hw : Region.waitsFor .any ops j i = true) : Led ops n i
theorem Led.listed {i : Nat} (h : Led ops n i) {L : Array Bool} (hL : Shut ops L) (hn : L.getD n false = true) : L.getD i false = true := by
 induction h with
 | here => exact hn
 | step h hw ih =>
  obtain ⟨oj, hoj, e, he, hb, hon⟩ := Region.waitsFor_spec hw
  rw [← hon]
  exact hL _ oj hoj ih e he hb
def ledB (ops : Array Oper) : Nat → List Nat → List Nat
  | 0, r => r
  | k + 1, r => ledB ops k (if r.any (fun j => Region.waitsFor .any ops j k) then k :: r else r)
theorem ledB_spec : ∀ (k : Nat) (r : List Nat), (∀ i ∈ r, Led ops n i) → ∀ i ∈ ledB ops k r, Led ops n i
 | 0, _, h => h
 | k + 1, r, h => by
  refine ledB_spec k _ (fun i hi => ?_)
  split at hi
  ·rename_i hw
   obtain ⟨j, hj, hjk⟩ := List.any_eq_true.1 hw
   rcases List.mem_cons.1 hi with rfl | hi
   ·exact .step (h j hj) hjk
   ·exact h i hi
  ·exact h i hi
end
section
variable {P : Program} {ops : Array Oper} {Q : Exit → Act → World → Prop} {n : Nat} {S0 : World → Prop}
def wpHeadS (P : Program) (ops : Array Oper) (Q : Exit → Act → World → Prop) (S0 : World → Prop) (K : Act → World → Prop) : List Oper → List Bool → Act → World → Prop
  | [], _, a, w => K a w
  | o :: l, true :: r, a, w => ∃ v, YieldsIf P ops S0 o v a ∧ wpHeadS P ops Q S0 K l r (a.put o.dst v) w
  | o :: l, r, a, w => Region.wanted o (yielded ops a.tmps) = true ∧ o.wp P a w (fun a' w' => S0 w' ∧ wpHeadS P ops Q S0 K l r.tail a' w') Q
def sunkAt (ops : Array Oper) (n k : Nat) : Bool := (match ops[k]? with | some o => isMove o | none => false) || (ledB ops n [n]).contains k
theorem sunkAt_spec {k : Nat} (h : sunkAt ops n k = true) {o : Oper} (ho : ops[k]? = some o) : isMove o = true ∨ Led ops n k := by
 unfold sunkAt at h
 simp only [ho, Bool.or_eq_true] at h
 refine h.imp id fun hc => ?_
 exact ledB_spec n [n] (fun i hi => by rw [List.mem_singleton.1 hi]; exact .here) k (by simpa using hc)
def headOkS (ops : Array Oper) (n g : Nat) : List Bool → Nat → Array Bool → Bool
  | [], k, L => Region.seqB .any ops g k L
  | true :: r, k, L => (Region.ready .any ops L).contains k && Region.free .any ops L k && sunkAt ops n k && headOkS ops n g r (k + 1) (L.setIfInBounds k true)
  | false :: r, k, L => decide (Region.ready .any ops L = [k]) && headOkS ops n g r (k + 1) (L.setIfInBounds k true)
def Kept_ (n : Nat) (S0 : World → Prop) (L : Array Bool) (w : World) : Prop := L.getD n false = true ∨ S0 w
theorem wpAnyL'_of_seqS : ∀ (l : List Oper) (k : Nat) (L : Array Bool) (a : Act) (w : World), (∀ j, l[j]? = ops[k + j]?) → n < L.size →
  Region.seqB .any ops l.length k L = true → (k = n ∨ L.getD n false = true) → wpList P ops Q l a w → wpAnyL' P ops Q (Kept_ n S0) l.length L a w
 | [], _, _, _, _, _, _, hB, _, h => ⟨by simpa [Region.seqB] using hB, h⟩
 | o :: l, k, L, a, w, hl, hsz, hB, hk, h => by
  have h0 : ops[k]? = some o := by simpa using (hl 0).symm
  simp only [List.length_cons, Region.seqB, Bool.and_eq_true, decide_eq_true_eq] at hB
  refine ⟨fun h1 => (by rw [hB.1] at h1; cases h1), fun i hi => ?_⟩
  rw [hB.1] at hi
  obtain rfl : i = k := by simpa using hi
  have hn : (L.setIfInBounds i true).getD n false = true := by
   rcases hk with rfl | hk
   ·simp [hsz]
   ·exact getD_set_true hk
  have hw : wpOp P ops Q i (wpList P ops Q l) a w := by unfold wpOp; simp only [h0]; exact h
  exact wpOp_mono (fun a' w' h' => ⟨.inl hn, wpAnyL'_of_seqS l (i + 1) _ a' w' (fun j => by have := hl (j + 1); simpa [Nat.add_assoc, Nat.add_comm 1 j] using this) (by simpa using hsz) hB.2 (.inr hn) h'⟩) hw
theorem wpAnyL'_of_headS (hsel : Region.noSelect ops = true) (hQ : ∀ c a d v w, Q (.panic c) (a.put d v) w → Q (.panic c) a w) (r : List Oper) (hr : ∀ j, r[j]? = ops[n + j]?) :
  ∀ (l : List Oper) (bs : List Bool) (k : Nat) (L : Array Bool) (a : Act) (w : World), (∀ j, j < l.length → l[j]? = ops[k + j]?) → bs.length = l.length → k + l.length = n → n < L.size → Shut ops L →
  headOkS ops n r.length bs k L = true → S0 w → wpHeadS P ops Q S0 (fun a w => wpList P ops Q r a w) l bs a w → wpAnyL' P ops Q (Kept_ n S0) (l.length + r.length) L a w
 | [], [], k, L, a, w, _, _, hk, hsz, _, hB, _, h => by
  obtain rfl : k = n := by simpa using hk
  rw [List.length_nil, Nat.zero_add]
  exact wpAnyL'_of_seqS r k L a w hr hsz (by simpa [headOkS] using hB) (.inl rfl) h
 | [], _ :: _, _, _, _, _, _, hb, _, _, _, _, _, _ => by cases hb
 | _ :: _, [], _, _, _, _, _, hb, _, _, _, _, _, _ => by cases hb
 | o :: l, true :: bs, k, L, a, w, hl, hb, hk, hsz, hL, hB, hS, h => by
  have h0 : ops[k]? = some o := by simpa using (hl 0 (by simp)).symm
  simp only [headOkS, Bool.and_eq_true] at hB
  obtain ⟨⟨⟨hrd, hf⟩, hsk⟩, hB'⟩ := hB
  have hkn : k < n := by simp only [List.length_cons] at hk; omega
  have hrd' : k ∈ Region.ready .any ops L := by simpa using hrd
  obtain ⟨v, hy, hK⟩ := h
  have hy' : YieldsIf P ops (When ops (Kept_ n S0) k) o v a := by
   rcases sunkAt_spec hsk h0 with hm | hled
   ·rcases hy with ⟨h1, h2⟩ | h1
    ·exact move_yields (w0 := w) (.inl ⟨h1, fun _ e => by rw [e]; exact h2 w hS⟩) hm
    ·exact .inr h1
   ·rcases hy with ⟨h1, h2⟩ | h1
    ·refine .inl ⟨h1, fun w' hw => ?_⟩
     obtain ⟨L', hL', hk', hS'⟩ := hw
     rcases hS' with hS' | hS'
     ·have := hled.listed hL' hS'
      rw [getD_both' hk'] at this
      cases this
     ·exact h2 _ hS'
    ·exact .inr h1
  rw [List.length_cons, show l.length + 1 + r.length = (l.length + r.length) + 1 by omega]
  refine wpAnyL'_first h0 (Region.noSelect_spec hsel) (fun c a w => hQ c a _ _ w) (fun L w => ?_) _ L a w hL (Region.free_spec h0 hf) hrd' hy' (.inr hS)
   (wpAnyL'_of_headS hsel hQ r hr l bs (k + 1) _ _ w (fun j hj => by have := hl (j + 1) (by simp; omega); simpa [Nat.add_assoc, Nat.add_comm 1 j] using this) (by simpa using hb) (by simp only [List.length_cons] at hk; omega) (by simpa using hsz) (hL.set hrd') hB' hS hK)
  unfold Kept_
  rw [getD_set_ne false (by omega : k ≠ n)]
 | o :: l, false :: bs, k, L, a, w, hl, hb, hk, hsz, hL, hB, hS, h => by
  have h0 : ops[k]? = some o := by simpa using (hl 0 (by simp)).symm
  simp only [headOkS, Bool.and_eq_true, decide_eq_true_eq] at hB
  have hrd' : k ∈ Region.ready .any ops L := by rw [hB.1]; simp
  rw [List.length_cons, show l.length + 1 + r.length = (l.length + r.length) + 1 by omega]
  refine ⟨fun h1 => (by rw [hB.1] at h1; cases h1), fun i hi => ?_⟩
  rw [hB.1] at hi
  obtain rfl : i = k := by simpa using hi
  have hw : wpOp P ops Q i (fun a' w' => S0 w' ∧ wpHeadS P ops Q S0 (fun a w => wpList P ops Q r a w) l bs a' w') a w := by
   unfold wpOp
   simp only [h0]
   rw [if_pos h.1]
   exact .inl h.2
  exact wpOp_mono (fun a' w' h' => ⟨.inr h'.1, wpAnyL'_of_headS hsel hQ r hr l bs (i + 1) _ _ w' (fun j hj => by have := hl (j + 1) (by simp; omega); simpa [Nat.add_assoc, Nat.add_comm 1 j] using this) (by simpa using hb) (by simp only [List.length_cons] at hk; omega) (by simpa using hsz) (hL.set hrd') hB.2 h'.1 h'.2⟩) hw
def phaseB (ops : Array Oper) (n : Nat) (bs : List Bool) : Bool := Region.noSelect ops && decide (n < ops.size) && (bs.length == n) && headOkS ops n (ops.size - n) bs 0 (Array.replicate ops.size false)
theorem wp_region_phase {id : Nat} {a : Act} {w : World} {l : List Oper} (S0 : World → Prop) (n : Nat) (bs : List Bool) (hm : P.follows .mixedOrders = true) (hB : phaseB l.toArray n bs = true)
  (hQ : ∀ c a d v w, Q (.panic c) (a.put d v) w → Q (.panic c) a w) (hS : S0 w.drew)
  (h : wpHeadS P l.toArray Q S0 (fun a' w' => wpList P l.toArray Q (l.drop n) a' w') (l.take n) bs a w.drew) : (Code.region id l.toArray true).wp P Q a w := by
 simp only [phaseB, Bool.and_eq_true, decide_eq_true_eq, beq_iff_eq] at hB
 obtain ⟨⟨⟨hsel, hn⟩, hbl⟩, hh⟩ := hB
 have hn' : n < l.length := by simpa using hn
 have htl : (l.take n).length = n := by simp; omega
 have hdl : (l.drop n).length = l.toArray.size - n := by simp
 refine wp_region_any hm ?_
 have H := wpAnyL'_of_headS (n := n) (S0 := S0) hsel hQ (l.drop n) (fun j => by simp [List.getElem?_drop]) (l.take n) bs 0 (Array.replicate l.toArray.size false) a w.drew (fun j hj => by
  have hj' : j < n := by rw [htl] at hj; exact hj
  simp [hj']) (by rw [htl, hbl]) (by simpa using htl) (by simpa using hn') (fun j oj _ hl => (by rw [getD_replicate_false] at hl; cases hl)) (by rw [hdl]; exact hh) hS h
 rw [htl, hdl, show n + (l.toArray.size - n) = l.toArray.size by omega] at H
 exact wpAny_of_L' _ _ _ _ H
end
section
variable {P : Program} {N : Nat} {ds : List Deferred} {Q : Post} {K : Env → World → Prop} {S0 : World → Prop} {os rest : List Oper} {bs : List Bool} {ops : Array Oper} {l : Env} {w : World} {op : Op} {ty : TypeId} {pos : String} {aft : Array Edge} {d : Nat} {v : Value}
def WP (P : Program) (N : Nat) (ds : List Deferred) (ops : Array Oper) (Q : Post) (S0 : World → Prop) (K : Env → World → Prop) (os : List Oper) (bs : List Bool) (l : Env) (w : World) : Prop :=
  ∀ a, Rep N ds l a → wpHeadS P ops (lift N ds Q) S0 (fun a' w' => ∃ l', Rep N ds l' a' ∧ K l' w') os bs a w
theorem pN (h : K l w) : WP P N ds ops Q S0 K [] [] l w := fun _ ha => ⟨_, ha, h⟩
theorem pY (hx : ∀ w, S0 w → X P l op ty w v w) (hd : Nat.blt d N = true) (h : WP P N ds ops Q S0 K rest bs ((d, v) :: l) w) : WP P N ds ops Q S0 K (⟨some d, op, ty, pos, aft, none⟩ :: rest) (true :: bs) l w := fun _ ha =>
 ⟨v, .inl ⟨rfl, fun w hw => hx w hw _ ha.knows⟩, h _ (ha.put hd v)⟩
theorem pL {od : Option Nat} (h : ∀ Q', (∀ l w, S0 w → WP P N ds ops Q S0 K rest bs l w → Q' .normal l w) → (∀ c l w, Q (.panic c) l w → Q' (.panic c) l w) → WL P N ds ops Q' [⟨od, op, ty, pos, aft, none⟩] l w) : WP P N ds ops Q S0 K (⟨od, op, ty, pos, aft, none⟩ :: rest) (false :: bs) l w := fun a ha => by
 have := h (fun e l w => match e with | .normal => S0 w ∧ WP P N ds ops Q S0 K rest bs l w | .panic c => Q (.panic c) l w | _ => False) (fun l w hs h => ⟨hs, h⟩) (fun c l w h => h) a ha
 unfold wpList at this
 have hw : Region.wanted ⟨od, op, ty, pos, aft, none⟩ (yielded ops a.tmps) = true := rfl
 rw [if_pos hw] at this
 refine ⟨hw, ?_⟩
 rcases this with this | ⟨_, a0, w0, hq⟩
 ·unfold Oper.wp at this ⊢
  revert this
  generalize (execOp a.eval ⟨od, op, ty, pos, aft, none⟩).run P w = res
  intro this
  unfold Oper.upon at this ⊢
  split at this
  ·simp only [wpList] at this; obtain ⟨l', hr, hs, h⟩ := this; exact ⟨hs, h _ hr⟩
  ·simp only [wpList] at this; obtain ⟨l', hr, hs, h⟩ := this; exact ⟨hs, h _ hr⟩
  ·simp only [wpList] at this; obtain ⟨l', hr, hs, h⟩ := this; exact ⟨hs, h _ hr⟩
  ·refine Calls.mono this fun e w' h => ?_
   cases e with
   | returned v => simp only [wpList] at h; obtain ⟨l', hr, hs, h⟩ := h; exact ⟨hs, h _ hr⟩
   | panicked c => exact h
   | outgrown => obtain ⟨a0, w0, l0, h1, h2⟩ := h; exact h2.elim
  ·refine Rows.mono this fun v w' h => ?_
   simp only [wpList] at h; obtain ⟨l', hr, hs, h⟩ := h; exact ⟨hs, h _ hr⟩
  ·exact this
  ·exact this.elim
 ·obtain ⟨l0, _, h2⟩ := hq; exact h2.elim
theorem wpHeadS_imp {Q' : Exit → Act → World → Prop} {A B : Act → World → Prop} (h : ∀ a w, A a w → B a w) : ∀ (os : List Oper) (bs : List Bool) (a : Act) (w : World), wpHeadS P ops Q' S0 A os bs a w → wpHeadS P ops Q' S0 B os bs a w
 | [], _, _, _, hh => h _ _ hh
 | _ :: rest, true :: bs, _, _, ⟨v, hy, hh⟩ => ⟨v, hy, wpHeadS_imp h rest bs _ _ hh⟩
 | _ :: rest, false :: bs, _, _, hh => ⟨hh.1, Oper.wp_mono (fun _ _ h' => ⟨h'.1, wpHeadS_imp h rest bs _ _ h'.2⟩) hh.2⟩
 | _ :: rest, [], _, _, hh => ⟨hh.1, Oper.wp_mono (fun _ _ h' => ⟨h'.1, wpHeadS_imp h rest [] _ _ h'.2⟩) hh.2⟩
theorem W_phase {id : Nat} (S0 : World → Prop) (n : Nat) (bs : List Bool) (hm : P.follows .mixedOrders = true) (hB : phaseB os.toArray n bs = true) (hS : S0 w.drew)
  (h : WP P N ds os.toArray (onlyN (fun l w => Q .normal l w)) S0 (fun l w => WL P N ds os.toArray (onlyN (fun l w => Q .normal l w)) (os.drop n) l w) (os.take n) bs l w.drew) : W P N ds Q (.region id os.toArray true) l w := fun a ha =>
 Code.wp_mono (fun e a w hq => by
  obtain ⟨l', hr, hq⟩ := hq
  refine ⟨l', hr, ?_⟩
  cases e with
  | normal => exact hq
  | _ => exact hq.elim) (wp_region_phase (Q := lift N ds (onlyN (fun l w => Q .normal l w))) S0 n bs hm hB (fun c a d v w hq => by
   obtain ⟨_, _, hq⟩ := hq
   exact hq.elim) hS (wpHeadS_imp (fun a' w' h' => by
    obtain ⟨l', hr, hq⟩ := h'
    exact hq a' hr) _ _ _ _ (h a ha)))
theorem W_phase_s {id : Nat} {y : Code} (S0 : World → Prop) (n : Nat) (bs : List Bool) (hm : P.follows .mixedOrders = true) (hB : phaseB os.toArray n bs = true) (hS : S0 w.drew)
  (h : WP P N ds os.toArray (onlyN (W P N ds Q y)) S0 (fun l w => WL P N ds os.toArray (onlyN (W P N ds Q y)) (os.drop n) l w) (os.take n) bs l w.drew) : W P N ds Q (.seq (.region id os.toArray true) y) l w :=
 W_seq (W_phase S0 n bs hm hB hS h)
end
end Go.Proofs.YtnlabkogebnioaaGreatDoor
namespace Go.Proofs.YtnlabkogebnioaaGreatDoor
open Go.RowKit
def okL : Env → Array Value → Prop
  | [], _ => True
  | (t, v) :: r, a => a.getD t undef = v ∧ okL r a
theorem okL_val : ∀ {l : Env} {a : Array Value}, okL l a → ∀ t v, lk l t = some v → a.getD t undef = v
 | [], _, _, _, _, h => by cases h
 | (d, u) :: r, a, hs, t, v, h => by
  unfold lk at h
  cases ht : Nat.beq t d with
  | true =>
   rw [ht] at h
   have e : t = d := Nat.eq_of_beq_eq_true ht
   subst e
   simp only [cond_true, Option.some.injEq] at h
   subst h
   exact hs.1
  | false =>
   rw [ht] at h
   exact okL_val hs.2 t v h
theorem W_out {P : Program} {N : Nat} {ds : List Deferred} {Q : Post} {Q' : Exit → Act → World → Prop} {c : Code} {l : Env} {w : World} {a : Act} (h : W P N ds Q c l w) (hs : a.tmps.size = N) (hd : a.defers = ds) (hv : okL l a.tmps)
  (hq : ∀ e l a w, Rep N ds l a → Q e l w → Q' e a w) : c.wp P Q' a w :=
 Code.wp_mono (fun e a w hx => by obtain ⟨l, hr, hx⟩ := hx; exact hq e l a w hr hx) (h a ⟨hs, hd, okL_val hv⟩)
end Go.Proofs.YtnlabkogebnioaaGreatDoor
