/- The disk in memory. -/
import Derived.Test.YtnijmegalgoipaaDoorDiskPlain
import Derived.Test.YtnijmegalgoipaaDoorTypes
import Derived.Test.YtnijmegalgoipaaDoorTree
import Derived.Test.YtnijmegalgoipaaDoorOps4
namespace Go.Proofs.YtnijmegalgoipaaDoor
open Go.RowKit
def encPtr (g : Nat) : Value := .pointer (some ⟨g, 0, none⟩)
def putCells (p : Nat × List UInt8) : List Value := [.int .i64 p.1, str p.2]
theorem putCells_length (p : Nat × List UInt8) : (putCells p).length = 2 := rfl
theorem putCells_one (p : Nat × List UInt8) : ∀ v ∈ putCells p, v.oneCell' = true := by
  intro v hv
  simp only [putCells, List.mem_cons, List.not_mem_nil, or_false] at hv
  rcases hv with rfl | rfl <;> rfl
theorem puts_length (l : List (Nat × List UInt8)) : (l.flatMap putCells).length = l.length * 2 := by
  induction l with
  | nil => rfl
  | cons p l ih => rw [List.flatMap_cons, List.length_append, ih, putCells_length, List.length_cons]; omega
theorem puts_one (l : List (Nat × List UInt8)) : ∀ v ∈ l.flatMap putCells, v.oneCell' = true := by
  intro v hv
  obtain ⟨p, _, hp⟩ := List.mem_flatMap.1 hv
  exact putCells_one p v hp
/-- where a file lies -/
structure FRec where
  blk : Nat
  vl : Value
  vn : Value
  vp : Value
  f : FileD
def FRec.owns (r : FRec) (k : Nat) : Prop := k = r.blk ∨ r.vl.ownBlock = some k ∨ r.vn.ownBlock = some k ∨ r.vp.ownBlock = some k
structure FileAt (w : World) (r : FRec) : Prop where
  blk : Blk w r.blk 95 #[r.vl, r.vn, r.vp]
  last : Row w 5 1 r.vl r.f.last.length (r.f.last.map bv)
  now : Row w 5 1 r.vn r.f.now.length (r.f.now.map bv)
  pend : Row w 109 2 r.vp r.f.pend.length (r.f.pend.flatMap putCells)
  apart : ∀ k, r.vl.ownBlock = some k → r.vn.ownBlock ≠ some k
theorem Row.heap_cells {w : World} {e : TypeId} {size n : Nat} {v : Value} {xs : List Value} (h : Row w e size v n xs) {k : Nat} (hk : v.ownBlock = some k) : ∃ cs fz, w.heap[k]? = some (.cells cs e fz) := by
  rcases h.2 with ⟨rfl, _⟩ | ⟨g, off, cap, cur, fz, rfl, hg, _⟩
  · simp [Value.ownBlock] at hk
  · simp [Value.ownBlock] at hk
    subst hk
    exact ⟨_, _, hg⟩
theorem FileAt.cells {w : World} {r : FRec} (h : FileAt w r) {k : Nat} (hk : r.owns k) : ∃ cs t fz, w.heap[k]? = some (.cells cs t fz) ∧ (t = 95 ∨ t = 5 ∨ t = 109) := by
  rcases hk with rfl | hk | hk | hk
  · exact ⟨_, _, _, h.blk, .inl rfl⟩
  · obtain ⟨cs, fz, e⟩ := h.last.heap_cells hk; exact ⟨cs, _, fz, e, .inr (.inl rfl)⟩
  · obtain ⟨cs, fz, e⟩ := h.now.heap_cells hk; exact ⟨cs, _, fz, e, .inr (.inl rfl)⟩
  · obtain ⟨cs, fz, e⟩ := h.pend.heap_cells hk; exact ⟨cs, _, fz, e, .inr (.inr rfl)⟩
theorem FileAt.lt {w : World} {r : FRec} (h : FileAt w r) {k : Nat} (hk : r.owns k) : k < w.heap.size := by
  obtain ⟨cs, t, fz, e, _⟩ := h.cells hk
  exact (Array.getElem?_eq_some_iff.1 e).1
theorem FileAt.ne_blk {w : World} {r : FRec} (h : FileAt w r) {g : Nat} {t : TypeId} {cs : Array Value} (hB : Blk w g t cs) (h1 : t ≠ 95) (h2 : t ≠ 5) (h3 : t ≠ 109) : ¬ r.owns g := fun hk => by
  obtain ⟨cs', t', fz, e, ht⟩ := h.cells hk
  have hB : w.heap[g]? = some (.cells cs t (0, 0)) := hB
  rw [hB] at e
  injection e with e
  injection e with _ e
  subst e
  exact ht.elim h1 (fun h => h.elim h2 h3)
theorem FileAt.ne_map {w : World} {r : FRec} (h : FileAt w r) {g : Nat} {es : Array MapEntry} {c : Nat} (hB : w.heap[g]? = some (.map es c)) : ¬ r.owns g := fun hk => by
  obtain ⟨cs', t', fz, e, ht⟩ := h.cells hk
  rw [hB] at e
  cases e
theorem FileAt.keep {w w' : World} {r : FRec} (h : FileAt w r) (hk : ∀ k, r.owns k → w'.heap[k]? = w.heap[k]?) : FileAt w' r :=
  ⟨(hk _ (.inl rfl)).trans h.blk, h.last.keep fun k e => hk k (.inr (.inl e)), h.now.keep fun k e => hk k (.inr (.inr (.inl e))), h.pend.keep fun k e => hk k (.inr (.inr (.inr e))), h.apart⟩
theorem FileAt.chg {w w' : World} {r : FRec} {S : Nat → Prop} (h : FileAt w r) (hc : Chg S w w') (hn : ∀ k, r.owns k → ¬ S k) : FileAt w' r :=
  h.keep fun k hk => hc.block k (h.lt hk) (hn k hk)
theorem FileAt.bel {w w' : World} {r : FRec} (h : FileAt w r) (hb : Below w.heap.size w w') : FileAt w' r := h.keep fun k hk => hb.block k (h.lt hk)
def diskCells (b : Nat) (D : DiskD) : Array Value := #[.map (some b), .int .i64 D.limit, .int .i64 D.used, .int .i64 D.refused, .bool D.stops, .int .i64 D.left]
structure DiskIn (w : World) (g b : Nat) (D : DiskD) (rs : List (Key × FRec)) (S : Nat → Prop) : Prop where
  blk : Blk w g 88 (diskCells b D)
  map : MapAt w b str encPtr (rs.map fun p => (p.1, p.2.blk))
  files : ∀ n, mget D.files n = (mget rs n).map FRec.f
  at_ : ∀ n r, mget rs n = some r → FileAt w r
  apart : ∀ n m r s k, mget rs n = some r → mget rs m = some s → n ≠ m → r.owns k → ¬ s.owns k
  inS : S g ∧ S b
  inR : ∀ n r k, mget rs n = some r → r.owns k → S k
/-- a disk at g; its blocks are of S -/
def DiskAt (w : World) (g : Nat) (D : DiskD) (S : Nat → Prop) : Prop := ∃ b rs, DiskIn w g b D rs S
/-- S, and what is younger than w, up to w' -/
def Ext (S : Nat → Prop) (w w' : World) : Nat → Prop := fun k => S k ∨ (w.heap.size ≤ k ∧ k < w'.heap.size)
section
variable {w w' : World} {g b : Nat} {D D' : DiskD} {rs : List (Key × FRec)} {S T : Nat → Prop} {n : Key} {r r' : FRec}
theorem DiskIn.bel (h : DiskIn w g b D rs S) (hb : Below w.heap.size w w') : DiskIn w' g b D rs S :=
  ⟨h.blk.belowAll hb, h.map.bel hb, h.files, fun n r hr => (h.at_ n r hr).bel hb, h.apart, h.inS, h.inR⟩
theorem DiskIn.mono (h : DiskIn w g b D rs S) (hs : ∀ k, S k → T k) : DiskIn w g b D rs T :=
  ⟨h.blk, h.map, h.files, h.at_, h.apart, ⟨hs _ h.inS.1, hs _ h.inS.2⟩, fun n r k hr hk => hs k (h.inR n r k hr hk)⟩
theorem DiskIn.ne (h : DiskIn w g b D rs S) (hr : mget rs n = some r) : ¬ r.owns g ∧ ¬ r.owns b := by
  refine ⟨(h.at_ n r hr).ne_blk h.blk (by decide) (by decide) (by decide), ?_⟩
  obtain ⟨ts, clock, h1, h2, h3, h4⟩ := h.map.obj
  exact (h.at_ n r hr).ne_map h4
theorem DiskIn.gb (h : DiskIn w g b D rs S) : g ≠ b := by
  rintro rfl
  obtain ⟨ts, clock, h1, h2, h3, h4⟩ := h.map.obj
  have hB : w.heap[g]? = some (.cells (diskCells g D) 88 (0, 0)) := h.blk
  rw [hB] at h4
  cases h4
theorem DiskIn.keys (h : DiskIn w g b D rs S) : (rs.map (·.1)).Nodup := by
  have := h.map.nodup
  rwa [List.map_map, show ((fun x => x.1) ∘ fun p : Key × FRec => (p.1, p.2.blk)) = (fun p : Key × FRec => p.1) from rfl] at this
/-- what else changes -/
theorem DiskIn.chg (h : DiskIn w g b D rs S) (hc : Chg T w w') (hs : ∀ k, S k → ¬ T k) : DiskIn w' g b D rs S :=
  ⟨h.blk.chg hc (hs _ h.inS.1), h.map.chg hc (hs _ h.inS.2), h.files, fun n r hr => (h.at_ n r hr).chg hc (fun k hk => hs k (h.inR n r k hr hk)), h.apart, h.inS, h.inR⟩
theorem DiskAt.bel (h : DiskAt w g D S) (hb : Below w.heap.size w w') : DiskAt w' g D S := by
  obtain ⟨b, rs, h⟩ := h
  exact ⟨b, rs, h.bel hb⟩
theorem DiskAt.mono (h : DiskAt w g D S) (hs : ∀ k, S k → T k) : DiskAt w g D T := by
  obtain ⟨b, rs, h⟩ := h
  exact ⟨b, rs, h.mono hs⟩
theorem DiskAt.chg (h : DiskAt w g D S) (hc : Chg T w w') (hs : ∀ k, S k → ¬ T k) : DiskAt w' g D S := by
  obtain ⟨b, rs, h⟩ := h
  exact ⟨b, rs, h.chg hc hs⟩
/-- a file changes, and the disk's cells -/
theorem DiskIn.file (h : DiskIn w g b D rs S) (hr : mget rs n = some r) (hc : Chg (fun k => k = g ∨ r.owns k) w w') (hB : Blk w' g 88 (diskCells b D')) (hf : ∀ m, mget D'.files m = if m = n then some r'.f else mget D.files m)
    (hr' : FileAt w' r') (hb : r'.blk = r.blk) (ho : ∀ k, r'.owns k → r.owns k ∨ w.heap.size ≤ k) : DiskIn w' g b D' (mput rs n r') (Ext S w w') := by
  have hkk : ∀ m s k, m ≠ n → mget rs m = some s → s.owns k → ¬ (k = g ∨ r.owns k) := fun m s k hm hs hk e => by
    rcases e with rfl | e
    · exact (h.ne hs).1 hk
    · exact h.apart m n s r k hs hr hm hk e
  have hat : ∀ m s, m ≠ n → mget rs m = some s → FileAt w' s := fun m s hm hs => (h.at_ m s hs).chg hc (fun k hk => hkk m s k hm hs hk)
  refine ⟨hB, ?_, fun m => ?_, fun m s hs => ?_, fun m m' s s' k hs hs' hne hk hk' => ?_, ⟨.inl h.inS.1, .inl h.inS.2⟩, fun m s k hs hk => ?_⟩
  · rw [mput_map FRec.blk, hb, mput_same (by rw [mget_map, hr]; rfl)]
    exact h.map.chg hc (fun e => e.elim (fun e => h.gb e.symm) (h.ne hr).2)
  · rw [hf, mget_mput]
    split
    · rfl
    · exact h.files m
  · rw [mget_mput] at hs
    split at hs
    · injection hs with hs
      rw [← hs]
      exact hr'
    · rename_i hm
      exact hat m s hm hs
  · rw [mget_mput] at hs hs'
    split at hs
    · injection hs with hs
      subst hs
      rename_i hm
      rw [if_neg (fun e => hne (hm.trans e.symm))] at hs'
      have hm' : m' ≠ n := fun e => hne (hm.trans e.symm)
      rcases ho k hk with e | e
      · exact h.apart m' n s' r k hs' hr hm' hk' e
      · have := (h.at_ m' s' hs').lt hk'
        omega
    · rename_i hm
      split at hs'
      · injection hs' with hs'
        subst hs'
        rcases ho k hk' with e | e
        · exact h.apart m n s r k hs hr hm hk e
        · have := (h.at_ m s hs).lt hk
          omega
      · exact h.apart m m' s s' k hs hs' hne hk hk'
  · rw [mget_mput] at hs
    split at hs
    · injection hs with hs
      subst hs
      rcases ho k hk with e | e
      · exact .inl (h.inR n r k hr e)
      · exact .inr ⟨e, hr'.lt hk⟩
    · exact .inl (h.inR m s k hs hk)
/-- the disk's cells change alone -/
theorem DiskIn.self (h : DiskIn w g b D rs S) (hc : Chg (fun k => k = g) w w') (hB : Blk w' g 88 (diskCells b D')) (hf : D'.files = D.files) : DiskIn w' g b D' rs S :=
  ⟨hB, h.map.chg hc (fun e => h.gb e.symm), fun n => by rw [hf]; exact h.files n, fun n r hr => (h.at_ n r hr).chg hc (fun k hk e => (h.ne hr).1 (by rw [← e]; exact hk)), h.apart, h.inS, h.inR⟩
/-- a file comes -/
theorem DiskIn.add (h : DiskIn w g b D rs S) (hc : Chg (fun k => k = g ∨ k = b) w w') (hB : Blk w' g 88 (diskCells b D')) (hM : MapAt w' b str encPtr (mput (rs.map fun p => (p.1, p.2.blk)) n r'.blk))
    (hf : ∀ m, mget D'.files m = if m = n then some r'.f else mget D.files m) (hr' : FileAt w' r') (ho : ∀ k, r'.owns k → w.heap.size ≤ k) : DiskIn w' g b D' (mput rs n r') (Ext S w w') := by
  have hat : ∀ m s, mget rs m = some s → FileAt w' s := fun m s hs => (h.at_ m s hs).chg hc (fun k hk e => e.elim (fun e => (h.ne hs).1 (by rw [← e]; exact hk)) (fun e => (h.ne hs).2 (by rw [← e]; exact hk)))
  refine ⟨hB, ?_, fun m => ?_, fun m s hs => ?_, fun m m' s s' k hs hs' hne hk hk' => ?_, ⟨.inl h.inS.1, .inl h.inS.2⟩, fun m s k hs hk => ?_⟩
  · rw [mput_map FRec.blk]
    exact hM
  · rw [hf, mget_mput]
    split
    · rfl
    · exact h.files m
  · rw [mget_mput] at hs
    split at hs
    · injection hs with hs
      rw [← hs]
      exact hr'
    · exact hat m s hs
  · rw [mget_mput] at hs hs'
    split at hs
    · injection hs with hs
      subst hs
      rename_i hm
      rw [if_neg (fun e => hne (hm.trans e.symm))] at hs'
      have := ho k hk
      have := (h.at_ m' s' hs').lt hk'
      omega
    · split at hs'
      · injection hs' with hs'
        subst hs'
        have := ho k hk'
        have := (h.at_ m s hs).lt hk
        omega
      · exact h.apart m m' s s' k hs hs' hne hk hk'
  · rw [mget_mput] at hs
    split at hs
    · injection hs with hs
      subst hs
      exact .inr ⟨ho k hk, hr'.lt hk⟩
    · exact .inl (h.inR m s k hs hk)
/-- files go, or have other names -/
theorem DiskIn.sub {rs' : List (Key × FRec)} (h : DiskIn w g b D rs S) (σ : Key → Key) (hσ : ∀ n r, mget rs' n = some r → mget rs (σ n) = some r) (hi : ∀ n m r s, mget rs' n = some r → mget rs' m = some s → n ≠ m → σ n ≠ σ m)
    (hc : Chg (fun k => k = g ∨ k = b) w w') (hB : Blk w' g 88 (diskCells b D')) (hM : MapAt w' b str encPtr (rs'.map fun p => (p.1, p.2.blk))) (hf : ∀ m, mget D'.files m = (mget rs' m).map FRec.f) : DiskIn w' g b D' rs' S := by
  have hat : ∀ m s, mget rs m = some s → FileAt w' s := fun m s hs => (h.at_ m s hs).chg hc (fun k hk e => e.elim (fun e => (h.ne hs).1 (by rw [← e]; exact hk)) (fun e => (h.ne hs).2 (by rw [← e]; exact hk)))
  exact ⟨hB, hM, hf, fun m s hs => hat _ s (hσ m s hs), fun m m' s s' k hs hs' hne => h.apart _ _ s s' k (hσ m s hs) (hσ m' s' hs') (hi m m' s s' hs hs' hne), h.inS, fun m s k hs hk => h.inR _ s k (hσ m s hs) hk⟩
theorem Ext.lt (hs : ∀ k, S k → k < w.heap.size) (hz : w.heap.size ≤ w'.heap.size) : ∀ k, Ext S w w' k → k < w'.heap.size := fun k hk => hk.elim (fun e => by have := hs k e; omega) (fun e => e.2)
theorem Ext.apart (hs : ∀ k, S k → ¬ T k) (ht : ∀ k, T k → k < w.heap.size) : ∀ k, Ext S w w' k → ¬ T k := fun k hk e => hk.elim (fun a => hs k a e) (fun a => by have := ht k e; omega)
theorem Ext.of : ∀ k, S k → Ext S w w' k := fun _ h => Or.inl h
/-- a single disk, all of whose blocks are not below B -/
theorem Ext.from {B : Nat} (hB : B ≤ w.heap.size) : ∀ k, Ext (fun k => B ≤ k) w w' k → B ≤ k := fun k hk => hk.elim id (fun e => by omega)
end
end Go.Proofs.YtnijmegalgoipaaDoor
