/- The disk: plain. The disk in memory. -/
import Derived.Test.YtnijmegalgoipaaGreatDoorNetPlain
import Derived.Test.YtnijmegalgoipaaGreatDoorMapsB
import Derived.Test.YtnijmegalgoipaaGreatDoorTypes
import Derived.Test.YtnijmegalgoipaaGreatDoorTree
import Derived.Test.YtnijmegalgoipaaGreatDoorOps4
namespace Go.Proofs.YtnijmegalgoipaaGreatDoor
open Go.RowKit
/- ---------- lists of names ---------- -/
section
variable {ν μ : Type}
/-- into its place among rising names -/
def sput : List (Key × ν) → Key → ν → List (Key × ν)
  | [], k, v => [(k, v)]
  | (a, u) :: m, k, v => if k = a then (a, v) :: m else if k < a then (k, v) :: (a, u) :: m else (a, u) :: sput m k v
def Rising (m : List (Key × ν)) : Prop := m.Pairwise (fun p q => p.1 < q.1)
theorem Rising.nodup {m : List (Key × ν)} (h : Rising m) : (m.map (·.1)).Nodup := by
  rw [List.nodup_iff_pairwise_ne, List.pairwise_map]
  exact h.imp (fun h e => by rw [e] at h; exact klt_irrefl _ h)
theorem mget_above {m : List (Key × ν)} {k : Key} (h : ∀ p ∈ m, k < p.1) : mget m k = none := by
  rw [mget_none]
  intro hk
  obtain ⟨p, hp, rfl⟩ := List.mem_map.1 hk
  exact klt_irrefl _ (h p hp)
theorem mget_sput {m : List (Key × ν)} (h : Rising m) (k : Key) (v : ν) (q : Key) : mget (sput m k v) q = if q = k then some v else mget m q := by
  induction m with
  | nil => rfl
  | cons p m ih =>
    obtain ⟨a, u⟩ := p
    unfold sput
    by_cases h1 : k = a
    · subst h1
      rw [if_pos rfl]
      simp only [mget]
      by_cases hq : q = k
      · simp [hq]
      · simp [hq]
    · rw [if_neg h1]
      by_cases h2 : k < a
      · rw [if_pos h2]
        simp only [mget]
      · rw [if_neg h2]
        simp only [mget]
        rw [ih (List.pairwise_cons.1 h).2]
        by_cases hq : q = a
        · subst hq
          rw [if_pos rfl, if_neg (fun e => h1 e.symm), if_pos rfl]
        · rw [if_neg hq, if_neg hq]
theorem sput_mem {m : List (Key × ν)} {k : Key} {v : ν} {p : Key × ν} (h : p ∈ sput m k v) : p = (k, v) ∨ p ∈ m := by
  induction m with
  | nil => simpa [sput] using h
  | cons q m ih =>
    obtain ⟨a, u⟩ := q
    unfold sput at h
    split at h
    · rename_i hk
      subst hk
      rcases List.mem_cons.1 h with h | h
      · exact .inl h
      · exact .inr (List.mem_cons_of_mem _ h)
    · split at h
      · rcases List.mem_cons.1 h with h | h
        · exact .inl h
        · exact .inr h
      · rcases List.mem_cons.1 h with h | h
        · exact .inr (by rw [h]; exact List.mem_cons_self ..)
        · exact (ih h).imp id (List.mem_cons_of_mem _)
theorem Rising.sput {m : List (Key × ν)} (h : Rising m) (k : Key) (v : ν) : Rising (sput m k v) := by
  induction m with
  | nil => exact List.pairwise_singleton _ _
  | cons p m ih =>
    obtain ⟨a, u⟩ := p
    have h1 := List.pairwise_cons.1 h
    unfold Go.Proofs.YtnijmegalgoipaaGreatDoor.sput
    split
    · exact List.pairwise_cons.2 ⟨h1.1, h1.2⟩
    · split
      · rename_i hk
        refine List.pairwise_cons.2 ⟨fun q hq => ?_, h⟩
        rcases List.mem_cons.1 hq with hq | hq
        · rw [hq]; exact hk
        · exact klt_trans hk (h1.1 q hq)
      · rename_i hne hlt
        refine List.pairwise_cons.2 ⟨fun q hq => ?_, ih h1.2⟩
        rcases sput_mem hq with hq | hq
        · rw [hq]
          exact ((klt_tri a k).resolve_right (fun e => e.elim (fun e => hne e.symm) hlt))
        · exact h1.1 q hq
theorem mdel_mem {m : List (Key × ν)} {k : Key} {p : Key × ν} (h : p ∈ mdel m k) : p ∈ m := by
  induction m with
  | nil => cases h
  | cons q m ih =>
    obtain ⟨a, u⟩ := q
    unfold mdel at h
    split at h
    · exact List.mem_cons_of_mem _ h
    · rcases List.mem_cons.1 h with h | h
      · rw [h]; exact List.mem_cons_self ..
      · exact List.mem_cons_of_mem _ (ih h)
theorem Rising.del {m : List (Key × ν)} (h : Rising m) (k : Key) : Rising (mdel m k) := by
  induction m with
  | nil => exact List.Pairwise.nil
  | cons p m ih =>
    obtain ⟨a, u⟩ := p
    have h1 := List.pairwise_cons.1 h
    unfold mdel
    split
    · exact h1.2
    · exact List.pairwise_cons.2 ⟨fun q hq => h1.1 q (mdel_mem hq), ih h1.2⟩
theorem mget_mem {m : List (Key × ν)} {k : Key} {v : ν} (h : mget m k = some v) : (k, v) ∈ m := by
  induction m with
  | nil => simp [mget] at h
  | cons p m ih =>
    obtain ⟨a, u⟩ := p
    unfold mget at h
    split at h
    · rename_i hk
      injection h with h
      rw [hk, h]
      exact List.mem_cons_self ..
    · exact List.mem_cons_of_mem _ (ih h)
theorem mget_of_mem {m : List (Key × ν)} (hn : (m.map (·.1)).Nodup) {k : Key} {v : ν} (h : (k, v) ∈ m) : mget m k = some v := by
  induction m with
  | nil => cases h
  | cons p m ih =>
    obtain ⟨a, u⟩ := p
    rw [List.map_cons, List.nodup_cons] at hn
    unfold mget
    rcases List.mem_cons.1 h with h | h
    · injection h with h1 h2
      rw [h1, h2, if_pos rfl]
    · rw [if_neg (fun e => hn.1 (List.mem_map.2 ⟨_, h, e⟩))]
      exact ih hn.2 h
theorem mget_map (f : ν → μ) (m : List (Key × ν)) (k : Key) : mget (m.map fun p => (p.1, f p.2)) k = (mget m k).map f := by
  induction m with
  | nil => rfl
  | cons p m ih =>
    obtain ⟨a, u⟩ := p
    simp only [List.map_cons, mget]
    split
    · rfl
    · exact ih
theorem mput_map (f : ν → μ) (m : List (Key × ν)) (k : Key) (v : ν) : (mput m k v).map (fun p => (p.1, f p.2)) = mput (m.map fun p => (p.1, f p.2)) k (f v) := by
  induction m with
  | nil => rfl
  | cons p m ih =>
    obtain ⟨a, u⟩ := p
    simp only [List.map_cons, mput]
    split
    · rfl
    · rw [List.map_cons, ih]
theorem mdel_map (f : ν → μ) (m : List (Key × ν)) (k : Key) : (mdel m k).map (fun p => (p.1, f p.2)) = mdel (m.map fun p => (p.1, f p.2)) k := by
  induction m with
  | nil => rfl
  | cons p m ih =>
    obtain ⟨a, u⟩ := p
    simp only [List.map_cons, mdel]
    split
    · rfl
    · rw [List.map_cons, ih]
theorem Rising.ext {m m' : List (Key × ν)} (h : Rising m) (h' : Rising m') (he : ∀ k, mget m k = mget m' k) : m = m' := by
  induction m generalizing m' with
  | nil =>
    cases m' with
    | nil => rfl
    | cons p m' => have := he p.1; simp [mget] at this
  | cons p m ih =>
    cases m' with
    | nil => have := he p.1; simp [mget] at this
    | cons q m' =>
      obtain ⟨a, u⟩ := p
      obtain ⟨b, v⟩ := q
      have h1 := List.pairwise_cons.1 h
      have h1' := List.pairwise_cons.1 h'
      have hab : a = b := by
        rcases klt_tri a b with hl | hl | hl
        · have := he a
          simp only [mget, if_true] at this
          rw [if_neg (fun e => by rw [e] at hl; exact klt_irrefl _ hl), mget_above (fun p hp => klt_trans hl (h1'.1 p hp))] at this
          cases this
        · exact hl
        · have := he b
          simp only [mget, if_true] at this
          rw [if_neg (fun e => by rw [e] at hl; exact klt_irrefl _ hl), mget_above (fun p hp => klt_trans hl (h1.1 p hp))] at this
          cases this
      subst hab
      have huv : u = v := by
        have := he a
        simpa [mget] using this
      subst huv
      rw [ih h1.2 h1'.2 (fun k => ?_)]
      by_cases hk : k = a
      · subst hk
        rw [mget_above h1.1, mget_above h1'.1]
      · have := he k
        simpa only [mget, if_neg hk] using this
theorem sput_same {m : List (Key × ν)} (hm : Rising m) {k : Key} {v : ν} (h : mget m k = some v) : sput m k v = m :=
  Rising.ext (hm.sput k v) hm (fun q => by
    rw [mget_sput hm]
    split
    · rename_i e
      rw [e, h]
    · rfl)
theorem keys_perm {m : List (Key × ν)} {m' : List (Key × μ)} (h : (m.map (·.1)).Nodup) (h' : (m'.map (·.1)).Nodup) (he : ∀ k, (mget m k).isSome = (mget m' k).isSome) : (m.map (·.1)).Perm (m'.map (·.1)) := by
  refine (List.perm_ext_iff_of_nodup h h').2 fun k => ?_
  have := he k
  constructor
  · intro hk
    refine Classical.byContradiction fun hn => ?_
    rw [mget_none.2 hn] at this
    cases hg : mget m k with
    | none => exact mget_none.1 hg hk
    | some v => rw [hg] at this; cases this
  · intro hk
    refine Classical.byContradiction fun hn => ?_
    rw [mget_none.2 hn] at this
    cases hg : mget m' k with
    | none => exact mget_none.1 hg hk
    | some v => rw [hg] at this; cases this
end
/- ---------- a file ---------- -/
/-- what is lasting, what there is, and the writes between -/
structure FileD where
  last : List UInt8
  now : List UInt8
  pend : List (Nat × List UInt8)
deriving DecidableEq
def newFile : FileD := ⟨[], [], []⟩
/-- bytes laid over others, from a place on that is within them -/
def overM (l : List UInt8) (at_ : Nat) (d : List UInt8) : List UInt8 := l.take at_ ++ d ++ l.drop (at_ + d.length)
theorem overM_length {l : List UInt8} {at_ : Nat} {d : List UInt8} (h : at_ ≤ l.length) : (overM l at_ d).length = max l.length (at_ + d.length) := by
  unfold overM
  rw [List.length_append, List.length_append, List.length_take, List.length_drop]
  omega
theorem overM_end (l d : List UInt8) : overM l l.length d = l ++ d := by
  unfold overM
  rw [List.take_length, List.drop_of_length_le (by omega), List.append_nil]
theorem overM_nil {l : List UInt8} {at_ : Nat} : overM l at_ [] = l := by
  unfold overM
  rw [List.append_nil, List.length_nil, Nat.add_zero, List.take_append_drop]
def lastsM (f : FileD) : FileD := { f with last := f.now, pend := [] }
def pendLen : List (Nat × List UInt8) → Nat
  | [] => 0
  | p :: l => p.2.length + pendLen l
theorem pendLen_append (l m : List (Nat × List UInt8)) : pendLen (l ++ m) = pendLen l + pendLen m := by
  induction l with
  | nil => simp [pendLen]
  | cons p l ih => simp only [List.cons_append, pendLen, ih]; omega
/-- how many bytes of the pending ones a pick keeps -/
def keptM (f : FileD) (pick : Int) : Nat := (pick % ((pendLen f.pend + 1 : Nat) : Int)).toNat
def crashBytes : List UInt8 → List (Nat × List UInt8) → Nat → List UInt8
  | s, [], _ => s
  | s, p :: l, keep => crashBytes (overM s (min p.1 s.length) (p.2.take keep)) l (keep - min keep p.2.length)
def crashM (f : FileD) (keep : Nat) : FileD := ⟨crashBytes f.last f.pend keep, crashBytes f.last f.pend keep, []⟩
/-- the bytes of a file are what is lasting with the writes over it -/
def bytesM : List UInt8 → List (Nat × List UInt8) → List UInt8
  | s, [] => s
  | s, p :: l => bytesM (overM s p.1 p.2) l
theorem bytesM_snoc (s : List UInt8) (l : List (Nat × List UInt8)) (p : Nat × List UInt8) : bytesM s (l ++ [p]) = overM (bytesM s l) p.1 p.2 := by
  induction l generalizing s with
  | nil => rfl
  | cons q l ih => exact ih _
/-- the writes lie within -/
def PutsOk : Nat → List (Nat × List UInt8) → Prop
  | _, [] => True
  | n, p :: l => p.1 ≤ n ∧ p.2 ≠ [] ∧ PutsOk (max n (p.1 + p.2.length)) l
structure FOk (f : FileD) : Prop where
  now : f.now = bytesM f.last f.pend
  puts : PutsOk f.last.length f.pend
theorem crash_len : ∀ (l : List (Nat × List UInt8)) (s t : List UInt8) (keep : Nat), PutsOk t.length l → s.length ≤ t.length → (crashBytes s l keep).length ≤ (bytesM t l).length
  | [], s, t, _, _, h => h
  | p :: l, s, t, keep, hp, h => by
    have h1 := overM_length (l := t) (d := p.2) hp.1
    have h2 := overM_length (l := s) (at_ := min p.1 s.length) (d := p.2.take keep) (by omega)
    have h3 : (p.2.take keep).length ≤ p.2.length := by rw [List.length_take]; omega
    exact crash_len l _ _ _ (by rw [h1]; exact hp.2.2) (by rw [h1, h2]; omega)
theorem bytesM_len : ∀ (l : List (Nat × List UInt8)) (s : List UInt8), PutsOk s.length l → s.length ≤ (bytesM s l).length
  | [], _, _ => Nat.le_refl _
  | p :: l, s, hp => by
    have h1 := overM_length (l := s) (d := p.2) hp.1
    exact Nat.le_trans (by omega) (bytesM_len l _ (by rw [h1]; exact hp.2.2))
theorem putsOk_snoc : ∀ (l : List (Nat × List UInt8)) (s : List UInt8) (p : Nat × List UInt8), PutsOk s.length l → p.1 ≤ (bytesM s l).length → p.2 ≠ [] → PutsOk s.length (l ++ [p])
  | [], _, _, _, h, h2 => ⟨h, h2, trivial⟩
  | q :: l, s, p, hp, h, h2 => by
    have h1 := overM_length (l := s) (d := q.2) hp.1
    refine ⟨hp.1, hp.2.1, ?_⟩
    have := putsOk_snoc l (overM s q.1 q.2) p (by rw [h1]; exact hp.2.2) h h2
    rwa [h1] at this
theorem FOk.new : FOk newFile := ⟨rfl, trivial⟩
theorem FOk.last_le {f : FileD} (h : FOk f) : f.last.length ≤ f.now.length := by rw [h.now]; exact bytesM_len _ _ h.puts
theorem FOk.lasts (f : FileD) : FOk (lastsM f) := ⟨rfl, trivial⟩
theorem FOk.crash (f : FileD) (k : Nat) : FOk (crashM f k) := ⟨rfl, trivial⟩
theorem FOk.crash_len {f : FileD} (h : FOk f) (k : Nat) : (crashM f k).now.length ≤ f.now.length := by
  rw [h.now]
  exact Go.Proofs.YtnijmegalgoipaaGreatDoor.crash_len _ _ _ _ h.puts (Nat.le_refl _)
def laidM (f : FileD) (at_ : Nat) (d : List UInt8) : FileD := ⟨f.last, overM f.now at_ d, f.pend ++ [(at_, d)]⟩
theorem FOk.laid {f : FileD} (h : FOk f) {at_ : Nat} {d : List UInt8} (ha : at_ ≤ f.now.length) (hd : d ≠ []) : FOk (laidM f at_ d) :=
  ⟨by show _ = bytesM f.last (f.pend ++ [(at_, d)]); rw [bytesM_snoc, ← h.now]; rfl, putsOk_snoc _ _ _ h.puts (by show at_ ≤ (bytesM f.last f.pend).length; rw [← h.now]; exact ha) hd⟩
/- ---------- the disk ---------- -/
structure DiskD where
  files : List (Key × FileD)
  limit : Int
  used : Int
  refused : Int
  stops : Bool
  left : Int
def usedM : List (Key × FileD) → Nat
  | [] => 0
  | p :: r => p.2.now.length + usedM r
structure DOk (D : DiskD) : Prop where
  srt : Rising D.files
  lim : 0 ≤ D.limit ∧ D.limit ≤ 16777216
  used : D.used = usedM D.files
  room : D.used ≤ D.limit
  ref : 0 ≤ D.refused
  stp : D.stops = true → 0 ≤ D.left ∧ D.left ≤ 9223372036854775807
  fok : ∀ n f, mget D.files n = some f → FOk f
theorem usedM_get {m : List (Key × FileD)} {k : Key} {f : FileD} (h : mget m k = some f) : f.now.length ≤ usedM m := by
  induction m with
  | nil => simp [mget] at h
  | cons p m ih =>
    obtain ⟨a, u⟩ := p
    unfold mget at h
    unfold usedM
    split at h
    · injection h with h
      subst h
      exact Nat.le_add_right ..
    · have := ih h
      simp only
      omega
theorem usedM_sput {m : List (Key × FileD)} (hm : Rising m) (k : Key) (f : FileD) : usedM (sput m k f) + ((mget m k).map (fun g => g.now.length)).getD 0 = usedM m + f.now.length := by
  induction m with
  | nil => simp [sput, usedM, mget]
  | cons p m ih =>
    obtain ⟨a, u⟩ := p
    have h1 := List.pairwise_cons.1 hm
    unfold sput
    by_cases hk : k = a
    · subst hk
      rw [if_pos rfl]
      simp only [usedM, mget, if_true, Option.map_some, Option.getD_some]
      omega
    · rw [if_neg hk]
      by_cases hlt : k < a
      · rw [if_pos hlt]
        rw [mget_above (fun q hq => by
          rcases List.mem_cons.1 hq with hq | hq
          · rw [hq]; exact hlt
          · exact klt_trans hlt (h1.1 q hq))]
        simp only [usedM, Option.map_none, Option.getD_none]
        omega
      · rw [if_neg hlt]
        have := ih h1.2
        simp only [usedM, mget, if_neg hk]
        omega
theorem usedM_del {m : List (Key × FileD)} (k : Key) : usedM (mdel m k) + ((mget m k).map (fun g => g.now.length)).getD 0 = usedM m := by
  induction m with
  | nil => simp [mdel, usedM, mget]
  | cons p m ih =>
    obtain ⟨a, u⟩ := p
    unfold mdel
    by_cases hk : k = a
    · subst hk
      rw [if_pos rfl]
      simp only [usedM, mget, if_true, Option.map_some, Option.getD_some]
      omega
    · rw [if_neg hk]
      simp only [usedM, mget, if_neg hk]
      omega
theorem DOk.len {D : DiskD} (h : DOk D) {n : Key} {f : FileD} (hf : mget D.files n = some f) : f.now.length ≤ 16777216 ∧ f.last.length ≤ 16777216 ∧ (f.now.length : Int) ≤ D.used := by
  have h1 := usedM_get hf
  have h2 := (h.fok n f hf).last_le
  have h3 := h.used
  have h4 := h.room
  have h5 := h.lim
  omega
/- ---------- the calls ---------- -/
def letterB (b : UInt8) : Bool := (decide (97 ≤ b.toNat) && decide (b.toNat ≤ 122)) || (decide (48 ≤ b.toNat) && decide (b.toNat ≤ 57)) || b == 46 || b == 45 || b == 95
def nameOk (s : List UInt8) : Bool := !s.isEmpty && decide (s.length ≤ 64) && s.all letterB
def tickM (D : DiskD) : DiskD := if D.stops = true then { D with left := D.left - 1 } else D
/-- may a call be done that counts? -/
def opM (D : DiskD) (k : DiskD → Int × DiskD) : Int × DiskD := if D.stops = true ∧ D.left = 0 then (19, D) else k (tickM D)
def fileM (D : DiskD) (n : Key) (k : FileD → Int × DiskD) : Int × DiskD := match mget D.files n with
  | none => (15, D)
  | some f => k f
def moreM (f : FileD) (at_ : Nat) (d : List UInt8) : Nat := at_ + d.length - f.now.length
def putM (D : DiskD) (n : Key) (f : FileD) (at_ : Nat) (d : List UInt8) : Int × DiskD :=
  if d = [] then (0, D) else if D.limit < D.used + moreM f at_ d then (17, { D with refused := D.refused + 1 })
  else (0, { D with files := sput D.files n (laidM f at_ d), used := D.used + moreM f at_ d })
def createM (D : DiskD) (n : Key) : Int × DiskD := opM D fun D => if nameOk n = true then (if (mget D.files n).isSome then (16, D) else (0, { D with files := sput D.files n newFile })) else (1, D)
def appendM (D : DiskD) (n : Key) (d : List UInt8) : Int × DiskD := opM D fun D => fileM D n fun f => putM D n f f.now.length d
def writeM (D : DiskD) (n : Key) (at_ : Int) (d : List UInt8) : Int × DiskD := opM D fun D => fileM D n fun f => if at_ < 0 ∨ (f.now.length : Int) < at_ then (1, D) else putM D n f at_.toNat d
def syncM (D : DiskD) (n : Key) : Int × DiskD := opM D fun D => fileM D n fun f => (0, { D with files := sput D.files n (lastsM f) })
def lenAt (D : DiskD) (n : Key) : Nat := ((mget D.files n).map (fun f => f.now.length)).getD 0
def renameM (D : DiskD) (a b : Key) : Int × DiskD := opM D fun D => if nameOk b = true then fileM D a fun f => if a = b then (0, D) else (0, { D with files := sput (mdel D.files a) b f, used := D.used - lenAt D b }) else (1, D)
def removeM (D : DiskD) (n : Key) : Int × DiskD := opM D fun D => fileM D n fun f => (0, { D with files := mdel D.files n, used := D.used - f.now.length })
def rotM (D : DiskD) (n : Key) (at_ : Int) (b : UInt8) : Int × DiskD := fileM D n fun f => if at_ < 0 ∨ (f.now.length : Int) ≤ at_ then (1, D) else (0, { D with files := sput D.files n ⟨f.now.set at_.toNat b, f.now.set at_.toNat b, []⟩ })
def readM (D : DiskD) (n : Key) (at_ k : Int) : List UInt8 × Int := match mget D.files n with
  | none => ([], 15)
  | some f => if k < 0 ∨ at_ < 0 ∨ (f.now.length : Int) < at_ then ([], 1) else ((f.now.drop at_.toNat).take k.toNat, 0)
def sizeM (D : DiskD) (n : Key) : Int × Int := match mget D.files n with
  | none => (0, 15)
  | some f => (f.now.length, 0)
def namesM (D : DiskD) : List Key := D.files.map (·.1)
def crashAll : List (Key × FileD) → List Int → List (Key × FileD)
  | [], _ => []
  | p :: l, ks => (p.1, crashM p.2 (keptM p.2 (ks.head?.getD 0))) :: crashAll l ks.tail
def crashD (D : DiskD) (picks : List Int) : DiskD := { D with files := crashAll D.files picks, used := usedM (crashAll D.files picks), stops := false }
def stopM (D : DiskD) (n : Int) : DiskD := { D with stops := decide (0 ≤ n), left := n }
def newM (limit : Int) : DiskD := ⟨[], limit, 0, 0, false, 0⟩
theorem tick_ok {D : DiskD} (h : DOk D) (hl : ¬ (D.stops = true ∧ D.left = 0)) : DOk (tickM D) := by
  unfold tickM
  split
  · rename_i hs
    have := h.stp hs
    have h0 : D.left ≠ 0 := fun e => hl ⟨hs, e⟩
    exact ⟨h.srt, h.lim, h.used, h.room, h.ref, fun _ => ⟨by show 0 ≤ D.left - 1; omega, by show D.left - 1 ≤ _; omega⟩, h.fok⟩
  · exact h
theorem tick_files (D : DiskD) : (tickM D).files = D.files := by unfold tickM; split <;> rfl
end Go.Proofs.YtnijmegalgoipaaGreatDoor
namespace Go.Proofs.YtnijmegalgoipaaGreatDoor
open Go.RowKit
def encPtr (g : Nat) : Value := .pointer (some ⟨g, 0, none⟩)
def putCells (p : Nat × List UInt8) : List Value := [.int .i64 p.1, str p.2]
theorem putCells_length (p : Nat × List UInt8) : (putCells p).length = 2 := rfl
theorem putCells_one (p : Nat × List UInt8) : ∀ v ∈ putCells p, v.oneCell' = true := by
  intro v hv
  simp only [putCells, List.mem_cons, List.not_mem_nil, or_false] at hv
  rcases hv with rfl | rfl <;> rfl
theorem puts_length (l : List (Nat × List UInt8)) : (l.flatMap putCells).length = l.length * 2 := by
  induction l with
  | nil => rfl
  | cons p l ih => rw [List.flatMap_cons, List.length_append, ih, putCells_length, List.length_cons]; omega
theorem puts_one (l : List (Nat × List UInt8)) : ∀ v ∈ l.flatMap putCells, v.oneCell' = true := by
  intro v hv
  obtain ⟨p, _, hp⟩ := List.mem_flatMap.1 hv
  exact putCells_one p v hp
/-- where a file lies -/
structure FRec where
  blk : Nat
  vl : Value
  vn : Value
  vp : Value
  f : FileD
def FRec.owns (r : FRec) (k : Nat) : Prop := k = r.blk ∨ r.vl.ownBlock = some k ∨ r.vn.ownBlock = some k ∨ r.vp.ownBlock = some k
structure FileAt (w : World) (r : FRec) : Prop where
  blk : Blk w r.blk 98 #[r.vl, r.vn, r.vp]
  last : Row w 5 1 r.vl r.f.last.length (r.f.last.map bv)
  now : Row w 5 1 r.vn r.f.now.length (r.f.now.map bv)
  pend : Row w 101 2 r.vp r.f.pend.length (r.f.pend.flatMap putCells)
  apart : ∀ k, r.vl.ownBlock = some k → r.vn.ownBlock ≠ some k
theorem Row.heap_cells {w : World} {e : TypeId} {size n : Nat} {v : Value} {xs : List Value} (h : Row w e size v n xs) {k : Nat} (hk : v.ownBlock = some k) : ∃ cs fz, w.heap[k]? = some (.cells cs e fz) := by
  rcases h.2 with ⟨rfl, _⟩ | ⟨g, off, cap, cur, fz, rfl, hg, _⟩
  · simp [Value.ownBlock] at hk
  · simp [Value.ownBlock] at hk
    subst hk
    exact ⟨_, _, hg⟩
theorem FileAt.cells {w : World} {r : FRec} (h : FileAt w r) {k : Nat} (hk : r.owns k) : ∃ cs t fz, w.heap[k]? = some (.cells cs t fz) ∧ (t = 98 ∨ t = 5 ∨ t = 101) := by
  rcases hk with rfl | hk | hk | hk
  · exact ⟨_, _, _, h.blk, .inl rfl⟩
  · obtain ⟨cs, fz, e⟩ := h.last.heap_cells hk; exact ⟨cs, _, fz, e, .inr (.inl rfl)⟩
  · obtain ⟨cs, fz, e⟩ := h.now.heap_cells hk; exact ⟨cs, _, fz, e, .inr (.inl rfl)⟩
  · obtain ⟨cs, fz, e⟩ := h.pend.heap_cells hk; exact ⟨cs, _, fz, e, .inr (.inr rfl)⟩
theorem FileAt.lt {w : World} {r : FRec} (h : FileAt w r) {k : Nat} (hk : r.owns k) : k < w.heap.size := by
  obtain ⟨cs, t, fz, e, _⟩ := h.cells hk
  exact (Array.getElem?_eq_some_iff.1 e).1
theorem FileAt.ne_blk {w : World} {r : FRec} (h : FileAt w r) {g : Nat} {t : TypeId} {cs : Array Value} (hB : Blk w g t cs) (h1 : t ≠ 98) (h2 : t ≠ 5) (h3 : t ≠ 101) : ¬ r.owns g := fun hk => by
  obtain ⟨cs', t', fz, e, ht⟩ := h.cells hk
  have hB : w.heap[g]? = some (.cells cs t (0, 0)) := hB
  rw [hB] at e
  injection e with e
  injection e with _ e
  subst e
  exact ht.elim h1 (fun h => h.elim h2 h3)
theorem FileAt.ne_map {w : World} {r : FRec} (h : FileAt w r) {g : Nat} {es : Array MapEntry} {c : Nat} (hB : w.heap[g]? = some (.map es c)) : ¬ r.owns g := fun hk => by
  obtain ⟨cs', t', fz, e, ht⟩ := h.cells hk
  rw [hB] at e
  cases e
theorem FileAt.keep {w w' : World} {r : FRec} (h : FileAt w r) (hk : ∀ k, r.owns k → w'.heap[k]? = w.heap[k]?) : FileAt w' r :=
  ⟨(hk _ (.inl rfl)).trans h.blk, h.last.keep fun k e => hk k (.inr (.inl e)), h.now.keep fun k e => hk k (.inr (.inr (.inl e))), h.pend.keep fun k e => hk k (.inr (.inr (.inr e))), h.apart⟩
theorem FileAt.chg {w w' : World} {r : FRec} {S : Nat → Prop} (h : FileAt w r) (hc : Chg S w w') (hn : ∀ k, r.owns k → ¬ S k) : FileAt w' r :=
  h.keep fun k hk => hc.block k (h.lt hk) (hn k hk)
theorem FileAt.bel {w w' : World} {r : FRec} (h : FileAt w r) (hb : Below w.heap.size w w') : FileAt w' r := h.keep fun k hk => hb.block k (h.lt hk)
def diskCells (b : Nat) (D : DiskD) : Array Value := #[.map (some b), .int .i64 D.limit, .int .i64 D.used, .int .i64 D.refused, .bool D.stops, .int .i64 D.left]
structure DiskIn (w : World) (g b : Nat) (D : DiskD) (rs : List (Key × FRec)) (S : Nat → Prop) : Prop where
  blk : Blk w g 80 (diskCells b D)
  map : MapAt w b str encPtr (rs.map fun p => (p.1, p.2.blk))
  files : ∀ n, mget D.files n = (mget rs n).map FRec.f
  at_ : ∀ n r, mget rs n = some r → FileAt w r
  apart : ∀ n m r s k, mget rs n = some r → mget rs m = some s → n ≠ m → r.owns k → ¬ s.owns k
  inS : S g ∧ S b
  inR : ∀ n r k, mget rs n = some r → r.owns k → S k
/-- a disk at g; its blocks are of S -/
def DiskAt (w : World) (g : Nat) (D : DiskD) (S : Nat → Prop) : Prop := ∃ b rs, DiskIn w g b D rs S
/-- S, and what is younger than w, up to w' -/
def Ext (S : Nat → Prop) (w w' : World) : Nat → Prop := fun k => S k ∨ (w.heap.size ≤ k ∧ k < w'.heap.size)
section
variable {w w' : World} {g b : Nat} {D D' : DiskD} {rs : List (Key × FRec)} {S T : Nat → Prop} {n : Key} {r r' : FRec}
theorem DiskIn.bel (h : DiskIn w g b D rs S) (hb : Below w.heap.size w w') : DiskIn w' g b D rs S :=
  ⟨h.blk.belowAll hb, h.map.bel hb, h.files, fun n r hr => (h.at_ n r hr).bel hb, h.apart, h.inS, h.inR⟩
theorem DiskIn.mono (h : DiskIn w g b D rs S) (hs : ∀ k, S k → T k) : DiskIn w g b D rs T :=
  ⟨h.blk, h.map, h.files, h.at_, h.apart, ⟨hs _ h.inS.1, hs _ h.inS.2⟩, fun n r k hr hk => hs k (h.inR n r k hr hk)⟩
theorem DiskIn.ne (h : DiskIn w g b D rs S) (hr : mget rs n = some r) : ¬ r.owns g ∧ ¬ r.owns b := by
  refine ⟨(h.at_ n r hr).ne_blk h.blk (by decide) (by decide) (by decide), ?_⟩
  obtain ⟨ts, clock, h1, h2, h3, h4⟩ := h.map.obj
  exact (h.at_ n r hr).ne_map h4
theorem DiskIn.gb (h : DiskIn w g b D rs S) : g ≠ b := by
  rintro rfl
  obtain ⟨ts, clock, h1, h2, h3, h4⟩ := h.map.obj
  have hB : w.heap[g]? = some (.cells (diskCells g D) 80 (0, 0)) := h.blk
  rw [hB] at h4
  cases h4
theorem DiskIn.keys (h : DiskIn w g b D rs S) : (rs.map (·.1)).Nodup := by
  have := h.map.nodup
  rwa [List.map_map, show ((fun x => x.1) ∘ fun p : Key × FRec => (p.1, p.2.blk)) = (fun p : Key × FRec => p.1) from rfl] at this
/-- what else changes -/
theorem DiskIn.chg (h : DiskIn w g b D rs S) (hc : Chg T w w') (hs : ∀ k, S k → ¬ T k) : DiskIn w' g b D rs S :=
  ⟨h.blk.chg hc (hs _ h.inS.1), h.map.chg hc (hs _ h.inS.2), h.files, fun n r hr => (h.at_ n r hr).chg hc (fun k hk => hs k (h.inR n r k hr hk)), h.apart, h.inS, h.inR⟩
theorem DiskAt.bel (h : DiskAt w g D S) (hb : Below w.heap.size w w') : DiskAt w' g D S := by
  obtain ⟨b, rs, h⟩ := h
  exact ⟨b, rs, h.bel hb⟩
theorem DiskAt.mono (h : DiskAt w g D S) (hs : ∀ k, S k → T k) : DiskAt w g D T := by
  obtain ⟨b, rs, h⟩ := h
  exact ⟨b, rs, h.mono hs⟩
theorem DiskAt.chg (h : DiskAt w g D S) (hc : Chg T w w') (hs : ∀ k, S k → ¬ T k) : DiskAt w' g D S := by
  obtain ⟨b, rs, h⟩ := h
  exact ⟨b, rs, h.chg hc hs⟩
/-- a file changes, and the disk's cells -/
theorem DiskIn.file (h : DiskIn w g b D rs S) (hr : mget rs n = some r) (hc : Chg (fun k => k = g ∨ r.owns k) w w') (hB : Blk w' g 80 (diskCells b D')) (hf : ∀ m, mget D'.files m = if m = n then some r'.f else mget D.files m)
    (hr' : FileAt w' r') (hb : r'.blk = r.blk) (ho : ∀ k, r'.owns k → r.owns k ∨ w.heap.size ≤ k) : DiskIn w' g b D' (mput rs n r') (Ext S w w') := by
  have hkk : ∀ m s k, m ≠ n → mget rs m = some s → s.owns k → ¬ (k = g ∨ r.owns k) := fun m s k hm hs hk e => by
    rcases e with rfl | e
    · exact (h.ne hs).1 hk
    · exact h.apart m n s r k hs hr hm hk e
  have hat : ∀ m s, m ≠ n → mget rs m = some s → FileAt w' s := fun m s hm hs => (h.at_ m s hs).chg hc (fun k hk => hkk m s k hm hs hk)
  refine ⟨hB, ?_, fun m => ?_, fun m s hs => ?_, fun m m' s s' k hs hs' hne hk hk' => ?_, ⟨.inl h.inS.1, .inl h.inS.2⟩, fun m s k hs hk => ?_⟩
  · rw [mput_map FRec.blk, hb, mput_same (by rw [mget_map, hr]; rfl)]
    exact h.map.chg hc (fun e => e.elim (fun e => h.gb e.symm) (h.ne hr).2)
  · rw [hf, mget_mput]
    split
    · rfl
    · exact h.files m
  · rw [mget_mput] at hs
    split at hs
    · injection hs with hs
      rw [← hs]
      exact hr'
    · rename_i hm
      exact hat m s hm hs
  · rw [mget_mput] at hs hs'
    split at hs
    · injection hs with hs
      subst hs
      rename_i hm
      rw [if_neg (fun e => hne (hm.trans e.symm))] at hs'
      have hm' : m' ≠ n := fun e => hne (hm.trans e.symm)
      rcases ho k hk with e | e
      · exact h.apart m' n s' r k hs' hr hm' hk' e
      · have := (h.at_ m' s' hs').lt hk'
        omega
    · rename_i hm
      split at hs'
      · injection hs' with hs'
        subst hs'
        rcases ho k hk' with e | e
        · exact h.apart m n s r k hs hr hm hk e
        · have := (h.at_ m s hs).lt hk
          omega
      · exact h.apart m m' s s' k hs hs' hne hk hk'
  · rw [mget_mput] at hs
    split at hs
    · injection hs with hs
      subst hs
      rcases ho k hk with e | e
      · exact .inl (h.inR n r k hr e)
      · exact .inr ⟨e, hr'.lt hk⟩
    · exact .inl (h.inR m s k hs hk)
/-- the disk's cells change alone -/
theorem DiskIn.self (h : DiskIn w g b D rs S) (hc : Chg (fun k => k = g) w w') (hB : Blk w' g 80 (diskCells b D')) (hf : D'.files = D.files) : DiskIn w' g b D' rs S :=
  ⟨hB, h.map.chg hc (fun e => h.gb e.symm), fun n => by rw [hf]; exact h.files n, fun n r hr => (h.at_ n r hr).chg hc (fun k hk e => (h.ne hr).1 (by rw [← e]; exact hk)), h.apart, h.inS, h.inR⟩
/-- a file comes -/
theorem DiskIn.add (h : DiskIn w g b D rs S) (hc : Chg (fun k => k = g ∨ k = b) w w') (hB : Blk w' g 80 (diskCells b D')) (hM : MapAt w' b str encPtr (mput (rs.map fun p => (p.1, p.2.blk)) n r'.blk))
    (hf : ∀ m, mget D'.files m = if m = n then some r'.f else mget D.files m) (hr' : FileAt w' r') (ho : ∀ k, r'.owns k → w.heap.size ≤ k) : DiskIn w' g b D' (mput rs n r') (Ext S w w') := by
  have hat : ∀ m s, mget rs m = some s → FileAt w' s := fun m s hs => (h.at_ m s hs).chg hc (fun k hk e => e.elim (fun e => (h.ne hs).1 (by rw [← e]; exact hk)) (fun e => (h.ne hs).2 (by rw [← e]; exact hk)))
  refine ⟨hB, ?_, fun m => ?_, fun m s hs => ?_, fun m m' s s' k hs hs' hne hk hk' => ?_, ⟨.inl h.inS.1, .inl h.inS.2⟩, fun m s k hs hk => ?_⟩
  · rw [mput_map FRec.blk]
    exact hM
  · rw [hf, mget_mput]
    split
    · rfl
    · exact h.files m
  · rw [mget_mput] at hs
    split at hs
    · injection hs with hs
      rw [← hs]
      exact hr'
    · exact hat m s hs
  · rw [mget_mput] at hs hs'
    split at hs
    · injection hs with hs
      subst hs
      rename_i hm
      rw [if_neg (fun e => hne (hm.trans e.symm))] at hs'
      have := ho k hk
      have := (h.at_ m' s' hs').lt hk'
      omega
    · split at hs'
      · injection hs' with hs'
        subst hs'
        have := ho k hk'
        have := (h.at_ m s hs).lt hk
        omega
      · exact h.apart m m' s s' k hs hs' hne hk hk'
  · rw [mget_mput] at hs
    split at hs
    · injection hs with hs
      subst hs
      exact .inr ⟨ho k hk, hr'.lt hk⟩
    · exact .inl (h.inR m s k hs hk)
/-- files go, or have other names -/
theorem DiskIn.sub {rs' : List (Key × FRec)} (h : DiskIn w g b D rs S) (σ : Key → Key) (hσ : ∀ n r, mget rs' n = some r → mget rs (σ n) = some r) (hi : ∀ n m r s, mget rs' n = some r → mget rs' m = some s → n ≠ m → σ n ≠ σ m)
    (hc : Chg (fun k => k = g ∨ k = b) w w') (hB : Blk w' g 80 (diskCells b D')) (hM : MapAt w' b str encPtr (rs'.map fun p => (p.1, p.2.blk))) (hf : ∀ m, mget D'.files m = (mget rs' m).map FRec.f) : DiskIn w' g b D' rs' S := by
  have hat : ∀ m s, mget rs m = some s → FileAt w' s := fun m s hs => (h.at_ m s hs).chg hc (fun k hk e => e.elim (fun e => (h.ne hs).1 (by rw [← e]; exact hk)) (fun e => (h.ne hs).2 (by rw [← e]; exact hk)))
  exact ⟨hB, hM, hf, fun m s hs => hat _ s (hσ m s hs), fun m m' s s' k hs hs' hne => h.apart _ _ s s' k (hσ m s hs) (hσ m' s' hs') (hi m m' s s' hs hs' hne), h.inS, fun m s k hs hk => h.inR _ s k (hσ m s hs) hk⟩
theorem Ext.lt (hs : ∀ k, S k → k < w.heap.size) (hz : w.heap.size ≤ w'.heap.size) : ∀ k, Ext S w w' k → k < w'.heap.size := fun k hk => hk.elim (fun e => by have := hs k e; omega) (fun e => e.2)
theorem Ext.apart (hs : ∀ k, S k → ¬ T k) (ht : ∀ k, T k → k < w.heap.size) : ∀ k, Ext S w w' k → ¬ T k := fun k hk e => hk.elim (fun a => hs k a e) (fun a => by have := ht k e; omega)
theorem Ext.of : ∀ k, S k → Ext S w w' k := fun _ h => Or.inl h
/-- a single disk, all of whose blocks are not below B -/
theorem Ext.from {B : Nat} (hB : B ≤ w.heap.size) : ∀ k, Ext (fun k => B ≤ k) w w' k → B ≤ k := fun k hk => hk.elim id (fun e => by omega)
end
end Go.Proofs.YtnijmegalgoipaaGreatDoor
