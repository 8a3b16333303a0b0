/- law01, DiskApart: calls of the files a and b leave the file z, the last one, as it was. -/
import Derived.Test.YtnijmegalgoipaaDoorStopsPlain
import Derived.Test.YtnijmegalgoipaaDoorLastsPlain
namespace Go.Proofs.YtnijmegalgoipaaDoor
open Go.RowKit
structure ZAt (D : DiskD) (f : FileD) : Prop where
  keys : ∀ p ∈ D.files, p.1 = [97] ∨ p.1 = [98] ∨ p.1 = [122]
  z : mget D.files [122] = some f
  stops : D.stops = false
section
variable {D : DiskD} {f g : FileD} {k : Key} {u : Int}
theorem ZAt.put (h : ZAt D f) (hs : Rising D.files) (hk : k = [97] ∨ k = [98]) : ZAt { D with files := sput D.files k g, used := u } f := by
  refine ⟨fun p hp => ?_, ?_, h.stops⟩
  · rcases sput_mem hp with e | e
    · subst e
      exact hk.imp id Or.inl
    · exact h.keys p e
  · show mget (sput D.files k g) [122] = some f
    rw [mget_sput hs, if_neg (by rcases hk with e | e <;> subst e <;> decide)]
    exact h.z
theorem ZAt.del (h : ZAt D f) (hs : Rising D.files) (hk : k = [97] ∨ k = [98]) : ZAt { D with files := mdel D.files k, used := u } f := by
  refine ⟨fun p hp => h.keys p (mdel_mem hp), ?_, h.stops⟩
  show mget (mdel D.files k) [122] = some f
  rw [mget_mdel hs.nodup, if_neg (by rcases hk with e | e <;> subst e <;> decide)]
  exact h.z
theorem ZAt.file (h : ZAt D f) {c : FileD → Int × DiskD} (hc : ∀ g, ZAt (c g).2 f) : ZAt (fileM D k c).2 f := by
  cases hg : mget D.files k with
  | none => rw [fileM_none hg]; exact h
  | some g => rw [fileM_some hg]; exact hc g
theorem ZAt.op (h : ZAt D f) (c : DiskD → Int × DiskD) : opM D c = c D := by
  unfold opM tickM
  rw [if_neg (by rw [h.stops]; simp), if_neg (by rw [h.stops]; simp)]
theorem ZAt.putM (h : ZAt D f) (hs : Rising D.files) (hk : k = [97] ∨ k = [98]) {a : Nat} {d : List UInt8} : ZAt (putM D k g a d).2 f := by
  unfold Go.Proofs.YtnijmegalgoipaaDoor.putM
  split
  · exact h
  split
  · exact ⟨h.keys, h.z, h.stops⟩
  · exact h.put hs hk
theorem zat_does {o : OpM} (h : ZAt D f) (hs : Rising D.files) (hn : o.name = [97]) (ht : o.to_ = [98]) (ha : 0 ≤ o.ask ∧ o.ask ≤ 5) : ZAt (doesM D o).2 f := by
  have hk : o.name = [97] ∨ o.name = [98] := .inl hn
  have : o.ask = 0 ∨ o.ask = 1 ∨ o.ask = 2 ∨ o.ask = 3 ∨ o.ask = 4 ∨ o.ask = 5 := by omega
  unfold doesM
  rcases this with e | e | e | e | e | e
  · rw [if_pos e]
    show ZAt (createM D o.name).2 f
    unfold createM
    rw [h.op]
    show ZAt (Prod.snd (if _ then _ else _)) f
    split
    · split
      · exact h
      · exact h.put hs hk (u := D.used)
    · exact h
  · rw [if_neg (by omega), if_pos e]
    show ZAt (appendM D o.name o.data).2 f
    unfold appendM
    rw [h.op]
    exact h.file fun g => h.putM hs hk
  · rw [if_neg (by omega), if_neg (by omega), if_pos e]
    show ZAt (writeM D o.name o.at_ o.data).2 f
    unfold writeM
    rw [h.op]
    refine h.file fun g => ?_
    split
    · exact h
    · exact h.putM hs hk
  · rw [if_neg (by omega), if_neg (by omega), if_neg (by omega), if_pos e]
    show ZAt (syncM D o.name).2 f
    unfold syncM
    rw [h.op]
    exact h.file fun g => h.put hs hk (u := D.used)
  · rw [if_neg (by omega), if_neg (by omega), if_neg (by omega), if_neg (by omega), if_pos e]
    show ZAt (renameM D o.name o.to_).2 f
    unfold renameM
    rw [h.op]
    show ZAt (Prod.snd (if _ then _ else _)) f
    split
    · refine h.file fun g => ?_
      split
      · exact h
      · have h1 := h.del hs hk (u := D.used)
        exact h1.put (hs.del o.name) (.inr ht) (u := D.used - lenAt D o.to_)
    · exact h
  · rw [if_neg (by omega), if_neg (by omega), if_neg (by omega), if_neg (by omega), if_neg (by omega), if_pos e]
    show ZAt (removeM D o.name).2 f
    unfold removeM
    rw [h.op]
    exact h.file fun g => h.del hs hk
end
theorem last_of : ∀ {m : List (Key × FileD)} {z : Key} {f : FileD}, Rising m → mget m z = some f → (∀ p ∈ m, p.1 = z ∨ p.1 < z) → ∃ l, m = l ++ [(z, f)]
  | [], _, _, _, h, _ => by cases h
  | [p], z, f, _, h, _ => by
    obtain ⟨a, v⟩ := p
    unfold mget at h
    split at h
    · rename_i e
      injection h with h
      exact ⟨[], by rw [h, e]; rfl⟩
    · cases h
  | p :: q :: m, z, f, hr, h, hk => by
    have h1 := List.pairwise_cons.1 hr
    have hpz : z ≠ p.1 := fun e => by
      have h2 := h1.1 q (List.mem_cons_self ..)
      rw [← e] at h2
      rcases hk q (List.mem_cons_of_mem _ (List.mem_cons_self ..)) with h3 | h3
      · rw [h3] at h2; exact klt_irrefl _ h2
      · exact klt_irrefl _ (klt_trans h2 h3)
    obtain ⟨l, hl⟩ := last_of (m := q :: m) (z := z) (f := f) h1.2 (by
      obtain ⟨a, v⟩ := p
      unfold mget at h
      rwa [if_neg hpz] at h) (fun r hr' => hk r (List.mem_cons_of_mem _ hr'))
    exact ⟨p :: l, by rw [hl]; rfl⟩
/-- the crash whose last pick is for z -/
theorem ZAt.crash {D : DiskD} {f : FileD} (h : ZAt D f) (hs : Rising D.files) (pick : Int) : 1 ≤ D.files.length ∧ mget (crashD D ((List.replicate D.files.length 0).set (D.files.length - 1) pick)).files [122] = some (crashM f (keptM f pick)) := by
  obtain ⟨l, hl⟩ := last_of hs h.z (fun p hp => by
    rcases h.keys p hp with e | e | e
    · right; rw [e]; decide
    · right; rw [e]; decide
    · exact .inl e)
  have hn : D.files.length = l.length + 1 := by rw [hl]; simp
  refine ⟨by omega, ?_⟩
  have hat : D.files[l.length]? = some ([122], f) := by rw [hl]; simp
  have h1 := crashAll_at D.files ((List.replicate D.files.length 0).set (D.files.length - 1) pick) l.length _ hat
  have h2 : (((List.replicate D.files.length 0).set (D.files.length - 1) pick)[l.length]?).getD 0 = pick := by
    rw [hn, Nat.add_sub_cancel, List.getElem?_set_self (by simp)]
    rfl
  rw [h2] at h1
  refine mget_of_mem ?_ (List.mem_of_getElem? h1)
  show ((crashAll _ _).map (·.1)).Nodup
  rw [crashAll_keys]
  exact hs.nodup
theorem ZAt.read {D : DiskD} {f : FileD} {n : Nat} (h : mget D.files [122] = some f) (hl : f.now.length ≤ n) : readM D [122] 0 n = (f.now, 0) := by
  unfold readM
  rw [h]
  show (if _ then _ else _) = _
  rw [if_neg (by omega)]
  simp only [Int.toNat_zero, List.drop_zero, Int.toNat_natCast]
  rw [List.take_of_length_le hl]
end Go.Proofs.YtnijmegalgoipaaDoor
