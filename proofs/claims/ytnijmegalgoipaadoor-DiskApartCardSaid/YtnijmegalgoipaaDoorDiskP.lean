/- disk: what stays true of the plain disk behind each call. -/
import Derived.Test.YtnijmegalgoipaaDoorDiskD
namespace Go.Proofs.YtnijmegalgoipaaDoor
open Go.RowKit
/-- a disk that is sound, and how much was written to it -/
structure Good (n : Nat) (D : DiskD) : Prop where
  ok : DOk D
  pend : ∀ k f, mget D.files k = some f → pendLen f.pend ≤ n ∧ f.pend.length ≤ n
  ref : D.refused ≤ n
  few : D.files.length ≤ n
section
variable {n m : Nat} {D : DiskD} {k : Key} {f : FileD}
theorem Good.bud (h : Good n D) (hn : n ≤ 1099511627776) : DBud D := ⟨fun k f hf => by have := h.pend k f hf; omega, by have := h.ref; omega⟩
theorem Good.mono (h : Good n D) (hn : n ≤ m) : Good m D := ⟨h.ok, fun k f hf => by have := h.pend k f hf; omega, by have := h.ref; omega, by have := h.few; omega⟩
theorem Good.new {l : Int} (hl : 0 ≤ l ∧ l ≤ 16777216) : Good n (newM l) :=
  ⟨⟨List.Pairwise.nil, hl, rfl, hl.1, Int.le_refl _, (fun h => by cases h), (fun k f h => by cases h)⟩, (fun k f h => by cases h), (by show (0 : Int) ≤ n; omega), Nat.zero_le _⟩
theorem Good.tick (h : Good n D) (hl : ¬ (D.stops = true ∧ D.left = 0)) : Good n (tickM D) := by
  refine ⟨tick_ok h.ok hl, ?_, ?_, by rw [tick_files]; exact h.few⟩
  · rw [tick_files]
    exact h.pend
  · have := h.ref
    unfold tickM
    split <;> exact this
theorem sput_length (l : List (Key × FileD)) (k : Key) (f : FileD) : (sput l k f).length ≤ l.length + 1 := by
  induction l with
  | nil => simp [sput]
  | cons p l ih =>
    obtain ⟨a, u⟩ := p
    unfold sput
    split
    · simp
    · split
      · simp
      · simp only [List.length_cons]
        omega
theorem sput_length_old {l : List (Key × FileD)} (hl : Rising l) {k : Key} {f g : FileD} (h : mget l k = some g) : (sput l k f).length = l.length := by
  have h1 := keys_perm (m := sput l k f) (m' := l) (hl.sput k f).nodup hl.nodup (fun q => by
    rw [mget_sput hl]
    split
    · rename_i e
      rw [e, h]
      rfl
    · rfl)
  simpa using h1.length_eq
theorem mdel_length_le (l : List (Key × FileD)) (k : Key) : (mdel l k).length ≤ l.length := by
  induction l with
  | nil => simp [mdel]
  | cons p l ih =>
    obtain ⟨a, u⟩ := p
    unfold mdel
    split
    · simp
    · simp only [List.length_cons]
      omega
theorem mdel_length_old {l : List (Key × FileD)} {k : Key} {f : FileD} (h : mget l k = some f) : (mdel l k).length + 1 = l.length := by
  induction l with
  | nil => cases h
  | cons p l ih =>
    obtain ⟨a, u⟩ := p
    unfold mget at h
    unfold mdel
    split at h
    · rename_i e
      rw [if_pos e]
      simp
    · rename_i e
      rw [if_neg e]
      simp only [List.length_cons, ih h]
theorem Good.put (h : Good n D) (hn : n ≤ m) (hf : FOk f) (hp : pendLen f.pend ≤ m ∧ f.pend.length ≤ m) {u : Int} (hu : u = usedM (sput D.files k f)) (hr : u ≤ D.limit) (hw : (sput D.files k f).length ≤ m) : Good m { D with files := sput D.files k f, used := u } := by
  have hs := h.ok.srt
  refine ⟨⟨hs.sput k f, h.ok.lim, hu, hr, h.ok.ref, h.ok.stp, fun q g hg => ?_⟩, fun q g hg => ?_, by have := h.ref; show D.refused ≤ m; omega, hw⟩
  · replace hg : mget (sput D.files k f) q = some g := hg
    rw [mget_sput hs] at hg
    split at hg
    · injection hg with hg
      rw [← hg]
      exact hf
    · exact h.ok.fok q g hg
  · replace hg : mget (sput D.files k f) q = some g := hg
    rw [mget_sput hs] at hg
    split at hg
    · injection hg with hg
      rw [← hg]
      exact hp
    · have := h.pend q g hg
      omega
theorem Good.del (h : Good n D) {u : Int} (hu : u = usedM (mdel D.files k)) : Good n { D with files := mdel D.files k, used := u } := by
  have hs := h.ok.srt
  have hle : u ≤ D.limit := by
    have h1 := usedM_del (m := D.files) k
    have h2 := h.ok.used
    have h3 := h.ok.room
    omega
  refine ⟨⟨hs.del k, h.ok.lim, hu, hle, h.ok.ref, h.ok.stp, fun q g hg => ?_⟩, fun q g hg => ?_, h.ref, Nat.le_trans (mdel_length_le _ _) h.few⟩
  · replace hg : mget (mdel D.files k) q = some g := hg
    rw [mget_mdel hs.nodup] at hg
    split at hg
    · cases hg
    · exact h.ok.fok q g hg
  · replace hg : mget (mdel D.files k) q = some g := hg
    rw [mget_mdel hs.nodup] at hg
    split at hg
    · cases hg
    · exact h.pend q g hg
theorem usedM_new (hs : Rising D.files) (hf : mget D.files k = none) (hn : f.now = []) : usedM (sput D.files k f) = usedM D.files := by
  have := usedM_sput hs k f
  rw [hf, hn] at this
  simpa using this
theorem usedM_old (hs : Rising D.files) {g : FileD} (hf : mget D.files k = some g) : usedM (sput D.files k f) + g.now.length = usedM D.files + f.now.length := by
  have := usedM_sput hs k f
  rw [hf] at this
  simpa using this
/-- a property that a call keeps -/
theorem opM_good {c : DiskD → Int × DiskD} (h : Good n D) (hn : n ≤ m) (hc : ∀ D', Good n D' → D'.files = D.files → D'.limit = D.limit → Good m (c D').2) : Good m (opM D c).2 := by
  by_cases hl : D.stops = true ∧ D.left = 0
  · rw [opM_dead hl]
    exact h.mono hn
  · rw [opM_live hl]
    refine hc _ (h.tick hl) (tick_files D) ?_
    unfold tickM
    split <;> rfl
theorem fileM_good {c : FileD → Int × DiskD} (h : Good n D) (hn : n ≤ m) (hc : ∀ f, mget D.files k = some f → Good m (c f).2) : Good m (fileM D k c).2 := by
  cases hg : mget D.files k with
  | none => rw [fileM_none hg]; exact h.mono hn
  | some f => rw [fileM_some hg]; exact hc f hg
theorem create_good (h : Good n D) (k : Key) : Good (n + 1) (createM D k).2 := by
  refine opM_good h (by omega) fun D' h' _ _ => ?_
  split
  · split
    · exact h'.mono (by omega)
    · rename_i hn
      have hg : mget D'.files k = none := by
        cases hg : mget D'.files k with
        | none => rfl
        | some f => rw [hg] at hn; exact absurd rfl hn
      exact h'.put (by omega) FOk.new ⟨by simp [newFile, pendLen], by simp [newFile]⟩ (by rw [usedM_new h'.ok.srt hg rfl]; exact h'.ok.used) h'.ok.room (by have := sput_length D'.files k newFile; have := h'.few; omega)
  · exact h'.mono (by omega)
theorem put_good (h : Good n D) (hf : mget D.files k = some f) {at_ : Nat} {d : List UInt8} (ha : at_ ≤ f.now.length) : Good (n + d.length + 1) (putM D k f at_ d).2 := by
  unfold putM
  split
  · exact h.mono (by omega)
  · rename_i hd
    split
    · exact ⟨⟨h.ok.srt, h.ok.lim, h.ok.used, h.ok.room, by have := h.ok.ref; show 0 ≤ D.refused + 1; omega, h.ok.stp, h.ok.fok⟩, fun q g hg => by have := h.pend q g hg; omega, by have := h.ref; show D.refused + 1 ≤ _; omega, by have := h.few; show D.files.length ≤ _; omega⟩
    · rename_i hr
      have h1 := usedM_old (f := laidM f at_ d) h.ok.srt hf
      have h2 : (laidM f at_ d).now.length = max f.now.length (at_ + d.length) := overM_length ha
      have h3 := h.ok.used
      have h4 := h.pend k f hf
      refine h.put (by omega) ((h.ok.fok k f hf).laid ha hd) ?_ ?_ (by omega) (by rw [sput_length_old h.ok.srt hf]; have := h.few; omega)
      · show pendLen (f.pend ++ [(at_, d)]) ≤ _ ∧ (f.pend ++ [(at_, d)]).length ≤ _
        rw [pendLen_append, List.length_append]
        simp only [pendLen, List.length_singleton]
        omega
      · unfold moreM
        omega
theorem append_good (h : Good n D) (k : Key) (d : List UInt8) : Good (n + d.length + 1) (appendM D k d).2 :=
  opM_good h (by omega) fun _ h' _ _ => fileM_good h' (by omega) fun _ hf => put_good h' hf (Nat.le_refl _)
theorem write_good (h : Good n D) (k : Key) (i : Int) (d : List UInt8) : Good (n + d.length + 1) (writeM D k i d).2 :=
  opM_good h (by omega) fun D' h' _ _ => fileM_good h' (by omega) fun f hf => by
    split
    · exact h'.mono (by omega)
    · exact put_good h' hf (by omega)
theorem sync_good (h : Good n D) (k : Key) : Good n (syncM D k).2 :=
  opM_good h (Nat.le_refl _) fun D' h' _ _ => fileM_good h' (Nat.le_refl _) fun f hf =>
    h'.put (u := D'.used) (Nat.le_refl _) (FOk.lasts f) ⟨by simp [lastsM, pendLen], by simp [lastsM]⟩ (by
      have h1 := usedM_old (f := lastsM f) h'.ok.srt hf
      have h2 := h'.ok.used
      have h3 : (lastsM f).now.length = f.now.length := rfl
      omega) h'.ok.room (by rw [sput_length_old h'.ok.srt hf]; exact h'.few)
theorem remove_good (h : Good n D) (k : Key) : Good n (removeM D k).2 :=
  opM_good h (Nat.le_refl _) fun D' h' _ _ => fileM_good h' (Nat.le_refl _) fun f hf => h'.del (by
    have h1 := usedM_del (m := D'.files) k
    rw [hf] at h1
    have h2 := h'.ok.used
    simp only [Option.map_some, Option.getD_some] at h1
    omega)
theorem rename_good (h : Good n D) (a b : Key) : Good n (renameM D a b).2 := by
  refine opM_good h (Nat.le_refl _) fun D' h' _ _ => ?_
  split
  · refine fileM_good h' (Nat.le_refl _) fun f hf => ?_
    split
    · exact h'
    · rename_i hab
      have h1 := usedM_del (m := D'.files) a
      rw [hf] at h1
      simp only [Option.map_some, Option.getD_some] at h1
      have hd := h'.del (k := a) (u := usedM (mdel D'.files a)) rfl
      have h2 := usedM_sput (hd.ok.srt) b f
      have h3 : mget (mdel D'.files a) b = mget D'.files b := by
        rw [mget_mdel h'.ok.srt.nodup, if_neg (fun e => hab e.symm)]
      replace h2 : usedM (sput (mdel D'.files a) b f) + lenAt D' b = usedM (mdel D'.files a) + f.now.length := by
        rw [← h2]
        unfold lenAt
        show _ = _ + ((mget (mdel D'.files a) b).map _).getD 0
        rw [h3]
      have h4 := h'.ok.used
      have h5 := h'.ok.room
      have h6 := h'.pend a f hf
      exact hd.put (u := D'.used - lenAt D' b) (Nat.le_refl _) (h'.ok.fok a f hf) h6 (by show _ = ((usedM (sput (mdel D'.files a) b f) : Nat) : Int); omega) (by show _ ≤ D'.limit; omega) (by have h7 := sput_length (mdel D'.files a) b f; have h8 := mdel_length_old hf; have h9 := h'.few; show (sput (mdel D'.files a) b f).length ≤ n; omega)
  · exact h'
theorem rot_good (h : Good n D) (k : Key) (i : Int) (c : UInt8) : Good n (rotM D k i c).2 :=
  fileM_good h (Nat.le_refl _) fun f hf => by
    split
    · exact h
    · exact h.put (u := D.used) (f := ⟨f.now.set i.toNat c, f.now.set i.toNat c, []⟩) (Nat.le_refl _) ⟨rfl, trivial⟩ ⟨by simp [pendLen], by simp⟩ (by
        have h1 := usedM_old (f := ⟨f.now.set i.toNat c, f.now.set i.toNat c, []⟩) h.ok.srt hf
        have h2 := h.ok.used
        simp only [List.length_set] at h1
        omega) h.ok.room (by rw [sput_length_old h.ok.srt hf]; exact h.few)
theorem stop_good (h : Good n D) {i : Int} (hi : i ≤ 9223372036854775807) : Good n (stopM D i) :=
  ⟨⟨h.ok.srt, h.ok.lim, h.ok.used, h.ok.room, h.ok.ref, fun hs => ⟨of_decide_eq_true hs, hi⟩, h.ok.fok⟩, h.pend, h.ref, h.few⟩
theorem crashAll_keys : ∀ (l : List (Key × FileD)) (ks : List Int), (crashAll l ks).map (·.1) = l.map (·.1)
  | [], _ => rfl
  | p :: l, ks => by rw [crashAll, List.map_cons, List.map_cons, crashAll_keys l]
theorem crashAll_get : ∀ (l : List (Key × FileD)) (ks : List Int) (k : Key) (g : FileD), mget (crashAll l ks) k = some g → ∃ f i, mget l k = some f ∧ g = crashM f i
  | [], _, _, _, h => by cases h
  | p :: l, ks, k, g, h => by
    unfold crashAll at h
    unfold mget at h ⊢
    split at h
    · rename_i hk
      injection h with h
      rw [if_pos hk]
      exact ⟨_, _, rfl, h.symm⟩
    · rename_i hk
      rw [if_neg hk]
      exact crashAll_get l _ k g h
theorem crashAll_used : ∀ (l : List (Key × FileD)) (ks : List Int), (∀ p ∈ l, FOk p.2) → usedM (crashAll l ks) ≤ usedM l
  | [], _, _ => Nat.le_refl _
  | p :: l, ks, h => by
    unfold crashAll usedM
    have h1 := crashAll_used l ks.tail (fun q hq => h q (by simp [hq]))
    have h2 := (h p (by simp)).crash_len (keptM p.2 (ks.head?.getD 0))
    simp only
    omega
theorem rising_keys {m m' : List (Key × FileD)} (h : Rising m) (he : m'.map (·.1) = m.map (·.1)) : Rising m' := by
  have h1 : (m.map (·.1)).Pairwise (· < ·) := by rw [List.pairwise_map]; exact h
  rw [← he, List.pairwise_map] at h1
  exact h1
theorem crash_good (h : Good n D) (ks : List Int) : Good n (crashD D ks) := by
  have hs := rising_keys h.ok.srt (crashAll_keys D.files ks)
  refine ⟨⟨hs, h.ok.lim, rfl, ?_, h.ok.ref, (fun e => by cases e), fun q g hg => ?_⟩, fun q g hg => ?_, h.ref, by have h4 := congrArg List.length (crashAll_keys D.files ks); simp only [List.length_map] at h4; show (crashAll D.files ks).length ≤ n; rw [h4]; exact h.few⟩
  · have h1 := crashAll_used D.files ks (fun p hp => h.ok.fok p.1 p.2 (mget_of_mem h.ok.srt.nodup hp))
    have h2 := h.ok.used
    have h3 := h.ok.room
    show ((usedM (crashAll D.files ks) : Nat) : Int) ≤ D.limit
    omega
  · obtain ⟨f, i, _, rfl⟩ := crashAll_get _ _ _ _ hg
    exact FOk.crash f i
  · obtain ⟨f, i, _, rfl⟩ := crashAll_get _ _ _ _ hg
    exact ⟨by simp [crashM, pendLen], by simp [crashM]⟩
end
end Go.Proofs.YtnijmegalgoipaaDoor
