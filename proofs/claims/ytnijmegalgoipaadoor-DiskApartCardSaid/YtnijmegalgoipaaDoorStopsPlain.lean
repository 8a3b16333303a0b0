/- law01, DiskStops: calls that count do the same whether or not the disk is to stop, until it does. -/
import Derived.Test.YtnijmegalgoipaaDoorDiskX
namespace Go.Proofs.YtnijmegalgoipaaDoor
open Go.RowKit
/-- the same disk, with another stop -/
def DiskD.sl (D : DiskD) (s : Bool) (t : Int) : DiskD := { D with stops := s, left := t }
/-- what is done does not hang on the stop -/
def Blind (k : DiskD → Int × DiskD) : Prop := ∀ D s t, k (D.sl s t) = ((k D).1, (k D).2.sl s t)
theorem Blind.file {n : Key} {k : DiskD → FileD → Int × DiskD} (hk : ∀ f, Blind (fun D => k D f)) : Blind (fun D => fileM D n (k D)) := fun D s t => by
  show fileM (D.sl s t) n (k (D.sl s t)) = ((fileM D n (k D)).1, (fileM D n (k D)).2.sl s t)
  cases hg : mget D.files n with
  | none => rw [fileM_none (show mget (D.sl s t).files n = none from hg), fileM_none hg]
  | some f =>
    rw [fileM_some (show mget (D.sl s t).files n = some f from hg), fileM_some hg]
    exact hk f D s t
theorem Blind.put {n : Key} {f : FileD} {a : Nat} {d : List UInt8} : Blind (fun D => putM D n f a d) := fun D s t => by
  show putM (D.sl s t) n f a d = ((putM D n f a d).1, (putM D n f a d).2.sl s t)
  unfold putM
  by_cases hd : d = []
  · rw [if_pos hd, if_pos hd]
  · rw [if_neg hd, if_neg hd]
    by_cases h : D.limit < D.used + moreM f a d
    · rw [if_pos h]
      exact if_pos h
    · rw [if_neg h]
      exact if_neg h
theorem Blind.const {i : Int} : Blind (fun D => (i, D)) := fun _ _ _ => rfl
theorem blind_create (n : Key) : Blind (fun D => if nameOk n = true then (if (mget D.files n).isSome then (16, D) else (0, { D with files := sput D.files n newFile })) else (1, D)) := by
  by_cases h1 : nameOk n = true
  · simp only [if_pos h1]
    intro D s t
    by_cases h2 : (mget D.files n).isSome = true
    · have h3 : (mget (D.sl s t).files n).isSome = true := h2
      simp only [if_pos h2, if_pos h3]
    · have h3 : ¬ (mget (D.sl s t).files n).isSome = true := h2
      simp only [if_neg h2, if_neg h3]
      rfl
  · simp only [if_neg h1]
    exact Blind.const
theorem blind_rename (a b : Key) : Blind (fun D => if nameOk b = true then fileM D a fun f => if a = b then (0, D) else (0, { D with files := sput (mdel D.files a) b f, used := D.used - lenAt D b }) else (1, D)) := by
  by_cases h1 : nameOk b = true
  · simp only [if_pos h1]
    refine Blind.file fun f => ?_
    by_cases h2 : a = b
    · simp only [if_pos h2]
      exact Blind.const
    · simp only [if_neg h2]
      exact fun D s t => rfl
  · simp only [if_neg h1]
    exact Blind.const
theorem blind_write (n : Key) (i : Int) (d : List UInt8) : Blind (fun D => fileM D n fun f => if i < 0 ∨ (f.now.length : Int) < i then (1, D) else putM D n f i.toNat d) :=
  Blind.file fun f => by
    by_cases h : i < 0 ∨ (f.now.length : Int) < i
    · simp only [if_pos h]
      exact Blind.const
    · simp only [if_neg h]
      exact Blind.put
/-- a call that counts -/
structure Counts (o : OpM) (k : DiskD → Int × DiskD) : Prop where
  is : ∀ D, doesM D o = (([], 0, (opM D k).1), (opM D k).2)
  blind : Blind k
theorem counts (o : OpM) (h : 0 ≤ o.ask ∧ o.ask ≤ 5) : ∃ k, Counts o k := by
  have : o.ask = 0 ∨ o.ask = 1 ∨ o.ask = 2 ∨ o.ask = 3 ∨ o.ask = 4 ∨ o.ask = 5 := by omega
  rcases this with e | e | e | e | e | e
  · exact ⟨_, ⟨fun D => by unfold doesM; rw [if_pos e]; rfl, blind_create o.name⟩⟩
  · exact ⟨_, ⟨fun D => by unfold doesM; rw [if_neg (by omega), if_pos e]; rfl, Blind.file (n := o.name) fun f => Blind.put (n := o.name) (f := f) (a := f.now.length) (d := o.data)⟩⟩
  · exact ⟨_, ⟨fun D => by unfold doesM; rw [if_neg (by omega), if_neg (by omega), if_pos e]; rfl, blind_write o.name o.at_ o.data⟩⟩
  · exact ⟨_, ⟨fun D => by unfold doesM; rw [if_neg (by omega), if_neg (by omega), if_neg (by omega), if_pos e]; rfl, Blind.file (n := o.name) (k := fun D f => (0, { D with files := sput D.files o.name (lastsM f) })) fun f D s t => rfl⟩⟩
  · exact ⟨_, ⟨fun D => by unfold doesM; rw [if_neg (by omega), if_neg (by omega), if_neg (by omega), if_neg (by omega), if_pos e]; rfl, blind_rename o.name o.to_⟩⟩
  · exact ⟨_, ⟨fun D => by unfold doesM; rw [if_neg (by omega), if_neg (by omega), if_neg (by omega), if_neg (by omega), if_neg (by omega), if_pos e]; rfl, Blind.file (n := o.name) (k := fun D f => (0, { D with files := mdel D.files o.name, used := D.used - f.now.length })) fun f D s t => rfl⟩⟩
theorem DiskD.sl_self (D : DiskD) : D.sl D.stops D.left = D := rfl
section
variable {D : DiskD} {o : OpM} {t : Int}
theorem stops_run (h : 0 ≤ o.ask ∧ o.ask ≤ 5) (hs : D.stops = false) (ht : 0 < t) : (doesM (D.sl true t) o).1 = (doesM D o).1 ∧ (doesM (D.sl true t) o).2 = (doesM D o).2.sl true (t - 1) ∧ (doesM D o).2.stops = false := by
  obtain ⟨k, hk, hb⟩ := counts o h
  have e1 : opM (D.sl true t) k = ((k D).1, (k D).2.sl true (t - 1)) := by
    unfold opM
    rw [if_neg (by show ¬ (true = true ∧ t = 0); omega)]
    have : tickM (D.sl true t) = D.sl true (t - 1) := if_pos rfl
    rw [this]
    exact hb D true (t - 1)
  have e2 : opM D k = k D := by
    unfold opM tickM
    rw [if_neg (by rw [hs]; simp), if_neg (by rw [hs]; simp)]
  have e3 := hb D D.stops D.left
  rw [DiskD.sl_self] at e3
  have e4 : (k D).2.stops = D.stops := congrArg (fun x => x.2.stops) e3
  rw [hk, hk, e1, e2]
  exact ⟨rfl, rfl, e4.trans hs⟩
theorem stops_dead (h : 0 ≤ o.ask ∧ o.ask ≤ 5) : doesM (D.sl true 0) o = (([], 0, 19), D.sl true 0) := by
  obtain ⟨k, hk, _⟩ := counts o h
  have e1 : opM (D.sl true 0) k = (19, D.sl true 0) := if_pos ⟨rfl, rfl⟩
  rw [hk, e1]
end
end Go.Proofs.YtnijmegalgoipaaDoor
