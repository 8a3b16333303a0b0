/- A disk with the journal's file, and perhaps the new one, that may stop: plain. -/
import Derived.Test.YtnijmegalgoipaaGreatDoorTornP
namespace Go.Proofs.YtnijmegalgoipaaGreatDoor
def ogLen : Option FileD → Nat
  | none => 0
  | some g => g.now.length
def ogFs : Option FileD → List (Key × FileD)
  | none => []
  | some g => [(jNew, g)]
def twoD (f : FileD) (og : Option FileD) (st : Bool) (lf : Int) : DiskD := ⟨(jName, f) :: ogFs og, 1048576, ((f.now.length + ogLen og : Nat) : Int), 0, st, lf⟩
def tk (st : Bool) (lf : Int) : Int := if st = true then lf - 1 else lf
theorem tick_two (f : FileD) (og : Option FileD) (st : Bool) (lf : Int) : tickM (twoD f og st lf) = twoD f og st (tk st lf) := by
  cases st <;> rfl
section
variable {f g : FileD} {og : Option FileD} {st : Bool} {lf : Int}
theorem two_dead (k : DiskD → Int × DiskD) : opM (twoD f og true 0) k = (19, twoD f og true 0) := opM_dead ⟨rfl, rfl⟩ k
theorem two_live (h : ¬ (st = true ∧ lf = 0)) (k : DiskD → Int × DiskD) : opM (twoD f og st lf) k = k (twoD f og st (tk st lf)) := by
  rw [opM_live h, tick_two]
theorem two_remove (h : ¬ (st = true ∧ lf = 0)) : removeM (twoD f og st lf) jNew = (if og = none then 15 else 0, twoD f none st (tk st lf)) := by
  unfold removeM
  rw [two_live h]
  cases og with
  | none => kernel_rfl
  | some g =>
    rw [fileM_some (f := g) (by kernel_rfl)]
    have e : ((f.now.length + ogLen (some g) : Nat) : Int) - g.now.length = ((f.now.length + 0 : Nat) : Int) := by rw [show ogLen (some g) = g.now.length from rfl]; omega
    show (0, DiskD.mk _ _ (((f.now.length + ogLen (some g) : Nat) : Int) - g.now.length) _ _ _) = _
    rw [e]
    kernel_rfl
theorem two_create (h : ¬ (st = true ∧ lf = 0)) : createM (twoD f none st lf) jNew = (0, twoD f (some newFile) st (tk st lf)) := by
  unfold createM
  rw [two_live h]
  kernel_rfl
def putNew (s : List UInt8) : FileD := if s = [] then newFile else ⟨[], s, [(0, s)]⟩
theorem two_append (s : List UInt8) (h : ¬ (st = true ∧ lf = 0)) (hr : f.now.length + s.length ≤ 1048576) : appendM (twoD f (some newFile) st lf) jNew s = (0, twoD f (some (putNew s)) st (tk st lf)) := by
  unfold appendM
  rw [two_live h, fileM_some (f := newFile) (by kernel_rfl)]
  unfold putM putNew
  by_cases hs : s = []
  · rw [if_pos hs, if_pos hs]
  · have hm : moreM newFile newFile.now.length s = s.length := by unfold moreM newFile; simp
    rw [if_neg hs, if_neg hs, hm, if_neg (by show ¬ (1048576 : Int) < ((f.now.length + 0 : Nat) : Int) + (s.length : Int); omega)]
    have ho : laidM newFile newFile.now.length s = ⟨[], s, [(0, s)]⟩ := by
      unfold laidM newFile overM
      simp
    rw [ho]
    have e : ((f.now.length + 0 : Nat) : Int) + (s.length : Int) = ((f.now.length + s.length : Nat) : Int) := by omega
    show (0, DiskD.mk _ _ (((f.now.length + 0 : Nat) : Int) + (s.length : Int)) _ _ _) = _
    rw [e]
    kernel_rfl
theorem putNew_now (s : List UInt8) : (putNew s).now = s := by
  unfold putNew
  split
  · rename_i h; rw [h]; rfl
  · rfl
theorem two_syncNew (s : List UInt8) (h : ¬ (st = true ∧ lf = 0)) : syncM (twoD f (some (putNew s)) st lf) jNew = (0, twoD f (some ⟨s, s, []⟩) st (tk st lf)) := by
  unfold syncM
  rw [two_live h, fileM_some (f := putNew s) (by kernel_rfl)]
  have e : lastsM (putNew s) = ⟨s, s, []⟩ := by unfold lastsM; rw [putNew_now]
  rw [e]
  have e2 : ogLen (some (putNew s)) = ogLen (some ⟨s, s, []⟩) := by rw [show ogLen (some (putNew s)) = (putNew s).now.length from rfl, putNew_now]; rfl
  show (0, DiskD.mk _ _ ((f.now.length + ogLen (some (putNew s)) : Nat) : Int) _ _ _) = _
  rw [e2]
  kernel_rfl
theorem two_rename (h : ¬ (st = true ∧ lf = 0)) : renameM (twoD f (some g) st lf) jNew jName = (0, twoD g none st (tk st lf)) := by
  unfold renameM
  rw [two_live h, if_pos (by kernel_rfl), fileM_some (f := g) (by kernel_rfl), if_neg (by decide)]
  have e : ((f.now.length + ogLen (some g) : Nat) : Int) - (lenAt (twoD f (some g) st (tk st lf)) jName : Int) = ((g.now.length + 0 : Nat) : Int) := by
    have : lenAt (twoD f (some g) st (tk st lf)) jName = f.now.length := by kernel_rfl
    rw [this, show ogLen (some g) = g.now.length from rfl]
    omega
  show (0, DiskD.mk _ _ (((f.now.length + ogLen (some g) : Nat) : Int) - (lenAt (twoD f (some g) st (tk st lf)) jName : Int)) _ _ _) = _
  rw [e]
  kernel_rfl
end
theorem n190 : (19 : Int) ≠ 0 := by decide
theorem n195 : (19 : Int) ≠ 15 := by decide
theorem n00 : ¬ ((0 : Int) ≠ 0) := by decide
theorem live_or (st : Bool) (lf : Int) : (st = true ∧ lf = 0) ∨ ¬ (st = true ∧ lf = 0) := Classical.em _
/-- what replace leaves: all of it, or the old file -/
theorem replace_two (f : FileD) (og : Option FileD) (st : Bool) (lf : Int) (s : List UInt8) (hr : f.now.length + s.length ≤ 1048576) :
    (∃ lf', replaceJ (twoD f og st lf) s = (0, twoD ⟨s, s, []⟩ none st lf')) ∨ (st = true ∧ ∃ og', replaceJ (twoD f og st lf) s = (19, twoD f og' true 0)) := by
  unfold replaceJ
  rcases live_or st lf with ⟨rfl, rfl⟩ | h1
  · right
    have e := two_dead (f := f) (og := og) (fun D => fileM D jNew fun f => (0, { D with files := mdel D.files jNew, used := D.used - f.now.length }))
    rw [show removeM (twoD f og true 0) jNew = (19, twoD f og true 0) from e]
    exact ⟨rfl, og, if_pos ⟨n190, n195⟩⟩
  rw [two_remove h1]
  have hne : ¬ (((if og = none then 15 else 0 : Int), twoD f none st (tk st lf)).1 ≠ 0 ∧ ((if og = none then 15 else 0 : Int), twoD f none st (tk st lf)).1 ≠ 15) := by
    dsimp only
    split <;> simp
  rw [if_neg hne]
  dsimp only
  generalize tk st lf = l1
  rcases live_or st l1 with ⟨rfl, rfl⟩ | h2
  · right
    rw [show createM (twoD f none true 0) jNew = (19, twoD f none true 0) from two_dead _]
    exact ⟨rfl, none, if_pos n190⟩
  rw [two_create h2]
  dsimp only
  rw [if_neg n00]
  generalize tk st l1 = l2
  rcases live_or st l2 with ⟨rfl, rfl⟩ | h3
  · right
    rw [show appendM (twoD f (some newFile) true 0) jNew s = (19, twoD f (some newFile) true 0) from two_dead _]
    dsimp only
    rw [if_pos n190, show removeM (twoD f (some newFile) true 0) jNew = (19, twoD f (some newFile) true 0) from two_dead _]
    exact ⟨rfl, _, rfl⟩
  rw [two_append s h3 hr]
  dsimp only
  rw [if_neg n00]
  generalize tk st l2 = l3
  rcases live_or st l3 with ⟨rfl, rfl⟩ | h4
  · right
    rw [show syncM (twoD f (some (putNew s)) true 0) jNew = (19, twoD f (some (putNew s)) true 0) from two_dead _]
    exact ⟨rfl, _, if_pos n190⟩
  rw [two_syncNew s h4]
  dsimp only
  rw [if_neg n00]
  generalize tk st l3 = l4
  rcases live_or st l4 with ⟨rfl, rfl⟩ | h5
  · right
    exact ⟨rfl, _, two_dead _⟩
  · left
    exact ⟨_, two_rename h5⟩
/-- what put leaves -/
theorem put_two {F b : List UInt8} {k : UInt8} (st : Bool) (lf : Int) (hk : k ≠ 0) (hb : b.length ≤ 1048576) (hr : F.length + (sealM k b).length ≤ 1048576) :
    (∃ lf', putJ (twoD ⟨F, F, []⟩ none st lf) k b = (0, twoD ⟨F ++ sealM k b, F ++ sealM k b, []⟩ none st lf')) ∨
    (st = true ∧ (putJ (twoD ⟨F, F, []⟩ none st lf) k b = (19, twoD ⟨F, F, []⟩ none true 0) ∨ putJ (twoD ⟨F, F, []⟩ none st lf) k b = (19, twoD ⟨F, F ++ sealM k b, [(F.length, sealM k b)]⟩ none true 0))) := by
  have hne := seal_ne hk hb
  unfold putJ
  rcases live_or st lf with ⟨rfl, rfl⟩ | h1
  · right
    rw [show appendM (twoD ⟨F, F, []⟩ none true 0) jName (sealM k b) = (19, twoD ⟨F, F, []⟩ none true 0) from two_dead _]
    exact ⟨rfl, .inl (if_neg n190)⟩
  have ha : appendM (twoD ⟨F, F, []⟩ none st lf) jName (sealM k b) = (0, twoD ⟨F, F ++ sealM k b, [(F.length, sealM k b)]⟩ none st (tk st lf)) := by
    unfold appendM
    rw [two_live h1, fileM_some (f := ⟨F, F, []⟩) (by kernel_rfl)]
    unfold putM
    have hm : moreM ⟨F, F, []⟩ F.length (sealM k b) = (sealM k b).length := by unfold moreM; simp only; omega
    rw [if_neg hne, hm, if_neg (by show ¬ (1048576 : Int) < ((F.length + 0 : Nat) : Int) + ((sealM k b).length : Int); omega)]
    unfold laidM
    simp only [over_end]
    have e : ((F.length + 0 : Nat) : Int) + ((sealM k b).length : Int) = (((F ++ sealM k b).length + 0 : Nat) : Int) := by rw [List.length_append]; omega
    show (0, DiskD.mk _ _ (((F.length + 0 : Nat) : Int) + ((sealM k b).length : Int)) _ _ _) = _
    rw [e]
    kernel_rfl
  rw [ha]
  dsimp only
  rw [if_pos rfl]
  generalize tk st lf = l1
  rcases live_or st l1 with ⟨rfl, rfl⟩ | h2
  · right
    exact ⟨rfl, .inr (two_dead _)⟩
  · left
    refine ⟨tk st l1, ?_⟩
    unfold syncM
    rw [two_live h2, fileM_some (f := ⟨F, F ++ sealM k b, [(F.length, sealM k b)]⟩) (by kernel_rfl)]
    kernel_rfl
end Go.Proofs.YtnijmegalgoipaaGreatDoor
