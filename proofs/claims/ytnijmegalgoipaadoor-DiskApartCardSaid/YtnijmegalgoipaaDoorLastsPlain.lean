/- law01, DiskLasts: one file that was synced, with bytes behind it. -/
import Derived.Test.YtnijmegalgoipaaDoorDiskW
namespace Go.Proofs.YtnijmegalgoipaaDoor
open Go.RowKit
/-- writes one behind the other, from a place on -/
def Consec : Nat → List (Nat × List UInt8) → Prop
  | _, [] => True
  | n, p :: l => p.1 = n ∧ Consec (n + p.2.length) l
def flatP : List (Nat × List UInt8) → List UInt8
  | [] => []
  | p :: l => p.2 ++ flatP l
theorem flatP_length (l : List (Nat × List UInt8)) : (flatP l).length = pendLen l := by
  induction l with
  | nil => rfl
  | cons p l ih => simp only [flatP, pendLen, List.length_append, ih]
theorem flatP_append (l m : List (Nat × List UInt8)) : flatP (l ++ m) = flatP l ++ flatP m := by
  induction l with
  | nil => rfl
  | cons p l ih => simp only [List.cons_append, flatP, ih, List.append_assoc]
theorem Consec.snoc : ∀ {l : List (Nat × List UInt8)} {n : Nat} {d : List UInt8}, Consec n l → Consec n (l ++ [(n + pendLen l, d)])
  | [], _, _, _ => ⟨rfl, trivial⟩
  | p :: l, n, d, h => ⟨h.1, by
    have := Consec.snoc (d := d) h.2
    rwa [show n + p.2.length + pendLen l = n + (p.2.length + pendLen l) by omega] at this⟩
theorem crash_none : ∀ (l : List (Nat × List UInt8)) (t : List UInt8), crashBytes t l 0 = t
  | [], _ => rfl
  | p :: l, t => by
    show crashBytes (overM t (min p.1 t.length) (p.2.take 0)) l (0 - min 0 p.2.length) = t
    rw [List.take_zero, overM_nil, Nat.zero_sub]
    exact crash_none l t
theorem crash_consec : ∀ (l : List (Nat × List UInt8)) (t : List UInt8) (k : Nat), Consec t.length l → crashBytes t l k = t ++ (flatP l).take k
  | [], t, k, _ => by simp [crashBytes, flatP]
  | p :: l, t, k, h => by
    show crashBytes (overM t (min p.1 t.length) (p.2.take k)) l (k - min k p.2.length) = t ++ (p.2 ++ flatP l).take k
    rw [h.1, Nat.min_self, overM_end]
    rcases Nat.lt_or_ge k p.2.length with hk | hk
    · rw [Nat.min_eq_left (by omega), Nat.sub_self, crash_none, List.take_append_of_le_length (by omega)]
    · rw [Nat.min_eq_right hk, List.take_of_length_le hk, crash_consec l (t ++ p.2) _ (by rw [List.length_append]; exact h.2), List.take_append, List.take_of_length_le hk, List.append_assoc]
structure LastsAt (D : DiskD) (k : Key) (lim : Int) (s all : List UInt8) : Prop where
  ex : ∃ f, D.files = [(k, f)] ∧ f.last = s ∧ f.now = s ++ all ∧ Consec s.length f.pend ∧ flatP f.pend = all
  limit : D.limit = lim
  used : D.used = (s ++ all).length
  stops : D.stops = false
section
variable {D : DiskD} {s all d : List UInt8} {k b : Key} {lim : Int}
theorem mget_one {ν : Type} (k : Key) (f : ν) : mget [(k, f)] k = some f := if_pos rfl
theorem sput_one (k : Key) (f g : FileD) : sput [(k, f)] k g = [(k, g)] := if_pos rfl
theorem LastsAt.op (h : LastsAt D k lim s all) (c : DiskD → Int × DiskD) : opM D c = c D := by
  unfold opM tickM
  rw [if_neg (by rw [h.stops]; simp), if_neg (by rw [h.stops]; simp)]
theorem LastsAt.append (h : LastsAt D k lim s all) (hl : ((s ++ all).length : Int) + d.length ≤ lim) : (appendM D k d).1 = 0 ∧ LastsAt (appendM D k d).2 k lim s (all ++ d) := by
  obtain ⟨f, hf, h1, h2, h3, h4⟩ := h.ex
  unfold appendM
  rw [h.op, fileM_some (f := f) (by rw [hf]; exact mget_one _ _)]
  unfold putM
  split
  · rename_i hd
    subst hd
    rw [List.append_nil]
    exact ⟨rfl, h⟩
  · have hm : moreM f f.now.length d = d.length := by unfold moreM; omega
    rw [if_neg (by rw [hm, h.limit, h.used]; omega)]
    refine ⟨rfl, ⟨⟨laidM f f.now.length d, by rw [hf]; exact sput_one _ _ _, h1, ?_, ?_, ?_⟩, h.limit, ?_, h.stops⟩⟩
    · show overM f.now f.now.length d = _
      rw [overM_end, h2, List.append_assoc]
    · show Consec s.length (f.pend ++ [(f.now.length, d)])
      have := h3.snoc (d := d)
      rw [← flatP_length, h4] at this
      rw [h2, List.length_append]
      exact this
    · show flatP (f.pend ++ [(f.now.length, d)]) = _
      rw [flatP_append, h4]
      simp [flatP]
    · show D.used + _ = _
      rw [hm, h.used, ← List.append_assoc]
      simp only [List.length_append]
      omega
theorem LastsAt.sync (h : LastsAt D k lim s all) : LastsAt (syncM D k).2 k lim (s ++ all) [] := by
  obtain ⟨f, hf, h1, h2, h3, h4⟩ := h.ex
  unfold syncM
  rw [h.op, fileM_some (f := f) (by rw [hf]; exact mget_one _ _)]
  refine ⟨⟨lastsM f, by rw [hf]; exact sput_one _ _ _, h2, ?_, trivial, rfl⟩, h.limit, ?_, h.stops⟩
  · show f.now = _
    rw [List.append_nil, h2]
  · show D.used = _
    rw [List.append_nil, h.used]
theorem LastsAt.crash (h : LastsAt D k lim s all) (pick : Int) : LastsAt (crashD D [pick]) k lim (s ++ all.take (pick % ((all.length + 1 : Nat) : Int)).toNat) [] := by
  obtain ⟨f, hf, h1, h2, h3, h4⟩ := h.ex
  have hk : keptM f pick = (pick % ((all.length + 1 : Nat) : Int)).toNat := by
    unfold keptM
    rw [← flatP_length, h4]
  have hc : crashM f (keptM f pick) = ⟨s ++ all.take (pick % ((all.length + 1 : Nat) : Int)).toNat, s ++ all.take (pick % ((all.length + 1 : Nat) : Int)).toNat, []⟩ := by
    unfold crashM
    rw [hk, crash_consec _ _ _ (by rw [h1]; exact h3), h1, h4]
  have hfs : (crashD D [pick]).files = [(k, ⟨s ++ all.take (pick % ((all.length + 1 : Nat) : Int)).toNat, s ++ all.take (pick % ((all.length + 1 : Nat) : Int)).toNat, []⟩)] := by
    show crashAll D.files [pick] = _
    rw [hf]
    show [(k, crashM f (keptM f pick))] = _
    rw [hc]
  refine ⟨⟨_, hfs, rfl, by rw [List.append_nil], trivial, rfl⟩, h.limit, ?_, rfl⟩
  show ((usedM (crashAll D.files [pick]) : Nat) : Int) = _
  rw [show crashAll D.files [pick] = _ from hfs, List.append_nil]
  rfl
theorem LastsAt.read (h : LastsAt D k lim s all) {n : Nat} (hl : (s ++ all).length ≤ n) : readM D k 0 n = (s ++ all, 0) := by
  obtain ⟨f, hf, h1, h2, h3, h4⟩ := h.ex
  unfold readM
  rw [show mget D.files k = some f by rw [hf]; exact mget_one _ _]
  show (if _ then _ else _) = _
  rw [if_neg (by omega), h2]
  simp only [Int.toNat_zero, List.drop_zero, Int.toNat_natCast]
  rw [List.take_of_length_le hl]
theorem LastsAt.new (hk : nameOk k = true) : (createM (newM lim) k).1 = 0 ∧ LastsAt (createM (newM lim) k).2 k lim [] [] := by
  have h : createM (newM lim) k = (0, ⟨[(k, newFile)], lim, 0, 0, false, 0⟩) := by
    unfold createM opM
    rw [if_neg (by simp [newM])]
    show (if nameOk k = true then _ else _) = _
    rw [if_pos hk]
    rfl
  rw [h]
  exact ⟨rfl, ⟨newFile, rfl, rfl, rfl, trivial, rfl⟩, rfl, rfl, rfl⟩
theorem LastsAt.rename (h : LastsAt D k lim s all) (hb : nameOk b = true) : (renameM D k b).1 = 0 ∧ LastsAt (renameM D k b).2 b lim s all := by
  obtain ⟨f, hf, h1, h2, h3, h4⟩ := h.ex
  unfold renameM
  rw [h.op, if_pos hb, fileM_some (f := f) (by rw [hf]; exact mget_one _ _)]
  by_cases hk : k = b
  · rw [if_pos hk]
    subst hk
    exact ⟨rfl, h⟩
  · rw [if_neg hk]
    have hm : mdel D.files k = [] := by rw [hf]; exact if_pos rfl
    have hl : lenAt D b = 0 := by
      unfold lenAt
      rw [hf, show mget [(k, f)] b = none from if_neg (fun e => hk e.symm)]
      rfl
    refine ⟨rfl, ⟨f, by show sput (mdel D.files k) b f = _; rw [hm]; rfl, h1, h2, h3, h4⟩, h.limit, ?_, h.stops⟩
    show D.used - lenAt D b = _
    rw [hl, h.used]
    omega
theorem LastsAt.remove (h : LastsAt D k lim s all) : (removeM D k).1 = 0 ∧ (removeM D k).2.files = [] ∧ (removeM D k).2.used = 0 := by
  obtain ⟨f, hf, h1, h2, h3, h4⟩ := h.ex
  unfold removeM
  rw [h.op, fileM_some (f := f) (by rw [hf]; exact mget_one _ _)]
  refine ⟨rfl, ?_, ?_⟩
  · show mdel D.files k = _
    rw [hf]
    exact if_pos rfl
  · show D.used - f.now.length = 0
    rw [h.used, h2]
    omega
theorem LastsAt.names (h : LastsAt D k lim s all) : namesM D = [k] := by
  obtain ⟨f, hf, _⟩ := h.ex
  unfold namesM
  rw [hf]
  rfl
theorem LastsAt.size (h : LastsAt D k lim s all) (hb : b ≠ k) : (sizeM D b).2 = 15 := by
  obtain ⟨f, hf, _⟩ := h.ex
  unfold sizeM
  rw [hf, show mget [(k, f)] b = none from if_neg hb]
end
end Go.Proofs.YtnijmegalgoipaaDoor
