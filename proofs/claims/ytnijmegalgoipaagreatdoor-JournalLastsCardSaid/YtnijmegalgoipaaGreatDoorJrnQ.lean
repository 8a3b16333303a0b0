/- The journal on a disk that does all it is asked: plain. -/
import Derived.Test.YtnijmegalgoipaaGreatDoorFrameP
import Derived.Test.YtnijmegalgoipaaGreatDoorJrn
namespace Go.Proofs.YtnijmegalgoipaaGreatDoor
def frOk (p : UInt8 × List UInt8) : Prop := p.1 ≠ 0 ∧ 4 ≤ p.2.length ∧ p.2.length ≤ 1048576
/-- frames, one behind the other -/
def encM : List (UInt8 × List UInt8) → List UInt8
  | [] => []
  | p :: l => sealM p.1 p.2 ++ encM l
def stepF (p : UInt8 × List UInt8) (x : ScM) : Option ScM := (doM p.1.toNat (num p.2) (p.2.drop 4) x).map fun y => { y with good := y.good + (sealM p.1 p.2).length }
def runM : List (UInt8 × List UInt8) → ScM → Option ScM
  | [], x => some x
  | p :: l, x => match stepF p x with
    | none => none
    | some y => runM l y
theorem encM_snoc (p : UInt8 × List UInt8) : ∀ l, encM (l ++ [p]) = encM l ++ sealM p.1 p.2
  | [] => by simp [encM]
  | q :: l => by rw [List.cons_append, encM, encM, encM_snoc p l, List.append_assoc]
theorem runM_snoc {p : UInt8 × List UInt8} {y : ScM} : ∀ (l : List (UInt8 × List UInt8)) (x z : ScM), runM l x = some y → stepF p y = some z → runM (l ++ [p]) x = some z
  | [], x, z, h, h2 => by
    injection h with h
    subst h
    simp only [List.nil_append, runM, h2]
  | q :: l, x, z, h, h2 => by
    rw [List.cons_append, runM]
    rw [runM] at h
    split at h
    · cases h
    · exact runM_snoc l _ z h h2
theorem stepF_good {p : UInt8 × List UInt8} {x y : ScM} (h : stepF p x = some y) : y.good = x.good + (sealM p.1 p.2).length := by
  obtain ⟨z, hz, rfl⟩ := Option.map_eq_some_iff.1 h
  rw [(doM_good hz).1]
theorem runM_good : ∀ (l : List (UInt8 × List UInt8)) {x y : ScM}, runM l x = some y → y.good = x.good + (encM l).length
  | [], x, y, h => by
    injection h with h
    subst h
    simp [encM]
  | p :: l, x, y, h => by
    rw [runM] at h
    split at h
    · cases h
    · rename_i z hz
      rw [runM_good l h, stepF_good hz, encM, List.length_append]
      omega
theorem encM_length : ∀ (l : List (UInt8 × List UInt8)), (∀ p ∈ l, frOk p) → l.length ≤ (encM l).length
  | [], _ => Nat.zero_le _
  | p :: l, h => by
    have h1 := encM_length l (fun q hq => h q (List.mem_cons_of_mem _ hq))
    have hp := h p (List.mem_cons_self ..)
    have := seal_length hp.1 hp.2.2
    rw [encM, List.length_append, List.length_cons]
    omega
theorem scanN_run {t : List UInt8} (ht : (nextM t).2.2.2 ≠ 0) : ∀ (l : List (UInt8 × List UInt8)) (pre : List UInt8) (x y : ScM) (n : Nat), x.good = pre.length → l.length < n → (∀ p ∈ l, frOk p) → runM l x = some y → scanN n (pre ++ (encM l ++ t)) x = y
  | [], pre, x, y, n, hx, hn, _, h => by
    injection h with h
    subst h
    refine scanN_none ?_ (by omega)
    unfold stepM
    rw [hx, List.drop_left]
    exact if_pos (.inl ht)
  | p :: l, pre, x, y, n, hx, hn, hl, h => by
    have hp := hl p (List.mem_cons_self ..)
    rw [runM] at h
    split at h
    · cases h
    · rename_i z hz
      have hs : stepM (pre ++ (encM (p :: l) ++ t)) x = some z := by
        unfold stepM
        rw [hx, List.drop_left, encM, List.append_assoc, nextM_seal _ hp.1 hp.2.2]
        simp only
        rw [if_neg (by have := hp.2.1; simp; omega)]
        exact hz
      rw [scanN_some hs (by omega)]
      have := scanN_run ht l (pre ++ sealM p.1 p.2) z y (n - 1) (by rw [stepF_good hz, hx, List.length_append]) (by simp only [List.length_cons] at hn; omega) (fun q hq => hl q (List.mem_cons_of_mem _ hq)) h
      rw [encM]
      simpa [List.append_assoc] using this
/-- what is seen of frames, and of what is none behind them -/
theorem scanM_enc {l : List (UInt8 × List UInt8)} {t : List UInt8} {y : ScM} (ht : (nextM t).2.2.2 ≠ 0) (hl : ∀ p ∈ l, frOk p) (h : runM l scNew = some y) : scanM (encM l ++ t) = y := by
  unfold scanM
  have := scanN_run ht l [] scNew y ((encM l ++ t).length + 1) rfl (by have := encM_length l hl; rw [List.length_append]; omega) hl h
  simpa using this
theorem nextM_nil : (nextM []).2.2.2 ≠ 0 := by decide
/- ---------- the disk ---------- -/
/-- a disk that has the journal's file, lasting, alone -/
def jd (F : List UInt8) : DiskD := ⟨[(jName, ⟨F, F, []⟩)], 1048576, F.length, 0, false, 0⟩
theorem jd_get (F : List UInt8) : mget (jd F).files jName = some ⟨F, F, []⟩ := rfl
theorem seal_ne {k : UInt8} {b : List UInt8} (hk : k ≠ 0) (hb : b.length ≤ 1048576) : sealM k b ≠ [] := fun e => by
  have := seal_length hk hb
  rw [e] at this
  simp at this
theorem over_end (F d : List UInt8) : overM F F.length d = F ++ d := by
  unfold overM
  rw [List.take_length, List.drop_of_length_le (by omega), List.append_nil]
theorem append_jd {F d : List UInt8} (hd : d ≠ []) (h : F.length + d.length ≤ 1048576) : appendM (jd F) jName d = (0, ⟨[(jName, ⟨F, F ++ d, [(F.length, d)]⟩)], 1048576, ((F ++ d).length : Nat), 0, false, 0⟩) := by
  unfold appendM opM
  rw [if_neg (by simp [jd])]
  show putM (jd F) jName ⟨F, F, []⟩ F.length d = _
  unfold putM
  rw [if_neg hd]
  have hm : moreM ⟨F, F, []⟩ F.length d = d.length := by unfold moreM; simp only; omega
  rw [hm, if_neg (by show ¬ (1048576 : Int) < (F.length : Int) + (d.length : Int); omega)]
  unfold laidM
  simp only [over_end]
  show (0, DiskD.mk [(jName, ⟨F, F ++ d, [] ++ [(F.length, d)]⟩)] 1048576 ((F.length : Int) + (d.length : Int)) 0 false 0) = _
  rw [List.length_append, Int.natCast_add]
  rfl
theorem put_jd {F b : List UInt8} {k : UInt8} (hk : k ≠ 0) (hb : b.length ≤ 1048576) (h : F.length + (sealM k b).length ≤ 1048576) : putJ (jd F) k b = (0, jd (F ++ sealM k b)) := by
  unfold putJ
  rw [append_jd (seal_ne hk hb) h, if_pos rfl]
  rfl
theorem tick_quiet {D : DiskD} (h : D.stops = false) : tickM D = D := by
  unfold tickM
  rw [if_neg (by simp [h])]
theorem opM_quiet {D : DiskD} (h : D.stops = false) (k : DiskD → Int × DiskD) : opM D k = k D := by
  unfold opM
  rw [if_neg (by simp [h]), tick_quiet h]
/-- the disk with the file that is made anew -/
theorem replace_jd {F s : List UInt8} (hs : s ≠ []) (h : F.length + s.length ≤ 1048576) : replaceJ (jd F) s = (0, jd s) := by
  have h1 : removeM (jd F) jNew = (15, jd F) := rfl
  have h2 : createM (jd F) jNew = (0, ⟨[(jName, ⟨F, F, []⟩), (jNew, newFile)], 1048576, F.length, 0, false, 0⟩) := by kernel_rfl
  have h3 : appendM ⟨[(jName, ⟨F, F, []⟩), (jNew, newFile)], 1048576, F.length, 0, false, 0⟩ jNew s = (0, ⟨[(jName, ⟨F, F, []⟩), (jNew, ⟨[], s, [(0, s)]⟩)], 1048576, (F.length : Int) + (s.length : Int), 0, false, 0⟩) := by
    unfold appendM
    rw [opM_quiet rfl]
    show putM _ jNew newFile 0 s = _
    unfold putM
    have hm : moreM newFile 0 s = s.length := by unfold moreM newFile; simp
    rw [if_neg hs, hm, if_neg (by show ¬ (1048576 : Int) < (F.length : Int) + (s.length : Int); omega)]
    have ho : laidM newFile 0 s = ⟨[], s, [(0, s)]⟩ := by
      unfold laidM newFile overM
      simp
    rw [ho]
    rfl
  have h4 : syncM ⟨[(jName, ⟨F, F, []⟩), (jNew, ⟨[], s, [(0, s)]⟩)], 1048576, (F.length : Int) + (s.length : Int), 0, false, 0⟩ jNew = (0, ⟨[(jName, ⟨F, F, []⟩), (jNew, ⟨s, s, []⟩)], 1048576, (F.length : Int) + (s.length : Int), 0, false, 0⟩) := by
    kernel_rfl
  have h5 : renameM ⟨[(jName, ⟨F, F, []⟩), (jNew, ⟨s, s, []⟩)], 1048576, (F.length : Int) + (s.length : Int), 0, false, 0⟩ jNew jName = (0, jd s) := by
    have e : renameM ⟨[(jName, ⟨F, F, []⟩), (jNew, ⟨s, s, []⟩)], 1048576, (F.length : Int) + (s.length : Int), 0, false, 0⟩ jNew jName = (0, ⟨[(jName, ⟨s, s, []⟩)], 1048576, (F.length : Int) + (s.length : Int) - (F.length : Int), 0, false, 0⟩) := by kernel_rfl
    rw [e, show (F.length : Int) + (s.length : Int) - (F.length : Int) = (s.length : Int) by omega]
    rfl
  unfold replaceJ
  rw [h1]
  simp only
  rw [if_neg (by decide), h2]
  simp only
  rw [if_neg (by decide), h3]
  simp only
  rw [if_neg (by decide), h4]
  simp only
  rw [if_neg (by decide), h5]
theorem crash_jd (F : List UInt8) (ks : List Int) : crashD (jd F) ks = jd F := by
  have h : crashBytes F [] (keptM ⟨F, F, []⟩ (ks.head?.getD 0)) = F := rfl
  unfold crashD
  simp only [jd, crashAll, crashM, h, usedM]
  simp
/-- the journal tells what its file does -/
def FitJ (F : List UInt8) (J : JrM) : Prop := ∃ fs X, F = encM fs ∧ (∀ p ∈ fs, frOk p) ∧ runM fs scNew = some X ∧ X.state = J.x.state ∧ X.done = J.x.done ∧ X.next = J.x.next ∧ (0 < J.x.open_ → X.open_ = J.x.open_ ∧ X.last = J.x.last)
theorem FitJ.new : FitJ [] ⟨scNew, false⟩ := by
  refine ⟨[], scNew, rfl, ?_, rfl, rfl, rfl, rfl, fun h => absurd h (Nat.lt_irrefl 0)⟩
  intro p hp
  cases hp
theorem num_fourN {n : Nat} (r : List UInt8) (h : n < 4294967296) : num (four (n : Int) ++ r) = n := by
  have := num_four (n : Int) r (by omega) (by omega)
  omega
theorem drop_fourL (n : Int) (r : List UInt8) : (four n ++ r).drop 4 = r := by
  have := List.drop_left (l₁ := four n) (l₂ := r)
  rwa [four_length] at this
theorem FitJ.snoc {F : List UInt8} {J J' : JrM} {k : UInt8} {n : Nat} {r : List UInt8} (h : FitJ F J) (hk : k ≠ 0) (hn : n < 4294967296) (hr : r.length ≤ 1048572)
    (hy : ∀ X : ScM, X.state = J.x.state → X.done = J.x.done → X.next = J.x.next → (0 < J.x.open_ → X.open_ = J.x.open_ ∧ X.last = J.x.last) → ∃ y, doM k.toNat n r X = some y ∧ y.state = J'.x.state ∧ y.done = J'.x.done ∧ y.next = J'.x.next ∧ (0 < J'.x.open_ → y.open_ = J'.x.open_ ∧ y.last = J'.x.last)) :
    FitJ (F ++ sealM k (four (n : Int) ++ r)) J' := by
  obtain ⟨fs, X, rfl, hfs, hX, h1, h2, h3, h4⟩ := h
  obtain ⟨y, hd, e1, e2, e3, e4⟩ := hy X h1 h2 h3 h4
  have hst : stepF (k, four (n : Int) ++ r) X = some { y with good := y.good + (sealM k (four (n : Int) ++ r)).length } := by
    unfold stepF
    simp only
    rw [num_fourN r hn, drop_fourL, hd]
    rfl
  refine ⟨fs ++ [(k, four (n : Int) ++ r)], _, (encM_snoc (k, four (n : Int) ++ r) fs).symm, ?_, runM_snoc fs _ _ hX hst, e1, e2, e3, e4⟩
  intro p hp
  rcases List.mem_append.1 hp with hp | hp
  · exact hfs p hp
  · rw [List.mem_singleton.1 hp]
    refine ⟨hk, ?_, ?_⟩ <;> simp only [List.length_append, four_length] <;> omega
theorem intent_jd {F p : List UInt8} {J : JrM} (h : FitJ F J) (hl : J.lame = false) (ho : J.x.open_ = 0) (hp : p.length ≤ 524288) (hr : F.length + p.length + 13 ≤ 1048576) (hn : J.x.next < 4294967296) :
    intentJ (jd F) J p = (((J.x.next : Int), 0), jd (F ++ sealM 4 (four J.x.next ++ p)), ⟨{ J.x with open_ := J.x.next, last := p, next := J.x.next + 1 }, false⟩) ∧
    FitJ (F ++ sealM 4 (four J.x.next ++ p)) ⟨{ J.x with open_ := J.x.next, last := p, next := J.x.next + 1 }, false⟩ := by
  have hl4 := four_length (J.x.next : Int)
  have hsl := sealM_length 4 (four (J.x.next : Int) ++ p)
  rw [List.length_append] at hsl
  have hput := put_jd (F := F) (k := 4) (b := four (J.x.next : Int) ++ p) (by decide) (by rw [List.length_append]; omega) (by omega)
  constructor
  · unfold intentJ
    rw [if_neg (by rw [hl, ho]; simp), if_neg (by omega), hput]
    rfl
  · refine h.snoc (by decide) hn (by omega) (fun X h1 h2 h3 h4 => ⟨{ X with open_ := J.x.next, last := p, next := X.next + 1 }, ?_, h1, h2, by rw [h3], fun _ => ⟨rfl, rfl⟩⟩)
    unfold doM
    rw [if_pos (by decide), if_pos h3.symm]
theorem commit_jd {F : List UInt8} {J : JrM} {id : Int} (h : FitJ F J) (hl : J.lame = false) (ho : 0 < J.x.open_) (hid : id = J.x.open_) (hr : F.length + 13 ≤ 1048576) (hn : J.x.open_ < 4294967296) :
    commitJ (jd F) J id = (0, jd (F ++ sealM 5 (four J.x.open_)), ⟨{ J.x with done := J.x.done ++ [J.x.last], open_ := 0, last := [] }, false⟩) ∧
    FitJ (F ++ sealM 5 (four J.x.open_)) ⟨{ J.x with done := J.x.done ++ [J.x.last], open_ := 0, last := [] }, false⟩ := by
  subst hid
  have hl4 := four_length (J.x.open_ : Int)
  have hsl := sealM_length 5 (four (J.x.open_ : Int))
  have hput := put_jd (F := F) (k := 5) (b := four (J.x.open_ : Int)) (by decide) (by omega) (by omega)
  constructor
  · unfold commitJ
    have hm : mayJ J J.x.open_ = 0 := by
      unfold mayJ
      rw [if_neg (by rw [hl]; simp), if_neg (by omega)]
    rw [hm, if_neg (by simp), hput]
    rfl
  · have := h.snoc (J' := ⟨{ J.x with done := J.x.done ++ [J.x.last], open_ := 0, last := [] }, false⟩) (k := 5) (n := J.x.open_) (r := []) (by decide) hn (by simp) (fun X h1 h2 h3 h4 => ⟨{ X with done := X.done ++ [X.last], open_ := 0 }, ?_, h1, ?_, h3, fun h => absurd h (Nat.lt_irrefl 0)⟩)
    · rwa [List.append_nil] at this
    · unfold doM
      rw [if_neg (by decide), if_pos (by decide), if_pos ⟨by omega, (h4 ho).1.symm, rfl⟩]
    · simp only [h2, (h4 ho).2]
theorem FitJ.abort {F : List UInt8} {J : JrM} (h : FitJ F J) : FitJ F { J with x := { J.x with open_ := 0, last := [] } } := by
  obtain ⟨fs, X, h0, hfs, hX, h1, h2, h3, _⟩ := h
  exact ⟨fs, X, h0, hfs, hX, h1, h2, h3, fun h => absurd h (Nat.lt_irrefl 0)⟩
theorem check_jd {F s : List UInt8} {J : JrM} (hl : J.lame = false) (ho : J.x.open_ = 0) (hp : s.length ≤ 524288) (hr : F.length + s.length + 13 ≤ 1048576) (hn : J.x.next < 4294967296) (h1 : 1 ≤ J.x.next) :
    checkJ (jd F) J s = (0, jd (sealM 6 (four J.x.next ++ s)), { J with x := { J.x with state := s, done := [] } }) ∧ FitJ (sealM 6 (four J.x.next ++ s)) { J with x := { J.x with state := s, done := [] } } := by
  have hl4 := four_length (J.x.next : Int)
  have hsl := sealM_length 6 (four (J.x.next : Int) ++ s)
  rw [List.length_append] at hsl
  have hput := replace_jd (F := F) (s := sealM 6 (four (J.x.next : Int) ++ s)) (seal_ne (by decide) (by rw [List.length_append]; omega)) (by omega)
  constructor
  · unfold checkJ
    rw [if_neg (by rw [hl, ho]; simp), if_neg (by omega), hput]
    rfl
  · refine ⟨[(6, four (J.x.next : Int) ++ s)], { scNew with state := s, next := J.x.next, good := (sealM 6 (four (J.x.next : Int) ++ s)).length }, by simp [encM], ?_, ?_, rfl, rfl, rfl, fun h => ?_⟩
    · intro p hp
      rw [List.mem_singleton.1 hp]
      refine ⟨(by decide : (6 : UInt8) ≠ 0), ?_, ?_⟩ <;> simp only [List.length_append, four_length] <;> omega
    · have hst : stepF (6, four (J.x.next : Int) ++ s) scNew = some { scNew with state := s, next := J.x.next, good := (sealM 6 (four (J.x.next : Int) ++ s)).length } := by
        unfold stepF
        simp only
        rw [num_fourN s hn, drop_fourL]
        unfold doM
        rw [if_neg (by decide), if_neg (by decide), if_pos (by decide), if_pos ⟨rfl, h1⟩]
        simp [scNew]
      simp only [runM, hst]
    · exact absurd h (by show ¬ 0 < J.x.open_; omega)
theorem open_jd {F : List UInt8} {J : JrM} (h : FitJ F J) : openJ (jd F) = ((some ⟨⟨J.x.state, J.x.done, J.x.next, F.length, 0, []⟩, false⟩, 0), jd F) := by
  obtain ⟨fs, X, hF, hfs, hX, h1, h2, h3, _⟩ := h
  have hs : scanM F = X := by
    have := scanM_enc (t := []) nextM_nil hfs hX
    rwa [List.append_nil, ← hF] at this
  have hg : X.good = F.length := by
    have := runM_good fs hX
    rw [← hF] at this
    simpa [scNew] using this
  have hsz : sizeM (jd F) jName = ((F.length : Int), 0) := rfl
  have hmd : madeJ (jd F) = (0, jd F) := rfl
  have hrd : readM (jd F) jName 0 F.length = (F, 0) := by
    show (if (F.length : Int) < 0 ∨ (0 : Int) < 0 ∨ (F.length : Int) < 0 then (([] : List UInt8), (1 : Int)) else ((F.drop 0).take (F.length : Int).toNat, 0)) = (F, 0)
    rw [if_neg (by omega), Int.toNat_natCast, List.drop_zero, List.take_length]
  unfold openJ
  rw [hmd, hsz]
  simp only
  rw [if_neg (by decide), hrd]
  simp only
  rw [if_neg (by decide), hs, if_neg (by omega)]
  unfold seenJ
  rw [hs, ← h1, ← h2, ← h3, ← hg]
theorem open_new : openJ (newM 1048576) = ((some ⟨scNew, false⟩, 0), jd []) := by kernel_rfl
end Go.Proofs.YtnijmegalgoipaaGreatDoor
