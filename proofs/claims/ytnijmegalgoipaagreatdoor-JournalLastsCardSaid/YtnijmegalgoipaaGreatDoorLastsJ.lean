/- JournalLasts: what is there behind a stop and a crash, plain. -/
import Derived.Test.YtnijmegalgoipaaGreatDoorTwoP
namespace Go.Proofs.YtnijmegalgoipaaGreatDoor
def JFile (C : List UInt8) (X : ScM) : Prop := ∃ fs t, C = encM fs ++ t ∧ (∀ p ∈ fs, frOk p) ∧ runM fs scNew = some X ∧ (nextM t).2.2.2 ≠ 0
def viewM (X : ScM) : JrM := ⟨{ X with open_ := 0, last := [] }, false⟩
theorem JFile.scan {C : List UInt8} {X : ScM} (h : JFile C X) : scanM C = X := by
  obtain ⟨fs, t, rfl, h1, h2, h3⟩ := h
  exact scanM_enc h3 h1 h2
theorem JFile.part {C : List UInt8} {X : ScM} (h : JFile C X) : X.good ≤ C.length ∧ JFile (C.take X.good) X := by
  obtain ⟨fs, t, rfl, h1, h2, h3⟩ := h
  have hg : X.good = (encM fs).length := by
    have := runM_good fs h2
    simpa [scNew] using this
  refine ⟨by rw [hg, List.length_append]; omega, fs, [], ?_, h1, h2, nextM_nil⟩
  rw [hg, List.take_left, List.append_nil]
theorem size_two (f : FileD) (og : Option FileD) (st : Bool) (lf : Int) : sizeM (twoD f og st lf) jName = ((f.now.length : Int), 0) := by kernel_rfl
theorem made_two (f : FileD) (og : Option FileD) (st : Bool) (lf : Int) : madeJ (twoD f og st lf) = (0, twoD f og st lf) := by
  unfold madeJ
  rw [size_two]
  rfl
theorem read_two (C : List UInt8) (og : Option FileD) (st : Bool) (lf : Int) : readM (twoD ⟨C, C, []⟩ og st lf) jName 0 C.length = (C, 0) := by
  show (if (C.length : Int) < 0 ∨ (0 : Int) < 0 ∨ (C.length : Int) < 0 then (([] : List UInt8), (1 : Int)) else ((C.drop 0).take (C.length : Int).toNat, 0)) = (C, 0)
  rw [if_neg (by omega), Int.toNat_natCast, List.drop_zero, List.take_length]
/-- what Open leaves: what is seen stays -/
theorem open_two {C : List UInt8} {X : ScM} (og : Option FileD) (st : Bool) (lf : Int) (h : JFile C X) (hC : C.length ≤ 500000) :
    (∃ C' og' lf', JFile C' X ∧ C'.length ≤ C.length ∧ openJ (twoD ⟨C, C, []⟩ og st lf) = ((some (viewM X), 0), twoD ⟨C', C', []⟩ og' st lf')) ∨
    (st = true ∧ ∃ og', openJ (twoD ⟨C, C, []⟩ og st lf) = ((none, 19), twoD ⟨C, C, []⟩ og' true 0)) := by
  obtain ⟨hg, hp⟩ := h.part
  have hs := h.scan
  have hsee : seenJ C = viewM X := by unfold seenJ viewM; rw [hs]
  unfold openJ
  rw [made_two, size_two]
  dsimp only
  rw [if_neg n00, read_two]
  dsimp only
  rw [if_neg n00, hs, hsee]
  by_cases hl : X.good < C.length
  · rw [if_pos hl]
    rcases replace_two ⟨C, C, []⟩ og st lf (C.take X.good) (by rw [List.length_take]; dsimp only; omega) with ⟨lf', e⟩ | ⟨hst, og', e⟩
    · left
      rw [e]
      exact ⟨C.take X.good, none, lf', hp, by rw [List.length_take]; omega, if_neg n00⟩
    · right
      rw [e]
      exact ⟨hst, og', if_pos n190⟩
  · rw [if_neg hl]
    exact .inl ⟨C, og, lf, h, Nat.le_refl _, rfl⟩
/- ---------- a crash ---------- -/
def fl (F t : List UInt8) : FileD := if t = [] then ⟨F, F, []⟩ else ⟨F, F ++ t, [(F.length, t)]⟩
theorem crash_fl (F t : List UInt8) (k : Nat) : crashM (fl F t) k = ⟨F ++ t.take k, F ++ t.take k, []⟩ := by
  unfold fl
  split
  · rename_i h
    rw [h, List.take_nil, List.append_nil]
    rfl
  · have e : crashBytes F [(F.length, t)] k = F ++ t.take k := by
      show overM F (min F.length F.length) (t.take k) = _
      rw [Nat.min_self, over_end]
    unfold crashM
    dsimp only
    rw [e]
theorem crash_two (f : FileD) (og : Option FileD) (st : Bool) (lf : Int) (ks : List Int) : ∃ og', crashD (twoD f og st lf) ks = twoD (crashM f (keptM f (ks.head?.getD 0))) og' false lf := by
  cases og with
  | none => exact ⟨none, by kernel_rfl⟩
  | some g => exact ⟨some (crashM g (keptM g (ks.tail.head?.getD 0))), by kernel_rfl⟩
theorem stop_two (f : FileD) (og : Option FileD) (st : Bool) (lf n : Int) : stopM (twoD f og st lf) n = twoD f og (decide (0 ≤ n)) n := rfl
/- ---------- what must be there ---------- -/
structure LM where
  state : List UInt8
  done : List (List UInt8)
  more : List UInt8
  is_ : Bool
  other : List UInt8
  was : Bool
def HoldsP (x : LM) (s : List UInt8) (d : List (List UInt8)) : Prop := s = x.state ∧ (d = x.done ∨ (x.is_ = true ∧ d = x.done ++ [x.more]))
def Final (D : DiskD) (x : LM) : Prop := ∃ F t og st lf, D = twoD (fl F t) og st lf ∧ F.length + t.length ≤ 100000 ∧ ∀ k, ∃ X, JFile (F ++ t.take k) X ∧ HoldsP x X.state X.done ∧ X.done.length ≤ 1000
theorem Final.crash {D : DiskD} {x : LM} (h : Final D x) (ks : List Int) : ∃ C X og lf, crashD D ks = twoD ⟨C, C, []⟩ og false lf ∧ C.length ≤ 100000 ∧ JFile C X ∧ HoldsP x X.state X.done ∧ X.done.length ≤ 1000 := by
  obtain ⟨F, t, og, st, lf, rfl, hl, hX⟩ := h
  obtain ⟨og', e⟩ := crash_two (fl F t) og st lf ks
  obtain ⟨X, h1, h2, h3⟩ := hX (keptM (fl F t) (ks.head?.getD 0))
  refine ⟨_, X, og', lf, by rw [e, crash_fl], ?_, h1, h2, h3⟩
  rw [List.length_append, List.length_take]
  omega
theorem crash_quiet (C : List UInt8) (og : Option FileD) (st : Bool) (lf : Int) (ks : List Int) : ∃ og', crashD (twoD ⟨C, C, []⟩ og st lf) ks = twoD ⟨C, C, []⟩ og' false lf := by
  obtain ⟨og', e⟩ := crash_two ⟨C, C, []⟩ og st lf ks
  exact ⟨og', e⟩
theorem FitJ.file {F : List UInt8} {J : JrM} (h : FitJ F J) : ∃ X, JFile F X ∧ X.state = J.x.state ∧ X.done = J.x.done := by
  obtain ⟨fs, X, h0, h1, h2, h3, h4, _⟩ := h
  exact ⟨X, ⟨fs, [], by rw [h0, List.append_nil], h1, h2, nextM_nil⟩, h3, h4⟩
theorem final_quiet {F : List UInt8} {J : JrM} {x : LM} (og : Option FileD) (st : Bool) (lf : Int) (h : FitJ F J) (hF : F.length ≤ 100000) (hx : HoldsP x J.x.state J.x.done) (hd : J.x.done.length ≤ 1000) : Final (twoD ⟨F, F, []⟩ og st lf) x := by
  obtain ⟨X, h1, h2, h3⟩ := h.file
  refine ⟨F, [], og, st, lf, rfl, by simpa using hF, fun k => ⟨X, ?_, ?_, ?_⟩⟩
  · rw [List.take_nil, List.append_nil]; exact h1
  · rw [h2, h3]; exact hx
  · rw [h3]; exact hd
theorem final_torn {F b : List UInt8} {k : UInt8} {J J' : JrM} {x : LM} (h : FitJ F J) (h' : FitJ (F ++ sealM k b) J') (hk : k ≠ 0) (hb : b.length ≤ 1048576) (hF : F.length + (sealM k b).length ≤ 100000) (hx : HoldsP x J.x.state J.x.done) (hx' : HoldsP x J'.x.state J'.x.done)
    (hd : J.x.done.length ≤ 1000) (hd' : J'.x.done.length ≤ 1000) : Final (twoD ⟨F, F ++ sealM k b, [(F.length, sealM k b)]⟩ none true 0) x := by
  have hne := seal_ne hk hb
  refine ⟨F, sealM k b, none, true, 0, by unfold fl; rw [if_neg hne], hF, fun m => ?_⟩
  by_cases hm : m < (sealM k b).length
  · obtain ⟨fs, X, h0, h1, h2, h3, h4, _⟩ := h
    exact ⟨X, ⟨fs, (sealM k b).take m, by rw [h0], h1, h2, nextM_cut hk hb hm⟩, by rw [h3, h4]; exact hx, by rw [h4]; exact hd⟩
  · obtain ⟨X, h1, h2, h3⟩ := h'.file
    rw [List.take_of_length_le (by omega)]
    exact ⟨X, h1, by rw [h2, h3]; exact hx', by rw [h3]; exact hd'⟩
/- ---------- the run ---------- -/
structure RInv (i : Nat) (D : DiskD) (J : JrM) (x : LM) (id : Int) (text : List UInt8) : Prop where
  ex : ∃ F st lf, D = twoD ⟨F, F, []⟩ none st lf ∧ FitJ F J ∧ F.length ≤ 320 * i
  lame : J.lame = false
  st : x.state = J.x.state
  dn : x.done = J.x.done
  op : 0 < J.x.open_ → id = J.x.open_ ∧ text = J.x.last
  nx : 1 ≤ J.x.next ∧ J.x.next ≤ 1 + i
  opn : J.x.open_ ≤ i
  dl : J.x.done.length ≤ i
section
variable {i : Nat} {D : DiskD} {J : JrM} {x : LM} {id : Int} {text : List UInt8}
theorem RInv.holds (h : RInv i D J x id text) : HoldsP x J.x.state J.x.done := ⟨h.st.symm, .inl h.dn.symm⟩
theorem RInv.final (h : RInv i D J x id text) (hi : i ≤ 60) : Final D x := by
  obtain ⟨F, st, lf, rfl, hF, hl⟩ := h.ex
  exact final_quiet none st lf hF (by omega) h.holds (by have := h.dl; omega)
theorem RInv.up (h : RInv i D J x id text) : RInv (i + 1) D J x id text := by
  obtain ⟨F, st, lf, e, hF, hl⟩ := h.ex
  exact ⟨⟨F, st, lf, e, hF, by omega⟩, h.lame, h.st, h.dn, h.op, by have := h.nx; omega, by have := h.opn; omega, by have := h.dl; omega⟩
theorem RInv.intent (h : RInv i D J x id text) (hi : i ≤ 60) {p : List UInt8} (hp : p.length ≤ 300) :
    ((intentJ D J p).1.2 = 0 → RInv (i + 1) (intentJ D J p).2.1 (intentJ D J p).2.2 x (intentJ D J p).1.1 p) ∧ ((intentJ D J p).1.2 ≠ 0 → (intentJ D J p).1.2 ≠ 19 → RInv (i + 1) (intentJ D J p).2.1 (intentJ D J p).2.2 x id text) ∧ ((intentJ D J p).1.2 = 19 → Final (intentJ D J p).2.1 x) := by
  by_cases ho : 0 < J.x.open_
  · have e : intentJ D J p = ((0, 18), D, J) := by unfold intentJ; rw [if_pos (.inr ho)]
    rw [e]
    exact ⟨fun e => absurd (show (18 : Int) = 0 from e) (by decide), fun _ _ => h.up, fun e => absurd (show (18 : Int) = 19 from e) (by decide)⟩
  · obtain ⟨F, st, lf, hD, hF, hl⟩ := h.ex
    have hnx := h.nx
    have hdl := h.dl
    have h4 := four_length (J.x.next : Int)
    have hsl := sealM_length 4 (four (J.x.next : Int) ++ p)
    rw [List.length_append] at hsl
    have hbl : (four (J.x.next : Int) ++ p).length ≤ 1048576 := by rw [List.length_append]; omega
    obtain ⟨_, hF'⟩ := intent_jd (p := p) hF h.lame (by omega) (by omega) (by omega) (by omega)
    have hu : ∀ e D', putJ D 4 (four J.x.next ++ p) = (e, D') → intentJ D J p = if e ≠ 0 then ((0, e), D', { J with lame := lameOf e }) else (((J.x.next : Int), 0), D', ⟨{ J.x with open_ := J.x.next, last := p, next := J.x.next + 1 }, false⟩) := by
      intro e D' hput
      unfold intentJ
      rw [if_neg (by rw [h.lame]; rintro (e | e); cases e; exact ho e), if_neg (by omega), hput]
    rcases put_two (F := F) (b := four (J.x.next : Int) ++ p) (k := 4) st lf (by decide) hbl (by omega) with ⟨lf', e⟩ | ⟨hst, e | e⟩
    · rw [← hD] at e
      rw [hu _ _ e, if_neg n00]
      refine ⟨fun _ => ⟨⟨_, st, lf', rfl, hF', ?_⟩, rfl, h.st, h.dn, fun _ => ⟨rfl, rfl⟩, ?_, ?_, ?_⟩, fun e => absurd rfl e, fun e => absurd (show (0 : Int) = 19 from e) (by decide)⟩
      · rw [List.length_append]; omega
      · show 1 ≤ J.x.next + 1 ∧ J.x.next + 1 ≤ _
        omega
      · show J.x.next ≤ _
        omega
      · show J.x.done.length ≤ _
        omega
    · rw [← hD] at e
      rw [hu _ _ e, if_pos n190]
      exact ⟨fun e => absurd (show (19 : Int) = 0 from e) (by decide), fun _ e => absurd rfl e, fun _ => final_quiet none true 0 hF (by omega) h.holds (by omega)⟩
    · rw [← hD] at e
      rw [hu _ _ e, if_pos n190]
      exact ⟨fun e => absurd (show (19 : Int) = 0 from e) (by decide), fun _ e => absurd rfl e, fun _ => final_torn hF hF' (by decide) hbl (by omega) h.holds h.holds (by omega) (show J.x.done.length ≤ 1000 by omega)⟩
theorem RInv.commit (h : RInv i D J x id text) (hi : i ≤ 60) :
    ((commitJ D J id).1 = 0 → RInv (i + 1) (commitJ D J id).2.1 (commitJ D J id).2.2 { x with done := x.done ++ [text] } id text) ∧ ((commitJ D J id).1 = 1 ∨ (commitJ D J id).1 = 18 ∨ (commitJ D J id).1 = 17 → RInv (i + 1) (commitJ D J id).2.1 (commitJ D J id).2.2 x id text) ∧
    ((commitJ D J id).1 ≠ 0 → (commitJ D J id).1 ≠ 1 → (commitJ D J id).1 ≠ 18 → (commitJ D J id).1 ≠ 17 → Final (commitJ D J id).2.1 { x with more := text, is_ := true }) := by
  by_cases hm : id < 1 ∨ id ≠ J.x.open_
  · have e : commitJ D J id = (1, D, J) := by
      have : mayJ J id = 1 := by unfold mayJ; rw [if_neg (by rw [h.lame]; simp), if_pos hm]
      unfold commitJ
      rw [this, if_pos (by decide)]
    rw [e]
    exact ⟨fun e => absurd (show (1 : Int) = 0 from e) (by decide), fun _ => h.up, fun _ e => absurd rfl e⟩
  · have hid : id = J.x.open_ := Classical.byContradiction fun e => hm (.inr e)
    have ho : 0 < J.x.open_ := by omega
    obtain ⟨_, htx⟩ := h.op ho
    obtain ⟨F, st, lf, hD, hF, hl⟩ := h.ex
    have hnx := h.nx
    have hdl := h.dl
    have hop := h.opn
    subst hid
    have h4 := four_length (J.x.open_ : Int)
    have hsl := sealM_length 5 (four (J.x.open_ : Int))
    have hbl : (four (J.x.open_ : Int)).length ≤ 1048576 := by omega
    obtain ⟨_, hF'⟩ := commit_jd hF h.lame ho rfl (by omega) (by omega)
    have hu : ∀ e D', putJ D 5 (four (J.x.open_ : Int)) = (e, D') → commitJ D J J.x.open_ = if e ≠ 0 then (e, D', { J with lame := lameOf e }) else (0, D', ⟨{ J.x with done := J.x.done ++ [J.x.last], open_ := 0, last := [] }, false⟩) := by
      intro e D' hput
      have : mayJ J J.x.open_ = 0 := by unfold mayJ; rw [if_neg (by rw [h.lame]; simp), if_neg hm]
      unfold commitJ
      rw [this, if_neg n00, hput]
    rcases put_two (F := F) (b := four (J.x.open_ : Int)) (k := 5) st lf (by decide) hbl (by omega) with ⟨lf', e⟩ | ⟨hst, e | e⟩
    · rw [← hD] at e
      rw [hu _ _ e, if_neg n00]
      refine ⟨fun _ => ⟨⟨_, st, lf', rfl, hF', ?_⟩, rfl, h.st, ?_, fun e => absurd e (Nat.lt_irrefl 0), ?_, Nat.zero_le _, ?_⟩, fun e => ?_, fun e => absurd rfl e⟩
      · rw [List.length_append]; omega
      · show x.done ++ [text] = J.x.done ++ [J.x.last]
        rw [h.dn, htx]
      · show 1 ≤ J.x.next ∧ J.x.next ≤ _
        omega
      · show (J.x.done ++ [J.x.last]).length ≤ _
        rw [List.length_append, List.length_singleton]; omega
      · rcases e with e | e | e
        · exact absurd (show (0 : Int) = 1 from e) (by decide)
        · exact absurd (show (0 : Int) = 18 from e) (by decide)
        · exact absurd (show (0 : Int) = 17 from e) (by decide)
    · rw [← hD] at e
      rw [hu _ _ e, if_pos n190]
      refine ⟨fun e => absurd (show (19 : Int) = 0 from e) (by decide), fun e => ?_, fun _ _ _ _ => final_quiet none true 0 hF (by omega) ⟨h.st.symm, .inl h.dn.symm⟩ (by omega)⟩
      rcases e with e | e | e
      · exact absurd (show (19 : Int) = 1 from e) (by decide)
      · exact absurd (show (19 : Int) = 18 from e) (by decide)
      · exact absurd (show (19 : Int) = 17 from e) (by decide)
    · rw [← hD] at e
      rw [hu _ _ e, if_pos n190]
      refine ⟨fun e => absurd (show (19 : Int) = 0 from e) (by decide), fun e => ?_, fun _ _ _ _ => final_torn hF hF' (by decide) hbl (by omega) ⟨h.st.symm, .inl h.dn.symm⟩ ⟨h.st.symm, .inr ⟨rfl, ?_⟩⟩ (by omega) (by show (J.x.done ++ [J.x.last]).length ≤ 1000; rw [List.length_append, List.length_singleton]; omega)⟩
      · rcases e with e | e | e
        · exact absurd (show (19 : Int) = 1 from e) (by decide)
        · exact absurd (show (19 : Int) = 18 from e) (by decide)
        · exact absurd (show (19 : Int) = 17 from e) (by decide)
      · show J.x.done ++ [J.x.last] = x.done ++ [text]
        rw [h.dn, htx]
theorem RInv.abort (h : RInv i D J x id text) : RInv (i + 1) D (abortJ J id).2 x id text := by
  unfold abortJ
  split
  · exact h.up
  · obtain ⟨F, st, lf, hD, hF, hl⟩ := h.ex
    exact ⟨⟨F, st, lf, hD, hF.abort, by omega⟩, h.lame, h.st, h.dn, fun e => absurd e (Nat.lt_irrefl 0), by have := h.nx; show 1 ≤ J.x.next ∧ J.x.next ≤ _; omega, Nat.zero_le _, by have := h.dl; show J.x.done.length ≤ _; omega⟩
theorem RInv.check (h : RInv i D J x id text) (hi : i ≤ 60) {s : List UInt8} (hs : s.length ≤ 300) :
    ((checkJ D J s).1 = 0 → RInv (i + 1) (checkJ D J s).2.1 (checkJ D J s).2.2 { x with state := s, done := [] } id text) ∧ ((checkJ D J s).1 = 18 ∨ (checkJ D J s).1 = 17 → RInv (i + 1) (checkJ D J s).2.1 (checkJ D J s).2.2 x id text) ∧
    ((checkJ D J s).1 ≠ 0 → (checkJ D J s).1 ≠ 18 → (checkJ D J s).1 ≠ 17 → Final (checkJ D J s).2.1 { x with other := s, was := true }) := by
  by_cases ho : 0 < J.x.open_
  · have e : checkJ D J s = (18, D, J) := by unfold checkJ; rw [if_pos (.inr ho)]
    rw [e]
    exact ⟨fun e => absurd (show (18 : Int) = 0 from e) (by decide), fun _ => h.up, fun _ e => absurd rfl e⟩
  · obtain ⟨F, st, lf, hD, hF, hl⟩ := h.ex
    have hnx := h.nx
    have hdl := h.dl
    have h4 := four_length (J.x.next : Int)
    have hsl := sealM_length 6 (four (J.x.next : Int) ++ s)
    rw [List.length_append] at hsl
    obtain ⟨_, hF'⟩ := check_jd (F := F) (s := s) (J := J) h.lame (by omega) (by omega) (by omega) (by omega) hnx.1
    have hu : ∀ e D', replaceJ D (sealM 6 (four J.x.next ++ s)) = (e, D') → checkJ D J s = if e ≠ 0 then (e, D', J) else (0, D', { J with x := { J.x with state := s, done := [] } }) := by
      intro e D' hput
      unfold checkJ
      rw [if_neg (by rw [h.lame]; rintro (e | e); cases e; exact ho e), if_neg (by omega), hput]
    rcases replace_two ⟨F, F, []⟩ none st lf (sealM 6 (four (J.x.next : Int) ++ s)) (by dsimp only; omega) with ⟨lf', e⟩ | ⟨hst, og', e⟩
    · rw [← hD] at e
      rw [hu _ _ e, if_neg n00]
      refine ⟨fun _ => ⟨⟨_, st, lf', rfl, hF', by omega⟩, h.lame, rfl, rfl, fun e => absurd e ho, (show 1 ≤ J.x.next ∧ J.x.next ≤ 1 + (i + 1) by omega), (show J.x.open_ ≤ i + 1 by have := h.opn; omega), Nat.zero_le _⟩, fun e => ?_, fun e => absurd rfl e⟩
      rcases e with e | e
      · exact absurd (show (0 : Int) = 18 from e) (by decide)
      · exact absurd (show (0 : Int) = 17 from e) (by decide)
    · rw [← hD] at e
      rw [hu _ _ e, if_pos n190]
      refine ⟨fun e => absurd (show (19 : Int) = 0 from e) (by decide), fun e => ?_, fun _ _ _ => final_quiet og' true 0 hF (by omega) ⟨h.st.symm, .inl h.dn.symm⟩ (by omega)⟩
      rcases e with e | e
      · exact absurd (show (19 : Int) = 18 from e) (by decide)
      · exact absurd (show (19 : Int) = 17 from e) (by decide)
end
end Go.Proofs.YtnijmegalgoipaaGreatDoor
