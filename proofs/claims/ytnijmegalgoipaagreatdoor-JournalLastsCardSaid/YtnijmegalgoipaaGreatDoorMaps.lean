/- Maps, as lists of keys and values. -/
import Derived.Test.YtnijmegalgoipaaGreatDoorEnvD
namespace Go.Proofs.YtnijmegalgoipaaGreatDoor
open Go.RowKit
/- ---------- plain ---------- -/
section
variable {κ ν : Type} [DecidableEq κ]
def mget : List (κ × ν) → κ → Option ν
  | [], _ => none
  | (a, v) :: m, k => if k = a then some v else mget m k
def mput : List (κ × ν) → κ → ν → List (κ × ν)
  | [], k, v => [(k, v)]
  | (a, u) :: m, k, v => if k = a then (a, v) :: m else (a, u) :: mput m k v
def mdel : List (κ × ν) → κ → List (κ × ν)
  | [], _ => []
  | (a, u) :: m, k => if k = a then m else (a, u) :: mdel m k
theorem mget_mput (m : List (κ × ν)) (k : κ) (v : ν) (q : κ) : mget (mput m k v) q = if q = k then some v else mget m q := by
  induction m with
  | nil => rfl
  | cons p m ih =>
    obtain ⟨a, u⟩ := p
    unfold mput
    by_cases h : k = a
    · subst h
      rw [if_pos rfl]
      unfold mget
      by_cases hq : q = k
      · simp [hq]
      · simp [hq]
    · rw [if_neg h]
      unfold mget
      rw [ih]
      by_cases hq : q = a
      · subst hq
        rw [if_pos rfl, if_neg (fun e => h e.symm), if_pos rfl]
      · rw [if_neg hq, if_neg hq]
theorem mget_none {m : List (κ × ν)} {k : κ} : mget m k = none ↔ k ∉ m.map (·.1) := by
  induction m with
  | nil => simp [mget]
  | cons p m ih =>
    obtain ⟨a, u⟩ := p
    unfold mget
    by_cases h : k = a
    · simp [h]
    · simp [h, ih]
theorem mput_keys (m : List (κ × ν)) (k : κ) (v : ν) : (mput m k v).map (·.1) = if k ∈ m.map (·.1) then m.map (·.1) else m.map (·.1) ++ [k] := by
  induction m with
  | nil => simp [mput]
  | cons p m ih =>
    obtain ⟨a, u⟩ := p
    unfold mput
    by_cases h : k = a
    · simp [h]
    · rw [if_neg h, List.map_cons, ih]
      by_cases hm : k ∈ m.map (·.1)
      · rw [if_pos hm, if_pos (by simp only [List.map_cons, List.mem_cons]; exact .inr hm)]
        rfl
      · rw [if_neg hm, if_neg (by simp only [List.map_cons, List.mem_cons]; rintro (h1 | h1); exact h h1; exact hm h1)]
        rfl
theorem mput_nodup {m : List (κ × ν)} (h : (m.map (·.1)).Nodup) (k : κ) (v : ν) : ((mput m k v).map (·.1)).Nodup := by
  rw [mput_keys]
  split
  · exact h
  · rename_i hk
    rw [List.nodup_append]
    refine ⟨h, by simp, fun a ha b hb => ?_⟩
    simp at hb
    subst hb
    rintro rfl
    exact hk ha
end
/- ---------- in memory ---------- -/
structure KeyLaw {κ : Type} [DecidableEq κ] (P : Program) (kt : TypeId) (enc : κ → Value) : Prop where
  check : ∀ (b : Bool) (k : κ) (w : World), (Instr.checkKey b 10000 kt (enc k)).run P w = .ok () w
  find : ∀ (k : κ) (ks : List (κ × Value × Nat)) (w : World), (Instr.findKey kt (enc k) (ks.map fun p => ⟨enc p.1, p.2.1, p.2.2⟩)).run P w =
    .ok ((ks.findIdx? fun p => decide (k = p.1)).bind fun i => (ks[i]?).map fun p => (i, p.2.1)) w
  same : ∀ k, Instr.sameBits 10000 (enc k) (enc k) = true
structure MapAt {κ ν : Type} [DecidableEq κ] (w : World) (b : Nat) (enc : κ → Value) (encv : ν → Value) (m : List (κ × ν)) : Prop where
  nodup : (m.map (·.1)).Nodup
  obj : ∃ (ts : List Nat) (clock : Nat), ts.length = m.length ∧ ts.Pairwise (· < ·) ∧ (∀ t ∈ ts, t < clock) ∧ w.heap[b]? = some (.map ((m.zip ts).map fun p => (⟨enc p.1.1, encv p.1.2, p.2⟩ : MapEntry)).toArray clock)
section
variable {κ ν : Type} [DecidableEq κ] {w w' : World} {b : Nat} {enc : κ → Value} {encv : ν → Value} {m : List (κ × ν)} {P : Program} {kt t e : TypeId}
theorem MapAt.lt (h : MapAt w b enc encv m) : b < w.heap.size := by
  obtain ⟨ts, clock, _, _, _, hb⟩ := h.obj
  exact (Array.getElem?_eq_some_iff.1 hb).1
theorem MapAt.bel (h : MapAt w b enc encv m) (hb : Below w.heap.size w w') : MapAt w' b enc encv m := by
  have hl := h.lt
  obtain ⟨ts, clock, h1, h2, h3, h4⟩ := h.obj
  exact ⟨h.nodup, ts, clock, h1, h2, h3, (hb.block b hl).trans h4⟩
theorem MapAt.chg {S : Nat → Prop} (h : MapAt w b enc encv m) (hc : Chg S w w') (hn : ¬ S b) : MapAt w' b enc encv m := by
  have hl := h.lt
  obtain ⟨ts, clock, h1, h2, h3, h4⟩ := h.obj
  exact ⟨h.nodup, ts, clock, h1, h2, h3, (hc.block b hl hn).trans h4⟩
theorem find_zip (k : κ) (m : List (κ × ν)) (ts : List Nat) (hl : ts.length = m.length) :
    (((m.zip ts).map fun p => (p.1.1, encv p.1.2, p.2)).findIdx? fun p => decide (k = p.1)) = m.findIdx? fun p => decide (k = p.1) := by
  induction m generalizing ts with
  | nil => simp
  | cons p m ih =>
    cases ts with
    | nil => simp at hl
    | cons t ts =>
      simp only [List.zip_cons_cons, List.map_cons, List.findIdx?_cons]
      rw [ih ts (by simpa using hl)]
theorem mget_find (k : κ) (m : List (κ × ν)) : mget m k = (m.findIdx? fun p => decide (k = p.1)).bind fun i => (m[i]?).map (·.2) := by
  induction m with
  | nil => rfl
  | cons p m ih =>
    obtain ⟨a, v⟩ := p
    unfold mget
    rw [List.findIdx?_cons]
    by_cases h : k = a
    · simp [h]
    · simp only [h, decide_false, if_false, ih]
      cases m.findIdx? fun p => decide (k = p.1) <;> simp
theorem run_find (K : KeyLaw P kt enc) (k : κ) (m : List (κ × ν)) (ts : List Nat) (hl : ts.length = m.length) (w : World) :
    (Instr.findKey kt (enc k) ((m.zip ts).map fun p => (⟨enc p.1.1, encv p.1.2, p.2⟩ : MapEntry))).run P w =
      .ok ((m.findIdx? fun p => decide (k = p.1)).bind fun i => (m[i]?).map fun p => (i, encv p.2)) w := by
  have := K.find k ((m.zip ts).map fun p => (p.1.1, encv p.1.2, p.2)) w
  rw [List.map_map] at this
  rw [show ((m.zip ts).map fun p => (⟨enc p.1.1, encv p.1.2, p.2⟩ : MapEntry)) = (m.zip ts).map ((fun p : κ × Value × Nat => (⟨enc p.1, p.2.1, p.2.2⟩ : MapEntry)) ∘ fun p => (p.1.1, encv p.1.2, p.2)) from rfl, this]
  rw [find_zip k m ts hl]
  congr 1
  cases hf : m.findIdx? fun p => decide (k = p.1) with
  | none => rfl
  | some i =>
    have hi : i < m.length := (List.findIdx?_eq_some_iff_getElem.1 hf).1
    simp only [Option.bind_some, List.getElem?_map]
    rw [List.getElem?_eq_getElem (by simp; omega), List.getElem?_eq_getElem hi]
    simp
theorem getMap {es : Array MapEntry} {clock : Nat} (hb : w.heap[b]? = some (.map es clock)) : (getObj b).run P w = .ok (.map es clock) w := by simp [getObj, Sem.run, hb]
theorem setMap {es : Array MapEntry} {clock : Nat} (o : Obj) (hb : w.heap[b]? = some (.map es clock)) : (setObj b o).run P w = .ok () { w with heap := w.heap.setIfInBounds b o } := by simp [setObj, Sem.run, hb]
theorem MapAt.lookup (h : MapAt w b enc encv m) (K : KeyLaw P kt enc) (ht : P.underlying t = some (.map kt e)) {z : Value} (hz : (zeroValue e).run P w = .ok z w) (k : κ) :
    (Instr.lookup t (.map (some b)) (enc k) false).run P w = .ok (((mget m k).map encv).getD z) w := by
  obtain ⟨ts, clock, h1, h2, h3, h4⟩ := h.obj
  unfold Instr.lookup
  simp only [Sem.run_bind, run_underlying ht, Result.andThen_ok, getMap h4, Sem.run_pure, K.check, run_find K k m ts h1, mget_find]
  cases hf : m.findIdx? fun p => decide (k = p.1) with
  | none => simp [hz]
  | some i =>
    have hi : i < m.length := (List.findIdx?_eq_some_iff_getElem.1 hf).1
    simp [List.getElem?_eq_getElem hi]
theorem MapAt.lookupOk (h : MapAt w b enc encv m) (K : KeyLaw P kt enc) (ht : P.underlying t = some (.map kt e)) {z : Value} (hz : (zeroValue e).run P w = .ok z w) (k : κ) :
    (Instr.lookup t (.map (some b)) (enc k) true).run P w = .ok (.tuple #[((mget m k).map encv).getD z, .bool (mget m k).isSome]) w := by
  obtain ⟨ts, clock, h1, h2, h3, h4⟩ := h.obj
  unfold Instr.lookup
  simp only [Sem.run_bind, run_underlying ht, Result.andThen_ok, getMap h4, Sem.run_pure, K.check, run_find K k m ts h1, mget_find]
  cases hf : m.findIdx? fun p => decide (k = p.1) with
  | none => simp [hz]
  | some i =>
    have hi : i < m.length := (List.findIdx?_eq_some_iff_getElem.1 hf).1
    simp [List.getElem?_eq_getElem hi]
/-- the block of a map is set -/
theorem chgSet (w : World) (b : Nat) (o : Obj) : Chg (fun k => k = b) w { w with heap := w.heap.setIfInBounds b o } :=
  ⟨rfl, rfl, rfl, by simp, fun k hk hn => by
    show (w.heap.setIfInBounds b o)[k]? = _
    rw [Array.getElem?_setIfInBounds, if_neg (fun e => hn e.symm)]⟩
theorem zip_put (k : κ) (v : ν) : ∀ (m : List (κ × ν)) (ts : List Nat) (i : Nat), ts.length = m.length → (m.findIdx? fun p => decide (k = p.1)) = some i →
    (((m.zip ts).map fun p => (⟨enc p.1.1, encv p.1.2, p.2⟩ : MapEntry)).toArray.modify i fun e => { e with key := enc k, val := encv v }) = (((mput m k v).zip ts).map fun p => (⟨enc p.1.1, encv p.1.2, p.2⟩ : MapEntry)).toArray
  | [], ts, i, _, h => by simp at h
  | (a, u) :: m, [], i, hl, _ => by simp at hl
  | (a, u) :: m, t :: ts, i, hl, h => by
    rw [List.findIdx?_cons] at h
    unfold mput
    by_cases hk : k = a
    · subst hk
      simp at h
      subst h
      simp
    · simp only [hk, decide_false] at h
      rw [if_neg hk]
      cases hf : m.findIdx? fun p => decide (k = p.1) with
      | none => rw [hf] at h; simp at h
      | some j =>
        rw [hf] at h
        simp at h
        subst h
        have ih := zip_put k v m ts j (by simpa using hl) hf
        apply Array.ext'
        have ih' := congrArg Array.toList ih
        simp only [Array.toList_modify, List.zip_cons_cons, List.map_cons] at ih' ⊢
        simp only [List.modify_succ_cons]
        rw [ih']
theorem mput_new (k : κ) (v : ν) : ∀ (m : List (κ × ν)), (m.findIdx? fun p => decide (k = p.1)) = none → mput m k v = m ++ [(k, v)]
  | [], _ => rfl
  | (a, u) :: m, h => by
    rw [List.findIdx?_cons] at h
    unfold mput
    by_cases hk : k = a
    · simp [hk] at h
    · simp only [hk, decide_false] at h
      rw [if_neg hk, mput_new k v m (by cases hf : m.findIdx? fun p => decide (k = p.1) with | none => rfl | some i => rw [hf] at h; simp at h)]
      rfl
theorem mput_length_old (k : κ) (v : ν) : ∀ (m : List (κ × ν)) (i : Nat), (m.findIdx? fun p => decide (k = p.1)) = some i → (mput m k v).length = m.length
  | [], _, h => by simp at h
  | (a, u) :: m, i, h => by
    rw [List.findIdx?_cons] at h
    unfold mput
    by_cases hk : k = a
    · simp [hk]
    · simp only [hk, decide_false] at h
      rw [if_neg hk]
      cases hf : m.findIdx? fun p => decide (k = p.1) with
      | none => rw [hf] at h; simp at h
      | some j => rw [List.length_cons, mput_length_old k v m j hf, List.length_cons]
theorem MapAt.update (h : MapAt w b enc encv m) (K : KeyLaw P kt enc) (ht : P.underlying t = some (.map kt e)) (k : κ) (v : ν) :
    ∃ w', (Instr.mapUpdate t (.map (some b)) (enc k) (encv v)).run P w = .ok () w' ∧ MapAt w' b enc encv (mput m k v) ∧ Chg (fun q => q = b) w w' := by
  have hlt := h.lt
  obtain ⟨ts, clock, h1, h2, h3, h4⟩ := h.obj
  cases hf : m.findIdx? fun p => decide (k = p.1) with
  | none =>
    refine ⟨{ w with heap := w.heap.setIfInBounds b (.map (((mput m k v).zip (ts ++ [clock])).map fun p => (⟨enc p.1.1, encv p.1.2, p.2⟩ : MapEntry)).toArray (clock + 1)) }, ?_, ⟨mput_nodup h.nodup k v, ts ++ [clock], clock + 1, ?_, ?_, ?_, ?_⟩, chgSet _ _ _⟩
    · unfold Instr.mapUpdate
      simp only [Sem.run_bind, run_underlying ht, Result.andThen_ok, getMap h4, K.check, run_find K k m ts h1, hf, Option.bind_none]
      rw [setMap _ h4, mput_new k v m hf, List.zip_append (by omega)]
      simp
    · rw [mput_new k v m hf]; simp [h1]
    · rw [List.pairwise_append]; exact ⟨h2, by simp, fun a ha c hc => by simp at hc; subst hc; exact h3 a ha⟩
    · intro q hq
      rw [List.mem_append] at hq
      rcases hq with hq | hq
      · have := h3 q hq; omega
      · simp at hq; omega
    · simp [hlt]
  | some i =>
    have hi : i < m.length := (List.findIdx?_eq_some_iff_getElem.1 hf).1
    have hki : m[i].1 = k := by
      have := (List.findIdx?_eq_some_iff_getElem.1 hf).2.1
      simpa using (of_decide_eq_true this).symm
    refine ⟨{ w with heap := w.heap.setIfInBounds b (.map (((mput m k v).zip ts).map fun p => (⟨enc p.1.1, encv p.1.2, p.2⟩ : MapEntry)).toArray clock) }, ?_, ⟨mput_nodup h.nodup k v, ts, clock, ?_, h2, h3, ?_⟩, chgSet _ _ _⟩
    · unfold Instr.mapUpdate
      simp only [Sem.run_bind, run_underlying ht, Result.andThen_ok, getMap h4, K.check, run_find K k m ts h1, hf, Option.bind_some, List.getElem?_eq_getElem hi, Option.map_some]
      have hold : (((((m.zip ts).map fun p => (⟨enc p.1.1, encv p.1.2, p.2⟩ : MapEntry)).toArray[i]?).map (·.key)).getD (enc k)) = enc k := by
        rw [List.getElem?_toArray, List.getElem?_map, List.getElem?_eq_getElem (by simp; omega)]
        simp [hki]
      rw [hold]
      have hst : (Instr.keyThatStays (enc k) (enc k)).run P w = .ok (enc k) w := by
        unfold Instr.keyThatStays
        rw [K.same k]
        rfl
      simp only [hst, Result.andThen_ok]
      rw [setMap _ h4, zip_put k v m ts i h1 hf]
    · rw [mput_length_old k v m i hf]; exact h1
    · simp [hlt]
theorem MapAt.made (w : World) (enc : κ → Value) (encv : ν → Value) : MapAt (w.alloc (.map #[] 0)) w.heap.size enc encv ([] : List (κ × ν)) :=
  ⟨by simp, [], 0, rfl, by simp, by simp, heap_alloc_new w _⟩
end
/- ---------- steps ---------- -/
section
variable {κ ν : Type} [DecidableEq κ] {enc : κ → Value} {encv : ν → Value} {m : List (κ × ν)} {P : Program} {N : Nat} {ds : List Deferred} {Q : Post} {l : Env} {w w' : World} {ops : Array Oper} {rest : List Oper} {ty t kt e : TypeId} {pos : String} {aft : Array Edge} {d b : Nat} {x y u : Operand}
theorem smm (hd : Nat.blt d N = true) (h : ∀ b w', MapAt w' b enc encv ([] : List (κ × ν)) → w.heap.size ≤ b → Below w.heap.size w w' → b < w'.heap.size → WL P N ds ops Q rest ((d, .map (some b)) :: l) w') : WL P N ds ops Q (⟨some d, .makeMap t none, ty, pos, aft, none⟩ :: rest) l w := by
  refine st (w' := w.alloc (.map #[] 0)) (fun ρ _ => ?_) hd (h _ _ (MapAt.made w enc encv) (Nat.le_refl _) ((Below.refl _ _).alloc (Nat.le_refl _) _) (by simp))
  unfold execOp
  simp [Instr.makeMap]
theorem X.look {z : Value} (K : KeyLaw P kt enc) (hx : ev l x = some (.map (some b))) (k : κ) (hy : ev l y = some (enc k)) (ht : P.underlying t = some (.map kt e)) (hz : (zeroValue e).run P w = .ok z w) (hM : MapAt w b enc encv m) :
    X P l (.lookup t x y false) ty w (((mget m k).map encv).getD z) w := fun ρ hρ => by
  unfold execOp
  simp only [hρ _ _ hx, hρ _ _ hy, Sem.run_bind, hM.lookup K ht hz k, Result.andThen_ok, Sem.run_pure]
theorem X.lookOk {z : Value} (K : KeyLaw P kt enc) (hx : ev l x = some (.map (some b))) (k : κ) (hy : ev l y = some (enc k)) (ht : P.underlying t = some (.map kt e)) (hz : (zeroValue e).run P w = .ok z w) (hM : MapAt w b enc encv m) :
    X P l (.lookup t x y true) ty w (.tuple #[((mget m k).map encv).getD z, .bool (mget m k).isSome]) w := fun ρ hρ => by
  unfold execOp
  simp only [hρ _ _ hx, hρ _ _ hy, Sem.run_bind, hM.lookupOk K ht hz k, Result.andThen_ok, Sem.run_pure]
theorem smu (K : KeyLaw P kt enc) (hx : ev l x = some (.map (some b))) (k : κ) (v : ν) (hy : ev l y = some (enc k)) (hu : ev l u = some (encv v)) (ht : P.underlying t = some (.map kt e)) (hM : MapAt w b enc encv m)
    (h : ∀ w', MapAt w' b enc encv (mput m k v) → Chg (fun q => q = b) w w' → WL P N ds ops Q rest l w') : WL P N ds ops Q (⟨none, .mapUpdate t x y u, ty, pos, aft, none⟩ :: rest) l w := by
  obtain ⟨w', hr, h1, h2⟩ := hM.update K ht k v
  refine ss (w' := w') (fun ρ hρ => ?_) (h w' h1 h2)
  unfold execOp
  simp only [hρ _ _ hx, hρ _ _ hy, hρ _ _ hu, Sem.run_bind, hr, Result.andThen_ok, Sem.run_pure]
end
theorem beqBytes (a b : ByteArray) : (a == b) = (a.data == b.data) := rfl
/-- strings as keys -/
theorem keyStr {P : Program} {kt : TypeId} (hu : P.underlying kt = some .string) : KeyLaw P kt str where
  check b k w := by
    unfold Instr.checkKey
    simp [run_underlying hu, str]
  find k ks w := by
    have key : ∀ (ks : List (List UInt8 × Value × Nat)) (j : Nat), Instr.findNow .string (str k) (ks.map fun p => (⟨str p.1, p.2.1, p.2.2⟩ : MapEntry)) j = some ((ks.findIdx? fun p => decide (k = p.1)).bind fun i => (ks[i]?).map fun p => (i + j, p.2.1)) := by
      intro ks
      induction ks with
      | nil => intro j; rfl
      | cons p ks ih =>
        intro j
        simp only [List.map_cons, Instr.findNow, Instr.sameNow, str, List.findIdx?_cons]
        have e : ((⟨k.toArray⟩ : ByteArray) == ⟨p.1.toArray⟩) = decide (k = p.1) := by
          rw [beqBytes, Bool.eq_iff_iff, beq_iff_eq, decide_eq_true_eq]
          constructor
          · intro h
            have := congrArg Array.toList h
            simpa using this
          · intro h; rw [h]
        rw [e]
        by_cases h : k = p.1
        · simp [h]
        · simp only [h, decide_false]
          have := ih (j + 1)
          simp only [str] at this
          rw [this]
          cases ks.findIdx? fun p => decide (k = p.1) with
          | none => rfl
          | some i =>
            simp only [Option.map_some, Option.bind_some, List.getElem?_cons_succ, if_false, Bool.false_eq_true]
            rw [show i + 1 + j = i + (j + 1) by omega]
    unfold Instr.findKey
    simp only [Sem.run_bind, run_underlying hu, Result.andThen_ok, key ks 0, Sem.run_pure, Nat.add_zero]
  same k := by
    show ((⟨k.toArray⟩ : ByteArray) == ⟨k.toArray⟩) = true
    rw [beqBytes]
    simp
end Go.Proofs.YtnijmegalgoipaaGreatDoor
