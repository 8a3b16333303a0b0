/- Maps: delete, entries, len. -/
import Derived.Test.YtnijmegalgoipaaGreatDoorMaps
namespace Go.Proofs.YtnijmegalgoipaaGreatDoor
open Go.RowKit
section
variable {κ ν : Type} [DecidableEq κ]
theorem mdel_length (m : List (κ × ν)) (k : κ) (i : Nat) (h : (m.findIdx? fun p => decide (k = p.1)) = some i) : mdel m k = m.eraseIdx i := by
  induction m generalizing i with
  | nil => simp at h
  | cons p m ih =>
    obtain ⟨a, u⟩ := p
    rw [List.findIdx?_cons] at h
    unfold mdel
    by_cases hk : k = a
    · simp [hk] at h
      subst h
      simp [hk]
    · simp only [hk, decide_false] at h
      rw [if_neg hk]
      cases hf : m.findIdx? fun p => decide (k = p.1) with
      | none => rw [hf] at h; simp at h
      | some j =>
        rw [hf] at h
        simp at h
        subst h
        rw [List.eraseIdx_cons_succ, ih j hf]
theorem mdel_none (m : List (κ × ν)) (k : κ) (h : (m.findIdx? fun p => decide (k = p.1)) = none) : mdel m k = m := by
  induction m with
  | nil => rfl
  | cons p m ih =>
    obtain ⟨a, u⟩ := p
    rw [List.findIdx?_cons] at h
    unfold mdel
    by_cases hk : k = a
    · simp [hk] at h
    · simp only [hk, decide_false] at h
      rw [if_neg hk, ih (by cases hf : m.findIdx? fun p => decide (k = p.1) with | none => rfl | some j => rw [hf] at h; simp at h)]
theorem mget_cons (a : κ) (u : ν) (m : List (κ × ν)) (q : κ) : mget ((a, u) :: m) q = if q = a then some u else mget m q := rfl
theorem mput_cons (a : κ) (u : ν) (m : List (κ × ν)) (q : κ) (v : ν) : mput ((a, u) :: m) q v = if q = a then (a, v) :: m else (a, u) :: mput m q v := rfl
theorem mget_mdel {m : List (κ × ν)} (hn : (m.map (·.1)).Nodup) (k q : κ) : mget (mdel m k) q = if q = k then none else mget m q := by
  induction m with
  | nil => simp [mdel, mget]
  | cons p m ih =>
    obtain ⟨a, u⟩ := p
    rw [List.map_cons, List.nodup_cons] at hn
    unfold mdel
    by_cases hk : k = a
    · subst hk
      rw [if_pos rfl]
      by_cases hq : q = k
      · subst hq
        rw [if_pos rfl]
        exact mget_none.2 hn.1
      · rw [if_neg hq, mget_cons, if_neg hq]
    · rw [if_neg hk, mget_cons, mget_cons, ih hn.2]
      by_cases hq : q = a
      · subst hq
        rw [if_pos rfl, if_neg (fun e => hk e.symm), if_pos rfl]
      · rw [if_neg hq, if_neg hq]
theorem mput_mput (m : List (κ × ν)) (k : κ) (u v : ν) : mput (mput m k u) k v = mput m k v := by
  induction m with
  | nil => simp [mput]
  | cons p m ih =>
    obtain ⟨a, x⟩ := p
    rw [mput_cons, mput_cons]
    by_cases hk : k = a
    · rw [if_pos hk, if_pos hk, mput_cons, if_pos hk]
    · rw [if_neg hk, if_neg hk, mput_cons, if_neg hk, ih]
end
section
variable {κ ν : Type} [DecidableEq κ] {w w' : World} {b : Nat} {enc : κ → Value} {encv : ν → Value} {m : List (κ × ν)} {P : Program} {kt t e : TypeId}
/-- the stamp of a key's entry -/
def StampAt (w : World) (b : Nat) (enc : κ → Value) (encv : ν → Value) (m : List (κ × ν)) (k : κ) (s : Int) : Prop :=
  (m.map (·.1)).Nodup ∧ ∃ (ts : List Nat) (clock i : Nat), ts.length = m.length ∧ ts.Pairwise (· < ·) ∧ (∀ t ∈ ts, t < clock) ∧ w.heap[b]? = some (.map ((m.zip ts).map fun p => (⟨enc p.1.1, encv p.1.2, p.2⟩ : MapEntry)).toArray clock) ∧ (m.findIdx? fun p => decide (k = p.1)) = some i ∧ ts[i]?.map Int.ofNat = some s
theorem StampAt.map {k : κ} {s : Int} (h : StampAt w b enc encv m k s) : MapAt w b enc encv m := by
  obtain ⟨h0, ts, clock, i, h1, h2, h3, h4, _⟩ := h
  exact ⟨h0, ts, clock, h1, h2, h3, h4⟩
theorem StampAt.bel {k : κ} {s : Int} (h : StampAt w b enc encv m k s) (hb : Below w.heap.size w w') : StampAt w' b enc encv m k s := by
  obtain ⟨h0, ts, clock, i, h1, h2, h3, h4, h5⟩ := h
  exact ⟨h0, ts, clock, i, h1, h2, h3, (hb.block _ (Array.getElem?_eq_some_iff.1 h4).1).trans h4, h5⟩
theorem findIdx_key {m : List (κ × ν)} {k : κ} {i : Nat} (h : (m.findIdx? fun p => decide (k = p.1)) = some i) : ∃ v, m[i]? = some (k, v) ∧ mget m k = some v := by
  have hi := (List.findIdx?_eq_some_iff_getElem.1 h).1
  have hk : m[i].1 = k := by
    have := (List.findIdx?_eq_some_iff_getElem.1 h).2.1
    simpa using (of_decide_eq_true this).symm
  refine ⟨m[i].2, by rw [List.getElem?_eq_getElem hi, ← hk], ?_⟩
  rw [mget_find, h]
  simp [List.getElem?_eq_getElem hi]
theorem mput_same {m : List (κ × ν)} {k : κ} {v : ν} (h : mget m k = some v) : mput m k v = m := by
  induction m with
  | nil => cases h
  | cons p m ih =>
    obtain ⟨a, u⟩ := p
    unfold mget at h
    unfold mput
    by_cases hk : k = a
    · rw [if_pos hk] at h ⊢
      injection h with h
      rw [h]
    · rw [if_neg hk] at h ⊢
      rw [ih h]
omit [DecidableEq κ] in
theorem zip_at {α β : Type} {l : List α} {r : List β} {i : Nat} {x : α} {y : β} (hx : l[i]? = some x) (hy : r[i]? = some y) : (l.zip r)[i]? = some (x, y) := by
  obtain ⟨h1, e1⟩ := List.getElem?_eq_some_iff.1 hx
  obtain ⟨h2, e2⟩ := List.getElem?_eq_some_iff.1 hy
  rw [List.getElem?_eq_getElem (by rw [List.length_zip]; omega), List.getElem_zip, e1, e2]
theorem MapAt.entry (h : MapAt w b enc encv m) (K : KeyLaw P kt enc) (ht : P.underlying t = some (.map kt e)) (z : ν) (hz : (zeroValue e).run P w = .ok (encv z) w) (k : κ) :
    ∃ s w', (Instr.mapEntry t (.map (some b)) (enc k)).run P w = .ok (.tuple #[encv ((mget m k).getD z), goInt s]) w' ∧ StampAt w' b enc encv (mput m k ((mget m k).getD z)) k s ∧ Chg (fun q => q = b) w w' := by
  have hlt := h.lt
  obtain ⟨ts, clock, h1, h2, h3, h4⟩ := h.obj
  cases hf : m.findIdx? fun p => decide (k = p.1) with
  | none =>
    have hg : mget m k = none := by rw [mget_find, hf]; rfl
    have hput := mput_new k z m hf
    have hfi : ((m ++ [(k, z)]).findIdx? fun p => decide (k = p.1)) = some m.length := by
      rw [List.findIdx?_append, hf]
      simp
    rw [hg, Option.getD_none]
    refine ⟨clock, { w with heap := w.heap.setIfInBounds b (.map (((m ++ [(k, z)]).zip (ts ++ [clock])).map fun p => (⟨enc p.1.1, encv p.1.2, p.2⟩ : MapEntry)).toArray (clock + 1)) }, ?_, ⟨mput_nodup h.nodup k z, ts ++ [clock], clock + 1, m.length, ?_, ?_, ?_, ?_, ?_, ?_⟩, chgSet _ _ _⟩
    · unfold Instr.mapEntry
      simp only [Sem.run_bind, run_underlying ht, Result.andThen_ok, getMap h4, K.check, run_find K k m ts h1, hf, Option.bind_none, hz]
      rw [setMap _ h4, List.zip_append (by omega)]
      simp
    · rw [hput]; simp [h1]
    · rw [List.pairwise_append]; exact ⟨h2, by simp, fun a ha c hc => by simp at hc; subst hc; exact h3 a ha⟩
    · intro q hq
      rw [List.mem_append] at hq
      rcases hq with hq | hq
      · have := h3 q hq; omega
      · simp at hq; omega
    · rw [hput]; simp [hlt]
    · rw [hput]; exact hfi
    · rw [List.getElem?_append_right (by omega), h1]; simp
  | some i =>
    obtain ⟨v, hiv, hgv⟩ := findIdx_key hf
    have hi : i < m.length := (List.getElem?_eq_some_iff.1 hiv).1
    have hit : i < ts.length := by omega
    rw [hgv, Option.getD_some, mput_same hgv]
    refine ⟨ts[i], { w with heap := w.heap.setIfInBounds b (.map ((m.zip ts).map fun p => (⟨enc p.1.1, encv p.1.2, p.2⟩ : MapEntry)).toArray clock) }, ?_, ⟨h.nodup, ts, clock, i, h1, h2, h3, by simp [hlt], hf, by rw [List.getElem?_eq_getElem hit]; rfl⟩, chgSet _ _ _⟩
    unfold Instr.mapEntry
    have hm : m[i]? = some (k, v) := hiv
    simp only [Sem.run_bind, run_underlying ht, Result.andThen_ok, getMap h4, K.check, run_find K k m ts h1, hf, Option.bind_some, hm, Option.map_some]
    have hes : (((m.zip ts).map fun p => (⟨enc p.1.1, encv p.1.2, p.2⟩ : MapEntry)).toArray)[i]? = some ⟨enc k, encv v, ts[i]⟩ := by
      rw [List.getElem?_toArray, List.getElem?_map, zip_at hm (List.getElem?_eq_getElem hit)]
      rfl
    rw [hes]
    have hst : (Instr.keyThatStays (enc k) (enc k)).run P w = .ok (enc k) w := by
      unfold Instr.keyThatStays
      rw [K.same k]
      rfl
    simp only [Option.map_some, Option.getD_some, hst, Result.andThen_ok]
    rw [setMap _ h4]
    have hmod : ((((m.zip ts).map fun p => (⟨enc p.1.1, encv p.1.2, p.2⟩ : MapEntry)).toArray).modify i fun e => { e with key := enc k }) = ((m.zip ts).map fun p => (⟨enc p.1.1, encv p.1.2, p.2⟩ : MapEntry)).toArray := by
      apply Array.ext_getElem?
      intro j
      rw [Array.getElem?_modify]
      by_cases hj : i = j
      · subst hj; rw [if_pos rfl, hes]; rfl
      · rw [if_neg hj]
    rw [hmod]
    simp
theorem StampAt.store {k : κ} {s : Int} (h : StampAt w b enc encv m k s) (v : ν) : ∃ w', (Instr.entryStore t (.map (some b)) (.int .i64 s) (encv v)).run P w = .ok () w' ∧ MapAt w' b enc encv (mput m k v) ∧ Chg (fun q => q = b) w w' := by
  obtain ⟨h0, ts, clock, i, h1, h2, h3, h4, h5, h6⟩ := h
  have hlt := (Array.getElem?_eq_some_iff.1 h4).1
  obtain ⟨u, hiu, hgu⟩ := findIdx_key h5
  have hi : i < m.length := (List.getElem?_eq_some_iff.1 hiu).1
  have hit : i < ts.length := by omega
  rw [List.getElem?_eq_getElem hit] at h6
  have hs : s = (ts[i] : Nat) := by simpa using h6.symm
  have hfind : ((((m.zip ts).map fun p => (⟨enc p.1.1, encv p.1.2, p.2⟩ : MapEntry)).toArray).findIdx? (fun e => (e.born : Int) == s)) = some i := by
    rw [List.findIdx?_toArray, List.findIdx?_map, List.findIdx?_eq_some_iff_getElem]
    refine ⟨by rw [List.length_zip]; omega, ?_, fun j hj => ?_⟩
    · simp [hs]
    · simp only [Function.comp, List.getElem_zip, hs, beq_iff_eq]
      have := List.pairwise_iff_getElem.1 h2 j i (by omega) hit hj
      simp
      omega
  refine ⟨{ w with heap := w.heap.setIfInBounds b (.map (((mput m k v).zip ts).map fun p => (⟨enc p.1.1, encv p.1.2, p.2⟩ : MapEntry)).toArray clock) }, ?_, ⟨mput_nodup h0 k v, ts, clock, by rw [mput_length_old k v m i h5]; exact h1, h2, h3, by simp [hlt]⟩, chgSet _ _ _⟩
  unfold Instr.entryStore
  simp only [Sem.run_bind, getMap h4, Result.andThen_ok, asInt, asIntOf, Sem.run_pure, hfind]
  rw [setMap _ h4]
  have hz := zip_put (enc := enc) (encv := encv) k v m ts i h1 h5
  have hes : (((m.zip ts).map fun p => (⟨enc p.1.1, encv p.1.2, p.2⟩ : MapEntry)).toArray)[i]? = some ⟨enc k, encv u, ts[i]⟩ := by
    rw [List.getElem?_toArray, List.getElem?_map, zip_at hiu (List.getElem?_eq_getElem hit)]
    rfl
  rw [← hz]
  have hmod : ((((m.zip ts).map fun p => (⟨enc p.1.1, encv p.1.2, p.2⟩ : MapEntry)).toArray).modify i fun e => { e with val := encv v }) = ((((m.zip ts).map fun p => (⟨enc p.1.1, encv p.1.2, p.2⟩ : MapEntry)).toArray).modify i fun e => { e with key := enc k, val := encv v }) := by
    apply Array.ext_getElem?
    intro j
    rw [Array.getElem?_modify, Array.getElem?_modify]
    by_cases hj : i = j
    · subst hj; rw [if_pos rfl, if_pos rfl, hes]; rfl
    · rw [if_neg hj, if_neg hj]
  rw [hmod]
theorem MapAt.del (h : MapAt w b enc encv m) (K : KeyLaw P kt enc) (ht : P.underlying t = some (.map kt e)) (k : κ) (t2 ty : TypeId) :
    ∃ w', (Builtin.delete_ #[t, t2] ty #[.map (some b), enc k]).run P w = .ok (.tuple #[]) w' ∧ MapAt w' b enc encv (mdel m k) ∧ Chg (fun q => q = b) w w' := by
  have hlt := h.lt
  obtain ⟨ts, clock, h1, h2, h3, h4⟩ := h.obj
  cases hf : m.findIdx? fun p => decide (k = p.1) with
  | none =>
    refine ⟨{ w with heap := w.heap.setIfInBounds b (.map ((m.zip ts).map fun p => (⟨enc p.1.1, encv p.1.2, p.2⟩ : MapEntry)).toArray clock) }, ?_, ?_, chgSet _ _ _⟩
    · unfold Builtin.delete_
      simp only [List.getElem?_toArray, List.getElem?_cons_zero, List.getElem?_cons_succ, Sem.run_bind, run_underlying ht, Result.andThen_ok, getMap h4, K.check, run_find K k m ts h1, hf, Option.bind_none]
      rw [setMap _ h4]
      simp
    · rw [mdel_none m k hf]
      exact ⟨h.nodup, ts, clock, h1, h2, h3, by simp [hlt]⟩
  | some i =>
    obtain ⟨v, hiv, hgv⟩ := findIdx_key hf
    have hi : i < m.length := (List.getElem?_eq_some_iff.1 hiv).1
    have hzip : ((m.zip ts).map fun p => (⟨enc p.1.1, encv p.1.2, p.2⟩ : MapEntry)).eraseIdx i = ((m.eraseIdx i).zip (ts.eraseIdx i)).map fun p => (⟨enc p.1.1, encv p.1.2, p.2⟩ : MapEntry) := by
      clear hf hiv hgv h4 h2 h3 hlt h
      induction m generalizing ts i with
      | nil => simp
      | cons p m ih =>
        cases ts with
        | nil => simp at h1
        | cons t ts =>
          cases i with
          | zero => simp
          | succ i => simp only [List.zip_cons_cons, List.map_cons, List.eraseIdx_cons_succ]; rw [ih ts (by simpa using h1) i (by simpa using hi)]
    refine ⟨{ w with heap := w.heap.setIfInBounds b (.map (((m.eraseIdx i).zip (ts.eraseIdx i)).map fun p => (⟨enc p.1.1, encv p.1.2, p.2⟩ : MapEntry)).toArray clock) }, ?_, ?_, chgSet _ _ _⟩
    · unfold Builtin.delete_
      simp only [List.getElem?_toArray, List.getElem?_cons_zero, List.getElem?_cons_succ, Sem.run_bind, run_underlying ht, Result.andThen_ok, getMap h4, K.check, run_find K k m ts h1, hf, Option.bind_some, hiv, Option.map_some]
      rw [setMap _ h4]
      have : ((((m.zip ts).map fun p => (⟨enc p.1.1, encv p.1.2, p.2⟩ : MapEntry)).toArray).eraseIdxIfInBounds i) = (((m.eraseIdx i).zip (ts.eraseIdx i)).map fun p => (⟨enc p.1.1, encv p.1.2, p.2⟩ : MapEntry)).toArray := by
        rw [← hzip]
        rw [Array.eraseIdxIfInBounds, dif_pos (by simp; omega)]
        simp
      rw [this]
      simp
    · rw [mdel_length m k i hf]
      refine ⟨?_, ts.eraseIdx i, clock, ?_, h2.sublist (List.eraseIdx_sublist ..), fun q hq => h3 q ((List.eraseIdx_sublist ..).subset hq), by simp [hlt]⟩
      · exact h.nodup.sublist ((List.eraseIdx_sublist ..).map _)
      · rw [List.length_eraseIdx_of_lt (by omega), List.length_eraseIdx_of_lt hi]; omega
theorem MapAt.len (h : MapAt w b enc encv m) (ht : P.underlying t = some (.map kt e)) (ty : TypeId) : (Builtin.len_ #[t] ty #[.map (some b)]).run P w = .ok (.int .i64 m.length) w := by
  obtain ⟨ts, clock, h1, h2, h3, h4⟩ := h.obj
  unfold Builtin.len_
  simp [run_underlying ht, getMap h4, goInt, List.length_zip, h1]
theorem look_int {m : List (κ × Int)} {k : κ} : ((mget m k).map fun n => Value.int .i64 n).getD (.int .i64 0) = .int .i64 ((mget m k).getD 0) := by
  cases mget m k <;> rfl
end
/- ---------- steps ---------- -/
section
variable {κ ν : Type} [DecidableEq κ] {enc : κ → Value} {encv : ν → Value} {m : List (κ × ν)} {P : Program} {N : Nat} {ds : List Deferred} {Q : Post} {l : Env} {w w' : World} {ops : Array Oper} {rest : List Oper} {ty t kt e t2 : TypeId} {pos : String} {aft : Array Edge} {d b : Nat} {x y u : Operand}
theorem sme (K : KeyLaw P kt enc) (hx : ev l x = some (.map (some b))) (k : κ) (hy : ev l y = some (enc k)) (ht : P.underlying t = some (.map kt e)) (z : ν) (hz : (zeroValue e).run P w = .ok (encv z) w) (hM : MapAt w b enc encv m) (hd : Nat.blt d N = true)
    (h : ∀ s w', StampAt w' b enc encv (mput m k ((mget m k).getD z)) k s → Chg (fun q => q = b) w w' → WL P N ds ops Q rest ((d, .tuple #[encv ((mget m k).getD z), .int .i64 s]) :: l) w') : WL P N ds ops Q (⟨some d, .mapEntry t x y, ty, pos, aft, none⟩ :: rest) l w := by
  obtain ⟨s, w', hr, h1, h2⟩ := hM.entry K ht z hz k
  refine st (w' := w') (fun ρ hρ => ?_) hd (h s w' h1 h2)
  unfold execOp
  simp only [hρ _ _ hx, hρ _ _ hy, Sem.run_bind, hr, Result.andThen_ok, Sem.run_pure]
  rfl
theorem ses {k : κ} {s : Int} {v1 : ν} (hx : ev l x = some (.map (some b))) (v : ν) (hy : ev l y = some (.int .i64 s)) (hu : ev l u = some (encv v)) (hS : StampAt w b enc encv (mput m k v1) k s)
    (h : ∀ w', MapAt w' b enc encv (mput m k v) → Chg (fun q => q = b) w w' → WL P N ds ops Q rest l w') : WL P N ds ops Q (⟨none, .entryStore t x y u, ty, pos, aft, none⟩ :: rest) l w := by
  obtain ⟨w', hr, h1, h2⟩ := hS.store (P := P) (t := t) v
  rw [mput_mput] at h1
  refine ss (w' := w') (fun ρ hρ => ?_) (h w' h1 h2)
  unfold execOp
  simp only [hρ _ _ hx, hρ _ _ hy, hρ _ _ hu, Sem.run_bind, hr, Result.andThen_ok, Sem.run_pure]
theorem sdel (K : KeyLaw P kt enc) (hx : ev l x = some (.map (some b))) (k : κ) (hy : ev l y = some (enc k)) (ht : P.underlying t = some (.map kt e)) (hM : MapAt w b enc encv m)
    (h : ∀ w', MapAt w' b enc encv (mdel m k) → Chg (fun q => q = b) w w' → WL P N ds ops Q rest l w') : WL P N ds ops Q (⟨none, .call { callee := .builtin .delete, args := #[x, y], argTypes := #[t, t2] }, ty, pos, aft, none⟩ :: rest) l w := by
  obtain ⟨w', hr, h1, h2⟩ := hM.del K ht k t2 ty
  intro a ha
  refine wpList_plain rfl fun Kc hK => ?_
  unfold Oper.wp
  have : (execOp a.eval ⟨none, .call { callee := .builtin .delete, args := #[x, y], argTypes := #[t, t2] }, ty, pos, aft, none⟩).run P w = .ok (.value (.tuple #[])) w' := by
    unfold execOp
    simp only [resolve, invoke, builtin, Sem.run_bind, Sem.run_pure, Result.andThen_ok, List.map_toArray, List.map_cons, List.map_nil, ha.knows _ _ hx, ha.knows _ _ hy, hr]
  rw [this]
  exact hK _ _ (h w' h1 h2 _ ha)
theorem X.lenM {ats : Array TypeId} (hx : ev l x = some (.map (some b))) (ht : ats = #[t]) (hu : P.underlying t = some (.map kt e)) (hM : MapAt w b enc encv m) : X P l (.call { callee := .builtin .len, args := #[x], argTypes := ats }) ty w (.int .i64 m.length) w := fun ρ hρ => by
  subst ht
  unfold execOp
  simp only [resolve, invoke, builtin, Sem.run_bind, Sem.run_pure, Result.andThen_ok, List.map_toArray, List.map_cons, List.map_nil, hρ _ _ hx, hM.len hu]
end
section
variable {κ : Type} [DecidableEq κ] {enc : κ → Value} {m : List (κ × Int)} {P : Program} {l : Env} {w : World} {ty t kt e : TypeId} {b : Nat} {x y : Operand}
theorem X.lookI (K : KeyLaw P kt enc) (hx : ev l x = some (.map (some b))) (k : κ) (hy : ev l y = some (enc k)) (ht : P.underlying t = some (.map kt e)) (hz : (zeroValue e).run P w = .ok (.int .i64 0) w) (hM : MapAt w b enc (fun n => .int .i64 n) m) :
    X P l (.lookup t x y false) ty w (.int .i64 ((mget m k).getD 0)) w := by
  rw [← look_int]
  exact X.look K hx k hy ht hz hM
theorem X.lookIv {z : Int} (K : KeyLaw P kt enc) (hx : ev l x = some (.map (some b))) (k : κ) (hy : ev l y = some (enc k)) (ht : P.underlying t = some (.map kt e)) (hz : (zeroValue e).run P w = .ok (.int .i64 0) w) (hM : MapAt w b enc (fun n => .int .i64 n) m) (hv : (mget m k).getD 0 = z) :
    X P l (.lookup t x y false) ty w (.int .i64 z) w := by
  subst hv
  exact X.lookI K hx k hy ht hz hM
end
end Go.Proofs.YtnijmegalgoipaaGreatDoor
