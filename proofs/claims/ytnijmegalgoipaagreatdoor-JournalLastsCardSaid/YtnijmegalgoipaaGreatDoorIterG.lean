/- Iterators over a map, and what goes through yield. -/
import Derived.Test.YtnijmegalgoipaaGreatDoorMaps
import Derived.Test.YtnijmegalgoipaaGreatDoorGen
import Derived.Maps.RangeRun
import Derived.RangeFuncNested
import Derived.RangeFuncCalls
import Derived.RangeFuncLeaves
import Derived.Test.YtnijmegalgoipaaGreatDoorDefer
import Derived.Test.YtnijmegalgoipaaGreatDoorTypes
namespace Go.Proofs.YtnijmegalgoipaaGreatDoor
open Go.RowKit
open Go.ChangeMaps (setBlock)
/- ---------- an iterator over a map ---------- -/
structure IterAt {κ ν : Type} [DecidableEq κ] (w : World) (r b : Nat) (enc : κ → Value) (encv : ν → Value) (m : List (κ × ν)) (pre : List κ) : Prop where
  nodup : (m.map (·.1)).Nodup
  mem : ∀ k ∈ pre, k ∈ m.map (·.1)
  pnod : pre.Nodup
  obj : ∃ (ts : List Nat) (clock : Nat) (seen : Array Nat), ts.length = m.length ∧ ts.Nodup ∧ (∀ t ∈ ts, t < clock) ∧ w.heap[b]? = some (.map ((m.zip ts).map fun p => (⟨enc p.1.1, encv p.1.2, p.2⟩ : MapEntry)).toArray clock) ∧
    w.heap[r]? = some (.mapIter (some b) clock seen clock) ∧ ∀ p ∈ m.zip ts, p.2 ∈ seen.toList ↔ p.1.1 ∈ pre
section
variable {κ ν : Type} [DecidableEq κ] {w w' : World} {r b : Nat} {enc : κ → Value} {encv : ν → Value} {m : List (κ × ν)} {pre : List κ} {P : Program}
theorem IterAt.of_walks (h : IterAt w r b enc encv m pre) (hk : KeepsWalks w w') : IterAt w' r b enc encv m pre := by
  obtain ⟨ts, clock, seen, h1, h2, h3, h4, h5, h6⟩ := h.obj
  exact ⟨h.nodup, h.mem, h.pnod, ts, clock, seen, h1, h2, h3, hk.same _ _ h4 rfl, hk.same _ _ h5 rfl, h6⟩
theorem IterAt.bel (h : IterAt w r b enc encv m pre) (hb : Below w.heap.size w w') : IterAt w' r b enc encv m pre := by
  obtain ⟨ts, clock, seen, h1, h2, h3, h4, h5, h6⟩ := h.obj
  exact ⟨h.nodup, h.mem, h.pnod, ts, clock, seen, h1, h2, h3, (hb.block _ (Array.getElem?_eq_some_iff.1 h4).1).trans h4, (hb.block _ (Array.getElem?_eq_some_iff.1 h5).1).trans h5, h6⟩
theorem IterAt.lt (h : IterAt w r b enc encv m pre) : r < w.heap.size := by
  obtain ⟨ts, clock, seen, h1, h2, h3, h4, h5, h6⟩ := h.obj
  exact (Array.getElem?_eq_some_iff.1 h5).1
theorem IterAt.walk (h : IterAt w r b enc encv m pre) : ∃ o : Obj, w.heap[r]? = some o ∧ o.isWalk = true := by
  obtain ⟨ts, clock, seen, h1, h2, h3, h4, h5, h6⟩ := h.obj
  exact ⟨_, h5, rfl⟩
omit [DecidableEq κ] in
theorem zip_inj_key {m : List (κ × ν)} {ts : List Nat} (hm : (m.map (·.1)).Nodup) {p q : (κ × ν) × Nat} (hp : p ∈ m.zip ts) (hq : q ∈ m.zip ts) (he : p.1.1 = q.1.1) : p = q := by
  obtain ⟨i, hi, rfl⟩ := List.mem_iff_getElem.1 hp
  obtain ⟨j, hj, rfl⟩ := List.mem_iff_getElem.1 hq
  simp only [List.getElem_zip] at he ⊢
  have hi' : i < m.length := by rw [List.length_zip] at hi; omega
  have hj' : j < m.length := by rw [List.length_zip] at hj; omega
  have : i = j := by
    have := (List.getElem_inj (xs := m.map (·.1)) (h₀ := by simpa using hi') (h₁ := by simpa using hj') hm).1 (by simpa using he)
    exact this
  subst this
  rfl
omit [DecidableEq κ] in
theorem zip_inj_ts {m : List (κ × ν)} {ts : List Nat} (ht : ts.Nodup) {p q : (κ × ν) × Nat} (hp : p ∈ m.zip ts) (hq : q ∈ m.zip ts) (he : p.2 = q.2) : p = q := by
  obtain ⟨i, hi, rfl⟩ := List.mem_iff_getElem.1 hp
  obtain ⟨j, hj, rfl⟩ := List.mem_iff_getElem.1 hq
  simp only [List.getElem_zip] at he ⊢
  have hi' : i < ts.length := by rw [List.length_zip] at hi; omega
  have hj' : j < ts.length := by rw [List.length_zip] at hj; omega
  have : i = j := (List.getElem_inj (xs := ts) (h₀ := hi') (h₁ := hj') ht).1 he
  subst this
  rfl
/-- a step of the iterator -/
theorem IterAt.next (h : IterAt w r b enc encv m pre) (ty : TypeId) :
    (pre.Perm (m.map (·.1)) ∧ (Instr.next (.pointer (some ⟨r, 0, none⟩)) false ty).run P w = .ok (.tuple #[.bool false]) w) ∨
    ∃ k v w', k ∉ pre ∧ (k, v) ∈ m ∧ (Instr.next (.pointer (some ⟨r, 0, none⟩)) false ty).run P w = .ok (.tuple #[.bool true, enc k, encv v]) w' ∧
      (Instr.entry (.pointer (some ⟨r, 0, none⟩))).run P w' = .ok (.tuple #[enc k, encv v]) w' ∧ IterAt w' r b enc encv m (pre ++ [k]) ∧ Chg (fun q => q = r) w w' := by
  obtain ⟨ts, clock, seen, h1, h2, h3, h4, h5, h6⟩ := h.obj
  have hbr : b ≠ r := by rintro rfl; rw [h4] at h5; cases h5
  have hold : ∀ x ∈ (((m.zip ts).map fun p => (⟨enc p.1.1, encv p.1.2, p.2⟩ : MapEntry)).toArray).toList, x.born < clock := by
    intro x hx
    simp only [List.mem_map] at hx
    obtain ⟨p, hp, rfl⟩ := hx
    exact h3 _ (List.of_mem_zip hp).2
  rcases run_next_at (P := P) w ty r b clock clock seen _ clock h5 h4 hold (Nat.le_refl _) with ⟨h0, hr⟩ | ⟨e, he, w1, hw1, hr⟩
  · left
    refine ⟨?_, hr⟩
    have hall : ∀ p ∈ m.zip ts, p.2 ∈ seen.toList := by
      intro p hp
      refine Classical.byContradiction fun hn => ?_
      have : leftOf ((m.zip ts).map fun p => (⟨enc p.1.1, encv p.1.2, p.2⟩ : MapEntry)).toArray seen ≠ #[] := by
        intro hz
        have hmem : (⟨enc p.1.1, encv p.1.2, p.2⟩ : MapEntry) ∈ leftOf ((m.zip ts).map fun p => (⟨enc p.1.1, encv p.1.2, p.2⟩ : MapEntry)).toArray seen := by
          unfold leftOf
          rw [Array.mem_filter]
          refine ⟨?_, ?_⟩
          · simp only [List.mem_toArray, List.mem_map]
            exact ⟨p, hp, rfl⟩
          · simpa using hn
        rw [hz] at hmem
        simp at hmem
      exact this (Array.eq_empty_of_size_eq_zero h0)
    refine (List.perm_ext_iff_of_nodup h.pnod h.nodup).2 fun k => ⟨h.mem k, fun hk => ?_⟩
    obtain ⟨q, hq, rfl⟩ := List.mem_map.1 hk
    obtain ⟨i, hi, rfl⟩ := List.mem_iff_getElem.1 hq
    have hz : (m[i], ts[i]'(by omega)) ∈ m.zip ts := by
      rw [List.mem_iff_getElem]
      exact ⟨i, by rw [List.length_zip]; omega, by simp⟩
    exact (h6 _ hz).1 (hall _ hz)
  · right
    have he' : e ∈ ((m.zip ts).map fun p => (⟨enc p.1.1, encv p.1.2, p.2⟩ : MapEntry)) ∧ e.born ∉ seen.toList := by
      have := he
      unfold leftOf at this
      rw [Array.toList_filter, List.mem_filter] at this
      refine ⟨by simpa using this.1, ?_⟩
      have h2 := this.2
      simpa using h2
    obtain ⟨p, hp, rfl⟩ := List.mem_map.1 he'.1
    have hns := he'.2
    simp only at hns hr
    have hkp : p.1.1 ∉ pre := fun hk => hns ((h6 p hp).2 hk)
    have hz := List.of_mem_zip hp
    have hs1 : w1.heap = w.heap := by rcases hw1 with rfl | rfl <;> rfl
    have hsz : r < w1.heap.size := by rw [hs1]; exact (Array.getElem?_eq_some_iff.1 h5).1
    have hr' : (setBlock w1 r (.mapIter (some b) clock (seen.push p.2) clock)).heap[r]? = some (.mapIter (some b) clock (seen.push p.2) clock) := by
      simp [setBlock, hsz]
    have hb' : (setBlock w1 r (.mapIter (some b) clock (seen.push p.2) clock)).heap[b]? = some (.map ((m.zip ts).map fun p => (⟨enc p.1.1, encv p.1.2, p.2⟩ : MapEntry)).toArray clock) := by
      show (w1.heap.setIfInBounds r _)[b]? = _
      rw [Array.getElem?_setIfInBounds, if_neg (fun e => hbr e.symm), hs1]
      exact h4
    refine ⟨p.1.1, p.1.2, _, hkp, hz.1, hr, ?_, ⟨h.nodup, ?_, ?_, ts, clock, seen.push p.2, h1, h2, h3, hb', hr', ?_⟩, ?_⟩
    · refine run_entry_at (P := P) _ r b clock seen _ clock ⟨enc p.1.1, encv p.1.2, p.2⟩ hr' hb' (by simpa using he'.1) ?_
      simp only [List.map_map]
      have : (m.zip ts).map ((fun x => x.born) ∘ fun p => (⟨enc p.1.1, encv p.1.2, p.2⟩ : MapEntry)) = ts := by
        rw [show ((fun x => x.born) ∘ fun p => (⟨enc p.1.1, encv p.1.2, p.2⟩ : MapEntry)) = (Prod.snd : (κ × ν) × Nat → Nat) from rfl]
        exact List.map_snd_zip (by omega)
      rw [this]
      exact h2
    · intro k hk
      rw [List.mem_append, List.mem_singleton] at hk
      rcases hk with hk | rfl
      · exact h.mem k hk
      · exact List.mem_map.2 ⟨p.1, hz.1, rfl⟩
    · rw [List.nodup_append]
      exact ⟨h.pnod, by simp, fun a ha c hc => by simp at hc; subst hc; rintro rfl; exact hkp ha⟩
    · intro q hq
      rw [Array.toList_push, List.mem_append, List.mem_append, List.mem_singleton, List.mem_singleton, h6 q hq]
      constructor
      · rintro (h7 | h7)
        · exact .inl h7
        · exact .inr (by rw [zip_inj_ts h2 hq hp h7])
      · rintro (h7 | h7)
        · exact .inl h7
        · exact .inr (by rw [zip_inj_key h.nodup hq hp h7])
    · have hc0 : Chg (fun q => q = r) w w1 := by rcases hw1 with rfl | rfl; exact Chg.refl _ _; exact (Chg.refl _ w).drew
      exact hc0.next (chgSet w1 r _) (fun i hi => .inl hi)
theorem MapAt.iter (h : MapAt w b enc encv m) (t : TypeId) {kt e : TypeId} (ht : P.underlying t = some (.map kt e)) :
    ∃ w', (Instr.range t (.map (some b))).run P w = .ok (.pointer (some ⟨w.heap.size, 0, none⟩)) w' ∧ IterAt w' w.heap.size b enc encv m [] ∧ Below w.heap.size w w' := by
  obtain ⟨ts, clock, h1, h2, h3, h4⟩ := h.obj
  have hb : Below w.heap.size w (w.alloc (.mapIter (some b) clock #[] clock)) := (Below.refl _ _).alloc (Nat.le_refl _) _
  refine ⟨w.alloc (.mapIter (some b) clock #[] clock), ?_, ⟨h.nodup, fun k hk => by simp at hk, by simp, ts, clock, #[], h1, h2.imp (fun h => Nat.ne_of_lt h), h3, (hb.block b h.lt).trans h4, World.alloc_heap_new w _, fun p _ => by simp⟩, hb⟩
  unfold Instr.range
  simp only [Sem.run_bind, run_underlying ht, Result.andThen_ok, getMap h4, Sem.run_pure, newObj, World.alloc]
  rfl
theorem IterAt.more {k : κ} (h : IterAt w r b enc encv m (pre ++ [k])) : pre.length < m.length := by
  have := List.Nodup.length_le_of_subset h.pnod (fun a ha => h.mem a ha)
  rw [List.length_append, List.length_map] at this
  simp at this
  omega
end
/- ---------- worlds ---------- -/
theorem grown_of_bel {w w' : World} (h : Below w.heap.size w w') : w.grownBy w' none := ⟨h.os, h.tape, h.output, h.size, fun k hk _ => h.block k hk⟩
theorem grown_of_chg {w w' : World} {r : Nat} (h : Chg (fun q => q = r) w w') : w.grownBy w' (some r) := ⟨h.os, h.tape, h.output, h.size, fun k hk hn => h.block k hk (fun e => hn (by rw [e]))⟩
theorem chg_of_grown {w w' : World} {row : Option Nat} (h : w.grownBy w' row) : Chg (fun k => row = some k) w w' := ⟨h.os, h.tape, h.output, h.size, fun k hk hn => h.block k hk (fun e => hn e.symm)⟩
/-- what changed held cells -/
def OnCells (S : Nat → Prop) (w : World) : Prop := ∀ k o, S k → w.heap[k]? = some o → o.isCells = true
theorem keepsWalks_of {S : Nat → Prop} {w w' : World} (h : Chg S w w') (hs : OnCells S w) : KeepsWalks w w' :=
  ⟨h.size, fun k o hk ho => (h.block k (Array.getElem?_eq_some_iff.1 hk).1 (fun e => by have := hs k o e hk; cases o <;> simp [Obj.isWalk, Obj.isCells] at ho this)).trans hk⟩
theorem keepsFrom_of {S : Nat → Prop} {w w' : World} (h : Chg S w w') (hs : OnCells S w) (B : Nat) : KeepsFrom B w w' :=
  ⟨h.size, fun k o _ hk ho => (h.block k (Array.getElem?_eq_some_iff.1 hk).1 (fun e => by have := hs k o e hk; rw [ho] at this; cases this)).trans hk⟩
theorem Blk.onCells {w : World} {g : Nat} {t : TypeId} {cs : Array Value} (h : Blk w g t cs) : OnCells (fun k => k = g) w := fun k o hk ho => by
  subst hk
  have h : w.heap[k]? = some (.cells cs t) := h
  rw [ho] at h
  injection h with h
  subst h
  rfl
theorem Row.onCells {w : World} {e : TypeId} {size n : Nat} {v : Value} {xs : List Value} (h : Row w e size v n xs) : OnCells (fun k => v.ownBlock = some k) w := fun k o hk ho => by
  rcases h.2 with ⟨rfl, _⟩ | ⟨g, off, cap, cur, fz, rfl, hg, _⟩
  · simp [Value.ownBlock] at hk
  · simp [Value.ownBlock] at hk
    subst hk
    rw [ho] at hg
    injection hg with hg
    subst hg
    rfl
/-- rows and blocks of cells abide what is no cells -/
theorem Row.grown {w w' : World} {e : TypeId} {size n : Nat} {v : Value} {xs : List Value} (h : Row w e size v n xs) {row : Option Nat} (hg : w.grownBy w' row) (hr : ∀ r, row = some r → ∃ o : Obj, w.heap[r]? = some o ∧ o.isCells = false) : Row w' e size v n xs :=
  h.chg (chg_of_grown hg) (fun k hk e => by
    obtain ⟨o, ho, hn⟩ := hr k e
    have := h.onCells k o hk ho
    rw [hn] at this
    cases this)
theorem Blk.grown {w w' : World} {g : Nat} {t : TypeId} {cs : Array Value} (h : Blk w g t cs) {row : Option Nat} (hg : w.grownBy w' row) (hr : ∀ r, row = some r → ∃ o : Obj, w.heap[r]? = some o ∧ o.isCells = false) : Blk w' g t cs :=
  h.chg (chg_of_grown hg) (fun e => by
    obtain ⟨o, ho, hn⟩ := hr g e
    have := h.onCells g o rfl ho
    rw [hn] at this
    cases this)
/- ---------- regions within a fence ---------- -/
def WLI (F : Fence) (n : Nat) (P : Program) (N : Nat) (ds : List Deferred) (ops : Array Oper) (Q : Post) (os : List Oper) (l : Env) (w : World) : Prop := ∀ a, Rep N ds l a → wpListIn F n P ops (lift N ds Q) os a w
section
variable {F : Fence} {n : Nat} {P : Program} {N : Nat} {ds : List Deferred} {Q : Post} {l : Env} {w w' : World} {ops : Array Oper} {rest : List Oper} {op : Op} {ty : TypeId} {pos : String} {aft : Array Edge} {d : Nat} {v : Value} {id : Nat}
def Wide (F : Fence) : Prop := ∀ f, F.fn f
theorem semAt_of (ro : Option Nat) (ρ : Operand → Value) (o : Oper) (h : ∀ c, o.op ≠ .defer c) : Oper.semAt ro ρ o = execOp ρ o := by
  cases ro with
  | none => rfl
  | some l => exact Oper.semAt_some l ρ o h
theorem WIn (h : Q .normal l w) : WLI F n P N ds ops Q [] l w := fun _ ha => ⟨_, ha, h⟩
theorem stI (hF : Wide F) (hop : ∀ c, op ≠ .defer c) (hx : X P l op ty w v w') (hd : Nat.blt d N = true) (h : WLI F n P N ds ops Q rest ((d, v) :: l) w') : WLI F n P N ds ops Q (⟨some d, op, ty, pos, aft, none⟩ :: rest) l w := by
  intro a ha
  refine wpListIn_plain rfl fun K hK => ⟨fun f _ => hF f, ?_⟩
  rw [semAt_of _ _ _ hop]
  have : (execOp a.eval ⟨some d, op, ty, pos, aft, none⟩).run P w = .ok (.value v) w' := hx _ ha.knows
  rw [this]
  exact hK _ _ (h _ (ha.put hd v))
theorem ssI (hF : Wide F) (hop : ∀ c, op ≠ .defer c) (hx : Xs P l op ty w w') (h : WLI F n P N ds ops Q rest l w') : WLI F n P N ds ops Q (⟨none, op, ty, pos, aft, none⟩ :: rest) l w := by
  intro a ha
  refine wpListIn_plain rfl fun K hK => ⟨fun f _ => hF f, ?_⟩
  rw [semAt_of _ _ _ hop]
  have : (execOp a.eval ⟨none, op, ty, pos, aft, none⟩).run P w = .ok .skip w' := hx _ ha.knows
  rw [this]
  exact hK _ _ (h _ ha)
theorem W_regI {os : List Oper} (h : WLI Fence.wide n P N ds os.toArray Q os l w) : W P N ds Q (.region id os.toArray false) l w := fun a ha => wpIn_wide.1 (wpIn_region_lit (h a ha))
/-- a call of yield -/
theorem syield {x : Operand} {args : List Operand} {ats : Array TypeId} {lp : Nat} (vs : List Value) (hF : Wide F) (hdp : F.depth.isSome = false) (hx : ev l x = some (.func (.yield lp) #[] #[])) (hvs : evs l args = some vs) (hd : Nat.blt d N = true)
    (hy : YieldAt F (n - 1) P lp vs.toArray w fun e w' => match e with | .returned v => WLI F n P N ds ops Q rest ((d, v) :: l) w' | _ => False) :
    WLI F n P N ds ops Q (⟨some d, .call { callee := .value x, args := args.toArray, argTypes := ats }, ty, pos, aft, none⟩ :: rest) l w := by
  intro a ha
  refine wpListIn_plain rfl fun K hK => ⟨fun f _ => hF f, ?_⟩
  rw [semAt_of _ _ _ (fun c h => by cases h)]
  have hx' := ha.knows _ _ hx
  have hvs' := evs_map ha.knows hvs
  have e1 : List.map (fun x => a.eval x) args = vs := hvs'
  obtain ⟨fn, tmps, assign, body, hr, hR⟩ := hy
  have e2 : (execOp a.eval ⟨some d, .call { callee := .value x, args := args.toArray, argTypes := ats }, ty, pos, aft, none⟩).run P w = .ok (.round lp fn tmps assign body) w := by
    unfold execOp
    simp only [resolve, invoke, hx']
    simp [Deferred.ofValue, e1, hr]
  rw [e2, Oper.uponIn_round]
  refine ⟨fun h => (by rw [hdp] at h; cases h), RoundIn.mono hR (fun e w' h => ?_)⟩
  cases e with
  | returned v => exact hK _ _ (h _ (ha.put hd v))
  | panicked c => exact h.elim
  | outgrown => exact h.elim
end
/- ---------- a plain walk of a region, within a round ---------- -/
def noDefer (os : List Oper) : Bool := os.all fun o => match o.op with | .defer _ => false | _ => true
theorem upon_round {P : Program} {o : Oper} {a : Act} {next next' : Act → World → Prop} {Q : Exit → Act → World → Prop} {lp n : Nat} (hx : ∀ a w, next a w → next' a w) : ∀ {r : Result Next}, o.upon P a next Q r → o.uponIn (Fence.wide.inRound lp) n P a next' Q r
  | .ok (.value _) _, h => hx _ _ h
  | .ok .skip _, h => hx _ _ h
  | .ok (.defer _) _, h => hx _ _ h
  | .ok (.enter _ _) _, h => ⟨fun h => (by cases h), CallsIn.inRound lp (callsIn_wide.2 (Calls.mono h (fun e w h => by cases e with | returned v => exact hx _ _ h | panicked c => exact h | outgrown => exact h)))⟩
  | .ok (.row _ _) _, h => ⟨fun h => (by cases h), fun c cs _ => (let ⟨v, w', r, s⟩ := h c cs; ⟨v, w', hx _ _ r, stepsIn_wide.2 s⟩)⟩
  | .ok (.round ..) _, h => h.elim
  | .halt (.panic _) _, h => h
theorem wpListIn_round {P : Program} {ops : Array Oper} {Q : Exit → Act → World → Prop} {lp n : Nat} (hQ : ¬ LetsOut Q) : ∀ (os : List Oper) {a : Act} {w : World}, noDefer os = true → wpList P ops Q os a w → wpListIn (Fence.wide.inRound lp) n P ops Q os a w
  | [], _, _, _, h => h
  | o :: rest, a, w, hn, h => by
    have hn1 : ∀ c, o.op ≠ .defer c := fun c hc => by
      simp only [noDefer, List.all_cons, hc, Bool.false_and] at hn
      cases hn
    have hn2 : noDefer rest = true := by
      simp only [noDefer, List.all_cons, Bool.and_eq_true] at hn
      exact hn.2
    unfold wpList at h
    unfold wpListIn
    split at h
    · rename_i hw
      rw [if_pos hw]
      refine ⟨fun f _ => trivial, ?_⟩
      rw [semAt_of _ _ _ hn1]
      have h' : o.upon P a (wpList P ops Q rest) Q ((execOp a.eval o).run P w) := h.resolve_right (fun h => hQ h.2)
      exact upon_round (fun a' w' h'' => wpListIn_round hQ rest hn2 h'') h'
    · rename_i hw
      rw [if_neg hw]
      exact ⟨fun f _ => trivial, wpListIn_round hQ rest hn2 h⟩
theorem WLI_of {P : Program} {N : Nat} {ds : List Deferred} {Q : Post} {l : Env} {w : World} {ops : Array Oper} {os : List Oper} {lp n : Nat} (hn : noDefer os = true) (hQ : ∀ l w, ¬ Q .outgrown l w) (h : WL P N ds ops Q os l w) : WLI (Fence.wide.inRound lp) n P N ds ops Q os l w :=
  fun a ha => wpListIn_round (fun hl => (by obtain ⟨_, w', l', _, h⟩ := hl; exact hQ l' w' h)) os hn (h a ha)
theorem outI {F : Fence} {n : Nat} {P : Program} {N : Nat} {ds : List Deferred} {Q : Post} {Q' : Exit → Act → World → Prop} {l : Env} {w : World} {a : Act} {os : List Oper} {id : Nat} (h : WLI F n P N ds os.toArray Q os l w) (ha : Rep N ds l a)
    (hq : ∀ e l a w, Rep N ds l a → Q e l w → Q' e a w) : (Code.region id os.toArray false).wpIn F n P Q' a w :=
  wpIn_mono (wpIn_region_lit (h a ha)) (fun e a w hx => by obtain ⟨l, hr, hx⟩ := hx; exact hq e l a w hr hx)
theorem below_le {B : Nat} {w0 w w' : World} (h : Below B w0 w) (k : Below w.heap.size w w') (hB : B ≤ w0.heap.size) : Below B w0 w' := below_then h k hB
/-- a function's return, where a range over a function has left its mark -/
theorem retM {P : Program} {n : Nat} {fn : Func} {R : Ending → World → Prop} {N D : Nat} {l : Env} {a : Act} {w : World} (hr : Rep N [{ target := .collected D, args := #[] }] l a) (hD : w.heap[D]? = some (.deferred (some []))) (h : fnPost P fn R .ret l (w.putObj D (.deferred none))) :
    bodyPostM Fence.wide n P fn R .ret a w := by
  obtain ⟨v, h1, h2⟩ := h
  show LeavesInM Fence.wide n P fn a.tmps R a.defers .returning w
  rw [hr.defers]
  exact ⟨by simp, .inl ⟨D, _, rfl, run_takeDeferred hD, v, h1 _ hr.val, h2⟩⟩
end Go.Proofs.YtnijmegalgoipaaGreatDoor
