/- Iterators over a map, and what goes through yield. Addresses as keys of maps. maps.Keys at maps with addresses as keys: the iterator's contract. slices.AppendSeq and Collect at addresses, over whatever iterator. What sha.Cmp computes (over bytes.Compare): walks. slices.SortFunc over rows of my own. More on maps: m[k] op= v, delete, len, a copy. slices.SortedFunc(maps.Keys(m), sha.Cmp): the keys of a map, rising. -/
import Derived.Test.YtnagmpnpgekhfaaDoorMaps
import Derived.Test.YtnagmpnpgekhfaaDoorGen
import Derived.Maps.RangeRun
import Derived.RangeFuncNested
import Derived.RangeFuncCalls
import Derived.RangeFuncLeaves
import Derived.Test.YtnagmpnpgekhfaaDoorSumVal
import Derived.WideKeyRuns
import Derived.Test.YtnagmpnpgekhfaaDoorDefer
import Derived.Test.YtnagmpnpgekhfaaDoorTypes
import Derived.Lib.Bytealg
import Derived.Sort.Grow
import Derived.Shelf.SlSortCmp.NoneTotal
import Derived.Test.YtnagmpnpgekhfaaDoorNetPlain
namespace Go.Proofs.YtnagmpnpgekhfaaDoor
open Go.RowKit
open Go.ChangeMaps (setBlock)
/- ---------- an iterator over a map ---------- -/
structure IterAt {κ ν : Type} [DecidableEq κ] (w : World) (r b : Nat) (enc : κ → Value) (encv : ν → Value) (m : List (κ × ν)) (pre : List κ) : Prop where
  nodup : (m.map (·.1)).Nodup
  mem : ∀ k ∈ pre, k ∈ m.map (·.1)
  pnod : pre.Nodup
  obj : ∃ (ts : List Nat) (clock : Nat) (seen : Array Nat), ts.length = m.length ∧ ts.Nodup ∧ (∀ t ∈ ts, t < clock) ∧ w.heap[b]? = some (.map ((m.zip ts).map fun p => (⟨enc p.1.1, encv p.1.2, p.2⟩ : MapEntry)).toArray clock) ∧
    w.heap[r]? = some (.mapIter (some b) clock seen clock) ∧ ∀ p ∈ m.zip ts, p.2 ∈ seen.toList ↔ p.1.1 ∈ pre
section
variable {κ ν : Type} [DecidableEq κ] {w w' : World} {r b : Nat} {enc : κ → Value} {encv : ν → Value} {m : List (κ × ν)} {pre : List κ} {P : Program}
theorem IterAt.of_walks (h : IterAt w r b enc encv m pre) (hk : KeepsWalks w w') : IterAt w' r b enc encv m pre := by
  obtain ⟨ts, clock, seen, h1, h2, h3, h4, h5, h6⟩ := h.obj
  exact ⟨h.nodup, h.mem, h.pnod, ts, clock, seen, h1, h2, h3, hk.same _ _ h4 rfl, hk.same _ _ h5 rfl, h6⟩
theorem IterAt.bel (h : IterAt w r b enc encv m pre) (hb : Below w.heap.size w w') : IterAt w' r b enc encv m pre := by
  obtain ⟨ts, clock, seen, h1, h2, h3, h4, h5, h6⟩ := h.obj
  exact ⟨h.nodup, h.mem, h.pnod, ts, clock, seen, h1, h2, h3, (hb.block _ (Array.getElem?_eq_some_iff.1 h4).1).trans h4, (hb.block _ (Array.getElem?_eq_some_iff.1 h5).1).trans h5, h6⟩
theorem IterAt.lt (h : IterAt w r b enc encv m pre) : r < w.heap.size := by
  obtain ⟨ts, clock, seen, h1, h2, h3, h4, h5, h6⟩ := h.obj
  exact (Array.getElem?_eq_some_iff.1 h5).1
theorem IterAt.walk (h : IterAt w r b enc encv m pre) : ∃ o : Obj, w.heap[r]? = some o ∧ o.isWalk = true := by
  obtain ⟨ts, clock, seen, h1, h2, h3, h4, h5, h6⟩ := h.obj
  exact ⟨_, h5, rfl⟩
omit [DecidableEq κ] in
theorem zip_inj_key {m : List (κ × ν)} {ts : List Nat} (hm : (m.map (·.1)).Nodup) {p q : (κ × ν) × Nat} (hp : p ∈ m.zip ts) (hq : q ∈ m.zip ts) (he : p.1.1 = q.1.1) : p = q := by
  obtain ⟨i, hi, rfl⟩ := List.mem_iff_getElem.1 hp
  obtain ⟨j, hj, rfl⟩ := List.mem_iff_getElem.1 hq
  simp only [List.getElem_zip] at he ⊢
  have hi' : i < m.length := by rw [List.length_zip] at hi; omega
  have hj' : j < m.length := by rw [List.length_zip] at hj; omega
  have : i = j := by
    have := (List.getElem_inj (xs := m.map (·.1)) (h₀ := by simpa using hi') (h₁ := by simpa using hj') hm).1 (by simpa using he)
    exact this
  subst this
  rfl
omit [DecidableEq κ] in
theorem zip_inj_ts {m : List (κ × ν)} {ts : List Nat} (ht : ts.Nodup) {p q : (κ × ν) × Nat} (hp : p ∈ m.zip ts) (hq : q ∈ m.zip ts) (he : p.2 = q.2) : p = q := by
  obtain ⟨i, hi, rfl⟩ := List.mem_iff_getElem.1 hp
  obtain ⟨j, hj, rfl⟩ := List.mem_iff_getElem.1 hq
  simp only [List.getElem_zip] at he ⊢
  have hi' : i < ts.length := by rw [List.length_zip] at hi; omega
  have hj' : j < ts.length := by rw [List.length_zip] at hj; omega
  have : i = j := (List.getElem_inj (xs := ts) (h₀ := hi') (h₁ := hj') ht).1 he
  subst this
  rfl
/-- a step of the iterator -/
theorem IterAt.next (h : IterAt w r b enc encv m pre) (ty : TypeId) :
    (pre.Perm (m.map (·.1)) ∧ (Instr.next (.pointer (some ⟨r, 0, none⟩)) false ty).run P w = .ok (.tuple #[.bool false]) w) ∨
    ∃ k v w', k ∉ pre ∧ (k, v) ∈ m ∧ (Instr.next (.pointer (some ⟨r, 0, none⟩)) false ty).run P w = .ok (.tuple #[.bool true, enc k, encv v]) w' ∧
      (Instr.entry (.pointer (some ⟨r, 0, none⟩))).run P w' = .ok (.tuple #[enc k, encv v]) w' ∧ IterAt w' r b enc encv m (pre ++ [k]) ∧ Chg (fun q => q = r) w w' := by
  obtain ⟨ts, clock, seen, h1, h2, h3, h4, h5, h6⟩ := h.obj
  have hbr : b ≠ r := by rintro rfl; rw [h4] at h5; cases h5
  have hold : ∀ x ∈ (((m.zip ts).map fun p => (⟨enc p.1.1, encv p.1.2, p.2⟩ : MapEntry)).toArray).toList, x.born < clock := by
    intro x hx
    simp only [List.mem_map] at hx
    obtain ⟨p, hp, rfl⟩ := hx
    exact h3 _ (List.of_mem_zip hp).2
  rcases run_next_at (P := P) w ty r b clock clock seen _ clock h5 h4 hold (Nat.le_refl _) with ⟨h0, hr⟩ | ⟨e, he, w1, hw1, hr⟩
  · left
    refine ⟨?_, hr⟩
    have hall : ∀ p ∈ m.zip ts, p.2 ∈ seen.toList := by
      intro p hp
      refine Classical.byContradiction fun hn => ?_
      have : leftOf ((m.zip ts).map fun p => (⟨enc p.1.1, encv p.1.2, p.2⟩ : MapEntry)).toArray seen ≠ #[] := by
        intro hz
        have hmem : (⟨enc p.1.1, encv p.1.2, p.2⟩ : MapEntry) ∈ leftOf ((m.zip ts).map fun p => (⟨enc p.1.1, encv p.1.2, p.2⟩ : MapEntry)).toArray seen := by
          unfold leftOf
          rw [Array.mem_filter]
          refine ⟨?_, ?_⟩
          · simp only [List.mem_toArray, List.mem_map]
            exact ⟨p, hp, rfl⟩
          · simpa using hn
        rw [hz] at hmem
        simp at hmem
      exact this (Array.eq_empty_of_size_eq_zero h0)
    refine (List.perm_ext_iff_of_nodup h.pnod h.nodup).2 fun k => ⟨h.mem k, fun hk => ?_⟩
    obtain ⟨q, hq, rfl⟩ := List.mem_map.1 hk
    obtain ⟨i, hi, rfl⟩ := List.mem_iff_getElem.1 hq
    have hz : (m[i], ts[i]'(by omega)) ∈ m.zip ts := by
      rw [List.mem_iff_getElem]
      exact ⟨i, by rw [List.length_zip]; omega, by simp⟩
    exact (h6 _ hz).1 (hall _ hz)
  · right
    have he' : e ∈ ((m.zip ts).map fun p => (⟨enc p.1.1, encv p.1.2, p.2⟩ : MapEntry)) ∧ e.born ∉ seen.toList := by
      have := he
      unfold leftOf at this
      rw [Array.toList_filter, List.mem_filter] at this
      refine ⟨by simpa using this.1, ?_⟩
      have h2 := this.2
      simpa using h2
    obtain ⟨p, hp, rfl⟩ := List.mem_map.1 he'.1
    have hns := he'.2
    simp only at hns hr
    have hkp : p.1.1 ∉ pre := fun hk => hns ((h6 p hp).2 hk)
    have hz := List.of_mem_zip hp
    have hs1 : w1.heap = w.heap := by rcases hw1 with rfl | rfl <;> rfl
    have hsz : r < w1.heap.size := by rw [hs1]; exact (Array.getElem?_eq_some_iff.1 h5).1
    have hr' : (setBlock w1 r (.mapIter (some b) clock (seen.push p.2) clock)).heap[r]? = some (.mapIter (some b) clock (seen.push p.2) clock) := by
      simp [setBlock, hsz]
    have hb' : (setBlock w1 r (.mapIter (some b) clock (seen.push p.2) clock)).heap[b]? = some (.map ((m.zip ts).map fun p => (⟨enc p.1.1, encv p.1.2, p.2⟩ : MapEntry)).toArray clock) := by
      show (w1.heap.setIfInBounds r _)[b]? = _
      rw [Array.getElem?_setIfInBounds, if_neg (fun e => hbr e.symm), hs1]
      exact h4
    refine ⟨p.1.1, p.1.2, _, hkp, hz.1, hr, ?_, ⟨h.nodup, ?_, ?_, ts, clock, seen.push p.2, h1, h2, h3, hb', hr', ?_⟩, ?_⟩
    · refine run_entry_at (P := P) _ r b clock seen _ clock ⟨enc p.1.1, encv p.1.2, p.2⟩ hr' hb' (by simpa using he'.1) ?_
      simp only [List.map_map]
      have : (m.zip ts).map ((fun x => x.born) ∘ fun p => (⟨enc p.1.1, encv p.1.2, p.2⟩ : MapEntry)) = ts := by
        rw [show ((fun x => x.born) ∘ fun p => (⟨enc p.1.1, encv p.1.2, p.2⟩ : MapEntry)) = (Prod.snd : (κ × ν) × Nat → Nat) from rfl]
        exact List.map_snd_zip (by omega)
      rw [this]
      exact h2
    · intro k hk
      rw [List.mem_append, List.mem_singleton] at hk
      rcases hk with hk | rfl
      · exact h.mem k hk
      · exact List.mem_map.2 ⟨p.1, hz.1, rfl⟩
    · rw [List.nodup_append]
      exact ⟨h.pnod, by simp, fun a ha c hc => by simp at hc; subst hc; rintro rfl; exact hkp ha⟩
    · intro q hq
      rw [Array.toList_push, List.mem_append, List.mem_append, List.mem_singleton, List.mem_singleton, h6 q hq]
      constructor
      · rintro (h7 | h7)
        · exact .inl h7
        · exact .inr (by rw [zip_inj_ts h2 hq hp h7])
      · rintro (h7 | h7)
        · exact .inl h7
        · exact .inr (by rw [zip_inj_key h.nodup hq hp h7])
    · have hc0 : Chg (fun q => q = r) w w1 := by rcases hw1 with rfl | rfl; exact Chg.refl _ _; exact (Chg.refl _ w).drew
      exact hc0.next (chgSet w1 r _) (fun i hi => .inl hi)
theorem MapAt.iter (h : MapAt w b enc encv m) (t : TypeId) {kt e : TypeId} (ht : P.underlying t = some (.map kt e)) :
    ∃ w', (Instr.range t (.map (some b))).run P w = .ok (.pointer (some ⟨w.heap.size, 0, none⟩)) w' ∧ IterAt w' w.heap.size b enc encv m [] ∧ Below w.heap.size w w' := by
  obtain ⟨ts, clock, h1, h2, h3, h4⟩ := h.obj
  have hb : Below w.heap.size w (w.alloc (.mapIter (some b) clock #[] clock)) := (Below.refl _ _).alloc (Nat.le_refl _) _
  refine ⟨w.alloc (.mapIter (some b) clock #[] clock), ?_, ⟨h.nodup, fun k hk => by simp at hk, by simp, ts, clock, #[], h1, h2.imp (fun h => Nat.ne_of_lt h), h3, (hb.block b h.lt).trans h4, World.alloc_heap_new w _, fun p _ => by simp⟩, hb⟩
  unfold Instr.range
  simp only [Sem.run_bind, run_underlying ht, Result.andThen_ok, getMap h4, Sem.run_pure, newObj, World.alloc]
  rfl
theorem IterAt.more {k : κ} (h : IterAt w r b enc encv m (pre ++ [k])) : pre.length < m.length := by
  have := List.Nodup.length_le_of_subset h.pnod (fun a ha => h.mem a ha)
  rw [List.length_append, List.length_map] at this
  simp at this
  omega
end
/- ---------- worlds ---------- -/
theorem grown_of_bel {w w' : World} (h : Below w.heap.size w w') : w.grownBy w' none := ⟨h.os, h.tape, h.output, h.size, fun k hk _ => h.block k hk⟩
theorem grown_of_chg {w w' : World} {r : Nat} (h : Chg (fun q => q = r) w w') : w.grownBy w' (some r) := ⟨h.os, h.tape, h.output, h.size, fun k hk hn => h.block k hk (fun e => hn (by rw [e]))⟩
theorem chg_of_grown {w w' : World} {row : Option Nat} (h : w.grownBy w' row) : Chg (fun k => row = some k) w w' := ⟨h.os, h.tape, h.output, h.size, fun k hk hn => h.block k hk (fun e => hn e.symm)⟩
/-- what changed held cells -/
def OnCells (S : Nat → Prop) (w : World) : Prop := ∀ k o, S k → w.heap[k]? = some o → o.isCells = true
theorem keepsWalks_of {S : Nat → Prop} {w w' : World} (h : Chg S w w') (hs : OnCells S w) : KeepsWalks w w' :=
  ⟨h.size, fun k o hk ho => (h.block k (Array.getElem?_eq_some_iff.1 hk).1 (fun e => by have := hs k o e hk; cases o <;> simp [Obj.isWalk, Obj.isCells] at ho this)).trans hk⟩
theorem keepsFrom_of {S : Nat → Prop} {w w' : World} (h : Chg S w w') (hs : OnCells S w) (B : Nat) : KeepsFrom B w w' :=
  ⟨h.size, fun k o _ hk ho => (h.block k (Array.getElem?_eq_some_iff.1 hk).1 (fun e => by have := hs k o e hk; rw [ho] at this; cases this)).trans hk⟩
theorem Blk.onCells {w : World} {g : Nat} {t : TypeId} {cs : Array Value} (h : Blk w g t cs) : OnCells (fun k => k = g) w := fun k o hk ho => by
  subst hk
  have h : w.heap[k]? = some (.cells cs t) := h
  rw [ho] at h
  injection h with h
  subst h
  rfl
theorem Row.onCells {w : World} {e : TypeId} {size n : Nat} {v : Value} {xs : List Value} (h : Row w e size v n xs) : OnCells (fun k => v.ownBlock = some k) w := fun k o hk ho => by
  rcases h.2 with ⟨rfl, _⟩ | ⟨g, off, cap, cur, fz, rfl, hg, _⟩
  · simp [Value.ownBlock] at hk
  · simp [Value.ownBlock] at hk
    subst hk
    rw [ho] at hg
    injection hg with hg
    subst hg
    rfl
/-- rows and blocks of cells abide what is no cells -/
theorem Row.grown {w w' : World} {e : TypeId} {size n : Nat} {v : Value} {xs : List Value} (h : Row w e size v n xs) {row : Option Nat} (hg : w.grownBy w' row) (hr : ∀ r, row = some r → ∃ o : Obj, w.heap[r]? = some o ∧ o.isCells = false) : Row w' e size v n xs :=
  h.chg (chg_of_grown hg) (fun k hk e => by
    obtain ⟨o, ho, hn⟩ := hr k e
    have := h.onCells k o hk ho
    rw [hn] at this
    cases this)
theorem Blk.grown {w w' : World} {g : Nat} {t : TypeId} {cs : Array Value} (h : Blk w g t cs) {row : Option Nat} (hg : w.grownBy w' row) (hr : ∀ r, row = some r → ∃ o : Obj, w.heap[r]? = some o ∧ o.isCells = false) : Blk w' g t cs :=
  h.chg (chg_of_grown hg) (fun e => by
    obtain ⟨o, ho, hn⟩ := hr g e
    have := h.onCells g o rfl ho
    rw [hn] at this
    cases this)
/- ---------- regions within a fence ---------- -/
def WLI (F : Fence) (n : Nat) (P : Program) (N : Nat) (ds : List Deferred) (ops : Array Oper) (Q : Post) (os : List Oper) (l : Env) (w : World) : Prop := ∀ a, Rep N ds l a → wpListIn F n P ops (lift N ds Q) os a w
section
variable {F : Fence} {n : Nat} {P : Program} {N : Nat} {ds : List Deferred} {Q : Post} {l : Env} {w w' : World} {ops : Array Oper} {rest : List Oper} {op : Op} {ty : TypeId} {pos : String} {aft : Array Edge} {d : Nat} {v : Value} {id : Nat}
def Wide (F : Fence) : Prop := ∀ f, F.fn f
theorem semAt_of (ro : Option Nat) (ρ : Operand → Value) (o : Oper) (h : ∀ c, o.op ≠ .defer c) : Oper.semAt ro ρ o = execOp ρ o := by
  cases ro with
  | none => rfl
  | some l => exact Oper.semAt_some l ρ o h
theorem WIn (h : Q .normal l w) : WLI F n P N ds ops Q [] l w := fun _ ha => ⟨_, ha, h⟩
theorem stI (hF : Wide F) (hop : ∀ c, op ≠ .defer c) (hx : X P l op ty w v w') (hd : Nat.blt d N = true) (h : WLI F n P N ds ops Q rest ((d, v) :: l) w') : WLI F n P N ds ops Q (⟨some d, op, ty, pos, aft, none⟩ :: rest) l w := by
  intro a ha
  refine wpListIn_plain rfl fun K hK => ⟨fun f _ => hF f, ?_⟩
  rw [semAt_of _ _ _ hop]
  have : (execOp a.eval ⟨some d, op, ty, pos, aft, none⟩).run P w = .ok (.value v) w' := hx _ ha.knows
  rw [this]
  exact hK _ _ (h _ (ha.put hd v))
theorem ssI (hF : Wide F) (hop : ∀ c, op ≠ .defer c) (hx : Xs P l op ty w w') (h : WLI F n P N ds ops Q rest l w') : WLI F n P N ds ops Q (⟨none, op, ty, pos, aft, none⟩ :: rest) l w := by
  intro a ha
  refine wpListIn_plain rfl fun K hK => ⟨fun f _ => hF f, ?_⟩
  rw [semAt_of _ _ _ hop]
  have : (execOp a.eval ⟨none, op, ty, pos, aft, none⟩).run P w = .ok .skip w' := hx _ ha.knows
  rw [this]
  exact hK _ _ (h _ ha)
theorem W_regI {os : List Oper} (h : WLI Fence.wide n P N ds os.toArray Q os l w) : W P N ds Q (.region id os.toArray false) l w := fun a ha => wpIn_wide.1 (wpIn_region_lit (h a ha))
/-- a call of yield -/
theorem syield {x : Operand} {args : List Operand} {ats : Array TypeId} {lp : Nat} (vs : List Value) (hF : Wide F) (hdp : F.depth.isSome = false) (hx : ev l x = some (.func (.yield lp) #[] #[])) (hvs : evs l args = some vs) (hd : Nat.blt d N = true)
    (hy : YieldAt F (n - 1) P lp vs.toArray w fun e w' => match e with | .returned v => WLI F n P N ds ops Q rest ((d, v) :: l) w' | _ => False) :
    WLI F n P N ds ops Q (⟨some d, .call { callee := .value x, args := args.toArray, argTypes := ats }, ty, pos, aft, none⟩ :: rest) l w := by
  intro a ha
  refine wpListIn_plain rfl fun K hK => ⟨fun f _ => hF f, ?_⟩
  rw [semAt_of _ _ _ (fun c h => by cases h)]
  have hx' := ha.knows _ _ hx
  have hvs' := evs_map ha.knows hvs
  have e1 : List.map (fun x => a.eval x) args = vs := hvs'
  obtain ⟨fn, tmps, assign, body, hr, hR⟩ := hy
  have e2 : (execOp a.eval ⟨some d, .call { callee := .value x, args := args.toArray, argTypes := ats }, ty, pos, aft, none⟩).run P w = .ok (.round lp fn tmps assign body) w := by
    unfold execOp
    simp only [resolve, invoke, hx']
    simp [Deferred.ofValue, e1, hr]
  rw [e2, Oper.uponIn_round]
  refine ⟨fun h => (by rw [hdp] at h; cases h), RoundIn.mono hR (fun e w' h => ?_)⟩
  cases e with
  | returned v => exact hK _ _ (h _ (ha.put hd v))
  | panicked c => exact h.elim
  | outgrown => exact h.elim
end
/- ---------- a plain walk of a region, within a round ---------- -/
def noDefer (os : List Oper) : Bool := os.all fun o => match o.op with | .defer _ => false | _ => true
theorem upon_round {P : Program} {o : Oper} {a : Act} {next next' : Act → World → Prop} {Q : Exit → Act → World → Prop} {lp n : Nat} (hx : ∀ a w, next a w → next' a w) : ∀ {r : Result Next}, o.upon P a next Q r → o.uponIn (Fence.wide.inRound lp) n P a next' Q r
  | .ok (.value _) _, h => hx _ _ h
  | .ok .skip _, h => hx _ _ h
  | .ok (.defer _) _, h => hx _ _ h
  | .ok (.enter _ _) _, h => ⟨fun h => (by cases h), CallsIn.inRound lp (callsIn_wide.2 (Calls.mono h (fun e w h => by cases e with | returned v => exact hx _ _ h | panicked c => exact h | outgrown => exact h)))⟩
  | .ok (.row _ _) _, h => ⟨fun h => (by cases h), fun c cs _ => (let ⟨v, w', r, s⟩ := h c cs; ⟨v, w', hx _ _ r, stepsIn_wide.2 s⟩)⟩
  | .ok (.round ..) _, h => h.elim
  | .halt (.panic _) _, h => h
theorem wpListIn_round {P : Program} {ops : Array Oper} {Q : Exit → Act → World → Prop} {lp n : Nat} (hQ : ¬ LetsOut Q) : ∀ (os : List Oper) {a : Act} {w : World}, noDefer os = true → wpList P ops Q os a w → wpListIn (Fence.wide.inRound lp) n P ops Q os a w
  | [], _, _, _, h => h
  | o :: rest, a, w, hn, h => by
    have hn1 : ∀ c, o.op ≠ .defer c := fun c hc => by
      simp only [noDefer, List.all_cons, hc, Bool.false_and] at hn
      cases hn
    have hn2 : noDefer rest = true := by
      simp only [noDefer, List.all_cons, Bool.and_eq_true] at hn
      exact hn.2
    unfold wpList at h
    unfold wpListIn
    split at h
    · rename_i hw
      rw [if_pos hw]
      refine ⟨fun f _ => trivial, ?_⟩
      rw [semAt_of _ _ _ hn1]
      have h' : o.upon P a (wpList P ops Q rest) Q ((execOp a.eval o).run P w) := h.resolve_right (fun h => hQ h.2)
      exact upon_round (fun a' w' h'' => wpListIn_round hQ rest hn2 h'') h'
    · rename_i hw
      rw [if_neg hw]
      exact ⟨fun f _ => trivial, wpListIn_round hQ rest hn2 h⟩
theorem WLI_of {P : Program} {N : Nat} {ds : List Deferred} {Q : Post} {l : Env} {w : World} {ops : Array Oper} {os : List Oper} {lp n : Nat} (hn : noDefer os = true) (hQ : ∀ l w, ¬ Q .outgrown l w) (h : WL P N ds ops Q os l w) : WLI (Fence.wide.inRound lp) n P N ds ops Q os l w :=
  fun a ha => wpListIn_round (fun hl => (by obtain ⟨_, w', l', _, h⟩ := hl; exact hQ l' w' h)) os hn (h a ha)
theorem outI {F : Fence} {n : Nat} {P : Program} {N : Nat} {ds : List Deferred} {Q : Post} {Q' : Exit → Act → World → Prop} {l : Env} {w : World} {a : Act} {os : List Oper} {id : Nat} (h : WLI F n P N ds os.toArray Q os l w) (ha : Rep N ds l a)
    (hq : ∀ e l a w, Rep N ds l a → Q e l w → Q' e a w) : (Code.region id os.toArray false).wpIn F n P Q' a w :=
  wpIn_mono (wpIn_region_lit (h a ha)) (fun e a w hx => by obtain ⟨l, hr, hx⟩ := hx; exact hq e l a w hr hx)
theorem below_le {B : Nat} {w0 w w' : World} (h : Below B w0 w) (k : Below w.heap.size w w') (hB : B ≤ w0.heap.size) : Below B w0 w' := below_then h k hB
/-- a function's return, where a range over a function has left its mark -/
theorem retM {P : Program} {n : Nat} {fn : Func} {R : Ending → World → Prop} {N D : Nat} {l : Env} {a : Act} {w : World} (hr : Rep N [{ target := .collected D, args := #[] }] l a) (hD : w.heap[D]? = some (.deferred (some []))) (h : fnPost P fn R .ret l (w.putObj D (.deferred none))) :
    bodyPostM Fence.wide n P fn R .ret a w := by
  obtain ⟨v, h1, h2⟩ := h
  show LeavesInM Fence.wide n P fn a.tmps R a.defers .returning w
  rw [hr.defers]
  exact ⟨by simp, .inl ⟨D, _, rfl, run_takeDeferred hD, v, h1 _ hr.val, h2⟩⟩
end Go.Proofs.YtnagmpnpgekhfaaDoor
namespace Go.Proofs.YtnagmpnpgekhfaaDoor
open Go.RowKit
abbrev Sum32 : Type := { l : List UInt8 // l.length = 32 }
def encSum (k : Sum32) : Value := .agg (k.1.map bv).toArray
def encInt (n : Int) : Value := .int .i64 n
theorem part_byte (k : Sum32) (i : Nat) (h : i < 32) (w : World) : (part 5 (k.1.map bv).toArray i).run Tryd.prog w = .ok (.int .u8 (k.1.getD i 0).toNat) w := run_part_byte k.1 i (by rw [k.2]; exact h) w
theorem run_forIn_unit {P : Program} {w : World} (f : Nat → PUnit → Sem (ForInStep PUnit)) : ∀ l : List Nat, (∀ i ∈ l, (f i PUnit.unit).run P w = .ok (.yield PUnit.unit) w) → (forIn l PUnit.unit f).run P w = .ok PUnit.unit w
  | [], _ => by simp
  | i :: l, h => by
    have ih := run_forIn_unit f l (fun j hj => h j (by simp [hj]))
    simp only [List.forIn_cons, Sem.run_bind, h i (by simp), Result.andThen_ok]
    exact ih
theorem check_byte (b : Bool) (n : Nat) (m : Int) (w : World) : (Instr.checkKey b (n + 1) 5 (.int .u8 m)).run Tryd.prog w = .ok () w := by
  rw [Instr.checkKey]
  simp [run_underlying Tryd.underlying5]
theorem check_sum (b : Bool) (k : Sum32) (w : World) : (Instr.checkKey b 10000 53 (encSum k)).run Tryd.prog w = .ok () w := by
  obtain ⟨i0, hi, hz0, hz1, hz2⟩ := info_parts info_u8'
  rw [Instr.checkKey]
  simp only [Sem.run_bind, run_underlying Tryd.underlying53, Result.andThen_ok, encSum]
  simp only [Std.Legacy.Range.forIn_eq_forIn_range', Std.Legacy.Range.size, Nat.sub_zero, Nat.add_one_sub_one, Nat.div_one]
  rw [run_forIn_unit]
  · rfl
  intro i hi2
  have hi3 : i < 32 := by simp at hi2; omega
  simp only [Sem.run_bind, run_sizeOf _ hi, Result.andThen_ok, cells_u8, Nat.mul_one, part_byte k i hi3 w, check_byte, Sem.run_pure]
theorem eq_sum (k q : Sum32) (w : World) : (Op.equal 53 (encSum k) (encSum q)).run Tryd.prog w = .ok (decide (k = q)) w := by
  obtain ⟨i0, hi, hz0, hz1, hz2⟩ := info_parts info_u8'
  have := run_equalIn_array (P := Tryd.prog) w 9999 (k.1.map bv).toArray (q.1.map bv).toArray Tryd.underlying53 hi
  rw [cells_u8, run_eqItems_bytes 9998 k.1 q.1 w (List.range 32) (fun i h => by simp at h; rw [k.2, q.2]; omega), all_getD k.1 q.1 32 k.2 q.2] at this
  have e : decide (k = q) = (k.1 == q.1) := by rw [Bool.eq_iff_iff, decide_eq_true_eq, beq_iff_eq, Subtype.ext_iff]
  rw [e]
  exact this
theorem keySum : KeyLaw Tryd.prog 53 encSum where
  check := check_sum
  find k ks w := by
    rw [run_findKey_eq w (by rw [Tryd.underlying53])]
    have key : ∀ (ks : List (Sum32 × Value × Nat)) (j : Nat), (Instr.findAsking 53 (encSum k) (ks.map fun p => (⟨encSum p.1, p.2.1, p.2.2⟩ : MapEntry)) j).run Tryd.prog w = .ok ((ks.findIdx? fun p => decide (k = p.1)).bind fun i => (ks[i]?).map fun p => (i + j, p.2.1)) w := by
      intro ks
      induction ks with
      | nil => intro j; simp [Instr.findAsking]
      | cons p ks ih =>
        intro j
        simp only [List.map_cons, Instr.findAsking, Sem.run_bind, eq_sum, Result.andThen_ok, List.findIdx?_cons]
        by_cases h : k = p.1
        · simp [h]
        · have hd : decide (k = p.1) = false := decide_eq_false h
          simp only [hd, Bool.false_eq_true, if_false, ih (j + 1)]
          cases ks.findIdx? fun p => decide (k = p.1) with
          | none => rfl
          | some i =>
            simp only [Option.map_some, Option.bind_some, List.getElem?_cons_succ]
            rw [show i + 1 + j = i + (j + 1) by omega]
    exact key ks 0
  same k := by
    unfold encSum
    rw [Instr.sameBits]
    simp only [beq_self_eq_true, Bool.true_and, List.all_eq_true]
    intro p hp
    obtain ⟨x, y⟩ := p
    have hxy : x = y := by
      obtain ⟨i, hi, he⟩ := List.mem_iff_getElem.1 hp
      simp only [List.getElem_zip, Prod.mk.injEq] at he
      rw [← he.1, ← he.2]
    subst hxy
    have hm := (List.of_mem_zip hp).1
    simp only [List.mem_map] at hm
    obtain ⟨u, _, rfl⟩ := hm
    simp [Instr.sameBits, bv]
end Go.Proofs.YtnagmpnpgekhfaaDoor
namespace Go.Proofs.YtnagmpnpgekhfaaDoor
open Go.RowKit
theorem encSum_size (k : Sum32) : (k.1.map bv).toArray.size = 32 := by have := k.2; simp [this]
theorem wideT : Wide Fence.wide := fun _ => trivial
set_option maxRecDepth 10000 in
theorem keys_closure (n : Nat) (w : World) (gB b : Nat) (m : List (Sum32 × Int)) (hB : Blk w gB 108 #[.map (some b)]) (hM : MapAt w b encSum encInt m) :
    SeqStopsK Fence.wide n Tryd.prog 61 #[.pointer (some ⟨gB, 0, none⟩)] (fun k : Sum32 => #[encSum k]) KeepsWalks (fun xs => xs.Perm (m.map (·.1))) (fun _ => True) m.length w := by
  intro lp J Jx W hW hJ hJx hY h0
  replace hB : Blk W gB 108 #[.map (some b)] := hB.bel hW
  replace hM : MapAt W b encSum encInt m := hM.bel hW
  have hgB := hB.lt
  refine callsIn_wide.2 ?_
  refine W_enter (args := [.func (.yield lp) #[] #[], .pointer (some ⟨gB, 0, none⟩)]) 14 Tryd.func61 rfl rfl rfl ?_
  refine W_sub [(0, .func (.yield lp) #[] #[]), (1, .pointer (some ⟨gB, 0, none⟩))] ?_ ⟨rfl, rfl, trivial⟩
  refine W_rs ?_
  refine st (X.ldL rfl hB Tryd.underlying108 rfl rfl) rfl ?_
  obtain ⟨w1, hr1, hI1, hb1⟩ := hM.iter (P := Tryd.prog) 108 Tryd.underlying108
  refine st (w' := w1) (v := .pointer (some ⟨W.heap.size, 0, none⟩)) (fun ρ hρ => by unfold execOp; simp only [hρ (.tmp 4) _ rfl, Sem.run_bind, hr1, Result.andThen_ok, Sem.run_pure]) rfl ?_
  refine Wn (tN ?_)
  have hJ1 : J [] w1 := hJ [] W w1 none h0 (grown_of_bel hb1) (fun r e => by cases e)
  refine W_block ?_
  have hz := hb1.size
  clear h0 hB hM hr1
  refine W_lp (fun n' l' w' => ∃ pre : List Sum32, n' = m.length - pre.length ∧ l' = ([(0, .func (.yield lp) #[] #[]), (5, .pointer (some ⟨W.heap.size, 0, none⟩))] : Env) ∧ IterAt w' W.heap.size b encSum encInt m pre ∧ J pre w') _ ⟨_, ⟨[], rfl, rfl, hI1, hJ1⟩, ⟨rfl, rfl, trivial⟩⟩ ?_
  clear hI1 hJ1 hb1 hz w1
  rintro n' l' w1 ⟨pre, rfl, rfl, hI, hJ1⟩
  refine W_rs ?_
  rcases hI.next (P := Tryd.prog) 0 with ⟨hperm, hr⟩ | ⟨k, v, w2, hk, hkv, hr, hent, hI2, hC⟩
  · refine st (w' := w1) (v := .tuple #[.bool false]) (fun ρ hρ => by unfold execOp; simp only [hρ (.tmp 5) _ rfl, Sem.run_bind, hr, Result.andThen_ok, Sem.run_pure]) rfl ?_
    refine st (X.ext rfl rfl) rfl ?_
    refine Wn (tN ?_)
    refine W_seq ?_
    refine W_no rfl rfl ?_
    refine W_exit (tE (tE (bH ?_)))
    exact (r0 rfl ⟨⟨_, rfl⟩, .inl ⟨pre, hperm, hJ1⟩⟩).2
  · refine st (w' := w2) (v := .tuple #[.bool true, encSum k, encInt v]) (fun ρ hρ => by unfold execOp; simp only [hρ (.tmp 5) _ rfl, Sem.run_bind, hr, Result.andThen_ok, Sem.run_pure]) rfl ?_
    refine st (X.ext rfl rfl) rfl ?_
    refine Wn (tN ?_)
    refine W_seq ?_
    refine W_yes rfl rfl ?_
    refine W_skip (tN ?_)
    refine W_block ?_
    refine W_seq ?_
    refine W_reg ?_
    have hJ2 : J pre w2 := hJ pre w1 w2 (some W.heap.size) hJ1 (grown_of_chg hC) (fun r e => by cases e; exact ⟨Nat.le_refl _, hI.walk⟩)
    refine st (w' := w2) (v := .tuple #[encSum k, encInt v]) (fun ρ hρ => by unfold execOp; simp only [hρ (.tmp 5) _ rfl, Sem.run_bind, hent, Result.andThen_ok, Sem.run_pure]) rfl ?_
    refine st (X.ext rfl rfl) rfl ?_
    refine salA inf53 rfl (fun g3 w3 hB3 hg3 hb hl3 => ?_)
    refine ssBN rfl rfl hB3 (by rw [encSum_size k]; exact siz53) (by rw [encSum_size k]; rfl) (by simp [bv, Value.oneCell']) (fun w4 hB4 hc => ?_)
    have hb4 : Below w2.heap.size w2 w4 := bset hb hc (by omega)
    have hI4 := hI2.bel hb4
    have hJ4 : J pre w4 := hJ pre w2 w4 none hJ2 (grown_of_bel hb4) (fun r e => by cases e)
    refine Wn (tN ?_)
    refine W_seq ?_
    refine W_regI (n := n) ?_
    refine stI wideT (fun c h => by cases h) (X.move rfl) rfl ?_
    refine stI wideT (fun c h => by cases h) (X.ldBN rfl hB4 Tryd.underlying53 rfl (by rw [encSum_size k]; exact siz53)) rfl ?_
    refine syield [encSum k] wideT rfl rfl rfl rfl ?_
    obtain ⟨fn, tmps, assign, body, hy, hR⟩ := hY pre k w4 hJ4 hI2.more
    refine ⟨fn, tmps, assign, body, hy, RoundIn.mono hR (fun e w5 h => ?_)⟩
    rcases h with ⟨rfl, hJ5, hk5⟩ | ⟨rfl, hJx5⟩
    · refine stI wideT (fun c h => by cases h) (X.not rfl) rfl ?_
      refine WIn (tN ?_)
      refine W_no rfl rfl ?_
      refine W_skip (bN ?_)
      refine tN ⟨_, _, ?_, ⟨pre ++ [k], rfl, rfl, hI4.of_walks hk5, hJ5⟩, ⟨rfl, rfl, trivial⟩⟩
      have := hI2.more
      rw [List.length_append, List.length_singleton]
      omega
    · refine stI wideT (fun c h => by cases h) (X.not rfl) rfl ?_
      refine WIn (tN ?_)
      refine W_yes rfl rfl ?_
      refine W_ret (bR (tR (bR ?_)))
      exact (r0 rfl ⟨⟨_, rfl⟩, .inr ⟨_, trivial, hJx5⟩⟩).1
end Go.Proofs.YtnagmpnpgekhfaaDoor
namespace Go.Proofs.YtnagmpnpgekhfaaDoor
open Go.RowKit
/-- addresses in a row -/
def sumCells (l : List Sum32) : List Value := l.flatMap fun k => k.1.map bv
theorem sumCells_snoc (l : List Sum32) (k : Sum32) : sumCells (l ++ [k]) = sumCells l ++ k.1.map bv := by simp [sumCells]
structure Acc (w : World) (gS : Nat) (pre : List Sum32) (W : World) : Prop where
  box : ∃ v, Blk W gS 119 #[v] ∧ Row W 53 32 v pre.length (sumCells pre) ∧ (∀ k, v.ownBlock = some k → w.heap.size ≤ k)
  below : Below w.heap.size w W
theorem Acc.own (w : World) (gS B : Nat) (hB : w.heap.size ≤ B) : OwnFrom B (fun pre W => Acc w gS pre W) := fun pre W W' row h hg hr => by
  obtain ⟨v, h1, h2, h3⟩ := h.box
  exact ⟨⟨v, h1.grown hg (fun r e => (hr r e).2), h2.grown hg (fun r e => (hr r e).2), h3⟩, h.below.grown hg h.below.size (fun k e => Nat.le_trans hB (hr k e).1)⟩
theorem wideR (l : Nat) : Wide (Fence.wide.inRound l) := fun _ => trivial
set_option maxRecDepth 10000 in
theorem AppendSeq_any {S Sp : List Sum32 → Prop} {N : Nat} (gf : Nat) (lb : Array Value) (w : World) (hseq : SeqStopsK Fence.wide 0 Tryd.prog gf lb (fun k : Sum32 => #[encSum k]) KeepsWalks S Sp N w) (hN : N ≤ 1000000) (eg : ∀ args w, (callFunc gf args).run Tryd.prog w = .ok (.enter gf args) w) :
    Calls Tryd.prog 64 #[.slice none 0 0, .func (.func gf) #[] lb] w fun e w' => ∃ v xs, e = .returned v ∧ S xs ∧ Row w' 53 32 v xs.length (sumCells xs) ∧ (∀ k, v.ownBlock = some k → w.heap.size ≤ k) ∧ Below w.heap.size w w' := by
  refine (callsIn_wide (n := 1)).1 (callsIn_of_wp_marks Tryd.func64 rfl trivial (wpIn_wide.2 ?_) rfl)
  refine wp_seq (W_out (N := 13) (ds := []) (l := [(0, .slice none 0 0), (1, .func (.func gf) #[] lb)]) (Q := fun e l w' => e = .normal ∧ ∃ g2, l = [(1, .func (.func gf) #[] lb), (2, .pointer (some ⟨g2, 0, none⟩))] ∧ Blk w' g2 119 #[.slice none 0 0] ∧ w.heap.size ≤ g2 ∧ Below w.heap.size w w') ?_ (by kernel_rfl) rfl ⟨by kernel_rfl, by kernel_rfl, trivial⟩ ?_)
  · refine W_reg ?_
    refine sbox rfl rfl rfl (fun g2 w1 hB2 hg2 hb hl2 => ?_)
    refine sa rfl rfl ?_
    refine WL_sub [(1, .func (.func gf) #[] lb), (2, .pointer (some ⟨g2, 0, none⟩))] ?_ ⟨rfl, rfl, trivial⟩
    exact Wn ⟨rfl, g2, rfl, hB2, hg2, hb⟩
  rintro e l a w1 ha ⟨rfl, g2, rfl, hB2, hg2, hb1⟩
  refine wp_seq (wp_seq (W_out (N := 13) (ds := []) (Q := fun e l w' => e = .normal ∧ l = [(6, .func (.func gf) #[] lb), (2, .pointer (some ⟨g2, 0, none⟩))] ∧ w' = w1) (c := .region _ _ _) (l := [(1, .func (.func gf) #[] lb), (2, .pointer (some ⟨g2, 0, none⟩))]) ?_ ha.size ha.defers ⟨ha.val 1 _ rfl, ha.val 2 _ rfl, trivial⟩ ?_))
  · refine W_reg ?_
    refine sm rfl rfl ?_
    refine WL_sub [(6, .func (.func gf) #[] lb), (2, .pointer (some ⟨g2, 0, none⟩))] ?_ ⟨rfl, rfl, trivial⟩
    exact Wn ⟨rfl, rfl, rfl⟩
  clear ha a
  rintro e l a w1' ha ⟨rfl, rfl, rfl⟩
  have hz1 := hb1.size
  refine wp_block ((wpIn_wide (n := 1)).1 ?_)
  refine wpIn_rangeFunc_ownH rfl (Nat.le_refl 1) (ha.knows (.tmp 6) _ rfl) trivial eg hseq (fun h k => walksK_t h k) (fun W l o o' _ h1 _ h3 => KeepsWalks.putObj o' h1 h3) hb1 (fun _ => rfl)
    (fun pre W => Acc w g2 pre W) (fun _ _ _ => False) (Acc.own w g2 _ hz1) (fun c s W W' row h _ _ => h) ⟨⟨_, hB2, Row.nil _ _ _, fun k hk => by simp [Value.ownBlock] at hk⟩, hb1⟩
    (fun x a' W => ∃ g5, Rep 13 [] [(5, .pointer (some ⟨g5, 0, none⟩)), (2, .pointer (some ⟨g2, 0, none⟩))] a' ∧ Blk W g5 53 (x.1.map bv).toArray)
    (fun x a' _ W W' row h hg hr => by obtain ⟨g5, h1, h2⟩ := h; exact ⟨g5, h1, h2.grown hg (fun r e => (hr r e).2)⟩) ?_ ?_ ?_ (fun D c pre W _ _ h => h.elim)
  · -- the loop's variable is laid
    intro lp pre x W K hI hK
    have ha' : Rep 13 [] [(7, encSum x), (6, .func (.func gf) #[] lb), (2, .pointer (some ⟨g2, 0, none⟩))] { tmps := (#[7].zip #[encSum x]).foldl (fun t (p, v) => t.setIfInBounds p v) a.tmps, defers := [] } := by
      have := ha.put (d := 7) rfl (encSum x)
      have e : ({ tmps := (#[7].zip #[encSum x]).foldl (fun t (p, v) => t.setIfInBounds p v) a.tmps, defers := [] } : Act) = a.put (some 7) (encSum x) := by
        have hd := ha.defers
        cases a
        simp at hd
        subst hd
        simp [Act.put]
      rw [e]
      exact this
    refine outI (Q := fun e l W' => e = .normal ∧ ∃ g5, l = [(5, .pointer (some ⟨g5, 0, none⟩)), (2, .pointer (some ⟨g2, 0, none⟩))] ∧ Blk W' g5 53 (x.1.map bv).toArray ∧ Below W.heap.size W W') ?_ ha' ?_
    · refine WLI_of rfl (fun l w h => by cases h.1) ?_
      refine salA inf53 rfl (fun g5 w3 hB5 hg5 hb hl5 => ?_)
      refine ssBN rfl rfl hB5 (by rw [encSum_size x]; exact siz53) (by rw [encSum_size x]; rfl) (by simp [bv, Value.oneCell']) (fun w4 hB4 hc => ?_)
      refine WL_sub [(5, .pointer (some ⟨g5, 0, none⟩)), (2, .pointer (some ⟨g2, 0, none⟩))] ?_ ⟨rfl, rfl, trivial⟩
      exact Wn ⟨rfl, g5, rfl, hB4, bset hb hc hg5⟩
    · rintro e l a' W' hr ⟨rfl, g5, rfl, hB5, hb⟩
      have hch : Chg (fun _ => False) W W' := Chg.of_below hb _
      have hoc : OnCells (fun _ => False) W := fun k o h _ => h.elim
      obtain ⟨v, h1, h2, h3⟩ := hI.box
      exact hK a' W' (keepsFrom_of hch hoc _) (keepsWalks_of hch hoc) ⟨⟨v, h1.bel hb, h2.bel hb, h3⟩, bthen hI.below hb⟩ ⟨g5, hr, hB5⟩
  · -- the body
    intro lp pre x a' W _ _ hI ⟨g5, hr, hB5⟩ hlen
    obtain ⟨v, hBs, hRv, hOv⟩ := hI.box
    have hbw := hI.below
    have hgS := hBs.lt
    refine wpIn_block ?_
    refine outI (Q := fun e l W' => e = .normal ∧ KeepsFrom w1'.heap.size W W' ∧ KeepsWalks W W' ∧ Acc w g2 (pre ++ [x]) W') ?_ hr ?_
    · refine WLI_of rfl (fun l w h => by cases h.1) ?_
      refine st (X.ldL rfl hBs Tryd.underlying119 rfl rfl) rfl ?_
      refine st (X.ldBN rfl hB5 Tryd.underlying53 rfl (by rw [encSum_size x]; exact siz53)) rfl ?_
      refine sbs1 rfl Tryd.underlying119 inf53 (by show (x.1.map bv).toArray.size = 32; exact encSum_size x) rfl (by decide) (by decide) rfl (fun g10 w2 hR10 hg10 hb => ?_)
      have hz2 := hb.size
      have k1 := keepsFrom_of (Chg.of_below hb (fun _ => False)) (fun _ _ h _ => h.elim) w1'.heap.size
      have k2 := keepsWalks_of (Chg.of_below hb (fun _ => False)) (fun _ _ h _ => h.elim)
      replace hbw := bthen hbw hb
      replace hBs := hBs.bel hb
      replace hRv := hRv.bel hb
      clear hb hB5
      refine sapp rfl rfl Tryd.underlying119 inf53 rfl (by decide) hRv (hR10.reads.src Tryd.underlying119 (by intro u hu; simp [Value.cells] at hu; obtain ⟨q, _, rfl⟩ := hu; rfl)) (by simp only [maxLen]; omega) (by omega) rfl (fun v' w3 hRv' hC hv' => ?_)
      have k3 := k1.trans (keepsFrom_of hC hRv.onCells _)
      have k4 := k2.trans (keepsWalks_of hC hRv.onCells)
      have hBs' := hBs.chg hC (hRv.ne_ hBs (by decide))
      have hbw' := bapp hbw hC hOv
      have hz3 := hC.size
      refine ssB rfl rfl hBs' siz119 hRv'.one (by simp) (fun w4 hB4 hC4 => ?_)
      have k5 := k3.trans (keepsFrom_of hC4 hBs'.onCells _)
      have k6 := k4.trans (keepsWalks_of hC4 hBs'.onCells)
      have hRv4 := hRv'.chg hC4 (fun k hk e => hRv'.ne_ hBs' (by decide) (by rw [← e]; exact hk))
      refine Wn ⟨rfl, k5, k6, ⟨v', hB4, ?_, own_next hv' hOv (by have := hI.below.size; omega)⟩, bset hbw' hC4 hg2⟩
      rw [List.length_append, List.length_singleton, sumCells_snoc]
      exact hRv4
    · rintro e l a2 W' _ ⟨rfl, h1, h2, h3⟩
      exact ⟨h1, h2, h3⟩
  · -- behind the loop
    intro D xs W hD hS hI hK
    obtain ⟨v, hBs, hRv, hOv⟩ := hI.box
    have hbw := hI.below
    have haD : Rep 13 [{ target := .collected D, args := #[] }] [(2, .pointer (some ⟨g2, 0, none⟩))] { a with defers := { target := .collected D, args := #[] } :: a.defers } := by
      refine ⟨ha.size, by rw [ha.defers], fun t u hu => ha.val t u ?_⟩
      unfold lk at hu
      cases ht : Nat.beq t 2 with
      | true =>
        have e : t = 2 := Nat.eq_of_beq_eq_true ht
        subst e
        exact hu
      | false => rw [ht] at hu; cases hu
    show Code.wp _ _ _ _ _
    refine wp_seq (W_out (N := 13) (ds := [{ target := .collected D, args := #[] }]) (l := [(2, .pointer (some ⟨g2, 0, none⟩))]) (Q := fun e l w' => e = .normal ∧ l = [(4, v)] ∧ w' = W) ?_ haD.size haD.defers ⟨haD.val 2 _ rfl, trivial⟩ ?_)
    · refine W_reg ?_
      refine st (X.ldL rfl hBs Tryd.underlying119 rfl rfl) rfl ?_
      refine sa rfl rfl ?_
      refine WL_sub [(4, v)] ?_ ⟨rfl, trivial⟩
      exact Wn ⟨rfl, rfl, rfl⟩
    · rintro e l a3 W' hr3 ⟨rfl, rfl, rfl⟩
      refine wp_ret ?_
      have hg : W'.grownBy (W'.putObj D (.deferred none)) (some D) := grownBy_putObj' W' D _
      have hrow : ∀ r, some D = some r → ∃ o : Obj, W'.heap[r]? = some o ∧ o.isCells = false := fun r e => by cases e; exact ⟨_, hK, rfl⟩
      refine retM hr3 hK (rT rfl rfl ⟨v, xs, rfl, hS, hRv.grown hg hrow, hOv, ?_⟩).1
      exact hbw.grown hg hbw.size (fun k e => by cases e; omega)
end Go.Proofs.YtnagmpnpgekhfaaDoor
namespace Go.Proofs.YtnagmpnpgekhfaaDoor
open Go.RowKit
theorem run_loadBytes {P : Program} (w : World) : ∀ (l : List UInt8) (g off : Nat) (acc : ByteArray), (∀ j (hj : j < l.length), w.cell? ⟨g, off + j, none⟩ = some (.int .u8 (l[j].toNat : Int))) →
    (Extern.Bytes.loadBytes ⟨g, off, none⟩ l.length acc).run P w = .ok ⟨acc.data ++ l.toArray⟩ w
  | [], g, off, acc, _ => by simp [Extern.Bytes.loadBytes]
  | b :: l, g, off, acc, h => by
    have h0 := h 0 (by simp)
    have ih := run_loadBytes (P := P) w l g (off + 1) (acc.push b) (fun j hj => by
      have := h (j + 1) (by simpa using hj)
      rw [show off + 1 + j = off + (j + 1) from by omega]
      simpa using this)
    simp only [Nat.add_zero, List.getElem_cons_zero] at h0
    simp [Extern.Bytes.loadBytes, h0, Addr.add_lit]
    rw [ih]
    simp [ByteArray.push]
theorem bytealg_run (w : World) (g1 o1 c1 g2 o2 c2 : Nat) (l1 l2 : List UInt8) (h1 : ∀ j (hj : j < l1.length), w.cell? ⟨g1, o1 + j, none⟩ = some (.int .u8 (l1[j].toNat : Int))) (h2 : ∀ j (hj : j < l2.length), w.cell? ⟨g2, o2 + j, none⟩ = some (.int .u8 (l2[j].toNat : Int))) :
    (callFunc 67 #[.slice (some ⟨g1, o1, none⟩) l1.length c1, .slice (some ⟨g2, o2, none⟩) l2.length c2]).run Tryd.prog w = .ok (.value (.int .i64 (Lib.compareBytes l1 l2))) w := by
  rw [run_callFunc_extern Tryd.func67 (by kernel_rfl) (by kernel_rfl) (by kernel_rfl) (e := Extern.BytealgCompare.compare) (by kernel_rfl)]
  have e1 := run_loadBytes (P := Tryd.prog) w l1 g1 o1 .empty h1
  have e2 := run_loadBytes (P := Tryd.prog) w l2 g2 o2 .empty h2
  have e3 : (Extern.BytealgCompare.compare #[.slice (some ⟨g1, o1, none⟩) l1.length c1, .slice (some ⟨g2, o2, none⟩) l2.length c2]).run Tryd.prog w = .ok (.int .i64 (Lib.compareBytes l1 l2)) w := by
    change Sem.run Tryd.prog (do
      let x ← Extern.Bytes.bytesOf (.slice (some ⟨g1, o1, none⟩) l1.length c1)
      let y ← Extern.Bytes.bytesOf (.slice (some ⟨g2, o2, none⟩) l2.length c2)
      pure (goInt (Extern.BytealgCompare.cmp x y))) w = _
    simp only [Extern.Bytes.bytesOf, Sem.run_bind, e1, e2, Result.andThen_ok, Sem.run_pure, Lib.cmp_eq, goInt]
    simp
  rw [e3]
  rfl
/-- -1, 0 or 1 -/
def cmpSum (a b : List UInt8) : Int := Lib.compareBytes a b
/-- new blocks and draws alone -/
def Grows (w w' : World) : Prop := ∃ q os, w' = Sort.grow (w.drewN q) os
theorem Grows.bel {w w' : World} (h : Grows w w') : Below w.heap.size w w' := by
  obtain ⟨q, os, rfl⟩ := h
  refine ⟨rfl, rfl, rfl, ?_, fun k hk => ?_⟩
  · show w.heap.size ≤ (w.heap ++ os).size
    rw [Array.size_append]; omega
  · show (w.heap ++ os)[k]? = _
    rw [Array.getElem?_append_left hk]
theorem Grows.of2 (w : World) (o1 o2 : Obj) (n : Nat) : Grows w (((w.alloc o1).alloc o2).drewN n) := by
  refine ⟨n, #[o1, o2], ?_⟩
  simp only [World.alloc, Sort.grow, World.drewN, Array.push_eq_append, Array.append_assoc]
  rfl
def CmpIs (w : World) (n : Int) (e : Ending) (w' : World) : Prop := e = .returned (.int .i64 n) ∧ Grows w w'
theorem blk_bytes {w : World} {g : Nat} {t : TypeId} {l : List UInt8} (h : Blk w g t (l.map bv).toArray) : ∀ j (hj : j < l.length), w.cell? ⟨g, 0 + j, none⟩ = some (.int .u8 (l[j].toNat : Int)) := fun j hj => by
  rw [Nat.zero_add, h.cell, List.getElem?_toArray, List.getElem?_map, List.getElem?_eq_getElem hj]
  rfl
theorem Grows.refl (w : World) : Grows w w := ⟨0, #[], by simp [World.drewN]⟩
theorem Grows.drew {w w' : World} (h : Grows w w') : Grows w w'.drew := by
  obtain ⟨q, os, rfl⟩ := h
  exact ⟨q + 1, os, rfl⟩
theorem Grows.alloc {w w' : World} (h : Grows w w') (o : Obj) : Grows w (w'.alloc o) := by
  obtain ⟨q, os, rfl⟩ := h
  refine ⟨q, os.push o, ?_⟩
  simp only [World.alloc, Sort.grow, World.drewN, Array.push_eq_append, Array.append_assoc]
theorem X.extn {P : Program} {l : Env} {f : FuncId} {args : List Operand} {ats : Array TypeId} {ty : TypeId} {w w' : World} {v : Value} (vs : List Value) (hvs : evs l args = some vs) (hr : (callFunc f vs.toArray).run P w = .ok (.value v) w') : X P l (.call { callee := .value (.func f), args := args.toArray, argTypes := ats }) ty w v w' := fun ρ hρ => by
  have hvs' := evs_map hρ hvs
  have hfn := hρ (.func f) _ rfl
  unfold execOp
  simp only [resolve, invoke, hfn]
  simp [Deferred.ofValue, hvs', hr]
theorem Compare_any (g1 o1 n1 c1 g2 o2 n2 c2 : Nat) (l1 l2 : List UInt8) (w : World) (hl1 : l1.length = n1) (hl2 : l2.length = n2) (h1 : ∀ j (hj : j < l1.length), w.cell? ⟨g1, o1 + j, none⟩ = some (.int .u8 (l1[j].toNat : Int))) (h2 : ∀ j (hj : j < l2.length), w.cell? ⟨g2, o2 + j, none⟩ = some (.int .u8 (l2[j].toNat : Int))) :
    Calls Tryd.prog 62 #[.slice (some ⟨g1, o1, none⟩) n1 c1, .slice (some ⟨g2, o2, none⟩) n2 c2] w fun e w' => e = .returned (.int .i64 (Lib.compareBytes l1 l2)) ∧ w = w' := by
  subst hl1
  subst hl2
  have hr := bytealg_run w g1 o1 c1 g2 o2 c2 l1 l2 h1 h2
  refine W_enter (args := [.slice (some ⟨g1, o1, none⟩) l1.length c1, .slice (some ⟨g2, o2, none⟩) l2.length c2]) 8 Tryd.func62 rfl rfl rfl ?_
  refine W_sub [(0, .slice (some ⟨g1, o1, none⟩) l1.length c1), (1, .slice (some ⟨g2, o2, none⟩) l2.length c2)] ?_ ⟨rfl, rfl, trivial⟩
  refine W_rs ?_
  refine sa rfl rfl ?_
  refine Wn ?_
  refine tN ?_
  refine W_rs ?_
  refine sm rfl rfl ?_
  refine sm rfl rfl ?_
  refine st (X.extn _ rfl hr) rfl ?_
  refine sa rfl rfl ?_
  refine Wn ?_
  refine tN ?_
  refine W_ret ?_
  exact (rT rfl rfl ⟨rfl, rfl⟩).1
theorem X.boxA {P : Program} {l : Env} {x : Operand} {t ty : TypeId} {w : World} {cs : Array Value} (hx : ev l x = some (.agg cs)) : X P l (.box t x) ty w (.pointer (some ⟨w.heap.size, 0, none⟩)) (w.alloc (.cells cs t)) := fun ρ hρ => by
  unfold execOp
  simp [hρ _ _ hx, Instr.box, newVar, newRow, Value.cells]
set_option maxRecDepth 10000 in
theorem Cmp_any (a b : List UInt8) (ha : a.length = 32) (hb : b.length = 32) (w : World) :
    Calls Tryd.prog 57 #[.agg (a.map bv).toArray, .agg (b.map bv).toArray] w (CmpIs w (cmpSum a b)) := by
  have k0 : Blk ((w.alloc (.cells (a.map bv).toArray 53)).alloc (.cells (b.map bv).toArray 53)) w.heap.size 53 (a.map bv).toArray := (Blk.new w _ _).alloc _
  have k1 : Blk ((w.alloc (.cells (a.map bv).toArray 53)).alloc (.cells (b.map bv).toArray 53)) (w.alloc (.cells (a.map bv).toArray 53)).heap.size 53 (b.map bv).toArray := Blk.new _ _ _
  have hG : Grows w ((w.alloc (.cells (a.map bv).toArray 53)).alloc (.cells (b.map bv).toArray 53)) := ((Grows.refl w).alloc _).alloc _
  refine W_enter (args := [.agg (a.map bv).toArray, .agg (b.map bv).toArray]) 8 Tryd.func57 rfl rfl rfl ?_
  refine W_sub [(0, .agg (a.map bv).toArray), (1, .agg (b.map bv).toArray)] ?_ ⟨rfl, rfl, trivial⟩
  refine W_rs ?_
  refine st (X.boxA rfl) rfl ?_
  refine st (X.boxA rfl) rfl ?_
  refine sa rfl rfl ?_
  refine Wn (tN ?_)
  generalize (w.alloc (.cells (a.map bv).toArray 53)).heap.size = g2 at k1 ⊢
  generalize (w.alloc (.cells (a.map bv).toArray 53)).alloc (.cells (b.map bv).toArray 53) = w2 at k0 k1 hG ⊢
  refine W_drsN (fun _ => True) [0, 1, 2, 3] [true, true, false, true] (by kernel_rfl) (by kernel_rfl) trivial ?_
  refine oY rfl (fun W_ hW_ => X.slArr rfl Tryd.underlying53 siz5) rfl ?_
  refine oY rfl (fun W_ hW_ => X.slArr rfl Tryd.underlying53 siz5) rfl ?_
  refine oL rfl (fun Q_ hQ_ hP_ => ?_)
  refine sc _ Tryd.func62 rfl (by kernel_rfl) rfl rfl ((Compare_any w.heap.size 0 32 32 g2 0 32 32 a b _ ha hb (blk_bytes k0.drew) (blk_bytes k1.drew)).mono ?_)
  rintro e_ w_ ⟨rfl, rfl⟩
  refine cR ?_
  refine Wn (hQ_ _ _ trivial ?_)
  refine oY rfl (fun W_ hW_ => X.assign rfl) rfl ?_
  refine oN ?_
  refine nN ?_
  refine W_ret ?_
  exact (rT rfl rfl ⟨rfl, hG.drew⟩).1
end Go.Proofs.YtnagmpnpgekhfaaDoor
namespace Go.Proofs.YtnagmpnpgekhfaaDoor
open Go.RowKit Go.Sort Go.Lib
section
variable {α : Type} [Inhabited α]
theorem flat_get (enc : α → List Value) (k : Nat) (hk : ∀ x, (enc x).length = k) : ∀ (l : List α) (j : Nat), j < l.length * k → (l.flatMap enc)[j]? = some ((flatK enc k l.toArray)[j]!)
  | l, j, hj => by
    have h0 : 0 < k := by rcases Nat.eq_zero_or_pos k with h | h; subst h; simp at hj; exact h
    have hq : j / k < l.length := Nat.div_lt_of_lt_mul (by rw [Nat.mul_comm]; exact hj)
    have hm : j % k < k := Nat.mod_lt _ h0
    rw [get_flatK enc k l.toArray j (by simpa using hj)]
    have hx : l[j / k]? = some l[j / k] := List.getElem?_eq_getElem hq
    have hf := flat_at enc k l (j / k) l[j / k] (fun a _ => hk a) hx
    have e1 : (l.flatMap enc)[j]? = (((l.flatMap enc).drop (j / k * k)).take k)[j % k]? := by
      rw [List.getElem?_take, if_pos hm, List.getElem?_drop]
      congr 1
      have := Nat.div_add_mod j k
      rw [Nat.mul_comm] at this
      omega
    rw [e1, hf]
    have e2 : l.toArray[j / k]! = l[j / k] := by simp [hq]
    rw [e2, List.getElem?_eq_getElem (by rw [hk]; exact hm)]
    rw [getElem!_pos _ _ (by rw [hk]; exact hm)]
theorem row_holds {w : World} {e : TypeId} {k g o n c : Nat} {enc : α → List Value} (hk : ∀ x, (enc x).length = k) {l : List α} (h : Row w e k (.slice (some ⟨g, o, none⟩) n c) n (l.flatMap enc)) (hn : l.length = n) : HoldsK enc k w g o l.toArray := by
  obtain ⟨h1, h2⟩ := h
  rcases h2 with ⟨h2, _⟩ | ⟨g', o', cap, cur, fz, hv, hg, hc1, hc2, hcs, hx, hz⟩
  · cases h2
  injection hv with hv _ hcap
  injection hv with hv
  injection hv with e1 e2
  subst e1 e2 hcap
  intro j hj
  rw [size_flatK] at hj
  have hj' : j < n * k := by rw [← hn]; simpa using hj
  have hle : n * k ≤ c * k := Nat.mul_le_mul_right k hc1
  have hfg := flat_get enc k hk l j (by rw [hn]; exact hj')
  have hcell : cur[o + j]? = some ((flatK enc k l.toArray)[j]!) := by
    rw [← hfg, ← hx, List.getElem?_take, if_pos hj', List.getElem?_drop, Array.getElem?_toList]
  refine ⟨?_, ?_⟩
  · show w.cell? ⟨g, o + j, none⟩ = _
    simp only [World.cell?, hg]
    exact hcell
  · simp only [World.frozen?, hg]
    have := hz (o + j) (by omega)
    simpa using this
theorem sort_row {w w' : World} {e : TypeId} {k g o n c n' : Nat} {enc : α → List Value} (hk : ∀ x, (enc x).length = k) {l : List α} (h : Row w e k (.slice (some ⟨g, o, none⟩) n c) n (l.flatMap enc)) (hn : l.length = n) {d' : Array α} {os : Array Obj} (hd : d'.size = n) (hw : w' = sortWorldK enc k w g o n' d' os) :
    Row w' e k (.slice (some ⟨g, o, none⟩) n c) n (d'.toList.flatMap enc) ∧ Chg (fun q => q = g) w w' := by
  have hH := row_holds hk h hn
  obtain ⟨h1, h2⟩ := h
  rcases h2 with ⟨h2, _⟩ | ⟨g', o', cap, cur, fz, hv, hg, hc1, hc2, hcs, hx, hz⟩
  · cases h2
  injection hv with hv _ hcap
  injection hv with hv
  injection hv with e1 e2
  subst e1 e2 hcap
  have hlt : g < w.heap.size := (Array.getElem?_eq_some_iff.1 hg).1
  have hH' := holdsK_sortWorldK enc k w g o n' l.toArray d' os hlt hH (by rw [hd]; simpa using hn.symm)
  have hle : n * k ≤ c * k := Nat.mul_le_mul_right k hc1
  have hgo : (sortWorldK enc k w g o n' d' os).heap[g]? = some (.cells (putCells id o (flatK enc k d') cur) e fz) := by
    show ((putRow id (Sort.ahead w n') g o (flatK enc k d')).heap ++ os)[g]? = _
    rw [Array.getElem?_append_left (by rw [size_putRow]; exact hlt)]
    show (w.heap.modify g _)[g]? = _
    rw [Array.getElem?_modify, if_pos rfl, hg]
    rfl
  have hsz : (putCells id o (flatK enc k d') cur).size = cur.size := by simp [putCells]
  refine ⟨⟨?_, .inr ⟨g, o, c, putCells id o (flatK enc k d') cur, fz, rfl, by rw [hw]; exact hgo, hc1, hc2, by rw [hsz]; exact hcs, ?_, by rw [hsz]; exact hz⟩⟩, ?_⟩
  · rw [flat_length enc k _ (fun a _ => hk a)]; simp [hd]
  · apply List.ext_getElem?
    intro j
    by_cases hj : j < n * k
    · rw [List.getElem?_take, if_pos hj, List.getElem?_drop, Array.getElem?_toList]
      have h3 := (hH' j (by rw [size_flatK, hd]; exact hj)).1
      simp only [World.cell?, hgo] at h3
      have h4 := flat_get enc k hk d'.toList j (by simpa [hd] using hj)
      rw [h4]
      exact h3
    · rw [List.getElem?_eq_none (by rw [List.length_take]; omega), List.getElem?_eq_none (by rw [flat_length enc k _ (fun a _ => hk a)]; simp [hd]; omega)]
  · rw [hw]
    refine ⟨rfl, rfl, rfl, ?_, fun q hq hne => ?_⟩
    · show w.heap.size ≤ ((putRow id (Sort.ahead w n') g o (flatK enc k d')).heap ++ os).size
      rw [Array.size_append, size_putRow]
      show w.heap.size ≤ w.heap.size + _
      omega
    · show ((putRow id (Sort.ahead w n') g o (flatK enc k d')).heap ++ os)[q]? = _
      rw [Array.getElem?_append_left (by rw [size_putRow]; exact hq)]
      show (w.heap.modify g _)[q]? = _
      rw [Array.getElem?_modify, if_neg (fun e => hne e.symm)]
end
end Go.Proofs.YtnagmpnpgekhfaaDoor
namespace Go.Proofs.YtnagmpnpgekhfaaDoor
open Go.RowKit
section
variable {κ ν : Type} [DecidableEq κ]
theorem mdel_length (m : List (κ × ν)) (k : κ) (i : Nat) (h : (m.findIdx? fun p => decide (k = p.1)) = some i) : mdel m k = m.eraseIdx i := by
  induction m generalizing i with
  | nil => simp at h
  | cons p m ih =>
    obtain ⟨a, u⟩ := p
    rw [List.findIdx?_cons] at h
    unfold mdel
    by_cases hk : k = a
    · simp [hk] at h
      subst h
      simp [hk]
    · simp only [hk, decide_false] at h
      rw [if_neg hk]
      cases hf : m.findIdx? fun p => decide (k = p.1) with
      | none => rw [hf] at h; simp at h
      | some j =>
        rw [hf] at h
        simp at h
        subst h
        rw [List.eraseIdx_cons_succ, ih j hf]
theorem mdel_none (m : List (κ × ν)) (k : κ) (h : (m.findIdx? fun p => decide (k = p.1)) = none) : mdel m k = m := by
  induction m with
  | nil => rfl
  | cons p m ih =>
    obtain ⟨a, u⟩ := p
    rw [List.findIdx?_cons] at h
    unfold mdel
    by_cases hk : k = a
    · simp [hk] at h
    · simp only [hk, decide_false] at h
      rw [if_neg hk, ih (by cases hf : m.findIdx? fun p => decide (k = p.1) with | none => rfl | some j => rw [hf] at h; simp at h)]
theorem mget_cons (a : κ) (u : ν) (m : List (κ × ν)) (q : κ) : mget ((a, u) :: m) q = if q = a then some u else mget m q := rfl
theorem mput_cons (a : κ) (u : ν) (m : List (κ × ν)) (q : κ) (v : ν) : mput ((a, u) :: m) q v = if q = a then (a, v) :: m else (a, u) :: mput m q v := rfl
theorem mget_mdel {m : List (κ × ν)} (hn : (m.map (·.1)).Nodup) (k q : κ) : mget (mdel m k) q = if q = k then none else mget m q := by
  induction m with
  | nil => simp [mdel, mget]
  | cons p m ih =>
    obtain ⟨a, u⟩ := p
    rw [List.map_cons, List.nodup_cons] at hn
    unfold mdel
    by_cases hk : k = a
    · subst hk
      rw [if_pos rfl]
      by_cases hq : q = k
      · subst hq
        rw [if_pos rfl]
        exact mget_none.2 hn.1
      · rw [if_neg hq, mget_cons, if_neg hq]
    · rw [if_neg hk, mget_cons, mget_cons, ih hn.2]
      by_cases hq : q = a
      · subst hq
        rw [if_pos rfl, if_neg (fun e => hk e.symm), if_pos rfl]
      · rw [if_neg hq, if_neg hq]
theorem mput_mput (m : List (κ × ν)) (k : κ) (u v : ν) : mput (mput m k u) k v = mput m k v := by
  induction m with
  | nil => simp [mput]
  | cons p m ih =>
    obtain ⟨a, x⟩ := p
    rw [mput_cons, mput_cons]
    by_cases hk : k = a
    · rw [if_pos hk, if_pos hk, mput_cons, if_pos hk]
    · rw [if_neg hk, if_neg hk, mput_cons, if_neg hk, ih]
end
section
variable {κ ν : Type} [DecidableEq κ] {w w' : World} {b : Nat} {enc : κ → Value} {encv : ν → Value} {m : List (κ × ν)} {P : Program} {kt t e : TypeId}
/-- the stamp of a key's entry -/
def StampAt (w : World) (b : Nat) (enc : κ → Value) (encv : ν → Value) (m : List (κ × ν)) (k : κ) (s : Int) : Prop :=
  (m.map (·.1)).Nodup ∧ ∃ (ts : List Nat) (clock i : Nat), ts.length = m.length ∧ ts.Pairwise (· < ·) ∧ (∀ t ∈ ts, t < clock) ∧ w.heap[b]? = some (.map ((m.zip ts).map fun p => (⟨enc p.1.1, encv p.1.2, p.2⟩ : MapEntry)).toArray clock) ∧ (m.findIdx? fun p => decide (k = p.1)) = some i ∧ ts[i]?.map Int.ofNat = some s
theorem StampAt.map {k : κ} {s : Int} (h : StampAt w b enc encv m k s) : MapAt w b enc encv m := by
  obtain ⟨h0, ts, clock, i, h1, h2, h3, h4, _⟩ := h
  exact ⟨h0, ts, clock, h1, h2, h3, h4⟩
theorem StampAt.bel {k : κ} {s : Int} (h : StampAt w b enc encv m k s) (hb : Below w.heap.size w w') : StampAt w' b enc encv m k s := by
  obtain ⟨h0, ts, clock, i, h1, h2, h3, h4, h5⟩ := h
  exact ⟨h0, ts, clock, i, h1, h2, h3, (hb.block _ (Array.getElem?_eq_some_iff.1 h4).1).trans h4, h5⟩
theorem findIdx_key {m : List (κ × ν)} {k : κ} {i : Nat} (h : (m.findIdx? fun p => decide (k = p.1)) = some i) : ∃ v, m[i]? = some (k, v) ∧ mget m k = some v := by
  have hi := (List.findIdx?_eq_some_iff_getElem.1 h).1
  have hk : m[i].1 = k := by
    have := (List.findIdx?_eq_some_iff_getElem.1 h).2.1
    simpa using (of_decide_eq_true this).symm
  refine ⟨m[i].2, by rw [List.getElem?_eq_getElem hi, ← hk], ?_⟩
  rw [mget_find, h]
  simp [List.getElem?_eq_getElem hi]
theorem mput_same {m : List (κ × ν)} {k : κ} {v : ν} (h : mget m k = some v) : mput m k v = m := by
  induction m with
  | nil => cases h
  | cons p m ih =>
    obtain ⟨a, u⟩ := p
    unfold mget at h
    unfold mput
    by_cases hk : k = a
    · rw [if_pos hk] at h ⊢
      injection h with h
      rw [h]
    · rw [if_neg hk] at h ⊢
      rw [ih h]
omit [DecidableEq κ] in
theorem zip_at {α β : Type} {l : List α} {r : List β} {i : Nat} {x : α} {y : β} (hx : l[i]? = some x) (hy : r[i]? = some y) : (l.zip r)[i]? = some (x, y) := by
  obtain ⟨h1, e1⟩ := List.getElem?_eq_some_iff.1 hx
  obtain ⟨h2, e2⟩ := List.getElem?_eq_some_iff.1 hy
  rw [List.getElem?_eq_getElem (by rw [List.length_zip]; omega), List.getElem_zip, e1, e2]
theorem MapAt.entry (h : MapAt w b enc encv m) (K : KeyLaw P kt enc) (ht : P.underlying t = some (.map kt e)) (z : ν) (hz : (zeroValue e).run P w = .ok (encv z) w) (k : κ) :
    ∃ s w', (Instr.mapEntry t (.map (some b)) (enc k)).run P w = .ok (.tuple #[encv ((mget m k).getD z), goInt s]) w' ∧ StampAt w' b enc encv (mput m k ((mget m k).getD z)) k s ∧ Chg (fun q => q = b) w w' := by
  have hlt := h.lt
  obtain ⟨ts, clock, h1, h2, h3, h4⟩ := h.obj
  cases hf : m.findIdx? fun p => decide (k = p.1) with
  | none =>
    have hg : mget m k = none := by rw [mget_find, hf]; rfl
    have hput := mput_new k z m hf
    have hfi : ((m ++ [(k, z)]).findIdx? fun p => decide (k = p.1)) = some m.length := by
      rw [List.findIdx?_append, hf]
      simp
    rw [hg, Option.getD_none]
    refine ⟨clock, { w with heap := w.heap.setIfInBounds b (.map (((m ++ [(k, z)]).zip (ts ++ [clock])).map fun p => (⟨enc p.1.1, encv p.1.2, p.2⟩ : MapEntry)).toArray (clock + 1)) }, ?_, ⟨mput_nodup h.nodup k z, ts ++ [clock], clock + 1, m.length, ?_, ?_, ?_, ?_, ?_, ?_⟩, chgSet _ _ _⟩
    · unfold Instr.mapEntry
      simp only [Sem.run_bind, run_underlying ht, Result.andThen_ok, getMap h4, K.check, run_find K k m ts h1, hf, Option.bind_none, hz]
      rw [setMap _ h4, List.zip_append (by omega)]
      simp
    · rw [hput]; simp [h1]
    · rw [List.pairwise_append]; exact ⟨h2, by simp, fun a ha c hc => by simp at hc; subst hc; exact h3 a ha⟩
    · intro q hq
      rw [List.mem_append] at hq
      rcases hq with hq | hq
      · have := h3 q hq; omega
      · simp at hq; omega
    · rw [hput]; simp [hlt]
    · rw [hput]; exact hfi
    · rw [List.getElem?_append_right (by omega), h1]; simp
  | some i =>
    obtain ⟨v, hiv, hgv⟩ := findIdx_key hf
    have hi : i < m.length := (List.getElem?_eq_some_iff.1 hiv).1
    have hit : i < ts.length := by omega
    rw [hgv, Option.getD_some, mput_same hgv]
    refine ⟨ts[i], { w with heap := w.heap.setIfInBounds b (.map ((m.zip ts).map fun p => (⟨enc p.1.1, encv p.1.2, p.2⟩ : MapEntry)).toArray clock) }, ?_, ⟨h.nodup, ts, clock, i, h1, h2, h3, by simp [hlt], hf, by rw [List.getElem?_eq_getElem hit]; rfl⟩, chgSet _ _ _⟩
    unfold Instr.mapEntry
    have hm : m[i]? = some (k, v) := hiv
    simp only [Sem.run_bind, run_underlying ht, Result.andThen_ok, getMap h4, K.check, run_find K k m ts h1, hf, Option.bind_some, hm, Option.map_some]
    have hes : (((m.zip ts).map fun p => (⟨enc p.1.1, encv p.1.2, p.2⟩ : MapEntry)).toArray)[i]? = some ⟨enc k, encv v, ts[i]⟩ := by
      rw [List.getElem?_toArray, List.getElem?_map, zip_at hm (List.getElem?_eq_getElem hit)]
      rfl
    rw [hes]
    have hst : (Instr.keyThatStays (enc k) (enc k)).run P w = .ok (enc k) w := by
      unfold Instr.keyThatStays
      rw [K.same k]
      rfl
    simp only [Option.map_some, Option.getD_some, hst, Result.andThen_ok]
    rw [setMap _ h4]
    have hmod : ((((m.zip ts).map fun p => (⟨enc p.1.1, encv p.1.2, p.2⟩ : MapEntry)).toArray).modify i fun e => { e with key := enc k }) = ((m.zip ts).map fun p => (⟨enc p.1.1, encv p.1.2, p.2⟩ : MapEntry)).toArray := by
      apply Array.ext_getElem?
      intro j
      rw [Array.getElem?_modify]
      by_cases hj : i = j
      · subst hj; rw [if_pos rfl, hes]; rfl
      · rw [if_neg hj]
    rw [hmod]
    simp
theorem StampAt.store {k : κ} {s : Int} (h : StampAt w b enc encv m k s) (v : ν) : ∃ w', (Instr.entryStore t (.map (some b)) (.int .i64 s) (encv v)).run P w = .ok () w' ∧ MapAt w' b enc encv (mput m k v) ∧ Chg (fun q => q = b) w w' := by
  obtain ⟨h0, ts, clock, i, h1, h2, h3, h4, h5, h6⟩ := h
  have hlt := (Array.getElem?_eq_some_iff.1 h4).1
  obtain ⟨u, hiu, hgu⟩ := findIdx_key h5
  have hi : i < m.length := (List.getElem?_eq_some_iff.1 hiu).1
  have hit : i < ts.length := by omega
  rw [List.getElem?_eq_getElem hit] at h6
  have hs : s = (ts[i] : Nat) := by simpa using h6.symm
  have hfind : ((((m.zip ts).map fun p => (⟨enc p.1.1, encv p.1.2, p.2⟩ : MapEntry)).toArray).findIdx? (fun e => (e.born : Int) == s)) = some i := by
    rw [List.findIdx?_toArray, List.findIdx?_map, List.findIdx?_eq_some_iff_getElem]
    refine ⟨by rw [List.length_zip]; omega, ?_, fun j hj => ?_⟩
    · simp [hs]
    · simp only [Function.comp, List.getElem_zip, hs, beq_iff_eq]
      have := List.pairwise_iff_getElem.1 h2 j i (by omega) hit hj
      simp
      omega
  refine ⟨{ w with heap := w.heap.setIfInBounds b (.map (((mput m k v).zip ts).map fun p => (⟨enc p.1.1, encv p.1.2, p.2⟩ : MapEntry)).toArray clock) }, ?_, ⟨mput_nodup h0 k v, ts, clock, by rw [mput_length_old k v m i h5]; exact h1, h2, h3, by simp [hlt]⟩, chgSet _ _ _⟩
  unfold Instr.entryStore
  simp only [Sem.run_bind, getMap h4, Result.andThen_ok, asInt, asIntOf, Sem.run_pure, hfind]
  rw [setMap _ h4]
  have hz := zip_put (enc := enc) (encv := encv) k v m ts i h1 h5
  have hes : (((m.zip ts).map fun p => (⟨enc p.1.1, encv p.1.2, p.2⟩ : MapEntry)).toArray)[i]? = some ⟨enc k, encv u, ts[i]⟩ := by
    rw [List.getElem?_toArray, List.getElem?_map, zip_at hiu (List.getElem?_eq_getElem hit)]
    rfl
  rw [← hz]
  have hmod : ((((m.zip ts).map fun p => (⟨enc p.1.1, encv p.1.2, p.2⟩ : MapEntry)).toArray).modify i fun e => { e with val := encv v }) = ((((m.zip ts).map fun p => (⟨enc p.1.1, encv p.1.2, p.2⟩ : MapEntry)).toArray).modify i fun e => { e with key := enc k, val := encv v }) := by
    apply Array.ext_getElem?
    intro j
    rw [Array.getElem?_modify, Array.getElem?_modify]
    by_cases hj : i = j
    · subst hj; rw [if_pos rfl, if_pos rfl, hes]; rfl
    · rw [if_neg hj, if_neg hj]
  rw [hmod]
theorem MapAt.del (h : MapAt w b enc encv m) (K : KeyLaw P kt enc) (ht : P.underlying t = some (.map kt e)) (k : κ) (t2 ty : TypeId) :
    ∃ w', (Builtin.delete_ #[t, t2] ty #[.map (some b), enc k]).run P w = .ok (.tuple #[]) w' ∧ MapAt w' b enc encv (mdel m k) ∧ Chg (fun q => q = b) w w' := by
  have hlt := h.lt
  obtain ⟨ts, clock, h1, h2, h3, h4⟩ := h.obj
  cases hf : m.findIdx? fun p => decide (k = p.1) with
  | none =>
    refine ⟨{ w with heap := w.heap.setIfInBounds b (.map ((m.zip ts).map fun p => (⟨enc p.1.1, encv p.1.2, p.2⟩ : MapEntry)).toArray clock) }, ?_, ?_, chgSet _ _ _⟩
    · unfold Builtin.delete_
      simp only [List.getElem?_toArray, List.getElem?_cons_zero, List.getElem?_cons_succ, Sem.run_bind, run_underlying ht, Result.andThen_ok, getMap h4, K.check, run_find K k m ts h1, hf, Option.bind_none]
      rw [setMap _ h4]
      simp
    · rw [mdel_none m k hf]
      exact ⟨h.nodup, ts, clock, h1, h2, h3, by simp [hlt]⟩
  | some i =>
    obtain ⟨v, hiv, hgv⟩ := findIdx_key hf
    have hi : i < m.length := (List.getElem?_eq_some_iff.1 hiv).1
    have hzip : ((m.zip ts).map fun p => (⟨enc p.1.1, encv p.1.2, p.2⟩ : MapEntry)).eraseIdx i = ((m.eraseIdx i).zip (ts.eraseIdx i)).map fun p => (⟨enc p.1.1, encv p.1.2, p.2⟩ : MapEntry) := by
      clear hf hiv hgv h4 h2 h3 hlt h
      induction m generalizing ts i with
      | nil => simp
      | cons p m ih =>
        cases ts with
        | nil => simp at h1
        | cons t ts =>
          cases i with
          | zero => simp
          | succ i => simp only [List.zip_cons_cons, List.map_cons, List.eraseIdx_cons_succ]; rw [ih ts (by simpa using h1) i (by simpa using hi)]
    refine ⟨{ w with heap := w.heap.setIfInBounds b (.map (((m.eraseIdx i).zip (ts.eraseIdx i)).map fun p => (⟨enc p.1.1, encv p.1.2, p.2⟩ : MapEntry)).toArray clock) }, ?_, ?_, chgSet _ _ _⟩
    · unfold Builtin.delete_
      simp only [List.getElem?_toArray, List.getElem?_cons_zero, List.getElem?_cons_succ, Sem.run_bind, run_underlying ht, Result.andThen_ok, getMap h4, K.check, run_find K k m ts h1, hf, Option.bind_some, hiv, Option.map_some]
      rw [setMap _ h4]
      have : ((((m.zip ts).map fun p => (⟨enc p.1.1, encv p.1.2, p.2⟩ : MapEntry)).toArray).eraseIdxIfInBounds i) = (((m.eraseIdx i).zip (ts.eraseIdx i)).map fun p => (⟨enc p.1.1, encv p.1.2, p.2⟩ : MapEntry)).toArray := by
        rw [← hzip]
        rw [Array.eraseIdxIfInBounds, dif_pos (by simp; omega)]
        simp
      rw [this]
      simp
    · rw [mdel_length m k i hf]
      refine ⟨?_, ts.eraseIdx i, clock, ?_, h2.sublist (List.eraseIdx_sublist ..), fun q hq => h3 q ((List.eraseIdx_sublist ..).subset hq), by simp [hlt]⟩
      · exact h.nodup.sublist ((List.eraseIdx_sublist ..).map _)
      · rw [List.length_eraseIdx_of_lt (by omega), List.length_eraseIdx_of_lt hi]; omega
theorem MapAt.len (h : MapAt w b enc encv m) (ht : P.underlying t = some (.map kt e)) (ty : TypeId) : (Builtin.len_ #[t] ty #[.map (some b)]).run P w = .ok (.int .i64 m.length) w := by
  obtain ⟨ts, clock, h1, h2, h3, h4⟩ := h.obj
  unfold Builtin.len_
  simp [run_underlying ht, getMap h4, goInt, List.length_zip, h1]
theorem look_int {m : List (κ × Int)} {k : κ} : ((mget m k).map fun n => Value.int .i64 n).getD (.int .i64 0) = .int .i64 ((mget m k).getD 0) := by
  cases mget m k <;> rfl
end
/- ---------- steps ---------- -/
section
variable {κ ν : Type} [DecidableEq κ] {enc : κ → Value} {encv : ν → Value} {m : List (κ × ν)} {P : Program} {N : Nat} {ds : List Deferred} {Q : Post} {l : Env} {w w' : World} {ops : Array Oper} {rest : List Oper} {ty t kt e t2 : TypeId} {pos : String} {aft : Array Edge} {d b : Nat} {x y u : Operand}
theorem sme (K : KeyLaw P kt enc) (hx : ev l x = some (.map (some b))) (k : κ) (hy : ev l y = some (enc k)) (ht : P.underlying t = some (.map kt e)) (z : ν) (hz : (zeroValue e).run P w = .ok (encv z) w) (hM : MapAt w b enc encv m) (hd : Nat.blt d N = true)
    (h : ∀ s w', StampAt w' b enc encv (mput m k ((mget m k).getD z)) k s → Chg (fun q => q = b) w w' → WL P N ds ops Q rest ((d, .tuple #[encv ((mget m k).getD z), .int .i64 s]) :: l) w') : WL P N ds ops Q (⟨some d, .mapEntry t x y, ty, pos, aft, none⟩ :: rest) l w := by
  obtain ⟨s, w', hr, h1, h2⟩ := hM.entry K ht z hz k
  refine st (w' := w') (fun ρ hρ => ?_) hd (h s w' h1 h2)
  unfold execOp
  simp only [hρ _ _ hx, hρ _ _ hy, Sem.run_bind, hr, Result.andThen_ok, Sem.run_pure]
  rfl
theorem ses {k : κ} {s : Int} {v1 : ν} (hx : ev l x = some (.map (some b))) (v : ν) (hy : ev l y = some (.int .i64 s)) (hu : ev l u = some (encv v)) (hS : StampAt w b enc encv (mput m k v1) k s)
    (h : ∀ w', MapAt w' b enc encv (mput m k v) → Chg (fun q => q = b) w w' → WL P N ds ops Q rest l w') : WL P N ds ops Q (⟨none, .entryStore t x y u, ty, pos, aft, none⟩ :: rest) l w := by
  obtain ⟨w', hr, h1, h2⟩ := hS.store (P := P) (t := t) v
  rw [mput_mput] at h1
  refine ss (w' := w') (fun ρ hρ => ?_) (h w' h1 h2)
  unfold execOp
  simp only [hρ _ _ hx, hρ _ _ hy, hρ _ _ hu, Sem.run_bind, hr, Result.andThen_ok, Sem.run_pure]
theorem sdel (K : KeyLaw P kt enc) (hx : ev l x = some (.map (some b))) (k : κ) (hy : ev l y = some (enc k)) (ht : P.underlying t = some (.map kt e)) (hM : MapAt w b enc encv m)
    (h : ∀ w', MapAt w' b enc encv (mdel m k) → Chg (fun q => q = b) w w' → WL P N ds ops Q rest l w') : WL P N ds ops Q (⟨none, .call { callee := .builtin .delete, args := #[x, y], argTypes := #[t, t2] }, ty, pos, aft, none⟩ :: rest) l w := by
  obtain ⟨w', hr, h1, h2⟩ := hM.del K ht k t2 ty
  intro a ha
  refine wpList_plain rfl fun Kc hK => ?_
  unfold Oper.wp
  have : (execOp a.eval ⟨none, .call { callee := .builtin .delete, args := #[x, y], argTypes := #[t, t2] }, ty, pos, aft, none⟩).run P w = .ok (.value (.tuple #[])) w' := by
    unfold execOp
    simp only [resolve, invoke, builtin, Sem.run_bind, Sem.run_pure, Result.andThen_ok, List.map_toArray, List.map_cons, List.map_nil, ha.knows _ _ hx, ha.knows _ _ hy, hr]
  rw [this]
  exact hK _ _ (h w' h1 h2 _ ha)
theorem X.lenM {ats : Array TypeId} (hx : ev l x = some (.map (some b))) (ht : ats = #[t]) (hu : P.underlying t = some (.map kt e)) (hM : MapAt w b enc encv m) : X P l (.call { callee := .builtin .len, args := #[x], argTypes := ats }) ty w (.int .i64 m.length) w := fun ρ hρ => by
  subst ht
  unfold execOp
  simp only [resolve, invoke, builtin, Sem.run_bind, Sem.run_pure, Result.andThen_ok, List.map_toArray, List.map_cons, List.map_nil, hρ _ _ hx, hM.len hu]
end
section
variable {κ : Type} [DecidableEq κ] {enc : κ → Value} {m : List (κ × Int)} {P : Program} {l : Env} {w : World} {ty t kt e : TypeId} {b : Nat} {x y : Operand}
theorem X.lookI (K : KeyLaw P kt enc) (hx : ev l x = some (.map (some b))) (k : κ) (hy : ev l y = some (enc k)) (ht : P.underlying t = some (.map kt e)) (hz : (zeroValue e).run P w = .ok (.int .i64 0) w) (hM : MapAt w b enc (fun n => .int .i64 n) m) :
    X P l (.lookup t x y false) ty w (.int .i64 ((mget m k).getD 0)) w := by
  rw [← look_int]
  exact X.look K hx k hy ht hz hM
theorem X.lookIv {z : Int} (K : KeyLaw P kt enc) (hx : ev l x = some (.map (some b))) (k : κ) (hy : ev l y = some (enc k)) (ht : P.underlying t = some (.map kt e)) (hz : (zeroValue e).run P w = .ok (.int .i64 0) w) (hM : MapAt w b enc (fun n => .int .i64 n) m) (hv : (mget m k).getD 0 = z) :
    X P l (.lookup t x y false) ty w (.int .i64 z) w := by
  subst hv
  exact X.lookI K hx k hy ht hz hM
end
end Go.Proofs.YtnagmpnpgekhfaaDoor
namespace Go.Proofs.YtnagmpnpgekhfaaDoor
open Go.RowKit Go.Shelf
def sortRenSum : Ren :=
  { f := fun x => match x with | 6 => 60 | 15 => 66 | 14 => 65 | 28 => 76 | 29 => 77 | 20 => 68 | 21 => 69 | 22 => 70 | 23 => 71 | 24 => 72 | 25 => 73 | 26 => 74 | 27 => 75 | 46 => 78 | 47 => 79 | 48 => 80 | 49 => 81 | 50 => 82 | 57 => 83 | n => n
    t := fun x => match x with | 22 => 119 | 24 => 53 | 25 => 124 | 3 => 3 | 39 => 92 | 0 => 0 | 53 => 62 | 55 => 126 | 4 => 4 | 46 => 137 | 45 => 136 | 50 => 141 | 5 => 5 | 9 => 9 | 66 => 145 | 70 => 149 | 76 => 151 | 77 => 152 | n => n
    g := fun x => x }
def nameOf (P : Program) (f : FuncId) : String := ((P.funcs[f]?).map (·.name)).getD ""
theorem bears_of {P : Program} {f : FuncId} {B : Func} (h1 : (nameOf P f == "runtime.NumGoroutine") = false) (h2 : P.funcs[f]? = some { B with name := nameOf P f }) : Bears P f B := ⟨_, h1, h2⟩
set_option maxRecDepth 100000 in
theorem sortLaysSum : SlLaysF0.n6 Tryd.prog sortRenSum := by
  constructor
  all_goals first | exact bears_of (by kernel_rfl) (by kernel_rfl) | kernel_rfl | exact fun _ => by kernel_rfl
/- ---------- the order of addresses ---------- -/
theorem cmp_lt : ∀ a b : List UInt8, Lib.compareBytes a b < 0 ↔ a < b
  | [], [] => by simp [Lib.compareBytes]
  | [], _ :: _ => by simp [Lib.compareBytes]
  | _ :: _, [] => by simp [Lib.compareBytes]
  | x :: a, y :: b => by
    have ih := cmp_lt a b
    simp only [Lib.compareBytes, List.cons_lt_cons_iff]
    by_cases h1 : x < y
    · simp [h1]
    · by_cases h2 : y < x
      · have hne : x ≠ y := fun e => by subst e; exact h1 h2
        simp [h1, h2, hne]
      · have he : x = y := by
          apply UInt8.toNat.inj
          rw [UInt8.lt_iff_toNat_lt] at h1 h2
          omega
        subst he
        simp only [h1, if_false, false_or, true_and]
        exact ih
def cmpS (x y : Sum32) : Int := cmpSum x.1 y.1
theorem ltOf_cmpS (x y : Sum32) : ltOf cmpS x y = decide (x.1 < y.1) := by
  unfold ltOf cmpS cmpSum
  rw [decide_eq_decide]
  exact cmp_lt x.1 y.1
theorem swoSum : Sort.SWO (ltOf cmpS) where
  irrefl x := by rw [ltOf_cmpS]; exact decide_eq_false (klt_irrefl _)
  trans x y z h1 h2 := by rw [ltOf_cmpS] at *; exact decide_eq_true (klt_trans (of_decide_eq_true h1) (of_decide_eq_true h2))
  ntrans x y z h1 h2 := by
    rw [ltOf_cmpS] at *
    refine decide_eq_false fun h => ?_
    have h1 := of_decide_eq_false h1
    have h2 := of_decide_eq_false h2
    rcases klt_tri x.1 y.1 with k | k | k
    · exact h1 k
    · exact h2 (k ▸ h)
    · exact h2 (klt_trans k h)
instance : Inhabited Sum32 := ⟨⟨List.replicate 32 0, by simp⟩⟩
def encS (k : Sum32) : List Value := k.1.map bv
theorem encS_len (k : Sum32) : (encS k).length = 32 := by have := k.2; simp [encS, this]
theorem encS_one (k : Sum32) : ∀ v ∈ encS k, v.oneCell' = true := by
  intro v hv
  simp only [encS, List.mem_map] at hv
  obtain ⟨u, _, rfl⟩ := hv
  rfl
theorem sumCells_eq (l : List Sum32) : sumCells l = l.flatMap encS := rfl
set_option maxRecDepth 10000 in
theorem SortSums_any (v : Value) (l : List Sum32) (w : World) (hR : Row w 53 32 v l.length (sumCells l)) (hl : l.length ≤ 1000000) (hnd : l.Nodup) :
    Calls Tryd.prog 60 #[v, .func (.func 57) #[] #[]] w fun e w' => ∃ xs : List Sum32, e = .returned (.tuple #[]) ∧ xs.Perm l ∧ xs.Pairwise (fun x y => x.1 < y.1) ∧ Row w' 53 32 v xs.length (sumCells xs) ∧ Chg (fun k => v.ownBlock = some k) w w' := by
  rcases Nat.eq_zero_or_pos l.length with h0 | h0
  · obtain rfl : l = [] := List.eq_nil_of_length_eq_zero h0
    obtain ⟨a, c, rfl, _, _⟩ := hR.shape
    refine (AnyF.slices_SortFunc_none sortLaysSum a c _ w).mono ?_
    rintro e w' ⟨rfl, rfl⟩
    exact ⟨[], rfl, .refl _, .nil, hR, Chg.refl _ _⟩
  · obtain ⟨g, o, c, rfl, hg⟩ := hR.reads.some_ h0
    have hcmp : CmpLays Tryd.prog 57 #[] encS 32 cmpS g o l.toArray.size w := fun m os dk hdk x y => by
      refine (Cmp_any x.1 y.1 x.2 y.2 _).mono ?_
      rintro e w' ⟨rfl, hG⟩
      exact ⟨rfl, hG⟩
    have hsz : l.toArray.size = l.length := by simp
    refine (AnyQ.slices_SortFunc (α := Sum32) sortLaysSum 32 (fun _ => by kernel_rfl) (fun _ => by kernel_rfl) encS encS_len encS_one cmpS swoSum 57 #[] g o c l.toArray w (enters_of Tryd.func57 (by kernel_rfl) rfl) hcmp (row_holds encS_len hR rfl) hg (by rw [hsz]; omega)).mono ?_
    rintro e w' ⟨rfl, d', n', os, hp, hs, hw⟩
    have hdz : d'.size = l.length := by rw [hp.1]; exact hsz
    have hperm : d'.toList.Perm l := by
      have h3 := hp.2.2
      rw [hsz] at h3
      have e1 : (d'.extract 0 l.length).toList = d'.toList := by simp [← hdz]
      have e2 : (l.toArray.extract 0 l.length).toList = l := by simp [List.extract_eq_take_drop]
      rw [e1, e2] at h3
      exact h3
    obtain ⟨hRow, hC⟩ := sort_row encS_len hR rfl hdz hw
    refine ⟨d'.toList, rfl, hperm, ?_, ?_, hC.mono (fun k _ hk => by subst hk; rfl)⟩
    · rw [List.pairwise_iff_getElem]
      intro i j hi hj hij
      have hi' : i < d'.size := by simpa using hi
      have hj' : j < d'.size := by simpa using hj
      have h4 := hs i j (Nat.zero_le _) hij (by rw [hsz, ← hdz]; exact hj')
      rw [ltOf_cmpS, getElem!_pos d' j hj', getElem!_pos d' i hi'] at h4
      have h5 := of_decide_eq_false h4
      simp only [Array.getElem_toList]
      rcases klt_tri d'[i].1 d'[j].1 with k | k | k
      · exact k
      · exfalso
        have hnd' : d'.toList.Nodup := hperm.nodup_iff.2 hnd
        have h6 : d'.toList[i] = d'.toList[j] := by simp only [Array.getElem_toList]; exact Subtype.ext k
        have h7 := (List.getElem_inj (xs := d'.toList) (h₀ := hi) (h₁ := hj) hnd').1 h6
        omega
      · exact absurd k h5
    · have e3 : d'.toList.length = l.length := by simpa using hdz
      rw [e3]
      exact hRow
theorem Keys_any (b : Nat) (w : World) :
    Calls Tryd.prog 56 #[.map (some b)] w fun e w' => ∃ gB, e = .returned (.func (.func 61) #[] #[.pointer (some ⟨gB, 0, none⟩)]) ∧ Blk w' gB 108 #[.map (some b)] ∧ Below w.heap.size w w' := by
  refine W_enter (args := [.map (some b)]) 4 Tryd.func56 rfl rfl rfl ?_
  refine W_sub [(0, .map (some b))] ?_ ⟨rfl, trivial⟩
  have hbw := Below.refl w.heap.size w
  refine W_rs ?_
  refine sbox rfl rfl rfl (fun g1 w1 hB1 hg1 hb hl1 => ?_)
  replace hbw := bthen hbw hb
  have hz_w1 := hb.size
  clear hb
  refine sa rfl rfl ?_
  refine Wn ?_
  refine tN ?_
  refine W_rs ?_
  refine st (w' := w1) (v := .func (.func 61) #[] #[.pointer (some ⟨g1, 0, none⟩)]) (fun ρ hρ => by unfold execOp; simp [hρ (.tmp 1) _ rfl, Instr.makeFunc]) rfl ?_
  refine sa rfl rfl ?_
  refine Wn ?_
  refine tN ?_
  refine W_ret ?_
  exact (rT rfl rfl ⟨g1, rfl, hB1, hbw⟩).1
theorem Collect_any {S Sp : List Sum32 → Prop} {N : Nat} (gf : Nat) (lb : Array Value) (w : World) (hseq : SeqStopsK Fence.wide 0 Tryd.prog gf lb (fun k : Sum32 => #[encSum k]) KeepsWalks S Sp N w) (hN : N ≤ 1000000) (eg : ∀ args w, (callFunc gf args).run Tryd.prog w = .ok (.enter gf args) w) :
    Calls Tryd.prog 59 #[.func (.func gf) #[] lb] w fun e w' => ∃ v xs, e = .returned v ∧ S xs ∧ Row w' 53 32 v xs.length (sumCells xs) ∧ (∀ k, v.ownBlock = some k → w.heap.size ≤ k) ∧ Below w.heap.size w w' := by
  refine W_enter (args := [.func (.func gf) #[] lb]) 5 Tryd.func59 rfl rfl rfl ?_
  refine W_sub [(0, .func (.func gf) #[] lb)] ?_ ⟨rfl, trivial⟩
  have hbw := Below.refl w.heap.size w
  refine W_rs ?_
  refine sa rfl rfl ?_
  refine Wn ?_
  refine tN ?_
  refine W_rs ?_
  refine sm rfl rfl ?_
  refine sc _ Tryd.func64 rfl (by kernel_rfl) rfl rfl ((AppendSeq_any gf lb _ hseq hN eg).mono ?_)
  rintro e_ w1 ⟨v, xs, rfl, hS, hR, hO, hb⟩
  refine cR ?_
  replace hbw := bthen hbw hb
  have hz_w1 := hb.size
  clear hb
  refine sa rfl rfl ?_
  refine Wn ?_
  refine tN ?_
  refine W_ret ?_
  exact (rT rfl rfl ⟨v, xs, rfl, hS, hR, hO, hbw⟩).1
theorem SortedKeys_any (gB b : Nat) (m : List (Sum32 × Int)) (w : World) (hB : Blk w gB 108 #[.map (some b)]) (hM : MapAt w b encSum encInt m) (hm : m.length ≤ 1000000) :
    Calls Tryd.prog 55 #[.func (.func 61) #[] #[.pointer (some ⟨gB, 0, none⟩)], .func (.func 57) #[] #[]] w fun e w' =>
      ∃ v, ∃ xs : List Sum32, e = .returned v ∧ xs.Perm (m.map (·.1)) ∧ xs.Pairwise (fun x y => x.1 < y.1) ∧ Row w' 53 32 v xs.length (sumCells xs) ∧ (∀ k, v.ownBlock = some k → w.heap.size ≤ k) ∧ Below w.heap.size w w' := by
  refine W_enter (args := [.func (.func 61) #[] #[.pointer (some ⟨gB, 0, none⟩)], .func (.func 57) #[] #[]]) 12 Tryd.func55 rfl rfl rfl ?_
  refine W_sub [(0, .func (.func 61) #[] #[.pointer (some ⟨gB, 0, none⟩)]), (1, .func (.func 57) #[] #[])] ?_ ⟨rfl, rfl, trivial⟩
  have hbw := Below.refl w.heap.size w
  refine W_rs ?_
  refine sa rfl rfl ?_
  refine Wn ?_
  refine tN ?_
  refine W_rs ?_
  refine sm rfl rfl ?_
  refine sc _ Tryd.func59 rfl (by kernel_rfl) rfl rfl ((Collect_any _ _ _ (keys_closure 0 _ gB b m (hB.bel hbw) (hM.bel hbw)) hm (enters_of Tryd.func61 (by kernel_rfl) rfl)).mono ?_)
  rintro e_ w1 ⟨v, ks, rfl, hS, hR, hO, hb⟩
  refine cR ?_
  replace hbw := bthen hbw hb
  have hz_w1 := hb.size
  clear hb
  have hnd : ks.Nodup := hS.nodup_iff.2 hM.nodup
  have hkl : ks.length = m.length := by rw [hS.length_eq, List.length_map]
  refine sa rfl rfl ?_
  refine Wn ?_
  refine tN ?_
  refine W_rs ?_
  refine sm rfl rfl ?_
  refine sm rfl rfl ?_
  refine sc _ Tryd.func60 rfl (by kernel_rfl) rfl rfl ((SortSums_any v ks _ hR (by omega) hnd).mono ?_)
  rintro e_ w2 ⟨xs, rfl, hp, hs, hR2, hC⟩
  refine cR ?_
  replace hbw := bapp hbw hC hO
  refine Wn ?_
  refine tN ?_
  refine W_rs ?_
  refine sm rfl rfl ?_
  refine sa rfl rfl ?_
  refine Wn ?_
  refine tN ?_
  refine W_ret ?_
  exact (rT rfl rfl ⟨v, xs, rfl, hp.trans hS, hs, hR2, hO, hbw⟩).1
end Go.Proofs.YtnagmpnpgekhfaaDoor
