/- What PackRots needs, part 2. -/
import Derived.Maps.RangeRun
import Derived.RangeFuncNested
import Derived.RangeFuncCalls
import Derived.RangeFuncLeaves
import Derived.Shelf.SlIter.Sorted
import Derived.Shelf.SlIter.Keys
import Derived.Shelf.SortM.Plain
import Derived.Shelf.SortM.SortNone
import Derived.Test.YtnlabkogebnioaaGreatDoorRows
import Derived.WalkKit
import Derived.ProofKit
import Derived.OpenShut
import Derived.Deep.DeepHandedRow
import Derived.Lib.LaidTab
import Derived.ShutString
import Derived.ChangeOld
import Derived.SliceStrings
import Derived.Deep.Slices
import Derived.Lib.SmallJoins
import Derived.Scope
import Derived.Laws.IdiomStrings
import Derived.Below
import Derived.Lib.ItoaNum
import Derived.Test.YtnlabkogebnioaaGreatDoorChecked
import Derived.Lib.Hide
import Derived.WalkLawsBesides
import Derived.WalkSpells
import Derived.BigQuiet
import Derived.Deep.QuietTactic
import Derived.Deep.LoopGhost
import Derived.Deep.DeepMust
import Derived.Shelf.Strconv.Itoa3
import Derived.Shelf.Lay
import Derived.Ground.NamesProg
import Derived.ChangeKeysEq
import Derived.WideKeyRuns
import Derived.Lib.Bytealg
import Derived.Sort.Grow
import Derived.Shelf.SlSortCmp.NoneTotal
import Derived.Test.YtnlabkogebnioaaGreatDoorPackRotsP1
namespace Go.Proofs.YtnlabkogebnioaaGreatDoor
open Go.RowKit
open Go.ChangeMaps (setBlock)
theorem grown_of_bel {w w' : World} (h : Below w.heap.size w w') : w.grownBy w' none := ⟨h.os, h.tape, h.output, h.size, fun k hk _ => h.block k hk⟩
theorem chg_of_grown {w w' : World} {row : Option Nat} (h : w.grownBy w' row) : Chg (fun k => row = some k) w w' := ⟨h.os, h.tape, h.output, h.size, fun k hk hn => h.block k hk (fun e => hn e.symm)⟩
def OnCells (S : Nat → Prop) (w : World) : Prop := ∀ k o, S k → w.heap[k]? = some o → o.isCells = true
theorem keepsFrom_of {S : Nat → Prop} {w w' : World} (h : Chg S w w') (hs : OnCells S w) (B : Nat) : KeepsFrom B w w' :=
 ⟨h.size, fun k o _ hk ho => (h.block k (Array.getElem?_eq_some_iff.1 hk).1 (fun e => by have := hs k o e hk; rw [ho] at this; cases this)).trans hk⟩
theorem Blk.onCells {w : World} {g : Nat} {t : TypeId} {cs : Array Value} (h : Blk w g t cs) : OnCells (fun k => k = g) w := fun k o hk ho => by
 subst hk
 have h : w.heap[k]? = some (.cells cs t) := h
 rw [ho] at h
 injection h with h
 subst h
 rfl
theorem Row.onCells {w : World} {e : TypeId} {size n : Nat} {v : Value} {xs : List Value} (h : Row w e size v n xs) : OnCells (fun k => v.ownBlock = some k) w := fun k o hk ho => by
 rcases h.2 with ⟨rfl, _⟩ | ⟨g, off, cap, cur, fz, rfl, hg, _⟩
 ·simp [Value.ownBlock] at hk
 ·simp [Value.ownBlock] at hk
  subst hk
  rw [ho] at hg
  injection hg with hg
  subst hg
  rfl
theorem Blk.grown {w w' : World} {g : Nat} {t : TypeId} {cs : Array Value} (h : Blk w g t cs) {row : Option Nat} (hg : w.grownBy w' row) (hr : ∀ r, row = some r → ∃ o : Obj, w.heap[r]? = some o ∧ o.isCells = false) : Blk w' g t cs :=
 h.chg (chg_of_grown hg) (fun e => by
  obtain ⟨o, ho, hn⟩ := hr g e
  have := h.onCells g o rfl ho
  rw [hn] at this
  cases this)
def WLI (F : Fence) (n : Nat) (P : Program) (N : Nat) (ds : List Deferred) (ops : Array Oper) (Q : Post) (os : List Oper) (l : Env) (w : World) : Prop := ∀ a, Rep N ds l a → wpListIn F n P ops (lift N ds Q) os a w
section
variable {F : Fence} {n : Nat} {P : Program} {N : Nat} {ds : List Deferred} {Q : Post} {l : Env} {w w' : World} {ops : Array Oper} {rest : List Oper} {op : Op} {ty : TypeId} {pos : String} {aft : Array Edge} {d : Nat} {v : Value} {id : Nat}
def Wide (F : Fence) : Prop := ∀ f, F.fn f
theorem semAt_of (ro : Option Nat) (ρ : Operand → Value) (o : Oper) (h : ∀ c, o.op ≠ .defer c) : Oper.semAt ro ρ o = execOp ρ o := by
 cases ro with
 | none => rfl
 | some l => exact Oper.semAt_some l ρ o h
theorem WIn (h : Q .normal l w) : WLI F n P N ds ops Q [] l w := fun _ ha => ⟨_, ha, h⟩
theorem stI (hF : Wide F) (hop : ∀ c, op ≠ .defer c) (hx : X P l op ty w v w') (hd : Nat.blt d N = true) (h : WLI F n P N ds ops Q rest ((d, v) :: l) w') : WLI F n P N ds ops Q (⟨some d, op, ty, pos, aft, none⟩ :: rest) l w := by
 intro a ha
 refine wpListIn_plain rfl fun K hK => ⟨fun f _ => hF f, ?_⟩
 rw [semAt_of _ _ _ hop]
 have : (execOp a.eval ⟨some d, op, ty, pos, aft, none⟩).run P w = .ok (.value v) w' := hx _ ha.knows
 rw [this]
 exact hK _ _ (h _ (ha.put hd v))
theorem W_regI {os : List Oper} (h : WLI Fence.wide n P N ds os.toArray Q os l w) : W P N ds Q (.region id os.toArray false) l w := fun a ha => wpIn_wide.1 (wpIn_region_lit (h a ha))
theorem syield {x : Operand} {args : List Operand} {ats : Array TypeId} {lp : Nat} (vs : List Value) (hF : Wide F) (hdp : F.depth.isSome = false) (hx : ev l x = some (.func (.yield lp) #[] #[])) (hvs : evs l args = some vs) (hd : Nat.blt d N = true)
  (hy : YieldAt F (n - 1) P lp vs.toArray w fun e w' => match e with | .returned v => WLI F n P N ds ops Q rest ((d, v) :: l) w' | _ => False) :
  WLI F n P N ds ops Q (⟨some d, .call { callee := .value x, args := args.toArray, argTypes := ats }, ty, pos, aft, none⟩ :: rest) l w := by
 intro a ha
 refine wpListIn_plain rfl fun K hK => ⟨fun f _ => hF f, ?_⟩
 rw [semAt_of _ _ _ (fun c h => by cases h)]
 have hx' := ha.knows _ _ hx
 have hvs' := evs_map ha.knows hvs
 have e1 : List.map (fun x => a.eval x) args = vs := hvs'
 obtain ⟨fn, tmps, assign, body, hr, hR⟩ := hy
 have e2 : (execOp a.eval ⟨some d, .call { callee := .value x, args := args.toArray, argTypes := ats }, ty, pos, aft, none⟩).run P w = .ok (.round lp fn tmps assign body) w := by
  unfold execOp
  simp only [resolve, invoke, hx']
  simp [Deferred.ofValue, e1, hr]
 rw [e2, Oper.uponIn_round]
 refine ⟨fun h => (by rw [hdp] at h; cases h), RoundIn.mono hR (fun e w' h => ?_)⟩
 cases e with
 | returned v => exact hK _ _ (h _ (ha.put hd v))
 | panicked c => exact h.elim
 | outgrown => exact h.elim
end
def noDefer (os : List Oper) : Bool := os.all fun o => match o.op with | .defer _ => false | _ => true
theorem upon_round {P : Program} {o : Oper} {a : Act} {next next' : Act → World → Prop} {Q : Exit → Act → World → Prop} {lp n : Nat} (hx : ∀ a w, next a w → next' a w) : ∀ {r : Result Next}, o.upon P a next Q r → o.uponIn (Fence.wide.inRound lp) n P a next' Q r
 | .ok (.value _) _, h => hx _ _ h
 | .ok .skip _, h => hx _ _ h
 | .ok (.defer _) _, h => hx _ _ h
 | .ok (.enter _ _) _, h => ⟨fun h => (by cases h), CallsIn.inRound lp (callsIn_wide.2 (Calls.mono h (fun e w h => by cases e with | returned v => exact hx _ _ h | panicked c => exact h | outgrown => exact h)))⟩
 | .ok (.row _ _) _, h => ⟨fun h => (by cases h), fun c cs _ => (let ⟨v, w', r, s⟩ := h c cs; ⟨v, w', hx _ _ r, stepsIn_wide.2 s⟩)⟩
 | .ok (.round ..) _, h => h.elim
 | .halt (.panic _) _, h => h
theorem wpListIn_round {P : Program} {ops : Array Oper} {Q : Exit → Act → World → Prop} {lp n : Nat} (hQ : ¬ LetsOut Q) : ∀ (os : List Oper) {a : Act} {w : World}, noDefer os = true → wpList P ops Q os a w → wpListIn (Fence.wide.inRound lp) n P ops Q os a w
 | [], _, _, _, h => h
 | o :: rest, a, w, hn, h => by
  have hn1 : ∀ c, o.op ≠ .defer c := fun c hc => by
   simp only [noDefer, List.all_cons, hc, Bool.false_and] at hn
   cases hn
  have hn2 : noDefer rest = true := by
   simp only [noDefer, List.all_cons, Bool.and_eq_true] at hn
   exact hn.2
  unfold wpList at h
  unfold wpListIn
  split at h
  ·rename_i hw
   rw [if_pos hw]
   refine ⟨fun f _ => trivial, ?_⟩
   rw [semAt_of _ _ _ hn1]
   have h' : o.upon P a (wpList P ops Q rest) Q ((execOp a.eval o).run P w) := h.resolve_right (fun h => hQ h.2)
   exact upon_round (fun a' w' h'' => wpListIn_round hQ rest hn2 h'') h'
  ·rename_i hw
   rw [if_neg hw]
   exact ⟨fun f _ => trivial, wpListIn_round hQ rest hn2 h⟩
theorem WLI_of {P : Program} {N : Nat} {ds : List Deferred} {Q : Post} {l : Env} {w : World} {ops : Array Oper} {os : List Oper} {lp n : Nat} (hn : noDefer os = true) (hQ : ∀ l w, ¬ Q .outgrown l w) (h : WL P N ds ops Q os l w) : WLI (Fence.wide.inRound lp) n P N ds ops Q os l w :=
 fun a ha => wpListIn_round (fun hl => (by obtain ⟨_, w', l', _, h⟩ := hl; exact hQ l' w' h)) os hn (h a ha)
theorem outI {F : Fence} {n : Nat} {P : Program} {N : Nat} {ds : List Deferred} {Q : Post} {Q' : Exit → Act → World → Prop} {l : Env} {w : World} {a : Act} {os : List Oper} {id : Nat} (h : WLI F n P N ds os.toArray Q os l w) (ha : Rep N ds l a)
  (hq : ∀ e l a w, Rep N ds l a → Q e l w → Q' e a w) : (Code.region id os.toArray false).wpIn F n P Q' a w :=
 wpIn_mono (wpIn_region_lit (h a ha)) (fun e a w hx => by obtain ⟨l, hr, hx⟩ := hx; exact hq e l a w hr hx)
theorem retM {P : Program} {n : Nat} {fn : Func} {R : Ending → World → Prop} {N D : Nat} {l : Env} {a : Act} {w : World} (hr : Rep N [{ target := .collected D, args := #[] }] l a) (hD : w.heap[D]? = some (.deferred (some []))) (h : fnPost P fn R .ret l (w.putObj D (.deferred none))) :
  bodyPostM Fence.wide n P fn R .ret a w := by
 obtain ⟨v, h1, h2⟩ := h
 show LeavesInM Fence.wide n P fn a.tmps R a.defers .returning w
 rw [hr.defers]
 exact ⟨by simp, .inl ⟨D, _, rfl, run_takeDeferred hD, v, h1 _ hr.val, h2⟩⟩
end Go.Proofs.YtnlabkogebnioaaGreatDoor
namespace Go.Proofs.YtnlabkogebnioaaGreatDoor
open Go.RowKit
theorem Chg.g {S : Nat → Prop} {w w' : World} {g : Nat} (h : Chg (fun k => k = g) w w') (hg : S g) : Chg S w w' := h.mono (fun k _ hk => by rw [hk]; exact hg)
theorem Append_any (g : Nat) (D : DiskD) (S : Nat → Prop) (n : Key) (d : List UInt8) (w : World) (h : DiskAt w g D S) (hok : DOk D) (hbud : DBud D) (hd : d.length ≤ 1099511627776) :
  Calls Tryz.prog 51 #[.pointer (some ⟨g, 0, none⟩), str n, str d] w (DPost g S w (appendM D n d)) := by
 have h0 := h
 obtain ⟨b, rs, h⟩ := h
 by_cases hl : D.stops = true ∧ D.left = 0
 ·skip
  refine W_enter (args := [.pointer (some ⟨g, 0, none⟩), str n, str d]) 33 Tryz.func51 rfl rfl rfl (W_sub [(0, .pointer (some ⟨g, 0, none⟩)), (1, str n), (2, str d)] ?_ ⟨rfl, rfl, rfl, trivial⟩)
  have hbw := Below.refl w.heap.size w
  refine W_rs (sa rfl rfl (Wn (tN (W_seq (W_rs (sm rfl rfl (sc _ Tryz.func96 rfl (by kernel_rfl) rfl rfl ((ready_dead g b D _ (h.bel hbw).blk hl).mono ?_))))))))
  rintro e_ w1 ⟨rfl, hb⟩
  refine cR ?_
  replace hbw := bthen hbw hb
  have hz_w1 := hb.size
  clear hb
  refine sa rfl rfl (Wn (tN (W_rs (sm rfl rfl (st (X.neq rfl rfl) rfl (Wn (tN (W_yes rfl (rfl) (W_rs (sm rfl rfl ?_))))))))))
  refine sa rfl rfl (Wn (tN (W_ret (tR ?_))))
  exact (rT rfl rfl (DPost.same h0 hbw (opM_dead hl _))).1
 have hok' := tick_ok hok hl
 have hbud' := tick_bud hbud
 cases hr : mget rs n with
 | none =>
  have hf : mget D.files n = none := by rw [h.files, hr]; rfl
  refine W_enter (args := [.pointer (some ⟨g, 0, none⟩), str n, str d]) 33 Tryz.func51 rfl rfl rfl (W_sub [(0, .pointer (some ⟨g, 0, none⟩)), (1, str n), (2, str d)] ?_ ⟨rfl, rfl, rfl, trivial⟩)
  refine W_rs (sa rfl rfl (Wn (tN (W_seq (W_rs (sm rfl rfl (sc _ Tryz.func96 rfl (by kernel_rfl) rfl rfl ((ready_live g b D rs S _ h hok hl).mono ?_))))))))
  rintro e_ w1 ⟨rfl, h1, hC1⟩
  refine cR (sa rfl rfl (Wn (tN (W_rs (sm rfl rfl (st (X.neq rfl rfl) rfl (Wn (tN (W_no rfl (rfl) (W_skip ?_))))))))))
  refine tN (W_rs (sm rfl rfl (sm rfl rfl (sc _ Tryz.func57 rfl (by kernel_rfl) rfl rfl ((find_none g b _ rs S n _ h1 hr).mono ?_)))))
  rintro e_ w2 ⟨rfl, hb2⟩
  refine cR (sm rfl rfl (st (X.ext rfl rfl) rfl (st (X.ext rfl rfl) rfl (sa rfl rfl (sa rfl rfl (Wn (tN (W_seq (W_rs (sm rfl rfl ?_))))))))))
  refine st (X.neq rfl rfl) rfl (Wn (tN (W_yes rfl (rfl) (W_rs (sm rfl rfl (sa rfl rfl (Wn (tN (W_ret (tR ?_))))))))))
  exact (rT rfl rfl (DPost.of (h1.bel hb2) ((hC1.g h.inS.1).then_below hb2) ((opM_live hl _).trans (fileM_none (tick_get hf) _)))).1
 | some r =>
  have hf : mget D.files n = some r.f := by rw [h.files, hr]; rfl
  have hp := (hbud'.pend n r.f (tick_get hf)).2
  refine W_enter (args := [.pointer (some ⟨g, 0, none⟩), str n, str d]) 33 Tryz.func51 rfl rfl rfl (W_sub [(0, .pointer (some ⟨g, 0, none⟩)), (1, str n), (2, str d)] ?_ ⟨rfl, rfl, rfl, trivial⟩)
  refine W_rs (sa rfl rfl (Wn (tN (W_seq (W_rs (sm rfl rfl (sc _ Tryz.func96 rfl (by kernel_rfl) rfl rfl ((ready_live g b D rs S _ h hok hl).mono ?_))))))))
  rintro e_ w1 ⟨rfl, h1, hC1⟩
  refine cR (sa rfl rfl (Wn (tN (W_rs (sm rfl rfl (st (X.neq rfl rfl) rfl (Wn (tN (W_no rfl (rfl) (W_skip ?_))))))))))
  refine tN (W_rs (sm rfl rfl (sm rfl rfl (sc _ Tryz.func57 rfl (by kernel_rfl) rfl rfl ((find_some g b _ rs S n r _ h1 hr).mono ?_)))))
  rintro e_ w2 ⟨rfl, hb2⟩
  refine cR ?_
  have h2 := h1.bel hb2
  have hF := (h2.at_ n r hr).blk
  obtain ⟨a, c, hvn, _⟩ := (h2.at_ n r hr).now.shape
  rw [hvn] at hF
  refine sm rfl rfl (st (X.ext rfl rfl) rfl (st (X.ext rfl rfl) rfl (sa rfl rfl (sa rfl rfl (Wn (tN (W_seq (W_rs (sm rfl rfl (st (X.neq rfl rfl) rfl ?_))))))))))
  refine Wn (tN (W_no rfl (rfl) (W_skip (tN (W_rs (sm rfl rfl (sm rfl rfl (sm rfl rfl (st (X.nilChk rfl) rfl (st (X.fa fa126_1 rfl) rfl ?_))))))))))
  refine st (X.ldL rfl hF Tryz.underlying123 rfl rfl) rfl (st (X.lenL rfl rfl Tryz.underlying123) rfl (sm rfl rfl (sc _ Tryz.func97 rfl (by kernel_rfl) rfl rfl ((put_any g b _ rs S n r _ d _ h2 hok' hr (Nat.le_refl _) hd hp hbud'.ref).mono ?_))))
  rintro e_ w3 ⟨rfl, hD, hC3⟩
  refine cR (sa rfl rfl (Wn (tN (W_ret ?_))))
  exact (rT rfl rfl (DPost.up ((hC1.g h.inS.1).then_below hb2) hD hC3 ((opM_live hl _).trans (fileM_some (tick_get hf) _)))).1
theorem DiskIn.lasts {w w' : World} {g b : Nat} {D : DiskD} {rs : List (Key × FRec)} {S : Nat → Prop} {n : Key} {r : FRec} {vl' : Value} (h : DiskIn w g b D rs S) (hr : mget rs n = some r) (hs : Rising D.files)
  (hB : Blk w' r.blk 126 #[vl', r.vn, .slice none 0 0]) (hL : Row w' 5 1 vl' r.f.now.length (r.f.now.map bv)) (hN : Row w' 5 1 r.vn r.f.now.length (r.f.now.map bv)) (hO : ∀ k, vl'.ownBlock = some k → w.heap.size ≤ k) (hC : Chg (fun k => k = r.blk) w w') :
  DiskIn w' g b { D with files := sput D.files n (lastsM r.f) } (mput rs n ⟨r.blk, vl', r.vn, .slice none 0 0, lastsM r.f⟩) (Ext S w w') := by
 refine h.file hr (hC.mono (fun k _ hk => .inr (.inl hk))) (h.blk.chg hC (fun e => (h.ne hr).1 (.inl e))) (fun m => mget_sput hs n _ m) ⟨hB, hL, hN, Row.nil _ _ _, fun k hk hk2 => ?_⟩ rfl ?_
 ·have := (h.at_ n r hr).lt (.inr (.inr (.inl hk2)))
  have := hO k hk
  omega
 ·rintro k (e | e | e | e)
  ·exact .inl (.inl e)
  ·exact .inr (hO k e)
  ·exact .inl (.inr (.inr (.inl e)))
  ·simp [Value.ownBlock] at e
theorem Sync_any (g : Nat) (D : DiskD) (S : Nat → Prop) (n : Key) (w : World) (h : DiskAt w g D S) (hok : DOk D) :
  Calls Tryz.prog 54 #[.pointer (some ⟨g, 0, none⟩), str n] w (DPost g S w (syncM D n)) := by
 have h0 := h
 obtain ⟨b, rs, h⟩ := h
 by_cases hl : D.stops = true ∧ D.left = 0
 ·skip
  refine W_enter (args := [.pointer (some ⟨g, 0, none⟩), str n]) 24 Tryz.func54 rfl rfl rfl (W_sub [(0, .pointer (some ⟨g, 0, none⟩)), (1, str n)] ?_ ⟨rfl, rfl, trivial⟩)
  have hbw := Below.refl w.heap.size w
  refine W_rs (sa rfl rfl (Wn (tN (W_seq (W_rs (sm rfl rfl (sc _ Tryz.func96 rfl (by kernel_rfl) rfl rfl ((ready_dead g b D _ (h.bel hbw).blk hl).mono ?_))))))))
  rintro e_ w1 ⟨rfl, hb⟩
  refine cR ?_
  replace hbw := bthen hbw hb
  have hz_w1 := hb.size
  clear hb
  refine sa rfl rfl (Wn (tN (W_rs (sm rfl rfl (st (X.neq rfl rfl) rfl (Wn (tN (W_yes rfl (rfl) (W_rs (sm rfl rfl ?_))))))))))
  refine sa rfl rfl (Wn (tN (W_ret (tR ?_))))
  exact (rT rfl rfl (DPost.same h0 hbw (opM_dead hl _))).1
 have hok' := tick_ok hok hl
 cases hr : mget rs n with
 | none =>
  have hf : mget D.files n = none := by rw [h.files, hr]; rfl
  refine W_enter (args := [.pointer (some ⟨g, 0, none⟩), str n]) 24 Tryz.func54 rfl rfl rfl (W_sub [(0, .pointer (some ⟨g, 0, none⟩)), (1, str n)] ?_ ⟨rfl, rfl, trivial⟩)
  refine W_rs (sa rfl rfl (Wn (tN (W_seq (W_rs (sm rfl rfl (sc _ Tryz.func96 rfl (by kernel_rfl) rfl rfl ((ready_live g b D rs S _ h hok hl).mono ?_))))))))
  rintro e_ w1 ⟨rfl, h1, hC1⟩
  refine cR (sa rfl rfl (Wn (tN (W_rs (sm rfl rfl (st (X.neq rfl rfl) rfl (Wn (tN (W_no rfl (rfl) (W_skip ?_))))))))))
  refine tN (W_rs (sm rfl rfl (sm rfl rfl (sc _ Tryz.func57 rfl (by kernel_rfl) rfl rfl ((find_none g b _ rs S n _ h1 hr).mono ?_)))))
  rintro e_ w2 ⟨rfl, hb2⟩
  refine cR (sm rfl rfl (st (X.ext rfl rfl) rfl (st (X.ext rfl rfl) rfl (sa rfl rfl (sa rfl rfl (Wn (tN (W_seq (W_rs (sm rfl rfl ?_))))))))))
  refine st (X.neq rfl rfl) rfl (Wn (tN (W_yes rfl (rfl) (W_rs (sm rfl rfl (sa rfl rfl (Wn (tN (W_ret (tR ?_))))))))))
  exact (rT rfl rfl (DPost.of (h1.bel hb2) ((hC1.g h.inS.1).then_below hb2) ((opM_live hl _).trans (fileM_none (tick_get hf) _)))).1
 | some r =>
  have hf : mget D.files n = some r.f := by rw [h.files, hr]; rfl
  have hlen := (hok'.len (tick_get hf)).1
  refine W_enter (args := [.pointer (some ⟨g, 0, none⟩), str n]) 24 Tryz.func54 rfl rfl rfl (W_sub [(0, .pointer (some ⟨g, 0, none⟩)), (1, str n)] ?_ ⟨rfl, rfl, trivial⟩)
  refine W_rs (sa rfl rfl (Wn (tN (W_seq (W_rs (sm rfl rfl (sc _ Tryz.func96 rfl (by kernel_rfl) rfl rfl ((ready_live g b D rs S _ h hok hl).mono ?_))))))))
  rintro e_ w1 ⟨rfl, h1, hC1⟩
  refine cR (sa rfl rfl (Wn (tN (W_rs (sm rfl rfl (st (X.neq rfl rfl) rfl (Wn (tN (W_no rfl (rfl) (W_skip ?_))))))))))
  refine tN (W_rs (sm rfl rfl (sm rfl rfl (sc _ Tryz.func57 rfl (by kernel_rfl) rfl rfl ((find_some g b _ rs S n r _ h1 hr).mono ?_)))))
  rintro e_ w2 ⟨rfl, hb2⟩
  refine cR ?_
  have h2 := h1.bel hb2
  have hF := h2.at_ n r hr
  refine sm rfl rfl (st (X.ext rfl rfl) rfl (st (X.ext rfl rfl) rfl (sa rfl rfl (sa rfl rfl (Wn (tN (W_seq (W_rs (sm rfl rfl (st (X.neq rfl rfl) rfl ?_))))))))))
  refine Wn (tN (W_no rfl (rfl) (W_skip (tN (W_rs (sm rfl rfl (sc _ Tryz.func59 rfl (by kernel_rfl) rfl rfl ((lasts_any r.blk r.vl r.vn r.vp r.f.now _ hF.blk hF.now (by omega)).mono ?_))))))))
  rintro e_ w3 ⟨rfl, vl', hB3, hL3, hN3, hO3, hC3⟩
  refine cR (Wn (tN (W_rs (sa rfl rfl (Wn (tN (W_ret ((rT rfl rfl (DPost.up (x := (0, { tickM D with files := sput (tickM D).files n (lastsM r.f) })) ((hC1.g h.inS.1).then_below hb2) ⟨b, _, h2.lasts hr hok'.srt hB3 hL3 hN3 hO3 hC3⟩ (hC3.mono (fun k _ hk => h.inR n r k hr (.inl hk))) ((opM_live hl _).trans (fileM_some (tick_get hf) _)))).1))))))))
end Go.Proofs.YtnlabkogebnioaaGreatDoor
namespace Go.Proofs.YtnlabkogebnioaaGreatDoor
open Go.RowKit
theorem Chg.bel {S : Nat → Prop} {w w' w'' : World} (h : Chg S w w') (hb : Below w'.heap.size w' w'') : Chg S w w'' := h.then_below hb
theorem bfile (w : World) : (Instr.build 126 #[]).run Tryz.prog w = .ok (.agg #[.slice none 0 0, .slice none 0 0, .slice none 0 0]) w := by kernel_rfl
theorem look_ptr {rs : List (Key × FRec)} {n : Key} {o : Option Nat} (h : (mget rs n).map FRec.blk = o) : ((mget (rs.map fun p => (p.1, p.2.blk)) n).map encPtr).getD (.pointer none) = .pointer (o.map fun g => ⟨g, 0, none⟩) := by
 rw [mget_map, h]
 cases o <;> rfl
theorem Create_any (g : Nat) (D : DiskD) (S : Nat → Prop) (n : Key) (w : World) (h : DiskAt w g D S) (hok : DOk D) :
  Calls Tryz.prog 66 #[.pointer (some ⟨g, 0, none⟩), str n] w (DPost g S w (createM D n)) := by
 have h0 := h
 obtain ⟨b, rs, h⟩ := h
 by_cases hl : D.stops = true ∧ D.left = 0
 ·skip
  refine W_enter (args := [.pointer (some ⟨g, 0, none⟩), str n]) 30 Tryz.func66 rfl rfl rfl (W_sub [(0, .pointer (some ⟨g, 0, none⟩)), (1, str n)] ?_ ⟨rfl, rfl, trivial⟩)
  have hbw := Below.refl w.heap.size w
  refine W_rs (sa rfl rfl (Wn (tN (W_seq (W_rs (sm rfl rfl (sc _ Tryz.func96 rfl (by kernel_rfl) rfl rfl ((ready_dead g b D _ (h.bel hbw).blk hl).mono ?_))))))))
  rintro e_ w1 ⟨rfl, hb⟩
  refine cR ?_
  replace hbw := bthen hbw hb
  have hz_w1 := hb.size
  clear hb
  refine sa rfl rfl (Wn (tN (W_rs (sm rfl rfl (st (X.neq rfl rfl) rfl (Wn (tN (W_yes rfl (rfl) (W_rs (sm rfl rfl ?_))))))))))
  refine sa rfl rfl (Wn (tN (W_ret (tR ?_))))
  exact (rT rfl rfl (DPost.same h0 hbw (opM_dead hl _))).1
 have hok' := tick_ok hok hl
 cases hr : mget rs n with
 | some r =>
  have hf : mget D.files n = some r.f := by rw [h.files, hr]; rfl
  have hv := look_ptr (rs := rs) (n := n) (o := some r.blk) (by rw [hr]; rfl)
  refine W_enter (args := [.pointer (some ⟨g, 0, none⟩), str n]) 30 Tryz.func66 rfl rfl rfl (W_sub [(0, .pointer (some ⟨g, 0, none⟩)), (1, str n)] ?_ ⟨rfl, rfl, trivial⟩)
  refine W_rs (sa rfl rfl (Wn (tN (W_seq (W_rs (sm rfl rfl (sc _ Tryz.func96 rfl (by kernel_rfl) rfl rfl ((ready_live g b D rs S _ h hok hl).mono ?_))))))))
  rintro e_ w1 ⟨rfl, h1_, hC1_⟩
  refine cR ?_
  have h1 := h1_
  have hC1 := hC1_.g h.inS.1
  have hB : Blk w1 g 110 #[.map (some b), .int .i64 (tickM D).limit, .int .i64 (tickM D).used, .int .i64 (tickM D).refused, .bool (tickM D).stops, .int .i64 (tickM D).left] := h1.blk
  clear h1_ hC1_
  refine sa rfl rfl (Wn (tN (W_rs (sm rfl rfl (st (X.neq rfl rfl) rfl (Wn (tN (W_no rfl (rfl) (W_skip (tN ?_))))))))))
  refine W_seq (W_block (W_rs (sm rfl rfl (sc _ Tryz.func112 rfl (by kernel_rfl) rfl rfl ((named_any n _).mono ?_)))))
  rintro e_ w2 ⟨rfl, hb⟩
  refine cR ?_
  replace h1 := h1.bel hb
  replace hB := hB.bel hb
  replace hC1 := hC1.bel hb
  have hz_w2 := hb.size
  clear hb
  refine st (X.not rfl) rfl (sa rfl rfl (Wn (tN (W_if rfl (fun h11 => ?_) (fun h11 => ?_)))))
  ·first | replace h11 := of_decide_eq_true h11 | replace h11 := of_decide_eq_false (notT h11) | replace h11 := notT h11 | skip
   refine W_rs (sa rfl rfl (Wn (tN (W_ret (bR (tR ((rT rfl rfl (DPost.of h1 hC1 ((opM_live hl _).trans ?_))).1)))))))
   exact if_neg (by simp [h11])
  ·first | replace h11 := of_decide_eq_false h11 | replace h11 := of_decide_eq_true (notF h11) | replace h11 := notF h11 | skip
   refine W_rs (sm rfl rfl (st (X.nilChk rfl) rfl (st (X.fa fa110_0 rfl) rfl (st (X.ldL rfl hB Tryz.underlying108 rfl rfl) rfl (sm rfl rfl (st (v := .pointer (some ⟨r.blk, 0, none⟩)) (hv ▸ X.look (keyStr Tryz.underlying9) rfl n rfl Tryz.underlying108 (zptr _) h1.map) rfl (st (X.fNe rfl) rfl (sa rfl rfl (Wn (tN ?_))))))))))
   refine W_yes rfl (rfl) (W_rs (sa rfl rfl (Wn (tN (W_ret (bR (tR ((rT rfl rfl (DPost.of h1 hC1 ((opM_live hl _).trans ?_))).1))))))))
   rw [if_pos (by simpa using h11), if_pos (by rw [tick_get hf]; rfl)]
 | none =>
  have hf : mget D.files n = none := by rw [h.files, hr]; rfl
  have hv := look_ptr (rs := rs) (n := n) (o := none) (by rw [hr]; rfl)
  refine W_enter (args := [.pointer (some ⟨g, 0, none⟩), str n]) 30 Tryz.func66 rfl rfl rfl (W_sub [(0, .pointer (some ⟨g, 0, none⟩)), (1, str n)] ?_ ⟨rfl, rfl, trivial⟩)
  refine W_rs (sa rfl rfl (Wn (tN (W_seq (W_rs (sm rfl rfl (sc _ Tryz.func96 rfl (by kernel_rfl) rfl rfl ((ready_live g b D rs S _ h hok hl).mono ?_))))))))
  rintro e_ w1 ⟨rfl, h1_, hC1_⟩
  refine cR ?_
  have h1 := h1_
  have hC1 := hC1_.g h.inS.1
  have hB : Blk w1 g 110 #[.map (some b), .int .i64 (tickM D).limit, .int .i64 (tickM D).used, .int .i64 (tickM D).refused, .bool (tickM D).stops, .int .i64 (tickM D).left] := h1.blk
  clear h1_ hC1_
  refine sa rfl rfl (Wn (tN (W_rs (sm rfl rfl (st (X.neq rfl rfl) rfl (Wn (tN (W_no rfl (rfl) (W_skip (tN ?_))))))))))
  refine W_seq (W_block (W_rs (sm rfl rfl (sc _ Tryz.func112 rfl (by kernel_rfl) rfl rfl ((named_any n _).mono ?_)))))
  rintro e_ w2 ⟨rfl, hb⟩
  refine cR ?_
  replace h1 := h1.bel hb
  replace hB := hB.bel hb
  replace hC1 := hC1.bel hb
  have hz_w2 := hb.size
  clear hb
  refine st (X.not rfl) rfl (sa rfl rfl (Wn (tN (W_if rfl (fun h11 => ?_) (fun h11 => ?_)))))
  ·first | replace h11 := of_decide_eq_true h11 | replace h11 := of_decide_eq_false (notT h11) | replace h11 := notT h11 | skip
   refine W_rs (sa rfl rfl (Wn (tN (W_ret (bR (tR ((rT rfl rfl (DPost.of h1 hC1 ((opM_live hl _).trans ?_))).1)))))))
   exact if_neg (by simp [h11])
  ·first | replace h11 := of_decide_eq_false h11 | replace h11 := of_decide_eq_true (notF h11) | replace h11 := notF h11 | skip
   refine W_rs (sm rfl rfl (st (X.nilChk rfl) rfl (st (X.fa fa110_0 rfl) rfl (st (X.ldL rfl hB Tryz.underlying108 rfl rfl) rfl (sm rfl rfl (st (v := .pointer none) (hv ▸ X.look (keyStr Tryz.underlying9) rfl n rfl Tryz.underlying108 (zptr _) h1.map) rfl (st (X.fNe rfl) rfl (sa rfl rfl (Wn (tN ?_))))))))))
   refine W_no rfl (rfl) (W_skip (bN (tN (W_rs (sm rfl rfl (st (X.nilChk rfl) rfl (st (X.fa fa110_0 rfl) rfl (st (X.ldL rfl hB Tryz.underlying108 rfl rfl) rfl (sm rfl rfl (st (X.bld rfl (bfile _)) rfl ?_))))))))))
   refine sboxA rfl rfl (fun g29 w3 hB29 hg29 hb hl29 => (smu (keyStr Tryz.underlying9) rfl n g29 rfl rfl Tryz.underlying108 (h1.map.bel hb) (fun w4 hM2 hC2 => (Wn (tN (W_rs (sa rfl rfl (Wn (tN (W_ret ?_))))))))))
   have hbl := h1.map.lt
   have hcx := (Chg.of_below hb (fun k => k = g ∨ k = b)).next hC2 (fun i hi => .inl (.inr hi))
   refine (rT rfl rfl (DPost.up (x := (0, { tickM D with files := sput (tickM D).files n newFile })) hC1 ⟨b, _, h1.add (r' := ⟨g29, .slice none 0 0, .slice none 0 0, .slice none 0 0, newFile⟩) hcx ((h1.blk.belowAll hb).chg hC2 h1.gb) hM2 (fun m => mget_sput hok'.srt n _ m) ⟨hB29.chg hC2 (by omega), Row.nil _ _ _, Row.nil _ _ _, Row.nil _ _ _, fun k hk => by simp [Value.ownBlock] at hk⟩ ?_⟩ (hcx.mono (fun k _ hk => hk.elim (fun e => e ▸ h.inS.1) (fun e => e ▸ h.inS.2))) ((opM_live hl _).trans ?_))).1
   ·rintro k (e | e | e | e)
    ·subst e
     exact hg29
    all_goals simp [Value.ownBlock] at e
   ·rw [if_pos (by simpa using h11), if_neg (by rw [tick_get hf]; simp)]
end Go.Proofs.YtnlabkogebnioaaGreatDoor
namespace Go.Proofs.YtnlabkogebnioaaGreatDoor
open Go.RowKit
theorem DiskIn.remove {w w' : World} {g b : Nat} {D : DiskD} {rs : List (Key × FRec)} {S : Nat → Prop} {m : Key} (h : DiskIn w g b D rs S) (hs : Rising D.files) (hC : Chg (fun k => k = b) w w') (hM : MapAt w' b str encPtr (mdel (rs.map fun p => (p.1, p.2.blk)) m)) :
  DiskIn w' g b { D with files := mdel D.files m } (mdel rs m) S := by
 refine h.sub id (fun q s hq => ?_) (fun _ _ _ _ _ _ hne => hne) (hC.mono (fun k _ hk => .inr hk)) (h.blk.chg hC h.gb) (by rw [mdel_map]; exact hM) (fun q => ?_)
 ·rw [mget_mdel h.keys] at hq
  split at hq
  ·cases hq
  ·exact hq
 ·show mget (mdel D.files m) q = _
  rw [mget_mdel hs.nodup, mget_mdel h.keys]
  split
  ·rfl
  ·exact h.files q
set_option maxRecDepth 10000 in
theorem Remove_any (g : Nat) (D : DiskD) (S : Nat → Prop) (n : Key) (w : World) (h : DiskAt w g D S) (hok : DOk D) :
  Calls Tryz.prog 67 #[.pointer (some ⟨g, 0, none⟩), str n] w (DPost g S w (removeM D n)) := by
 have h0 := h
 obtain ⟨b, rs, h⟩ := h
 by_cases hl : D.stops = true ∧ D.left = 0
 ·skip
  refine W_enter (args := [.pointer (some ⟨g, 0, none⟩), str n]) 39 Tryz.func67 rfl rfl rfl (W_sub [(0, .pointer (some ⟨g, 0, none⟩)), (1, str n)] ?_ ⟨rfl, rfl, trivial⟩)
  have hbw := Below.refl w.heap.size w
  refine W_rs (sa rfl rfl (Wn (tN (W_seq (W_rs (sm rfl rfl (sc _ Tryz.func96 rfl (by kernel_rfl) rfl rfl ((ready_dead g b D _ (h.bel hbw).blk hl).mono ?_))))))))
  rintro e_ w1 ⟨rfl, hb⟩
  refine cR ?_
  replace hbw := bthen hbw hb
  have hz_w1 := hb.size
  clear hb
  refine sa rfl rfl (Wn (tN (W_rs (sm rfl rfl (st (X.neq rfl rfl) rfl (Wn (tN (W_yes rfl (rfl) (W_rs (sm rfl rfl ?_))))))))))
  refine sa rfl rfl (Wn (tN (W_ret (tR ?_))))
  exact (rT rfl rfl (DPost.same h0 hbw (opM_dead hl _))).1
 have hok' := tick_ok hok hl
 cases hr : mget rs n with
 | none =>
  have hf : mget D.files n = none := by rw [h.files, hr]; rfl
  refine W_enter (args := [.pointer (some ⟨g, 0, none⟩), str n]) 39 Tryz.func67 rfl rfl rfl (W_sub [(0, .pointer (some ⟨g, 0, none⟩)), (1, str n)] ?_ ⟨rfl, rfl, trivial⟩)
  refine W_rs (sa rfl rfl (Wn (tN (W_seq (W_rs (sm rfl rfl (sc _ Tryz.func96 rfl (by kernel_rfl) rfl rfl ((ready_live g b D rs S _ h hok hl).mono ?_))))))))
  rintro e_ w1 ⟨rfl, h1, hC1⟩
  refine cR (sa rfl rfl (Wn (tN (W_rs (sm rfl rfl (st (X.neq rfl rfl) rfl (Wn (tN (W_no rfl (rfl) (W_skip ?_))))))))))
  refine tN (W_rs (sm rfl rfl (sm rfl rfl (sc _ Tryz.func57 rfl (by kernel_rfl) rfl rfl ((find_none g b _ rs S n _ h1 hr).mono ?_)))))
  rintro e_ w2 ⟨rfl, hb2⟩
  refine cR (sm rfl rfl (st (X.ext rfl rfl) rfl (st (X.ext rfl rfl) rfl (sa rfl rfl (sa rfl rfl (Wn (tN (W_seq (W_rs (sm rfl rfl ?_))))))))))
  refine st (X.neq rfl rfl) rfl (Wn (tN (W_yes rfl (rfl) (W_rs (sm rfl rfl (sa rfl rfl (Wn (tN (W_ret (tR ?_))))))))))
  exact (rT rfl rfl (DPost.of (h1.bel hb2) ((hC1.g h.inS.1).then_below hb2) ((opM_live hl _).trans (fileM_none (tick_get hf) _)))).1
 | some r =>
  have hf : mget D.files n = some r.f := by rw [h.files, hr]; rfl
  obtain ⟨hlen, _, hlu⟩ := hok'.len (tick_get hf)
  have hlim := hok'.lim
  have hroom := hok'.room
  refine W_enter (args := [.pointer (some ⟨g, 0, none⟩), str n]) 39 Tryz.func67 rfl rfl rfl (W_sub [(0, .pointer (some ⟨g, 0, none⟩)), (1, str n)] ?_ ⟨rfl, rfl, trivial⟩)
  refine W_rs (sa rfl rfl (Wn (tN (W_seq (W_rs (sm rfl rfl (sc _ Tryz.func96 rfl (by kernel_rfl) rfl rfl ((ready_live g b D rs S _ h hok hl).mono ?_))))))))
  rintro e_ w1 ⟨rfl, h1, hC1⟩
  refine cR (sa rfl rfl (Wn (tN (W_rs (sm rfl rfl (st (X.neq rfl rfl) rfl (Wn (tN (W_no rfl (rfl) (W_skip ?_))))))))))
  refine tN (W_rs (sm rfl rfl (sm rfl rfl (sc _ Tryz.func57 rfl (by kernel_rfl) rfl rfl ((find_some g b _ rs S n r _ h1 hr).mono ?_)))))
  rintro e_ w2 ⟨rfl, hb2⟩
  refine cR ?_
  have h2 := h1.bel hb2
  have hC2 := (hC1.g h.inS.1).then_below hb2
  have hF := (h2.at_ n r hr).blk
  obtain ⟨a, c, hvn, _⟩ := (h2.at_ n r hr).now.shape
  rw [hvn] at hF
  have hB : Blk w2 g 110 #[.map (some b), .int .i64 (tickM D).limit, .int .i64 (tickM D).used, .int .i64 (tickM D).refused, .bool (tickM D).stops, .int .i64 (tickM D).left] := h2.blk
  refine sm rfl rfl (st (X.ext rfl rfl) rfl (st (X.ext rfl rfl) rfl (sa rfl rfl (sa rfl rfl (Wn (tN (W_seq (W_rs (sm rfl rfl (st (X.neq rfl rfl) rfl ?_))))))))))
  refine Wn (tN (W_no rfl (rfl) (W_skip (tN (W_still_s 12 (by kernel_rfl) (by kernel_rfl) ?_)))))
  obtain ⟨w3, hw_⟩ : ∃ w3 : World, w3 = World.drew w2 := ⟨_, rfl⟩
  rw [← hw_]
  have hb : Below w2.heap.size w2 w3 := by rw [hw_]; exact bdrew (Below.refl _ _)
  clear hw_
  replace hB := hB.bel hb
  replace hF := hF.bel hb
  replace h2 := h2.bel hb
  replace hC2 := hC2.bel hb
  have hz_w3 := hb.size
  clear hb
  refine hY (X.move rfl) rfl (hY (X.nilChk rfl) rfl (hY (X.fa fa110_2 rfl) rfl (hY (X.ldL rfl hB Tryz.underlying3 rfl rfl) rfl (hY (X.move rfl) rfl (hY (X.nilChk rfl) rfl (hY (X.fa fa126_1 rfl) rfl (hY (X.ldL rfl hF Tryz.underlying123 rfl rfl) rfl (hY (X.lenL rfl rfl Tryz.underlying123) rfl (hY (X.sub64 rfl rfl (by omega)) rfl (hY (X.nilChk rfl) rfl ?_))))))))))
  refine hY (X.fa fa110_2 rfl) rfl (hN (ssB rfl rfl hB siz3 rfl (by simp) (fun w4 hB3 hC3 => ?_)))
  have h3 := h2.self (D' := { tickM D with used := (tickM D).used - r.f.now.length }) hC3 hB3 rfl
  replace hB := hB3
  refine Wn (tN (W_rs (sm rfl rfl (st (X.nilChk rfl) rfl (st (X.fa fa110_0 rfl) rfl (st (X.ldL rfl hB Tryz.underlying108 rfl rfl) rfl (sm rfl rfl (sdel (keyStr Tryz.underlying9) rfl n rfl Tryz.underlying108 h3.map (fun w5 hM4 hC4 => (Wn (tN ?_)))))))))))
  refine W_rs (sa rfl rfl (Wn (tN (W_ret ?_))))
  exact (rT rfl rfl (DPost.up (x := (0, { tickM D with files := mdel (tickM D).files n, used := (tickM D).used - r.f.now.length })) hC2 ⟨b, _, (h3.remove hok'.srt hC4 hM4).mono Ext.of⟩ ((hC3.g h.inS.1).next (hC4.g h.inS.2) (fun i hi => .inl hi)) ((opM_live hl _).trans (fileM_some (tick_get hf) _)))).1
theorem ssR {P : Program} {N : Nat} {ds : List Deferred} {Q : Post} {l : Env} {w : World} {ops : Array Oper} {rest : List Oper} {x y : Operand} {ty t e : TypeId} {pos : String} {aft : Array Edge} {g o j n c : Nat} {v : Value} {xs : List Value} (hx : ev l x = some (.pointer (some ⟨g, o + j, none⟩))) (hy : ev l y = some v) (hR : Row w e 1 (.slice (some ⟨g, o, none⟩) n c) n xs) (hj : j < n) (ht : (P.info? t).map (·.size) = some 1) (h1 : v.oneCell' = true)
  (h : ∀ w', Row w' e 1 (.slice (some ⟨g, o, none⟩) n c) n (xs.set j v) → Chg (fun k => k = g) w w' → WL P N ds ops Q rest l w') : WL P N ds ops Q (⟨none, .store t x y, ty, pos, aft, none⟩ :: rest) l w := by
 obtain ⟨g', o', c', hv, _, hnc, _, hc, hf⟩ := hR.form (by omega)
 injection hv with ea _ ec
 injection ea with ea
 injection ea with eg eo
 subst eg eo ec
 have hlen := hR.1
 exact ss (Xs.st hx hy ht h1 (by rw [hc j _ (List.getElem?_eq_getElem (by omega))]; rfl) (hf j (by omega))) (h _ (hR.store_ j hj v) ((Chg.refl (fun k => k = g) w).setCell (p := ⟨g, o + j, none⟩) (.inl rfl) v))
theorem Rot_any (g : Nat) (D : DiskD) (S : Nat → Prop) (n : Key) (i : Int) (c : UInt8) (w : World) (h : DiskAt w g D S) (hok : DOk D) :
  Calls Tryz.prog 22 #[.pointer (some ⟨g, 0, none⟩), str n, .int .i64 i, .int .u8 c.toNat] w (DPost g S w (rotM D n i c)) := by
 have h0 := h
 obtain ⟨b, rs, h⟩ := h
 cases hr : mget rs n with
 | none =>
  have hf : mget D.files n = none := by rw [h.files, hr]; rfl
  refine W_enter (args := [.pointer (some ⟨g, 0, none⟩), str n, .int .i64 i, .int .u8 c.toNat]) 42 Tryz.func22 rfl rfl rfl (W_sub [(0, .pointer (some ⟨g, 0, none⟩)), (1, str n), (2, .int .i64 i), (3, .int .u8 c.toNat)] ?_ ⟨rfl, rfl, rfl, rfl, trivial⟩)
  have hbw := Below.refl w.heap.size w
  refine W_rs (sa rfl rfl (Wn (tN (W_rs (sm rfl rfl (sm rfl rfl (sc _ Tryz.func57 rfl (by kernel_rfl) rfl rfl ((find_none g b D rs S n _ (h.bel hbw) hr).mono ?_))))))))
  rintro e_ w1 ⟨rfl, hb⟩
  refine cR ?_
  replace hbw := bthen hbw hb
  have hz_w1 := hb.size
  clear hb
  refine sm rfl rfl (st (X.ext rfl rfl) rfl (st (X.ext rfl rfl) rfl (sa rfl rfl (sa rfl rfl (Wn (tN (W_seq (W_block (W_rs (sm rfl rfl ?_))))))))))
  refine st (X.neq rfl rfl) rfl (sa rfl rfl (Wn (tN (W_yes rfl (rfl) (W_rs (sm rfl rfl (sa rfl rfl (Wn (tN (W_ret (bR (tR ?_))))))))))))
  exact (rT rfl rfl (DPost.same h0 hbw (fileM_none hf _))).1
 | some r =>
  have hf : mget D.files n = some r.f := by rw [h.files, hr]; rfl
  have hlen := (hok.len hf).1
  have hfile := h.at_ n r hr
  have hF := hfile.blk
  have hNo := hfile.now
  obtain ⟨a, ca, hvn, hc1, _⟩ := hfile.now.shape
  rw [hvn] at hF hNo
  refine W_enter (args := [.pointer (some ⟨g, 0, none⟩), str n, .int .i64 i, .int .u8 c.toNat]) 42 Tryz.func22 rfl rfl rfl (W_sub [(0, .pointer (some ⟨g, 0, none⟩)), (1, str n), (2, .int .i64 i), (3, .int .u8 c.toNat)] ?_ ⟨rfl, rfl, rfl, rfl, trivial⟩)
  have hbw := Below.refl w.heap.size w
  refine W_rs (sa rfl rfl (Wn (tN (W_rs (sm rfl rfl (sm rfl rfl (sc _ Tryz.func57 rfl (by kernel_rfl) rfl rfl ((find_some g b D rs S n r _ (h.bel hbw) hr).mono ?_))))))))
  rintro e_ w1 ⟨rfl, hb⟩
  refine cR ?_
  replace hbw := bthen hbw hb
  replace hF := hF.bel hb
  replace hNo := hNo.bel hb
  have hz_w1 := hb.size
  clear hb
  refine sm rfl rfl (st (X.ext rfl rfl) rfl (st (X.ext rfl rfl) rfl (sa rfl rfl (sa rfl rfl (Wn (tN (W_seq (W_block (W_rs (sm rfl rfl ?_))))))))))
  refine st (X.neq rfl rfl) rfl (sa rfl rfl (Wn (tN (W_no rfl (rfl) (W_rs (sm rfl rfl (st (X.lss rfl rfl) rfl (sb rfl rfl (fun h24 => ?_) (fun h24 => ?_)))))))))
  ·first | replace h24 := of_decide_eq_true h24 | replace h24 := of_decide_eq_false (notT h24) | replace h24 := notT h24 | skip
   refine gN (g := 24) rfl rfl rfl rfl (gN (g := 24) rfl rfl rfl rfl (gN (g := 24) rfl rfl rfl rfl (gN (g := 24) rfl rfl rfl rfl (gN (g := 24) rfl rfl rfl rfl (gN (g := 24) rfl rfl rfl rfl (gN (g := 24) rfl rfl rfl rfl (st (X.pickT rfl rfl) rfl (sa rfl rfl (Wn (tN ?_))))))))))
   refine W_yes rfl (rfl) (W_rs (sa rfl rfl (Wn (tN (W_ret (bR (tR ?_)))))))
   exact (rT rfl rfl (DPost.same h0 hbw ((fileM_some hf _).trans (if_pos (by omega))))).1
  ·first | replace h24 := of_decide_eq_false h24 | replace h24 := of_decide_eq_true (notF h24) | replace h24 := notF h24 | skip
   refine gY (g := 24) rfl rfl rfl (sm rfl rfl (gY (g := 24) rfl rfl rfl (sm rfl rfl (gY (g := 24) rfl rfl rfl (st (X.nilChk rfl) rfl (gY (g := 24) rfl rfl rfl (st (X.fa fa126_1 rfl) rfl (gY (g := 24) rfl rfl rfl (st (X.ldL rfl hF Tryz.underlying123 rfl rfl) rfl (gY (g := 24) rfl rfl rfl ?_))))))))))
   refine st (X.lenL rfl rfl Tryz.underlying123) rfl (gY (g := 24) rfl rfl rfl (st (X.geq rfl rfl) rfl (st (X.pickF rfl rfl) rfl (sa rfl rfl (Wn (tN (W_if rfl (fun h21 => ?_) (fun h21 => ?_))))))))
   ·first | replace h21 := of_decide_eq_true h21 | replace h21 := of_decide_eq_false (notT h21) | replace h21 := notT h21 | skip
    refine W_rs (sa rfl rfl (Wn (tN (W_ret (bR (tR ?_))))))
    exact (rT rfl rfl (DPost.same h0 hbw ((fileM_some hf _).trans (if_pos (by omega))))).1
   ·first | replace h21 := of_decide_eq_false h21 | replace h21 := of_decide_eq_true (notF h21) | replace h21 := notF h21 | skip
    refine W_skip (bN (tN (W_rs ?_)))
    obtain ⟨j, rfl⟩ : ∃ j : Nat, i = j := ⟨i.toNat, by omega⟩
    obtain ⟨gn, on, cn, hv, _⟩ := hNo.form (by omega)
    injection hv with ea _ ec
    subst ea ec
    refine sm rfl rfl (st (X.nilChk rfl) rfl (st (X.fa fa126_1 rfl) rfl (st (X.ldL rfl hF Tryz.underlying123 rfl rfl) rfl (sm rfl rfl (sm rfl rfl (st (X.idxA (j := j) rfl rfl Tryz.underlying123 siz5 rfl (by omega)) rfl (ssR (j := j) (by rw [Nat.mul_one]; rfl) rfl hNo (by omega) siz5 rfl (fun w2 hN2 hC2 => ?_))))))))
    have hF2 := hF.chg hC2 (fun e => hNo.ne2 hF (by decide) gn rfl e.symm)
    have hN3 : Row w2 5 1 (.slice (some ⟨gn, on, none⟩) r.f.now.length ca) (r.f.now.set j c).length ((r.f.now.set j c).map bv) := by
     rw [List.length_set, List.map_set]
     exact hN2
    have hnl : (r.f.now.set j c).length = r.f.now.length := List.length_set ..
    refine Wn (tN (W_rs (sm rfl rfl (sc _ Tryz.func59 rfl (by kernel_rfl) rfl rfl ((lasts_any r.blk r.vl _ r.vp (r.f.now.set j c) _ hF2 hN3 (by omega)).mono ?_)))))
    rintro e_ w3 ⟨rfl, vl', hB3, hL3, hN4, hO3, hC3⟩
    refine cR (Wn (tN (W_rs (sa rfl rfl (Wn (tN (W_ret ?_)))))))
    have hCw : Chg (fun k => k = g ∨ r.owns k) w w3 := (((Chg.of_below hbw _).next hC2 (fun k hk => .inl (.inr (.inr (.inr (.inl (by rw [hvn]; exact congrArg some hk.symm))))))).next hC3 (fun k hk => .inl (.inr (.inl hk))))
    have hz3 := hbw.size
    have hz4 := hC2.size
    have h5 := h.file (r' := ⟨r.blk, vl', .slice (some ⟨gn, on, none⟩) r.f.now.length ca, .slice none 0 0, ⟨r.f.now.set j c, r.f.now.set j c, []⟩⟩) (D' := { D with files := sput D.files n ⟨r.f.now.set j c, r.f.now.set j c, []⟩ }) hr hCw (((h.blk.belowAll hbw).chg hC2 (fun e => (h.ne hr).1 (.inr (.inr (.inl (by rw [hvn]; exact congrArg some e.symm)))))).chg hC3 (fun e => (h.ne hr).1 (.inl e))) (fun m => mget_sput hok.srt n _ m) ⟨hB3, hL3, hN4, Row.nil _ _ _, fun k hk hk2 => ?_⟩ rfl ?_
    ·have e1 : rotM D n j c = (0, { D with files := sput D.files n ⟨r.f.now.set j c, r.f.now.set j c, []⟩ }) := (fileM_some hf _).trans (if_neg (by omega))
     rw [e1]
     exact (rT rfl rfl ⟨rfl, ⟨b, _, h5⟩, hCw.mono (fun k _ hk => hk.elim (fun e => e ▸ h.inS.1) (h.inR n r k hr))⟩).1
    ·have := hO3 k hk
     have := hfile.lt (k := k) (.inr (.inr (.inl (by rw [hvn]; exact hk2))))
     omega
    ·rintro k (e | e | e | e)
     ·exact .inl (.inl e)
     ·have := hO3 k e
      exact .inr (by omega)
     ·exact .inl (.inr (.inr (.inl (by rw [hvn]; exact e))))
     ·simp [Value.ownBlock] at e
end Go.Proofs.YtnlabkogebnioaaGreatDoor
namespace Go.Proofs.YtnlabkogebnioaaGreatDoor
open Go.RowKit
structure Good (n : Nat) (D : DiskD) : Prop where
  ok : DOk D
  pend : ∀ k f, mget D.files k = some f → pendLen f.pend ≤ n ∧ f.pend.length ≤ n
  ref : D.refused ≤ n
  few : D.files.length ≤ n
section
variable {n m : Nat} {D : DiskD} {k : Key} {f : FileD}
theorem Good.bud (h : Good n D) (hn : n ≤ 1099511627776) : DBud D := ⟨fun k f hf => by have := h.pend k f hf; omega, by have := h.ref; omega⟩
theorem Good.mono (h : Good n D) (hn : n ≤ m) : Good m D := ⟨h.ok, fun k f hf => by have := h.pend k f hf; omega, by have := h.ref; omega, by have := h.few; omega⟩
theorem Good.new {l : Int} (hl : 0 ≤ l ∧ l ≤ 16777216) : Good n (newM l) :=
 ⟨⟨List.Pairwise.nil, hl, rfl, hl.1, Int.le_refl _, (fun h => by cases h), (fun k f h => by cases h)⟩, (fun k f h => by cases h), (by show (0 : Int) ≤ n; omega), Nat.zero_le _⟩
theorem Good.tick (h : Good n D) (hl : ¬ (D.stops = true ∧ D.left = 0)) : Good n (tickM D) := by
 refine ⟨tick_ok h.ok hl, ?_, ?_, by rw [tick_files]; exact h.few⟩
 ·rw [tick_files]
  exact h.pend
 ·have := h.ref
  unfold tickM
  split <;> exact this
theorem sput_length (l : List (Key × FileD)) (k : Key) (f : FileD) : (sput l k f).length ≤ l.length + 1 := by
 induction l with
 | nil => simp [sput]
 | cons p l ih =>
  obtain ⟨a, u⟩ := p
  unfold sput
  split
  ·simp
  ·split
   ·simp
   ·simp only [List.length_cons]
    omega
theorem sput_length_old {l : List (Key × FileD)} (hl : Rising l) {k : Key} {f g : FileD} (h : mget l k = some g) : (sput l k f).length = l.length := by
 have h1 := keys_perm (m := sput l k f) (m' := l) (hl.sput k f).nodup hl.nodup (fun q => by
  rw [mget_sput hl]
  split
  ·rename_i e
   rw [e, h]
   rfl
  ·rfl)
 simpa using h1.length_eq
theorem mdel_length_le (l : List (Key × FileD)) (k : Key) : (mdel l k).length ≤ l.length := by
 induction l with
 | nil => simp [mdel]
 | cons p l ih =>
  obtain ⟨a, u⟩ := p
  unfold mdel
  split
  ·simp
  ·simp only [List.length_cons]
   omega
theorem Good.put (h : Good n D) (hn : n ≤ m) (hf : FOk f) (hp : pendLen f.pend ≤ m ∧ f.pend.length ≤ m) {u : Int} (hu : u = usedM (sput D.files k f)) (hr : u ≤ D.limit) (hw : (sput D.files k f).length ≤ m) : Good m { D with files := sput D.files k f, used := u } := by
 have hs := h.ok.srt
 refine ⟨⟨hs.sput k f, h.ok.lim, hu, hr, h.ok.ref, h.ok.stp, fun q g hg => ?_⟩, fun q g hg => ?_, by have := h.ref; show D.refused ≤ m; omega, hw⟩
 ·replace hg : mget (sput D.files k f) q = some g := hg
  rw [mget_sput hs] at hg
  split at hg
  ·injection hg with hg
   rw [← hg]
   exact hf
  ·exact h.ok.fok q g hg
 ·replace hg : mget (sput D.files k f) q = some g := hg
  rw [mget_sput hs] at hg
  split at hg
  ·injection hg with hg
   rw [← hg]
   exact hp
  ·have := h.pend q g hg
   omega
theorem Good.del (h : Good n D) {u : Int} (hu : u = usedM (mdel D.files k)) : Good n { D with files := mdel D.files k, used := u } := by
 have hs := h.ok.srt
 have hle : u ≤ D.limit := by
  have h1 := usedM_del (m := D.files) k
  have h2 := h.ok.used
  have h3 := h.ok.room
  omega
 refine ⟨⟨hs.del k, h.ok.lim, hu, hle, h.ok.ref, h.ok.stp, fun q g hg => ?_⟩, fun q g hg => ?_, h.ref, Nat.le_trans (mdel_length_le _ _) h.few⟩
 ·replace hg : mget (mdel D.files k) q = some g := hg
  rw [mget_mdel hs.nodup] at hg
  split at hg
  ·cases hg
  ·exact h.ok.fok q g hg
 ·replace hg : mget (mdel D.files k) q = some g := hg
  rw [mget_mdel hs.nodup] at hg
  split at hg
  ·cases hg
  ·exact h.pend q g hg
theorem usedM_new (hs : Rising D.files) (hf : mget D.files k = none) (hn : f.now = []) : usedM (sput D.files k f) = usedM D.files := by
 have := usedM_sput hs k f
 rw [hf, hn] at this
 simpa using this
theorem usedM_old (hs : Rising D.files) {g : FileD} (hf : mget D.files k = some g) : usedM (sput D.files k f) + g.now.length = usedM D.files + f.now.length := by
 have := usedM_sput hs k f
 rw [hf] at this
 simpa using this
theorem opM_good {c : DiskD → Int × DiskD} (h : Good n D) (hn : n ≤ m) (hc : ∀ D', Good n D' → D'.files = D.files → D'.limit = D.limit → Good m (c D').2) : Good m (opM D c).2 := by
 by_cases hl : D.stops = true ∧ D.left = 0
 ·rw [opM_dead hl]
  exact h.mono hn
 ·rw [opM_live hl]
  refine hc _ (h.tick hl) (tick_files D) ?_
  unfold tickM
  split <;> rfl
theorem fileM_good {c : FileD → Int × DiskD} (h : Good n D) (hn : n ≤ m) (hc : ∀ f, mget D.files k = some f → Good m (c f).2) : Good m (fileM D k c).2 := by
 cases hg : mget D.files k with
 | none => rw [fileM_none hg]; exact h.mono hn
 | some f => rw [fileM_some hg]; exact hc f hg
theorem create_good (h : Good n D) (k : Key) : Good (n + 1) (createM D k).2 := by
 refine opM_good h (by omega) fun D' h' _ _ => ?_
 split
 ·split
  ·exact h'.mono (by omega)
  ·rename_i hn
   have hg : mget D'.files k = none := by
    cases hg : mget D'.files k with
    | none => rfl
    | some f => rw [hg] at hn; exact absurd rfl hn
   exact h'.put (by omega) FOk.new ⟨by simp [newFile, pendLen], by simp [newFile]⟩ (by rw [usedM_new h'.ok.srt hg rfl]; exact h'.ok.used) h'.ok.room (by have := sput_length D'.files k newFile; have := h'.few; omega)
 ·exact h'.mono (by omega)
theorem put_good (h : Good n D) (hf : mget D.files k = some f) {at_ : Nat} {d : List UInt8} (ha : at_ ≤ f.now.length) : Good (n + d.length + 1) (putM D k f at_ d).2 := by
 unfold putM
 split
 ·exact h.mono (by omega)
 ·rename_i hd
  split
  ·exact ⟨⟨h.ok.srt, h.ok.lim, h.ok.used, h.ok.room, by have := h.ok.ref; show 0 ≤ D.refused + 1; omega, h.ok.stp, h.ok.fok⟩, fun q g hg => by have := h.pend q g hg; omega, by have := h.ref; show D.refused + 1 ≤ _; omega, by have := h.few; show D.files.length ≤ _; omega⟩
  ·rename_i hr
   have h1 := usedM_old (f := laidM f at_ d) h.ok.srt hf
   have h2 : (laidM f at_ d).now.length = max f.now.length (at_ + d.length) := overM_length ha
   have h3 := h.ok.used
   have h4 := h.pend k f hf
   refine h.put (by omega) ((h.ok.fok k f hf).laid ha hd) ?_ ?_ (by omega) (by rw [sput_length_old h.ok.srt hf]; have := h.few; omega)
   ·show pendLen (f.pend ++ [(at_, d)]) ≤ _ ∧ (f.pend ++ [(at_, d)]).length ≤ _
    rw [pendLen_append, List.length_append]
    simp only [pendLen, List.length_singleton]
    omega
   ·unfold moreM
    omega
theorem append_good (h : Good n D) (k : Key) (d : List UInt8) : Good (n + d.length + 1) (appendM D k d).2 :=
 opM_good h (by omega) fun _ h' _ _ => fileM_good h' (by omega) fun _ hf => put_good h' hf (Nat.le_refl _)
theorem sync_good (h : Good n D) (k : Key) : Good n (syncM D k).2 :=
 opM_good h (Nat.le_refl _) fun D' h' _ _ => fileM_good h' (Nat.le_refl _) fun f hf =>
  h'.put (u := D'.used) (Nat.le_refl _) (FOk.lasts f) ⟨by simp [lastsM, pendLen], by simp [lastsM]⟩ (by
   have h1 := usedM_old (f := lastsM f) h'.ok.srt hf
   have h2 := h'.ok.used
   have h3 : (lastsM f).now.length = f.now.length := rfl
   omega) h'.ok.room (by rw [sput_length_old h'.ok.srt hf]; exact h'.few)
theorem remove_good (h : Good n D) (k : Key) : Good n (removeM D k).2 :=
 opM_good h (Nat.le_refl _) fun D' h' _ _ => fileM_good h' (Nat.le_refl _) fun f hf => h'.del (by
  have h1 := usedM_del (m := D'.files) k
  rw [hf] at h1
  have h2 := h'.ok.used
  simp only [Option.map_some, Option.getD_some] at h1
  omega)
theorem rot_good (h : Good n D) (k : Key) (i : Int) (c : UInt8) : Good n (rotM D k i c).2 :=
 fileM_good h (Nat.le_refl _) fun f hf => by
  split
  ·exact h
  ·exact h.put (u := D.used) (f := ⟨f.now.set i.toNat c, f.now.set i.toNat c, []⟩) (Nat.le_refl _) ⟨rfl, trivial⟩ ⟨by simp [pendLen], by simp⟩ (by
    have h1 := usedM_old (f := ⟨f.now.set i.toNat c, f.now.set i.toNat c, []⟩) h.ok.srt hf
    have h2 := h.ok.used
    simp only [List.length_set] at h1
    omega) h.ok.room (by rw [sput_length_old h.ok.srt hf]; exact h.few)
end
end Go.Proofs.YtnlabkogebnioaaGreatDoor
namespace Go.Proofs.YtnlabkogebnioaaGreatDoor
open Go.RowKit
theorem Reads.chgS {w w' : World} {size n : Nat} {v : Value} {xs : List Value} {T : Nat → Prop} (h : Reads w size v n xs) (hc : Chg T w w') (hn : 0 < n → ∀ k, v.ownBlock = some k → ¬ T k) : Reads w' size v n xs := by
 obtain ⟨h1, a, cap, rfl, h3, h4, h5⟩ := h
 refine ⟨h1, a, cap, rfl, h3, h4, fun h0 => ?_⟩
 obtain ⟨g', off, rfl, hg, hcl⟩ := h5 h0
 have := hc.size
 exact ⟨g', off, rfl, by omega, fun j u hu => (hc.cell (p := ⟨g', off + j, none⟩) hg (hn h0 g' (by simp [Value.ownBlock]))).trans (hcl j u hu)⟩
theorem Reads.ownLt {w : World} {size n : Nat} {v : Value} {xs : List Value} (h : Reads w size v n xs) (hn : 0 < n) {k : Nat} (hk : v.ownBlock = some k) : k < w.heap.size := by
 obtain ⟨h1, a, cap, rfl, h3, h4, h5⟩ := h
 obtain ⟨g', off, rfl, hg, hcl⟩ := h5 hn
 simp [Value.ownBlock] at hk
 omega
end Go.Proofs.YtnlabkogebnioaaGreatDoor
namespace Go.Proofs.YtnlabkogebnioaaGreatDoor
open Go.RowKit
structure Own (B : Nat) (w : World) (g : Nat) (D : DiskD) (S : Nat → Prop) : Prop where
  at_ : DiskAt w g D S
  lo : ∀ k, S k → B ≤ k ∧ k < w.heap.size
section
variable {B g c : Nat} {w w' w'' : World} {D D' E : DiskD} {S T : Nat → Prop}
theorem Own.bel (h : Own B w g D S) (hb : Below w.heap.size w w') : Own B w' g D S := ⟨h.at_.bel hb, fun k hk => by have := h.lo k hk; have := hb.size; omega⟩
theorem Own.step (h : Own B w g D S) (hD : DiskAt w' g D' (Ext S w w')) (hC : Chg S w w') (hB : B ≤ w.heap.size) : Own B w' g D' (Ext S w w') :=
 ⟨hD, fun k hk => by
  have := hC.size
  rcases hk with hk | hk
  ·have := h.lo k hk; omega
  ·omega⟩
theorem Own.other (h : Own B w c E T) (hC : Chg S w w') (hd : ∀ k, S k → ¬ T k) : Own B w' c E T := ⟨h.at_.chg hC (fun k hk e => hd k e hk), fun k hk => by have := h.lo k hk; have := hC.size; omega⟩
theorem bchg {w0 : World} (hb : Below w0.heap.size w0 w) (hc : Chg S w w') (hs : ∀ k, S k → w0.heap.size ≤ k) : Below w0.heap.size w0 w' :=
 ⟨hc.os.trans hb.os, hc.tape.trans hb.tape, hc.output.trans hb.output, Nat.le_trans hb.size hc.size, fun k hk => (hc.block k (Nat.lt_of_lt_of_le hk hb.size) (fun e => by have := hs k e; omega)).trans (hb.block k hk)⟩
end
end Go.Proofs.YtnlabkogebnioaaGreatDoor
namespace Go.Proofs.YtnlabkogebnioaaGreatDoor
open Go.ChangeShapes Go.WideShapes Go.ChangeAt Go.RowKit
theorem own : ownKnob Tryz.prog.godebug = none := by kernel_rfl
theorem laidOut : laidOutB Tryz.prog = true := by kernel_rfl
end Go.Proofs.YtnlabkogebnioaaGreatDoor
namespace Go.Proofs.YtnlabkogebnioaaGreatDoor
open Go.ChangeShapes Go.WideShapes Go.ChangeAt Go.RowKit
section
variable {H : Type} {enc : TypeId × Value → H} {W : World} {base : Nat} {sp : Nat → Bool} {held : Bool}
theorem open_rows {α : Type} [Inhabited α] (f : α → List Value) (p : α → Prop) {t e : TypeId} {k fuel : Nat} {cs : List Value} {x : DataW H × List MemPlace} (ht : Tryz.prog.underlying t = some (.slice e)) (hk : Tryz.prog.cellsOf e = k) (hk0 : 0 < k)
  (he : ∀ fuel cs x, DataW.trod enc Tryz.prog W base sp held fuel e cs = some x → ∃ a, cs = f a ∧ p a)
  (h : DataW.trod enc Tryz.prog W base sp held fuel t cs = some x) :
  ∃ (v : Value) (l : List α), cs = [v] ∧ Reads W k v l.length (l.flatMap f) ∧ ∀ a ∈ l, p a ∧ (f a).length = k := by
 rcases Go.Deep.open_slice ht h with ⟨rfl, _⟩ | ⟨a, len, cap, m, n, D, Pl, rfl, hb, hl, hm, hmm, rfl, hx⟩
 ·exact ⟨_, [], rfl, ⟨by simp, none, 0, rfl, Nat.le_refl _, by simp [maxLen], fun h => absurd h (by simp)⟩, by simp⟩
 ·rw [hk] at hx
  have hlm : len ≤ m := by rw [hmm]; split <;> omega
  obtain ⟨V, hV⟩ := Go.Deep.choose_lt (α := α) (p := fun i v => W.cells? base (a.add (i * k)) k = some (f v) ∧ p v) (n := m) (fun i hi => by
   obtain ⟨cs', h1, h2⟩ := hx i hi
   obtain ⟨v, rfl, hp⟩ := he _ _ _ h2
   exact ⟨v, h1, hp⟩)
  have hfl : ∀ i, i < m → (f (V i)).length = k := fun i hi => (World.cells?_some (hV i hi).1).2.1
  have hall : ∀ b ∈ (List.range len).map V, p b ∧ (f b).length = k := by
   intro b hb
   obtain ⟨i, hi, rfl⟩ := List.mem_map.1 hb
   have : i < m := by have := List.mem_range.1 hi; omega
   exact ⟨(hV i this).2, hfl i this⟩
  have hlen : (((List.range len).map V).flatMap f).length = len * k := by
   rw [flat_length f k _ (fun b hb => (hall b hb).2)]; simp
  refine ⟨_, (List.range len).map V, rfl, ⟨by simpa using hlen, some a, cap, by simp, by simpa using hl, hm, fun hn => ?_⟩, hall⟩
  have hn' : 0 < len := by simpa using hn
  obtain ⟨_, hl0, hc0⟩ := World.cells?_some (hV 0 (by omega)).1
  have h0 := hc0 0 (by omega)
  rw [List.getElem?_eq_getElem (by omega)] at h0
  obtain ⟨b, off, spot⟩ := a
  have hspot : spot = none := by simpa [Addr.add] using World.cell?_spot h0
  subst hspot
  refine ⟨b, off, rfl, by simpa [Addr.add] using World.block_lt_of_cell? W _ h0, fun j u hu => ?_⟩
  have hj := (List.getElem?_eq_some_iff.1 hu).1
  rw [hlen] at hj
  have hi : j / k < len := (Nat.div_lt_iff_lt_mul hk0).2 hj
  have hr : j % k < k := Nat.mod_lt _ hk0
  have hjk : j = j / k * k + j % k := by rw [Nat.mul_comm]; exact (Nat.div_add_mod j k).symm
  have hat : ((List.range len).map V)[j / k]? = some (V (j / k)) := by
   rw [List.getElem?_map, List.getElem?_range hi]; rfl
  have hfa := flat_at f k _ (j / k) _ (fun b hb => (hall b hb).2) hat
  have hu' : (f (V (j / k)))[j % k]? = some u := by
   rw [← hfa, List.getElem?_take_of_lt hr, List.getElem?_drop, ← hjk]
   exact hu
  have hcell := (World.cells?_some (hV (j / k) (by omega)).1).2.2 (j % k) hr
  rw [hu'] at hcell
  rw [← hcell]
  rw [Addr.add_lit, Addr.add_lit, Nat.add_assoc, ← hjk]
end
end Go.Proofs.YtnlabkogebnioaaGreatDoor
namespace Go.Proofs.YtnlabkogebnioaaGreatDoor
open Go.ChangeShapes Go.WideShapes Go.ChangeAt Go.RowKit
theorem flat_int1 : ∀ l : List Int, l.flatMap (fun q => [Value.int .i64 q]) = l.map fun k => .int .i64 k
 | [] => rfl
 | a :: l => by rw [List.flatMap_cons, flat_int1 l]; rfl
section
variable {H : Type} {enc : TypeId × Value → H} {W : World} {base : Nat} {sp : Nat → Bool} {held : Bool}
theorem cInt : Tryz.prog.cellsOf 3 = 1 := by kernel_rfl
theorem cStr : Tryz.prog.cellsOf 9 = 1 := by kernel_rfl
theorem open_intL (fuel : Nat) (cs : List Value) (x : DataW H × List MemPlace) (h : DataW.trod enc Tryz.prog W base sp held fuel 3 cs = some x) : ∃ n : Int, cs = [.int .i64 n] ∧ True := by
 obtain ⟨n, e, _, _⟩ := DataW.trod_int Tryz.underlying3 h
 exact ⟨n, e, trivial⟩
theorem open_strL (fuel : Nat) (cs : List Value) (x : DataW H × List MemPlace) (h : DataW.trod enc Tryz.prog W base sp held fuel 9 cs = some x) : ∃ s : List UInt8, cs = [str s] ∧ True := by
 obtain ⟨s, e, _, _⟩ := DataW.trod_string Tryz.underlying9 h
 exact ⟨s.data.toList, e, trivial⟩
theorem flat_str1 : ∀ l : List (List UInt8), l.flatMap (fun q => [str q]) = l.map str
 | [] => rfl
 | a :: l => by rw [List.flatMap_cons, flat_str1 l]; rfl
set_option maxRecDepth 4000 in
theorem open_strsL {r : Reach} {b0 : Nat} {v : Value} {d : DataW H} {p : List MemPlace} (hv : Value.okWide Tryz.prog W r b0 38 v) (h : DataW.Trod enc Tryz.prog W base sp held 38 v d p) :
  ∃ l : List (List UInt8), Reads W 1 v l.length (l.map str) := by
 obtain ⟨fuel, hf⟩ := h
 obtain ⟨a0, len0, cap0, rfl⟩ := okWide_slice Tryz.underlying38 hv
 obtain ⟨v', l, e, hR, _⟩ := open_rows (fun s : List UInt8 => [str s]) (fun _ => True) Tryz.underlying38 cStr (by decide) open_strL hf
 rw [flat_str1] at hR
 simp [Value.cells] at e
 exact ⟨l, e ▸ hR⟩
end
def laying (cs : Array Value) : Obj → Obj
  | .cells _ t frozen => .cells cs t frozen
  | o => o
end Go.Proofs.YtnlabkogebnioaaGreatDoor
namespace Go.Proofs.YtnlabkogebnioaaGreatDoor
open Go.RowKit
section
variable {P : Program} {fn : Func} {R : Ending → World → Prop} {l : Env} {w : World}
theorem r3 {x y z : ResultVar} {v u s : Value} (hf : fn.results = #[x, y, z]) (hx : ResVar P l w x v) (hy : ResVar P l w y u) (hz : ResVar P l w z s) (hR : R (.returned (.tuple #[v, u, s])) w) : fnPost P fn R .ret l w ∧ fnPost P fn R .normal l w := by
 have h : ∃ v, (∀ a : Array Value, (∀ t v, lk l t = some v → a.getD t undef = v) → (results fn a).run P w = .ok v w) ∧ R (.returned v) w := ⟨.tuple #[v, u, s], fun a ha => by
  have h1 := run_resVar hx a ha
  have h2 := run_resVar hy a ha
  have h3 := run_resVar hz a ha
  rw [results_eq, hf]
  simp only [List.mapM_toArray, List.mapM_cons, List.mapM_nil, Sem.run_bind, Sem.run_pure, map_eq_pure_bind]
  simp only [h1, h2, h3, Result.andThen_ok]
  rfl, hR⟩
 exact ⟨h, h⟩
theorem rTTT {t t2 t3 : Nat} {v v2 v3 : Value} (hf : fn.results = #[.tmp t, .tmp t2, .tmp t3]) (hx : lk l t = some v) (hy : lk l t2 = some v2) (hz : lk l t3 = some v3) (hR : R (.returned (.tuple #[v, v2, v3])) w) : fnPost P fn R .ret l w ∧ fnPost P fn R .normal l w := r3 hf hx hy hz hR
end
end Go.Proofs.YtnlabkogebnioaaGreatDoor
namespace Go.Proofs.YtnlabkogebnioaaGreatDoor
open Go.RowKit
section
variable {P : Program} {a : Act} {w : World} {Q : Exit → Act → World → Prop}
def jumpsQ (J : Nat → Act → World → Prop) (Q : Exit → Act → World → Prop) : Exit → Act → World → Prop
  | .goto lb, a, w => J lb a w
  | e, a, w => Q e a w
theorem wp_scope_many {c : Code} (J : Nat → Act → World → Prop) (μ : Nat → Act → World → Nat) (rest : Nat → Code) (hf : ∀ lb a w, J lb a w → findLabel c lb = some (rest lb))
  (first : c.wp P (jumpsQ J Q) a w)
  (pass : ∀ lb a w, J lb a w → (rest lb).wp P (jumpsQ (fun lb' a' w' => J lb' a' w' ∧ μ lb' a' w' < μ lb a w) Q) a w) : (Code.scope c).wp P Q a w := by
 intro b k cs
 have key : ∀ n lb a w, μ lb a w = n → J lb a w → ∃ e a' w', Q e a' w' ∧ Arrives P (lone (b.at a (.code (rest lb) :: .inScope c :: k)) cs w) b k cs e a' w' := by
  intro n
  induction n using Nat.strongRecOn with
  | _ n ih =>
   intro lb a w hn hJ
   obtain ⟨e, a₁, w₁, hq, harr⟩ := pass lb a w hJ b (.inScope c :: k) cs
   cases e with
   | normal => exact ⟨.normal, a₁, w₁, hq, Steps.trans harr (.one step_inScope)⟩
   | exit id => exact ⟨.exit id, a₁, w₁, hq, fun k' hk => harr k' (by simp [exitTo, hk])⟩
   | goto l' =>
    obtain ⟨hJ', hlt⟩ := hq
    have hg : gotoIn l' (.inScope c :: k) = some (.code (rest l') :: .inScope c :: k) := by simp [gotoIn, hf l' _ _ hJ']
    obtain ⟨e₂, a₂, w₂, hq₂, harr₂⟩ := ih _ (by omega) l' a₁ w₁ rfl hJ'
    exact ⟨e₂, a₂, w₂, hq₂, .of_steps (harr _ hg) harr₂⟩
   | ret => exact ⟨_, a₁, w₁, hq, harr⟩
   | panic ch => exact ⟨_, a₁, w₁, hq, harr⟩
   | outgrown => exact ⟨_, a₁, w₁, hq, harr⟩
 obtain ⟨e, a₁, w₁, hq, harr⟩ := first b (.inScope c :: k) cs
 cases e with
 | normal => exact ⟨.normal, a₁, w₁, hq, .head step_scope (Steps.trans harr (.one step_inScope))⟩
 | exit id => exact ⟨.exit id, a₁, w₁, hq, fun k' hk => .head step_scope (harr k' (by simp [exitTo, hk]))⟩
 | goto l' =>
  have hg : gotoIn l' (.inScope c :: k) = some (.code (rest l') :: .inScope c :: k) := by simp [gotoIn, hf l' _ _ hq]
  obtain ⟨e₂, a₂, w₂, hq₂, harr₂⟩ := key _ l' a₁ w₁ rfl hq
  exact ⟨e₂, a₂, w₂, hq₂, .of_steps (.head step_scope (harr _ hg)) harr₂⟩
 | ret => exact ⟨_, a₁, w₁, hq, .of_steps (.one step_scope) harr⟩
 | panic ch => exact ⟨_, a₁, w₁, hq, .of_steps (.one step_scope) harr⟩
 | outgrown => exact ⟨_, a₁, w₁, hq, .of_steps (.one step_scope) harr⟩
end
section
variable {P : Program} {N : Nat} {ds : List Deferred} {Q : Post} {l r : Env} {w : World}
def noJ (Q : Post) : Post
  | .goto _, _, _ => False
  | e, l, w => Q e l w
def scQ (c : Code) (P : Program) (N : Nat) (ds : List Deferred) (lb : Nat) (A : Env → World → Prop) (Q : Post) : Post
  | .goto i, l, w => (i = lb ∧ A l w) ∨ (i ≠ lb ∧ ∃ rest, findLabel c i = some rest ∧ W P N ds (noJ Q) rest l w)
  | e, l, w => Q e l w
theorem scA {c : Code} {lb : Nat} {A : Env → World → Prop} (h : A l w) : scQ c P N ds lb A Q (.goto lb) l w := .inl ⟨rfl, h⟩
theorem scO {c rest : Code} {lb i : Nat} {A : Env → World → Prop} (hi : Nat.beq i lb = false) (hf : findLabel c i = some rest) (h : W P N ds (noJ Q) rest l w) : scQ c P N ds lb A Q (.goto i) l w :=
 .inr ⟨(fun e => by subst e; rw [Nat.beq_refl] at hi; cases hi), rest, hf, h⟩
theorem scR {c : Code} {lb : Nat} {A : Env → World → Prop} (h : Q .ret l w) : scQ c P N ds lb A Q .ret l w := h
theorem njR (h : Q .ret l w) : noJ Q .ret l w := h
theorem W_goto {i : Nat} (h : Q (.goto i) l w) : W P N ds Q (.goto i) l w := fun _ ha => wp_goto ⟨_, ha, h⟩
theorem W_label_s {i : Nat} {y : Code} (h : W P N ds Q y l w) : W P N ds Q (.seq (.label i) y) l w := W_seq (fun _ ha => wp_label ⟨_, ha, h⟩)
theorem W_skip_s {y : Code} (h : W P N ds Q y l w) : W P N ds Q (.seq .skip y) l w := W_seq (fun _ ha => wp_skip ⟨_, ha, h⟩)
theorem W_scope0 {c : Code} (h : W P N ds (noJ Q) c l w) : W P N ds Q (.scope c) l w := fun a ha => wp_scope_straight (Code.wp_mono (fun e a w hh => by
 obtain ⟨l', hr, hh⟩ := hh
 cases e with
 | goto i => exact hh.elim
 | _ => exact ⟨l', hr, hh⟩) (h a ha))
theorem W_mono {Q' : Post} {c : Code} (h : W P N ds Q c l w) (hq : ∀ e l w, Q e l w → Q' e l w) : W P N ds Q' c l w := fun a ha => Code.wp_mono (fun e a w hh => by
 obtain ⟨l', hr, hh⟩ := hh
 exact ⟨l', hr, hq e l' w hh⟩) (h a ha)
theorem W_scope {c rest : Code} (lb : Nat) (I : Nat → Env → World → Prop) (hf : findLabel c lb = some (.seq .skip rest))
  (pass : ∀ n l w, I n l w → W P N ds (scQ c P N ds lb (Again I n) Q) rest l w)
  (first : (∀ n l w, I n l w → W P N ds (scQ c P N ds lb (fun l w => ∃ n r, I n r w ∧ sub r l) Q) rest l w) → W P N ds (scQ c P N ds lb (fun l w => ∃ n r, I n r w ∧ sub r l) Q) c l w) : W P N ds Q (.scope c) l w := by
 intro a ha
 obtain ⟨J, hJ⟩ : ∃ J : Nat → Act → World → Prop, J = fun i a w => (i = lb ∧ ∃ n r, Rep N ds r a ∧ I n r w) ∨ (i ≠ lb ∧ ∃ rest', findLabel c i = some rest' ∧ rest'.wp P (lift N ds (noJ Q)) a w) := ⟨_, rfl⟩
 have hleast : ∀ a w, J lb a w → ∃ n, (∃ r, Rep N ds r a ∧ I n r w) ∧ ∀ m, (∃ r, Rep N ds r a ∧ I m r w) → n ≤ m := fun a w h => by
  rw [hJ] at h
  rcases h with ⟨_, n, r, h1, h2⟩ | ⟨h, _⟩
  ·have key : ∀ n, (∃ r, Rep N ds r a ∧ I n r w) → ∃ k, (∃ r, Rep N ds r a ∧ I k r w) ∧ ∀ m, (∃ r, Rep N ds r a ∧ I m r w) → k ≤ m := by
    intro n
    induction n using Nat.strongRecOn with
    | _ n ih =>
     intro hn
     by_cases hx : ∃ m, m < n ∧ ∃ r, Rep N ds r a ∧ I m r w
     ·obtain ⟨m, hm, hr⟩ := hx
      exact ih m hm hr
     ·exact ⟨n, hn, fun m hr => Nat.le_of_not_lt fun h => hx ⟨m, h, hr⟩⟩
   exact key n ⟨r, h1, h2⟩
  ·exact absurd rfl h
 classical
 refine wp_scope_many J (fun i a w => if h : i = lb ∧ J lb a w then (hleast a w h.2).choose + 1 else 0) (fun i => (findLabel c i).getD .skip) (fun i a w h => ?_) ?_ (fun i a w h => ?_)
 ·rw [hJ] at h
  rcases h with ⟨rfl, _⟩ | ⟨_, rest', h, _⟩
  ·rw [hf]; rfl
  ·rw [h]; rfl
 ·refine Code.wp_mono (fun e a w hq => ?_) (first (fun n l w hI => W_mono (pass n l w hI) (fun e l w hh => by
   cases e with
   | goto i =>
    rcases hh with ⟨h1, m, r, _, h2, h3⟩ | hh
    ·exact .inl ⟨h1, m, r, h2, h3⟩
    ·exact .inr hh
   | _ => exact hh)) a ha)
  obtain ⟨l', hr, hq⟩ := hq
  cases e with
  | goto i =>
   show J i a w
   rw [hJ]
   rcases hq with ⟨h1, n, r, h2, h3⟩ | ⟨h1, rest', h2, h3⟩
   ·exact .inl ⟨h1, n, r, hr.sub h3, h2⟩
   ·exact .inr ⟨h1, rest', h2, h3 a hr⟩
  | _ => exact ⟨l', hr, hq⟩
 ·by_cases hi : i = lb
  ·subst hi
   obtain ⟨n, hn⟩ : ∃ n, n = (hleast a w h).choose := ⟨_, rfl⟩
   have hspec := (hleast a w h).choose_spec
   rw [← hn] at hspec
   obtain ⟨⟨r, hr, hI⟩, hmin⟩ := hspec
   rw [show (findLabel c i).getD .skip = .seq .skip _ by rw [hf]; rfl]
   refine wp_seq (wp_skip (Code.wp_mono (fun e a' w' hq => ?_) (pass n r w hI a hr)))
   obtain ⟨l', hr', hq⟩ := hq
   cases e with
   | goto j =>
    rcases hq with ⟨rfl, m, r', hm, hI', hs⟩ | ⟨h1, rest', h2, h3⟩
    ·have hJ' : J j a' w' := by rw [hJ]; exact .inl ⟨rfl, m, r', hr'.sub hs, hI'⟩
     refine ⟨hJ', ?_⟩
     rw [dif_pos ⟨rfl, hJ'⟩, dif_pos ⟨rfl, h⟩, ← hn]
     have := (hleast a' w' hJ').choose_spec.2 m ⟨r', hr'.sub hs, hI'⟩
     omega
    ·have hJ' : J j a' w' := by rw [hJ]; exact .inr ⟨h1, rest', h2, h3 a' hr'⟩
     refine ⟨hJ', ?_⟩
     rw [dif_neg (fun e => h1 e.1), dif_pos ⟨rfl, h⟩]
     omega
   | _ => exact ⟨l', hr', hq⟩
  ·have h' := h
   rw [hJ] at h'
   rcases h' with ⟨e, _⟩ | ⟨_, rest', h2, h3⟩
   ·exact absurd e hi
   ·rw [show (findLabel c i).getD .skip = rest' by rw [h2]; rfl]
    refine Code.wp_mono (fun e a' w' hq => ?_) h3
    obtain ⟨l', hr', hq⟩ := hq
    cases e with
    | goto j => exact hq.elim
    | _ => exact ⟨l', hr', hq⟩
end
end Go.Proofs.YtnlabkogebnioaaGreatDoor
namespace Go.Proofs.YtnlabkogebnioaaGreatDoor
open Go.RowKit
def leN : List UInt8 → Nat
  | [] => 0
  | b :: l => b.toNat + 256 * leN l
theorem leN_lt : ∀ l : List UInt8, leN l < 2 ^ (8 * l.length)
 | [] => by simp [leN]
 | b :: l => by
  have h1 := leN_lt l
  have h2 := b.toNat_lt
  rw [List.length_cons, show 8 * (l.length + 1) = 8 * l.length + 8 by omega, Nat.pow_add]
  simp only [leN]
  omega
theorem leN_snoc : ∀ (l : List UInt8) (b : UInt8), leN (l ++ [b]) = leN l + b.toNat * 2 ^ (8 * l.length)
 | [], b => by simp [leN]
 | a :: l, b => by
  have h := leN_snoc l b
  simp only [List.cons_append, leN, h, List.length_cons]
  rw [show 8 * (l.length + 1) = 8 * l.length + 8 by omega, Nat.pow_add]
  generalize 2 ^ (8 * l.length) = q
  have h5 : b.toNat * (q * 2 ^ 8) = 256 * (b.toNat * q) := by rw [Nat.mul_comm q (2 ^ 8), Nat.mul_left_comm]
  rw [h5]
  omega
def takeM (s : List UInt8) (at_ : Nat) (e : Int) (n : Nat) : List UInt8 × Nat × Int :=
  if e ≠ 0 then ([], at_, e) else if s.length - at_ < n then ([], at_, 10) else ((s.drop at_).take n, at_ + n, 0)
theorem takeM_len (s : List UInt8) (at_ : Nat) (er : Int) (n : Nat) : (takeM s at_ er n).1.length ≤ n := by
 unfold takeM
 split
 ·simp
 ·split
  ·simp
  ·simp only [List.length_take]
   omega
def uvM : Nat → Nat → List UInt8 → Nat × Nat × Int
  | _, _, [] => (0, 0, 10)
  | i, x, b :: l => if (i = 9 ∧ 1 < b.toNat) ∨ (0 < i ∧ b.toNat = 0) then (0, 0, 12) else if b.toNat < 128 then (x + b.toNat * 2 ^ (7 * i), i + 1, 0) else uvM (i + 1) (x + (b.toNat - 128) * 2 ^ (7 * i)) l
def uvR (s : List UInt8) (at_ : Nat) (e : Int) : Nat × Nat × Int :=
  if e ≠ 0 then (0, at_, e) else if (uvM 0 0 (s.drop at_)).2.2 = 0 then ((uvM 0 0 (s.drop at_)).1, at_ + (uvM 0 0 (s.drop at_)).2.1, 0) else (0, at_, (uvM 0 0 (s.drop at_)).2.2)
def textR (s : List UInt8) (at_ : Nat) (most : Nat) : List UInt8 × Nat × Int :=
  if (uvR s at_ 0).2.2 ≠ 0 then ([], (uvR s at_ 0).2.1, (uvR s at_ 0).2.2) else if most < (uvR s at_ 0).1 then ([], at_, 12) else if s.length - (uvR s at_ 0).2.1 < (uvR s at_ 0).1 then ([], at_, 10) else takeM s (uvR s at_ 0).2.1 0 (uvR s at_ 0).1
theorem uvM_len : ∀ (l : List UInt8) (i x : Nat), (uvM i x l).2.1 ≤ i + l.length
 | [], _, _ => Nat.zero_le _
 | b :: l, i, x => by
  unfold uvM
  split
  ·exact Nat.zero_le _
  ·split
   ·simp only [List.length_cons]; omega
   ·have := uvM_len l (i + 1) (x + (b.toNat - 128) * 2 ^ (7 * i))
    simp only [List.length_cons]
    omega
theorem uvR_at {s : List UInt8} {at_ : Nat} {e : Int} (h : at_ ≤ s.length) : (uvR s at_ e).2.1 ≤ s.length := by
 unfold uvR
 split
 ·exact h
 ·split
  ·have := uvM_len (s.drop at_) 0 0
   rw [List.length_drop] at this
   simp only
   omega
  ·exact h
theorem take1 {s tl : List UInt8} {a ta : Nat} {te : Int} (h : takeM s a 0 1 = (tl, ta, te)) : (te = 10 ∧ s.drop a = [] ∧ ta = a ∧ tl = []) ∨ (te = 0 ∧ ∃ b l, s.drop a = b :: l ∧ tl = [b] ∧ ta = a + 1 ∧ a < s.length) := by
 unfold takeM at h
 rw [if_neg (by simp)] at h
 split at h
 ·rename_i hl
  injection h with h1 h2
  injection h2 with h2 h3
  exact .inl ⟨h3.symm, List.drop_of_length_le (by omega), h2.symm, h1.symm⟩
 ·rename_i hl
  injection h with h1 h2
  injection h2 with h2 h3
  have hlt : a < s.length := by omega
  refine .inr ⟨h3.symm, s[a], s.drop (a + 1), List.drop_eq_getElem_cons hlt, ?_, h2.symm, hlt⟩
  rw [← h1, List.drop_eq_getElem_cons hlt]
  rfl
theorem and127 (b : UInt8) : bits .and .u8 (b.toNat : Int) 127 = ((b.toNat % 128 : Nat) : Int) := by
 have h := and_u8 b 127
 have e : (b &&& 127).toNat = b.toNat % 128 := by
  rw [UInt8.toNat_and]
  exact Nat.and_two_pow_sub_one_eq_mod b.toNat 7
 rw [e] at h
 exact h
theorem sh_bound {i b : Nat} (hi : i ≤ 9) (hb : b < 256) (h : ¬ (i = 9 ∧ 1 < b)) : b % 128 * 2 ^ (7 * i) + 2 ^ (7 * i) ≤ 18446744073709551616 := by
 have : i = 0 ∨ i = 1 ∨ i = 2 ∨ i = 3 ∨ i = 4 ∨ i = 5 ∨ i = 6 ∨ i = 7 ∨ i = 8 ∨ i = 9 := by omega
 rcases this with rfl | rfl | rfl | rfl | rfl | rfl | rfl | rfl | rfl | rfl
 all_goals (simp only [Nat.reduceMul, Nat.reducePow]; omega)
theorem sh_next {x c i : Nat} (hx : x < 2 ^ (7 * i)) (hc : c ≤ 127) : x + c * 2 ^ (7 * i) < 2 ^ (7 * (i + 1)) := by
 rw [show 7 * (i + 1) = 7 * i + 7 by omega, Nat.pow_add]
 have := Nat.mul_le_mul_right (2 ^ (7 * i)) hc
 omega
theorem or_add64 (a b k : Nat) (ha : a < 2 ^ k) (hb : a + b * 2 ^ k < 18446744073709551616) : bits .or .u64 (a : Int) ((b : Int) * ((2 ^ k : Nat) : Int)) = ((a + b * 2 ^ k : Nat) : Int) := by
 have e : (b : Int) * ((2 ^ k : Nat) : Int) = ((b * 2 ^ k : Nat) : Int) := by rw [Int.natCast_mul]
 have h1 : b * 2 ^ k + a = b * 2 ^ k ||| a := by
  have := Nat.shiftLeft_add_eq_or_of_lt (i := k) ha b
  rwa [Nat.shiftLeft_eq] at this
 rw [e]
 show IntKind.u64.wrap ((BitVec.ofInt 64 (a : Int) ||| BitVec.ofInt 64 ((b * 2 ^ k : Nat) : Int)).toNat : Int) = _
 rw [BitVec.ofInt_natCast, BitVec.ofInt_natCast, BitVec.toNat_or, BitVec.toNat_ofNat, BitVec.toNat_ofNat, Nat.mod_eq_of_lt (by omega), Nat.mod_eq_of_lt (by omega), Nat.or_comm, ← h1, Nat.add_comm]
 exact IntWalk.u64_in _ (by omega)
section
variable {P : Program} {N : Nat} {ds : List Deferred} {Q : Post} {l : Env} {w : World} {ops : Array Oper} {rest : List Oper} {x : Operand} {ty src dst e : TypeId} {pos : String} {aft : Array Edge} {d : Nat} {s : List UInt8}
theorem scb (hx : ev l x = some (str s)) (hs : P.underlying src = some .string) (hdd : P.underlying dst = some (.slice e)) (he : P.underlying e = some (.int .u8)) (hl : s.length ≤ 1099511627776) (hd : Nat.blt d N = true)
  (h : ∀ g c w', Reads w' 1 (.slice (some ⟨g, 0, none⟩) s.length c) s.length (s.map bv) → w.heap.size ≤ g → g < w'.heap.size → Below w.heap.size w w' → WL P N ds ops Q rest ((d, .slice (some ⟨g, 0, none⟩) s.length c) :: l) w') :
  WL P N ds ops Q (⟨some d, .convert src dst x, ty, pos, aft, none⟩ :: rest) l w := by
 have hr := run_bytes_of_string (P := P) w src dst e ⟨s.toArray⟩ hs hdd he
 have hz : (⟨s.toArray⟩ : ByteArray).size = s.length := by simp [ByteArray.size]
 rw [hz] at hr
 have hge := grownCap_ge w s.length 0 e
 have hle := grownCap_le_maxLen w s.length 0 e (by simp only [maxLen]; omega)
 obtain ⟨C, hC⟩ : ∃ C, bytesRow ⟨s.toArray⟩ (grownCap w s.length 0 e) = C := ⟨_, rfl⟩
 rw [hC] at hr
 have hb : Below w.heap.size w (w.drew.alloc (.cells C e (C.size, C.size + 1))) := (bdrew (Below.refl _ _)).alloc (Nat.le_refl _) _
 have hR : Reads (w.drew.alloc (.cells C e (C.size, C.size + 1))) 1 (.slice (some ⟨w.heap.size, 0, none⟩) s.length (grownCap w s.length 0 e)) s.length (s.map bv) := by
  refine ⟨by simp, _, _, rfl, hge, hle, fun _ => ⟨w.heap.size, 0, rfl, by simp [World.alloc], fun j u hu => ?_⟩⟩
  have h1 : (w.drew.alloc (.cells C e (C.size, C.size + 1))).heap[w.heap.size]? = some (.cells C e (C.size, C.size + 1)) := by show (w.heap.push _)[w.heap.size]? = _; simp
  simp only [World.cell?, h1, Nat.zero_add]
  rw [← hC]
  unfold bytesRow
  have hj := (List.getElem?_eq_some_iff.1 hu).1
  rw [List.length_map] at hj
  rw [Array.getElem?_append_left (by simpa using hj)]
  simp at hu ⊢
  exact hu
 refine st (fun ρ hρ => ?_) hd (h w.heap.size _ _ hR (Nat.le_refl _) (by simp [World.alloc]) hb)
 unfold execOp
 simp only [hρ _ _ hx, Sem.run_bind, str, hr, Result.andThen_ok, Sem.run_pure]
end
section
variable {l : Env} {x : Operand} {w : World} {t' ty : TypeId} {p : Option Addr}
theorem nilEqNr (w : World) : (binOp .eql 175 (.pointer none) (.pointer none)).run Tryz.prog w = .ok (.bool true) w := by kernel_rfl
theorem nilEqPr (a : Addr) (w : World) : (binOp .eql 175 (.pointer (some a)) (.pointer none)).run Tryz.prog w = .ok (.bool false) w := by kernel_rfl
theorem X.rdEq (hx : ev l x = some (.pointer p)) : X Tryz.prog l (.binOp .eql 175 x (.const (.pointer none)) t') ty w (.bool p.isNone) w :=
 X.bin hx rfl guard_ptr (by cases p with | none => exact nilEqNr w | some a => exact nilEqPr a w)
end
theorem brd (s : List UInt8) (w : World) : (Instr.build 222 #[(0, str s)]).run Tryz.prog w = .ok (.agg #[str s, .int .i64 0, .int .i64 0]) w := by kernel_rfl
theorem Read_rd (s : List UInt8) (w : World) : Calls Tryz.prog 104 #[str s] w fun e w' => ∃ g, e = .returned (.pointer (some ⟨g, 0, none⟩)) ∧ Blk w' g 222 #[str s, .int .i64 0, .int .i64 0] ∧ w.heap.size ≤ g ∧ g < w'.heap.size ∧ Below w.heap.size w w' := by
 refine W_enter (args := [str s]) 6 Tryz.func104 rfl rfl rfl (W_sub [(0, str s)] ?_ ⟨rfl, trivial⟩)
 have hbw := Below.refl w.heap.size w
 refine W_rs (sa rfl rfl (Wn (tN (W_rs (sm rfl rfl (st (X.bld rfl (brd _ _)) rfl (sboxA rfl rfl (fun g5 w1 hB5 hg5 hb hl5 => ?_))))))))
 replace hbw := bthen hbw hb
 have hz_w1 := hb.size
 clear hb
 refine sa rfl rfl (Wn (tN (W_ret ?_)))
 exact (rT rfl rfl ⟨g5, rfl, hB5, hg5, hl5, hbw⟩).1
section
variable (g : Nat) (s : List UInt8) (at_ : Nat) (er : Int) (w : World) (hB : Blk w g 222 #[str s, .int .i64 at_, .int .i64 er])
include hB
theorem Err_any : Calls Tryz.prog 106 #[.pointer (some ⟨g, 0, none⟩)] w fun e w' => e = .returned (.int .i64 er) ∧ w = w' := by
 refine W_enter (args := [.pointer (some ⟨g, 0, none⟩)]) 9 Tryz.func106 rfl rfl rfl (W_sub [(0, .pointer (some ⟨g, 0, none⟩))] ?_ ⟨rfl, trivial⟩)
 refine W_rs (sa rfl rfl (Wn (tN (W_seq (W_rs (sm rfl rfl (st (X.rdEq rfl) rfl (Wn (tN (W_no rfl (rfl) ?_))))))))))
 refine W_skip (tN (W_rs (sm rfl rfl (st (X.nilChk rfl) rfl (st (X.fa fa222_2 rfl) rfl (st (X.ldL rfl hB Tryz.underlying26 rfl rfl) rfl (sa rfl rfl (Wn (tN (W_ret ?_))))))))))
 exact (rT rfl rfl ⟨rfl, rfl⟩).1
theorem At_any : Calls Tryz.prog 108 #[.pointer (some ⟨g, 0, none⟩)] w fun e w' => e = .returned (.int .i64 at_) ∧ w = w' := by
 refine W_enter (args := [.pointer (some ⟨g, 0, none⟩)]) 9 Tryz.func108 rfl rfl rfl (W_sub [(0, .pointer (some ⟨g, 0, none⟩))] ?_ ⟨rfl, trivial⟩)
 refine W_rs (sa rfl rfl (Wn (tN (W_seq (W_rs (sm rfl rfl (st (X.rdEq rfl) rfl (Wn (tN (W_no rfl (rfl) ?_))))))))))
 refine W_skip (tN (W_rs (sm rfl rfl (st (X.nilChk rfl) rfl (st (X.fa fa222_1 rfl) rfl (st (X.ldL rfl hB Tryz.underlying3 rfl rfl) rfl (sa rfl rfl (Wn (tN (W_ret ?_))))))))))
 exact (rT rfl rfl ⟨rfl, rfl⟩).1
theorem fail_any (e2 : Int) (at2 : Nat) : Calls Tryz.prog 148 #[.pointer (some ⟨g, 0, none⟩), .int .i64 e2, .int .i64 at2] w fun e w' => e = .returned (.tuple #[]) ∧ Blk w' g 222 #[str s, .int .i64 at2, .int .i64 e2] ∧ Chg (fun k => k = g) w w' := by
 have hlt := hB.lt
 refine W_enter (args := [.pointer (some ⟨g, 0, none⟩), .int .i64 e2, .int .i64 at2]) 14 Tryz.func148 rfl rfl rfl (W_sub [(0, .pointer (some ⟨g, 0, none⟩)), (1, .int .i64 e2), (2, .int .i64 at2)] ?_ ⟨rfl, rfl, rfl, trivial⟩)
 have hcw := Chg.refl (fun k => k = g) w
 refine W_reg (sm rfl rfl (sm rfl rfl (sm rfl rfl (sm rfl rfl (st (X.nilChk rfl) rfl (st (X.fa fa222_2 rfl) rfl (ssB rfl rfl hB siz26 rfl (by first | decide | simp) (fun w1 hB_ hc_ => ?_))))))))
 replace hB := hB_
 clear hB_
 replace hcw := hcw.next hc_ (fun i_ hi_ => by first | exact .inl hi_ | exact .inl (.inl hi_) | (right; subst hi_; omega) | (left; subst hi_; show _ ≤ _; omega) | (left; subst hi_; assumption))
 have hz_w1 := hc_.size
 clear hc_
 refine st (X.nilChk rfl) rfl (st (X.fa fa222_1 rfl) rfl (ssB rfl rfl hB siz3 rfl (by first | decide | simp) (fun w2 hB_ hc_ => ?_)))
 replace hB := hB_
 clear hB_
 replace hcw := hcw.next hc_ (fun i_ hi_ => by first | exact .inl hi_ | exact .inl (.inl hi_) | (right; subst hi_; omega) | (left; subst hi_; show _ ≤ _; omega) | (left; subst hi_; assumption))
 have hz_w2 := hc_.size
 clear hc_
 refine Wn ?_
 exact (r0 rfl ⟨rfl, hB, hcw⟩).2
theorem Left_any (hs : s.length ≤ 1099511627776) (ha : at_ ≤ s.length) : Calls Tryz.prog 149 #[.pointer (some ⟨g, 0, none⟩)] w fun e w' => e = .returned (.int .i64 (s.length - at_ : Nat)) ∧ Below w.heap.size w w' := by
 refine W_enter (args := [.pointer (some ⟨g, 0, none⟩)]) 15 Tryz.func149 rfl rfl rfl (W_sub [(0, .pointer (some ⟨g, 0, none⟩))] ?_ ⟨rfl, trivial⟩)
 have hbw := Below.refl w.heap.size w
 refine W_rs (sa rfl rfl (Wn (tN (W_seq (W_rs (sm rfl rfl (st (X.rdEq rfl) rfl (Wn (tN (W_no rfl (rfl) ?_))))))))))
 refine W_skip (tN (W_drsN (fun W_ => Blk W_ g 222 #[str s, .int .i64 at_, .int .i64 er]) [0, 1, 2, 3, 4, 5, 6, 7, 8, 9, 10] [true, true, true, true, true, true, true, true, true, true, true] (by kernel_rfl) (by kernel_rfl) (hB.drew) ?_))
 obtain ⟨w1, hw_⟩ : ∃ w1 : World, w1 = World.drew w := ⟨_, rfl⟩
 rw [← hw_]
 have hb : Below w.heap.size w w1 := by rw [hw_]; exact bdrew (Below.refl _ _)
 clear hw_
 have hS := hb
 replace hbw := bthen hbw hb
 replace hB := hB.bel hb
 have hz_w1 := hb.size
 clear hb
 refine oY rfl (fun W_ hW_ => (X.move rfl)) rfl (oY rfl (fun W_ hW_ => (X.nilChk rfl)) rfl (oY rfl (fun W_ hW_ => (X.fa fa222_0 rfl)) rfl (oY rfl (fun W_ hW_ => (X.ldL rfl hW_ Tryz.underlying9 rfl rfl)) rfl (oY rfl (fun W_ hW_ => (X.lenS rfl rfl Tryz.underlying9)) rfl (oY rfl (fun W_ hW_ => (X.move rfl)) rfl (oY rfl (fun W_ hW_ => (X.nilChk rfl)) rfl (oY rfl (fun W_ hW_ => (X.fa fa222_1 rfl)) rfl (oY rfl (fun W_ hW_ => (X.ldL rfl hW_ Tryz.underlying3 rfl rfl)) rfl (oY rfl (fun W_ hW_ => (X.sub64 rfl rfl (by omega))) rfl (oY rfl (fun W_ hW_ => (X.assign rfl)) rfl ?_))))))))))
 refine oN (nN (W_ret ((rT rfl rfl ⟨?_, hbw⟩).1)))
 rw [Int.ofNat_sub ha]
theorem take_any (n : Nat) (hs : s.length ≤ 1099511627776) (ha : at_ ≤ s.length) (hn : n ≤ 1099511627776) : Calls Tryz.prog 150 #[.pointer (some ⟨g, 0, none⟩), .int .i64 n] w fun e w' =>
  e = .returned (str (takeM s at_ er n).1) ∧ Blk w' g 222 #[str s, .int .i64 (takeM s at_ er n).2.1, .int .i64 (takeM s at_ er n).2.2] ∧ Chg (fun k => k = g) w w' := by
 have hlt := hB.lt
 unfold takeM
 by_cases he : er ≠ 0
 ·simp only [if_pos he]
  refine W_enter (args := [.pointer (some ⟨g, 0, none⟩), .int .i64 n]) 56 Tryz.func150 rfl rfl rfl (W_sub [(0, .pointer (some ⟨g, 0, none⟩)), (1, .int .i64 n)] ?_ ⟨rfl, rfl, trivial⟩)
  have hcw := Chg.refl (fun k => k = g) w
  refine W_rs (sa rfl rfl (Wn (tN (W_seq (W_block (W_rs (sm rfl rfl (st (X.rdEq rfl) rfl (sbN rfl (rfl) rfl (gY (g := 9) rfl rfl rfl ?_))))))))))
  refine sm rfl rfl (gY (g := 9) rfl rfl rfl (st (X.nilChk rfl) rfl (gY (g := 9) rfl rfl rfl (st (X.fa fa222_2 rfl) rfl (gY (g := 9) rfl rfl rfl (st (X.ldL rfl hB Tryz.underlying26 rfl rfl) rfl (gY (g := 9) rfl rfl rfl (st (X.neq rfl rfl) rfl (st (X.pickF rfl rfl) rfl (sa rfl rfl ?_))))))))))
  refine Wn (tN (W_yes rfl (decide_eq_true he) (W_rs (sa rfl rfl (Wn (tN (W_ret (bR (tR ?_)))))))))
  exact (rT rfl rfl ⟨rfl, hB, hcw⟩).1
 simp only [if_neg he]
 obtain rfl : er = 0 := Classical.byContradiction he
 by_cases hsh : s.length - at_ < n
 ·simp only [if_pos hsh]
  refine W_enter (args := [.pointer (some ⟨g, 0, none⟩), .int .i64 n]) 56 Tryz.func150 rfl rfl rfl (W_sub [(0, .pointer (some ⟨g, 0, none⟩)), (1, .int .i64 n)] ?_ ⟨rfl, rfl, trivial⟩)
  have hcw := Chg.refl (fun k => k = g) w
  refine W_rs (sa rfl rfl (Wn (tN (W_seq (W_block (W_rs (sm rfl rfl (st (X.rdEq rfl) rfl (sbN rfl (rfl) rfl (gY (g := 9) rfl rfl rfl ?_))))))))))
  refine sm rfl rfl (gY (g := 9) rfl rfl rfl (st (X.nilChk rfl) rfl (gY (g := 9) rfl rfl rfl (st (X.fa fa222_2 rfl) rfl (gY (g := 9) rfl rfl rfl (st (X.ldL rfl hB Tryz.underlying26 rfl rfl) rfl (gY (g := 9) rfl rfl rfl (st (X.neq rfl rfl) rfl (st (X.pickF rfl rfl) rfl (sa rfl rfl ?_))))))))))
  refine Wn (tN (W_no rfl (rfl) (W_drsN (fun W_ => Blk W_ g 222 #[str s, .int .i64 at_, .int .i64 0]) [0, 1, 2, 3, 4, 5, 6, 7, 8, 9, 10, 11, 12] [true, true, true, true, true, true, true, true, true, true, true, true, true] (by kernel_rfl) (by kernel_rfl) (hB.drew) ?_)))
  obtain ⟨w1, hw_⟩ : ∃ w1 : World, w1 = World.drew w := ⟨_, rfl⟩
  rw [← hw_]
  have hb : Below w.heap.size w w1 := by rw [hw_]; exact bdrew (Below.refl _ _)
  clear hw_
  have hS := hb
  replace hcw := hcw.then_below hb
  replace hB := hB.bel hb
  have hz_w1 := hb.size
  clear hb
  refine oY rfl (fun W_ hW_ => (X.move rfl)) rfl (oY rfl (fun W_ hW_ => (X.move rfl)) rfl (oY rfl (fun W_ hW_ => (X.nilChk rfl)) rfl (oY rfl (fun W_ hW_ => (X.fa fa222_0 rfl)) rfl (oY rfl (fun W_ hW_ => (X.ldL rfl hW_ Tryz.underlying9 rfl rfl)) rfl (oY rfl (fun W_ hW_ => (X.lenS rfl rfl Tryz.underlying9)) rfl (oY rfl (fun W_ hW_ => (X.move rfl)) rfl (oY rfl (fun W_ hW_ => (X.nilChk rfl)) rfl (oY rfl (fun W_ hW_ => (X.fa fa222_1 rfl)) rfl (oY rfl (fun W_ hW_ => (X.ldL rfl hW_ Tryz.underlying3 rfl rfl)) rfl (oY rfl (fun W_ hW_ => (X.sub64 rfl rfl (by omega))) rfl ?_))))))))))
  refine oY rfl (fun W_ hW_ => (X.gtr rfl rfl)) rfl (oY rfl (fun W_ hW_ => (X.assign rfl)) rfl (oN (nN (W_yes rfl (decide_eq_true (by omega)) (W_rs (sm rfl rfl (st (X.nilChk rfl) rfl (st (X.fa fa222_2 rfl) rfl (ssB rfl rfl hB siz26 rfl (by first | decide | simp) (fun w2 hB_ hc_ => ?_))))))))))
  replace hB := hB_
  clear hB_
  replace hcw := hcw.next hc_ (fun i_ hi_ => by first | exact .inl hi_ | exact .inl (.inl hi_) | (right; subst hi_; omega) | (left; subst hi_; show _ ≤ _; omega) | (left; subst hi_; assumption))
  have hz_w2 := hc_.size
  clear hc_
  refine Wn (tN (W_rs (sa rfl rfl (Wn (tN (W_ret (bR (tR ?_))))))))
  exact (rT rfl rfl ⟨rfl, hB, hcw⟩).1
 simp only [if_neg hsh]
 refine W_enter (args := [.pointer (some ⟨g, 0, none⟩), .int .i64 n]) 56 Tryz.func150 rfl rfl rfl (W_sub [(0, .pointer (some ⟨g, 0, none⟩)), (1, .int .i64 n)] ?_ ⟨rfl, rfl, trivial⟩)
 have hcw := Chg.refl (fun k => k = g) w
 refine W_rs (sa rfl rfl (Wn (tN (W_seq (W_block (W_rs (sm rfl rfl (st (X.rdEq rfl) rfl (sbN rfl (rfl) rfl (gY (g := 9) rfl rfl rfl ?_))))))))))
 refine sm rfl rfl (gY (g := 9) rfl rfl rfl (st (X.nilChk rfl) rfl (gY (g := 9) rfl rfl rfl (st (X.fa fa222_2 rfl) rfl (gY (g := 9) rfl rfl rfl (st (X.ldL rfl hB Tryz.underlying26 rfl rfl) rfl (gY (g := 9) rfl rfl rfl (st (X.neq rfl rfl) rfl (st (X.pickF rfl rfl) rfl (sa rfl rfl ?_))))))))))
 refine Wn (tN (W_no rfl (rfl) (W_drsN (fun W_ => Blk W_ g 222 #[str s, .int .i64 at_, .int .i64 0]) [0, 1, 2, 3, 4, 5, 6, 7, 8, 9, 10, 11, 12] [true, true, true, true, true, true, true, true, true, true, true, true, true] (by kernel_rfl) (by kernel_rfl) (hB.drew) ?_)))
 obtain ⟨w1, hw_⟩ : ∃ w1 : World, w1 = World.drew w := ⟨_, rfl⟩
 rw [← hw_]
 have hb : Below w.heap.size w w1 := by rw [hw_]; exact bdrew (Below.refl _ _)
 clear hw_
 have hS := hb
 replace hcw := hcw.then_below hb
 replace hB := hB.bel hb
 have hz_w1 := hb.size
 clear hb
 refine oY rfl (fun W_ hW_ => (X.move rfl)) rfl (oY rfl (fun W_ hW_ => (X.move rfl)) rfl (oY rfl (fun W_ hW_ => (X.nilChk rfl)) rfl (oY rfl (fun W_ hW_ => (X.fa fa222_0 rfl)) rfl (oY rfl (fun W_ hW_ => (X.ldL rfl hW_ Tryz.underlying9 rfl rfl)) rfl (oY rfl (fun W_ hW_ => (X.lenS rfl rfl Tryz.underlying9)) rfl (oY rfl (fun W_ hW_ => (X.move rfl)) rfl (oY rfl (fun W_ hW_ => (X.nilChk rfl)) rfl (oY rfl (fun W_ hW_ => (X.fa fa222_1 rfl)) rfl (oY rfl (fun W_ hW_ => (X.ldL rfl hW_ Tryz.underlying3 rfl rfl)) rfl (oY rfl (fun W_ hW_ => (X.sub64 rfl rfl (by omega))) rfl ?_))))))))))
 refine oY rfl (fun W_ hW_ => (X.gtr rfl rfl)) rfl (oY rfl (fun W_ hW_ => (X.assign rfl)) rfl (oN (nN (W_no rfl (decide_eq_false (by omega)) (W_skip (bN (tN (W_drsN (fun W_ => Blk W_ g 222 #[str s, .int .i64 at_, .int .i64 0]) [0, 1, 2, 3, 4, 5, 6, 7, 8, 9, 10, 11, 12, 13, 14, 15] [true, true, true, true, true, true, true, true, true, true, true, true, true, true, true, true] (by kernel_rfl) (by kernel_rfl) (hB.drew) ?_))))))))
 obtain ⟨w2, hw_⟩ : ∃ w2 : World, w2 = World.drew w1 := ⟨_, rfl⟩
 rw [← hw_]
 have hb : Below w1.heap.size w1 w2 := by rw [hw_]; exact bdrew (Below.refl _ _)
 clear hw_
 have hS := hb
 replace hcw := hcw.then_below hb
 replace hB := hB.bel hb
 have hz_w2 := hb.size
 clear hb
 refine oY rfl (fun W_ hW_ => (X.move rfl)) rfl (oY rfl (fun W_ hW_ => (X.nilChk rfl)) rfl (oY rfl (fun W_ hW_ => (X.fa fa222_0 rfl)) rfl (oY rfl (fun W_ hW_ => (X.ldL rfl hW_ Tryz.underlying9 rfl rfl)) rfl (oY rfl (fun W_ hW_ => (X.move rfl)) rfl (oY rfl (fun W_ hW_ => (X.nilChk rfl)) rfl (oY rfl (fun W_ hW_ => (X.fa fa222_1 rfl)) rfl (oY rfl (fun W_ hW_ => (X.ldL rfl hW_ Tryz.underlying3 rfl rfl)) rfl (oY rfl (fun W_ hW_ => (X.move rfl)) rfl (oY rfl (fun W_ hW_ => (X.nilChk rfl)) rfl (oY rfl (fun W_ hW_ => (X.fa fa222_1 rfl)) rfl ?_))))))))))
 refine oY rfl (fun W_ hW_ => (X.ldL rfl hW_ Tryz.underlying3 rfl rfl)) rfl (oY rfl (fun W_ hW_ => (X.move rfl)) rfl (oY rfl (fun W_ hW_ => (X.add64 rfl rfl (by omega))) rfl (oY rfl (fun W_ hW_ => (X.cutS (s := s) (i := at_) (j := at_ + n) rfl rfl rfl Tryz.underlying9 rfl (by omega) (by omega) (by omega))) rfl (oY rfl (fun W_ hW_ => (X.assign rfl)) rfl (oN (nN (W_rs (sm rfl rfl (st (X.nilChk rfl) rfl (st (X.fa fa222_1 rfl) rfl ?_))))))))))
 refine st (X.ldL rfl hB Tryz.underlying3 rfl rfl) rfl (sm rfl rfl (st (X.add64 rfl rfl (by omega)) rfl (st (X.nilChk rfl) rfl (st (X.fa fa222_1 rfl) rfl (ssB rfl rfl hB siz3 rfl (by first | decide | simp) (fun w3 hB_ hc_ => ?_))))))
 replace hB := hB_
 clear hB_
 replace hcw := hcw.next hc_ (fun i_ hi_ => by first | exact .inl hi_ | exact .inl (.inl hi_) | (right; subst hi_; omega) | (left; subst hi_; show _ ≤ _; omega) | (left; subst hi_; assumption))
 have hz_w3 := hc_.size
 clear hc_
 refine Wn (tN (W_rs (sm rfl rfl (sa rfl rfl (Wn (tN (W_ret ((rT rfl rfl ⟨?_, hB, hcw⟩).1))))))))
 rw [List.drop_take, Nat.add_sub_cancel_left]
theorem fixed_any (n : Nat) (hs : s.length ≤ 1099511627776) (ha : at_ ≤ s.length) (hn : n ≤ 8) : Calls Tryz.prog 146 #[.pointer (some ⟨g, 0, none⟩), .int .i64 n] w fun e w' =>
  e = .returned (.int .u64 (leN (takeM s at_ er n).1 : Nat)) ∧ Blk w' g 222 #[str s, .int .i64 (takeM s at_ er n).2.1, .int .i64 (takeM s at_ er n).2.2] ∧ Chg (fun k => k = g) w w' := by
 have hlt := hB.lt
 have htl : (takeM s at_ er n).1.length ≤ n := by
  unfold takeM
  split
  ·simp
  ·split
   ·simp
   ·simp only [List.length_take]
    omega
 have hT := take_any g s at_ er w hB n hs ha (by omega)
 obtain ⟨t, ht⟩ : ∃ t, takeM s at_ er n = t := ⟨_, rfl⟩
 obtain ⟨tl, ta, te⟩ := t
 rw [ht] at hT htl ⊢
 replace htl : tl.length ≤ n := htl
 refine W_enter (args := [.pointer (some ⟨g, 0, none⟩), .int .i64 n]) 28 Tryz.func146 rfl rfl rfl (W_sub [(0, .pointer (some ⟨g, 0, none⟩)), (1, .int .i64 n)] ?_ ⟨rfl, rfl, trivial⟩)
 have hcw := Chg.refl (fun k => k = g) w
 refine W_rs (sa rfl rfl (Wn (tN (W_rs (sa rfl rfl (Wn (tN (W_seq (W_rs (sm rfl rfl ?_))))))))))
 refine sm rfl rfl (sc _ Tryz.func150 rfl (by kernel_rfl) rfl rfl (hT.mono ?_))
 rintro e_ w1 ⟨rfl, hB1, hX⟩
 refine cR ?_
 have hn1 := hcw.next hX (fun i hi => .inl hi)
 clear hcw
 have hcw := hn1
 refine scb (s := tl) rfl Tryz.underlying9 Tryz.underlying123 Tryz.underlying5 (by omega) rfl (fun gv cv w2 hR hgv hgl hb => ?_)
 have hn1 := hcw.then_below hb
 have hn2 := hB1.bel hb
 have hzz := hb.size
 clear hcw hB1 hb
 have hcw := hn1
 have hB1 := hn2
 clear hn1 hn2
 refine st (X.lenL rfl rfl Tryz.underlying123) rfl (sm rfl rfl (Wn (tN (W_block (W_lp (fun nw3_ lw3_ w3 => ∃ i : Nat, nw3_ = tl.length - i ∧ lw3_ = ([(0, .pointer (some ⟨g, 0, none⟩)), (5, .int .u64 (leN (tl.take i) : Nat)), (11, .slice (some ⟨gv, 0, none⟩) tl.length cv), (12, .int .i64 tl.length), (13, .int .i64 i)] : Env) ∧ (i ≤ tl.length) ∧ (Chg (fun k => k = g) w w3) ∧ (Blk w3 g 222 #[str s, .int .i64 ta, .int .i64 te]) ∧ (Reads w3 1 (.slice (some ⟨gv, 0, none⟩) tl.length cv) tl.length (tl.map bv))) _ ⟨_, ⟨0, rfl, rfl, Nat.zero_le _, hcw, hB1, hR⟩, ⟨rfl, rfl, rfl, rfl, rfl, trivial⟩⟩ ?_)))))
 clear hcw hB1 hR
 rintro nw3_ lw3_ w3 ⟨i, rfl, rfl, hi, hcw, hB1, hR⟩
 refine W_rs (st (X.lss rfl rfl) rfl (Wn (tN (W_seq (W_if rfl (fun h14 => ?_) (fun h14 => ?_))))))
 ·first | replace h14 := of_decide_eq_true h14 | replace h14 := of_decide_eq_false (notT h14) | replace h14 := notT h14 | skip
  obtain ⟨x, hx⟩ : ∃ x, tl[i]? = some x := ⟨_, List.getElem?_eq_getElem (by omega)⟩
  have hux : (tl.map bv)[i]? = some (bv x) := by rw [List.getElem?_map, hx]; rfl
  have hx8 := x.toNat_lt
  have hnx : leN (tl.take (i + 1)) = leN (tl.take i) + x.toNat * 2 ^ (8 * i) := by
   rw [take_next' hx, leN_snoc, List.length_take, Nat.min_eq_left hi]
  have hlt1 := leN_lt (tl.take i)
  have hlt2 := leN_lt (tl.take (i + 1))
  rw [List.length_take, Nat.min_eq_left hi] at hlt1
  rw [List.length_take, Nat.min_eq_left (by omega), hnx] at hlt2
  have hpw : 2 ^ (8 * (i + 1)) ≤ 2 ^ 64 := Nat.pow_le_pow_right (by omega) (by omega)
  have hbd : leN (tl.take i) + x.toNat * 2 ^ (8 * i) < 18446744073709551616 := Nat.lt_of_lt_of_le hlt2 hpw
  have hmul : (x.toNat : Int) * ((2 ^ (8 * i) : Nat) : Int) = ((x.toNat * 2 ^ (8 * i) : Nat) : Int) := by rw [Int.natCast_mul]
  refine W_skip (tN (W_seq (W_block (W_rs (sm rfl rfl (st (X.idxA rfl rfl Tryz.underlying123 siz5 rfl (by omega)) rfl (st (X.ld rfl Tryz.underlying5 rfl (by rw [Nat.mul_one]; exact hR.cellAt (by omega) hux)) rfl ?_)))))))
  refine sa rfl rfl (sa rfl rfl (Wn (tN (W_reg (sm rfl rfl (sm rfl rfl (st (X.convI (m := (x.toNat : Int)) rfl Tryz.underlying5 Tryz.underlying165 (IntWalk.u64_in _ (by omega))) rfl (sm rfl rfl (st (X.mul64 rfl rfl (by omega)) rfl (st (X.convI (m := 8 * (i : Int)) (z := 8 * (i : Int)) rfl Tryz.underlying3 Tryz.underlying173 (IntWalk.u64_in _ (by omega))) rfl ?_))))))))))
  refine st (X.shl (s := 8 * i) (q := ((2 ^ (8 * i) : Nat) : Int)) (z := (x.toNat : Int) * ((2 ^ (8 * i) : Nat) : Int)) rfl rfl (by omega) (by show 8 * (i : Int) ≤ 64; omega) (by omega) (by simp) (by rw [hmul]; exact IntWalk.u64_in _ (by omega))) rfl ?_
  refine st (X.bits (by simp) rfl rfl (or_add64 _ _ _ hlt1 hbd)) rfl ?_
  refine sa rfl rfl (Wn (bN (tN (W_reg (st (X.add64 rfl rfl (by omega)) rfl (sm rfl rfl (Wn (tN ⟨_, _, ?_, ⟨i + 1, rfl, rfl, by omega, hcw, hB1, hR⟩, ⟨rfl, by rw [hnx]; rfl, rfl, rfl, rfl, trivial⟩⟩))))))))
  omega
 ·first | replace h14 := of_decide_eq_false h14 | replace h14 := of_decide_eq_true (notF h14) | replace h14 := notF h14 | skip
  obtain rfl : i = tl.length := by omega
  refine W_exit (tE (tE (bH (tN (W_rs (sm rfl rfl (sa rfl rfl (Wn (tN (W_ret ?_))))))))))
  rw [List.take_length]
  exact (rT rfl rfl ⟨rfl, hB1, hcw⟩).1
theorem U8_any (hs : s.length ≤ 1099511627776) (ha : at_ ≤ s.length) : Calls Tryz.prog 105 #[.pointer (some ⟨g, 0, none⟩)] w fun e w' =>
  e = .returned (.int .u8 ((takeM s at_ er 1).1.headD 0).toNat) ∧ Blk w' g 222 #[str s, .int .i64 (takeM s at_ er 1).2.1, .int .i64 (takeM s at_ er 1).2.2] ∧ Chg (fun k => k = g) w w' := by
 have hv : IntKind.u8.wrap ((leN (takeM s at_ er 1).1 : Nat) : Int) = ((takeM s at_ er 1).1.headD 0).toNat := by
  have h1 := takeM_len s at_ er 1
  generalize (takeM s at_ er 1).1 = t at h1 ⊢
  match t, h1 with
  | [], _ => rfl
  | [b], _ =>
   have := b.toNat_lt
   show IntKind.u8.wrap ((b.toNat + 256 * 0 : Nat) : Int) = (b.toNat : Int)
   rw [show b.toNat + 256 * 0 = b.toNat by omega]
   exact IntWalk.u8_in _ (by omega)
 have hT := fixed_any g s at_ er w hB 1 hs ha (by omega)
 refine W_enter (args := [.pointer (some ⟨g, 0, none⟩)]) 6 Tryz.func105 rfl rfl rfl (W_sub [(0, .pointer (some ⟨g, 0, none⟩))] ?_ ⟨rfl, trivial⟩)
 refine W_rs (sa rfl rfl (Wn (tN (W_rs (sm rfl rfl (sc _ Tryz.func146 rfl (by kernel_rfl) rfl rfl (hT.mono ?_)))))))
 rintro e_ w1 ⟨rfl, hB1, hX⟩
 refine cR (st (X.convI rfl Tryz.underlying165 Tryz.underlying5 hv) rfl (sa rfl rfl (Wn (tN (W_ret ?_)))))
 exact (rT rfl rfl ⟨rfl, hB1, hX⟩).1
theorem U32_any (hs : s.length ≤ 1099511627776) (ha : at_ ≤ s.length) : Calls Tryz.prog 109 #[.pointer (some ⟨g, 0, none⟩)] w fun e w' =>
  e = .returned (.int .u32 (leN (takeM s at_ er 4).1 : Nat)) ∧ Blk w' g 222 #[str s, .int .i64 (takeM s at_ er 4).2.1, .int .i64 (takeM s at_ er 4).2.2] ∧ Chg (fun k => k = g) w w' := by
 have hv : IntKind.u32.wrap ((leN (takeM s at_ er 4).1 : Nat) : Int) = (leN (takeM s at_ er 4).1 : Nat) := by
  have h1 := takeM_len s at_ er 4
  have h2 := leN_lt (takeM s at_ er 4).1
  have h3 : 2 ^ (8 * (takeM s at_ er 4).1.length) ≤ 2 ^ 32 := Nat.pow_le_pow_right (by omega) (by omega)
  exact IntWalk.u32_in _ (by omega)
 have hT := fixed_any g s at_ er w hB 4 hs ha (by omega)
 refine W_enter (args := [.pointer (some ⟨g, 0, none⟩)]) 6 Tryz.func109 rfl rfl rfl (W_sub [(0, .pointer (some ⟨g, 0, none⟩))] ?_ ⟨rfl, trivial⟩)
 refine W_rs (sa rfl rfl (Wn (tN (W_rs (sm rfl rfl (sc _ Tryz.func146 rfl (by kernel_rfl) rfl rfl (hT.mono ?_)))))))
 rintro e_ w1 ⟨rfl, hB1, hX⟩
 refine cR (st (X.convI rfl Tryz.underlying165 Tryz.underlying145 hv) rfl (sa rfl rfl (Wn (tN (W_ret ?_)))))
 exact (rT rfl rfl ⟨rfl, hB1, hX⟩).1
set_option maxRecDepth 10000 in
theorem Uvar_any (hs : s.length ≤ 1099511627776) (ha : at_ ≤ s.length) : Calls Tryz.prog 147 #[.pointer (some ⟨g, 0, none⟩)] w fun e w' =>
  e = .returned (.int .u64 (uvR s at_ er).1) ∧ Blk w' g 222 #[str s, .int .i64 (uvR s at_ er).2.1, .int .i64 (uvR s at_ er).2.2] ∧ Chg (fun k => k = g) w w' := by
 have hlt := hB.lt
 unfold uvR
 by_cases he : er ≠ 0
 ·simp only [if_pos he]
  refine W_enter (args := [.pointer (some ⟨g, 0, none⟩)]) 67 Tryz.func147 rfl rfl rfl (W_sub [(0, .pointer (some ⟨g, 0, none⟩))] ?_ ⟨rfl, trivial⟩)
  have hcw := Chg.refl (fun k => k = g) w
  refine W_rs (sa rfl rfl (Wn (tN (W_scope0 (W_seq (W_rs (sm rfl rfl (st (X.rdEq rfl) rfl (sbN rfl (rfl) rfl (gY (g := 9) rfl rfl rfl ?_))))))))))
  refine sm rfl rfl (gY (g := 9) rfl rfl rfl (st (X.nilChk rfl) rfl (gY (g := 9) rfl rfl rfl (st (X.fa fa222_2 rfl) rfl (gY (g := 9) rfl rfl rfl (st (X.ldL rfl hB Tryz.underlying26 rfl rfl) rfl (gY (g := 9) rfl rfl rfl (st (X.neq rfl rfl) rfl (st (X.pickF rfl rfl) rfl (Wn ?_))))))))))
  refine tN (W_yes rfl (decide_eq_true he) (W_rs (sa rfl rfl (Wn (tN (W_ret (tR (njR ?_))))))))
  exact (rT rfl rfl ⟨rfl, hB, hcw⟩).1
 simp only [if_neg he]
 obtain rfl : er = 0 := Classical.byContradiction he
 refine W_enter (args := [.pointer (some ⟨g, 0, none⟩)]) 67 Tryz.func147 rfl rfl rfl (W_sub [(0, .pointer (some ⟨g, 0, none⟩))] ?_ ⟨rfl, trivial⟩)
 have hcw := Chg.refl (fun k => k = g) w
 refine W_rs (sa rfl rfl (Wn (tN (W_scope 0 (fun nw1_ lw1_ w1 => ∃ i : Nat, ∃ x : Nat, nw1_ = 10 - i ∧ lw1_ = ([(0, .pointer (some ⟨g, 0, none⟩)), (3, .int .u64 x), (4, .int .i64 at_), (5, .int .i64 i)] : Env) ∧ (i ≤ 9) ∧ (x < 2 ^ (7 * i)) ∧ (uvM 0 0 (s.drop at_) = uvM i x (s.drop (at_ + i))) ∧ (Chg (fun k => k = g) w w1) ∧ (Blk w1 g 222 #[str s, .int .i64 (at_ + i : Nat), .int .i64 0]) ∧ (at_ + i ≤ s.length)) rfl ?_ ?_))))
 ·clear hcw hB
  rintro nw1_ lw1_ w1 ⟨i, x, rfl, rfl, hi, hx, heq, hcw, hB, hai⟩
  have hlt_hB_w1 := hB.lt
  refine W_rs (sm rfl rfl (sc _ Tryz.func105 rfl (by kernel_rfl) rfl rfl ((U8_any g s (at_ + i) 0 _ hB hs hai).mono ?_)))
  rintro e_ w2 ⟨rfl, hB1, hX⟩
  refine cR ?_
  have hn1 := hcw.next hX (fun k hk => .inl hk)
  obtain ⟨tk, htk⟩ : ∃ tk, takeM s (at_ + i) 0 1 = tk := ⟨_, rfl⟩
  rw [htk] at hB1
  rw [htk]
  obtain ⟨bb, hbb⟩ : ∃ bb, tk.1.headD 0 = bb := ⟨_, rfl⟩
  rw [hbb]
  obtain ⟨tl, ta, te⟩ := tk
  clear hcw hB
  have hcw := hn1
  have hB : Blk w2 g 222 #[str s, .int .i64 ta, .int .i64 te] := hB1
  clear hB1 hn1
  have ht1 := take1 htk
  refine sa rfl rfl (Wn (tN (W_seq (W_block (W_rs (sm rfl rfl (st (X.nilChk rfl) rfl (st (X.fa fa222_2 rfl) rfl (st (X.ldL rfl hB Tryz.underlying26 rfl rfl) rfl (st (X.neq rfl rfl) rfl ?_))))))))))
  refine sa rfl rfl (Wn (tN (W_if rfl (fun h22 => ?_) (fun h22 => ?_))))
  ·first | replace h22 := of_decide_eq_true h22 | replace h22 := of_decide_eq_false (notT h22) | replace h22 := notT h22 | skip
   obtain ⟨rfl, hdr, rfl, rfl⟩ := ht1.resolve_right (fun e => h22 e.1)
   have hres : uvM 0 0 (s.drop at_) = (0, 0, 10) := by rw [heq, hdr]; rfl
   rw [hres]
   refine W_goto (bG (tG (scO rfl rfl (W_skip_s (W_rs (sm rfl rfl (sm rfl rfl (st (X.nilChk rfl) rfl (st (X.fa fa222_2 rfl) rfl (st (X.ldL rfl hB Tryz.underlying26 rfl rfl) rfl (sm rfl rfl (sc _ Tryz.func148 rfl (by kernel_rfl) rfl rfl ((fail_any g s _ _ _ hB 10 at_).mono ?_)))))))))))))
   rintro e_ w3 ⟨rfl, hB1, hX⟩
   refine cR ?_
   have hn1 := hcw.next hX (fun k hk => .inl hk)
   clear hcw hB
   have hcw := hn1
   have hB := hB1
   refine Wn (tN (W_seq (W_rs (sa rfl rfl (Wn (tN (W_ret (tR (njR ?_)))))))))
   exact (rT rfl rfl ⟨rfl, hB, hcw⟩).1
  ·first | replace h22 := of_decide_eq_false h22 | replace h22 := of_decide_eq_true (notF h22) | replace h22 := notF h22 | skip
   obtain ⟨rfl, b, l', hdr, rfl, rfl, hlt2⟩ := ht1.resolve_left (fun e => by rw [e.1] at h22; exact absurd h22 (by decide))
   have hb8 := b.toNat_lt
   replace hbb : b = bb := hbb
   subst hbb
   refine W_rs (sm rfl rfl (st (X.eql rfl rfl) rfl (sb rfl rfl (fun h31 => ?_) (fun h31 => ?_))))
   ·first | replace h31 := of_decide_eq_true h31 | replace h31 := of_decide_eq_false (notT h31) | replace h31 := notT h31 | skip
    refine gY (g := 31) rfl rfl rfl (sm rfl rfl (gY (g := 31) rfl rfl rfl (st (X.gtr rfl rfl) rfl (st (X.pickT rfl rfl) rfl (sb rfl rfl (fun h35 => ?_) (fun h35 => ?_))))))
    ·first | replace h35 := of_decide_eq_true h35 | replace h35 := of_decide_eq_false (notT h35) | replace h35 := notT h35 | skip
     refine gN (g := 35) rfl rfl rfl rfl (gN (g := 35) rfl rfl rfl rfl (gN (g := 35) rfl rfl rfl rfl (gU (g := 38) rfl rfl rfl rfl (gU (g := 38) rfl rfl rfl rfl (gN (g := 35) rfl rfl rfl rfl (st (X.pickT rfl rfl) rfl (sa rfl rfl (Wn (tN (W_yes rfl (rfl) ?_))))))))))
     refine W_goto (bG (tG (scO rfl rfl (W_skip_s (W_rs (sm rfl rfl (sm rfl rfl ?_)))))))
     have hres : uvM 0 0 (s.drop at_) = (0, 0, 12) := by
      rw [heq, hdr]
      unfold uvM
      rw [if_pos (by omega)]
     rw [hres]
     refine sc _ Tryz.func148 rfl (by kernel_rfl) rfl rfl ((fail_any g s _ _ _ hB 12 at_).mono ?_)
     rintro e_ w4 ⟨rfl, hB1, hX⟩
     refine cR ?_
     have hn1 := hcw.next hX (fun k hk => .inl hk)
     clear hcw hB
     have hcw := hn1
     have hB := hB1
     refine Wn (tN (W_rs (sa rfl rfl (Wn (tN (W_ret (njR ?_)))))))
     exact (rT rfl rfl ⟨rfl, hB, hcw⟩).1
    ·first | replace h35 := of_decide_eq_false h35 | replace h35 := of_decide_eq_true (notF h35) | replace h35 := notF h35 | skip
     refine gY (g := 35) rfl rfl rfl (sm rfl rfl (gY (g := 35) rfl rfl rfl (st (X.gtr rfl rfl) rfl (gY (g := 35) rfl rfl rfl (sb rfl rfl (fun h38 => ?_) (fun h38 => ?_))))))
     ·first | replace h38 := of_decide_eq_true h38 | replace h38 := of_decide_eq_false (notT h38) | replace h38 := notT h38 | skip
      refine gY (g := 38) rfl rfl rfl (sm rfl rfl (gY (g := 38) rfl rfl rfl (st (X.eql rfl rfl) rfl (gY (g := 35) rfl rfl rfl (st (X.pickT rfl rfl) rfl (st (X.pickF rfl rfl) rfl (sa rfl rfl (Wn (tN (W_if rfl (fun h28 => ?_) (fun h28 => ?_)))))))))))
      ·first | replace h28 := of_decide_eq_true h28 | replace h28 := of_decide_eq_false (notT h28) | replace h28 := notT h28 | skip
       refine W_goto (bG (tG (scO rfl rfl (W_skip_s (W_rs (sm rfl rfl (sm rfl rfl ?_)))))))
       have hres : uvM 0 0 (s.drop at_) = (0, 0, 12) := by
        rw [heq, hdr]
        unfold uvM
        rw [if_pos (by omega)]
       rw [hres]
       refine sc _ Tryz.func148 rfl (by kernel_rfl) rfl rfl ((fail_any g s _ _ _ hB 12 at_).mono ?_)
       rintro e_ w5 ⟨rfl, hB1, hX⟩
       refine cR ?_
       have hn1 := hcw.next hX (fun k hk => .inl hk)
       clear hcw hB
       have hcw := hn1
       have hB := hB1
       refine Wn (tN (W_rs (sa rfl rfl (Wn (tN (W_ret (njR ?_)))))))
       exact (rT rfl rfl ⟨rfl, hB, hcw⟩).1
      ·first | replace h28 := of_decide_eq_false h28 | replace h28 := of_decide_eq_true (notF h28) | replace h28 := notF h28 | skip
       refine W_skip (bN (tN (W_rs ?_)))
       have hno : ¬ ((i = 9 ∧ 1 < b.toNat) ∨ (0 < i ∧ b.toNat = 0)) := by omega
       have hmul : ((b.toNat % 128 : Nat) : Int) * ((2 ^ (7 * i) : Nat) : Int) = ((b.toNat % 128 * 2 ^ (7 * i) : Nat) : Int) := by rw [Int.natCast_mul]
       have hsh : b.toNat % 128 * 2 ^ (7 * i) + 2 ^ (7 * i) ≤ 18446744073709551616 := sh_bound hi (by omega) (by omega)
       refine sm rfl rfl (sm rfl rfl (st (X.bits (z := ((b.toNat % 128 : Nat) : Int)) (by simp) rfl rfl (and127 b)) rfl ?_))
       refine st (X.convI (m := ((b.toNat % 128 : Nat) : Int)) (z := ((b.toNat % 128 : Nat) : Int)) rfl Tryz.underlying5 Tryz.underlying165 (IntWalk.u64_in _ (by omega))) rfl (sm rfl rfl (st (X.mul64 rfl rfl (by omega)) rfl (st (X.convI (m := 7 * (i : Int)) (z := 7 * (i : Int)) rfl Tryz.underlying3 Tryz.underlying173 (IntWalk.u64_in _ (by omega))) rfl (st (X.shl (s := 7 * i) (q := ((2 ^ (7 * i) : Nat) : Int)) (z := ((b.toNat % 128 : Nat) : Int) * ((2 ^ (7 * i) : Nat) : Int)) rfl rfl (by omega) (by show 7 * (i : Int) ≤ 64; omega) (by omega) (by simp) (by rw [hmul]; exact IntWalk.u64_in _ (by omega))) rfl ?_))))
       refine st (X.bits (by simp) rfl rfl (or_add64 _ _ _ hx (by omega))) rfl ?_
       refine sa rfl rfl (Wn (tN (W_seq (W_rs (sm rfl rfl (st (X.geq rfl rfl) rfl (Wn (tN (W_if rfl (fun h53 => ?_) (fun h53 => ?_))))))))))
       ·first | replace h53 := of_decide_eq_true h53 | replace h53 := of_decide_eq_false (notT h53) | replace h53 := notT h53 | skip
        have hxn : x + (b.toNat - 128) * 2 ^ (7 * i) < 2 ^ (7 * (i + 1)) := sh_next hx (by omega)
        have heqn : uvM 0 0 (s.drop at_) = uvM (i + 1) (x + (b.toNat - 128) * 2 ^ (7 * i)) (s.drop (at_ + (i + 1))) := by
         rw [heq, hdr]
         have hd2 : s.drop (at_ + (i + 1)) = l' := by rw [← Nat.add_assoc, ← List.drop_drop, hdr]; rfl
         rw [hd2]
         conv => lhs; unfold uvM
         rw [if_neg hno, if_neg (by omega)]
        have hBn : Blk w2 g 222 #[str s, .int .i64 (at_ + (i + 1) : Nat), .int .i64 0] := hB
        refine W_rs (sm rfl rfl (st (X.add64 rfl rfl (by omega)) rfl (sa rfl rfl (Wn (tN (W_goto (tG (scA ⟨_, _, ?_, ⟨i + 1, x + (b.toNat - 128) * 2 ^ (7 * i), rfl, rfl, by omega, hxn, heqn, hcw, hBn, by omega⟩, ⟨rfl, by rw [show b.toNat % 128 = b.toNat - 128 by omega]; rfl, rfl, rfl, trivial⟩⟩))))))))
        omega
       ·first | replace h53 := of_decide_eq_false h53 | replace h53 := of_decide_eq_true (notF h53) | replace h53 := notF h53 | skip
        have hres : uvM 0 0 (s.drop at_) = (x + b.toNat * 2 ^ (7 * i), i + 1, 0) := by
         rw [heq, hdr]
         unfold uvM
         rw [if_neg hno, if_pos (by omega)]
        rw [hres]
        have hbm : b.toNat % 128 = b.toNat := by omega
        refine W_skip (tN (W_seq (W_rs (sm rfl rfl (sa rfl rfl (Wn (tN (W_ret (tR (scR ?_))))))))))
        rw [hbm]
        exact (rT rfl rfl ⟨rfl, hB, hcw⟩).1
     ·first | replace h38 := of_decide_eq_false h38 | replace h38 := of_decide_eq_true (notF h38) | replace h38 := notF h38 | skip
      refine gN (g := 38) rfl rfl rfl rfl (gN (g := 38) rfl rfl rfl rfl (gY (g := 35) rfl rfl rfl (st (X.pickF rfl rfl) rfl (st (X.pickF rfl rfl) rfl (sa rfl rfl (Wn (tN (W_no rfl (rfl) (W_skip (bN ?_))))))))))
      refine tN (W_rs ?_)
      have hno : ¬ ((i = 9 ∧ 1 < b.toNat) ∨ (0 < i ∧ b.toNat = 0)) := by omega
      have hmul : ((b.toNat % 128 : Nat) : Int) * ((2 ^ (7 * i) : Nat) : Int) = ((b.toNat % 128 * 2 ^ (7 * i) : Nat) : Int) := by rw [Int.natCast_mul]
      have hsh : b.toNat % 128 * 2 ^ (7 * i) + 2 ^ (7 * i) ≤ 18446744073709551616 := sh_bound hi (by omega) (by omega)
      refine sm rfl rfl (sm rfl rfl (st (X.bits (z := ((b.toNat % 128 : Nat) : Int)) (by simp) rfl rfl (and127 b)) rfl ?_))
      refine st (X.convI (m := ((b.toNat % 128 : Nat) : Int)) (z := ((b.toNat % 128 : Nat) : Int)) rfl Tryz.underlying5 Tryz.underlying165 (IntWalk.u64_in _ (by omega))) rfl (sm rfl rfl (st (X.mul64 rfl rfl (by omega)) rfl (st (X.convI (m := 7 * (i : Int)) (z := 7 * (i : Int)) rfl Tryz.underlying3 Tryz.underlying173 (IntWalk.u64_in _ (by omega))) rfl (st (X.shl (s := 7 * i) (q := ((2 ^ (7 * i) : Nat) : Int)) (z := ((b.toNat % 128 : Nat) : Int) * ((2 ^ (7 * i) : Nat) : Int)) rfl rfl (by omega) (by show 7 * (i : Int) ≤ 64; omega) (by omega) (by simp) (by rw [hmul]; exact IntWalk.u64_in _ (by omega))) rfl ?_))))
      refine st (X.bits (by simp) rfl rfl (or_add64 _ _ _ hx (by omega))) rfl ?_
      refine sa rfl rfl (Wn (tN (W_seq (W_rs (sm rfl rfl (st (X.geq rfl rfl) rfl (Wn (tN (W_if rfl (fun h53 => ?_) (fun h53 => ?_))))))))))
      ·first | replace h53 := of_decide_eq_true h53 | replace h53 := of_decide_eq_false (notT h53) | replace h53 := notT h53 | skip
       have hxn : x + (b.toNat - 128) * 2 ^ (7 * i) < 2 ^ (7 * (i + 1)) := sh_next hx (by omega)
       have heqn : uvM 0 0 (s.drop at_) = uvM (i + 1) (x + (b.toNat - 128) * 2 ^ (7 * i)) (s.drop (at_ + (i + 1))) := by
        rw [heq, hdr]
        have hd2 : s.drop (at_ + (i + 1)) = l' := by rw [← Nat.add_assoc, ← List.drop_drop, hdr]; rfl
        rw [hd2]
        conv => lhs; unfold uvM
        rw [if_neg hno, if_neg (by omega)]
       have hBn : Blk w2 g 222 #[str s, .int .i64 (at_ + (i + 1) : Nat), .int .i64 0] := hB
       refine W_rs (sm rfl rfl (st (X.add64 rfl rfl (by omega)) rfl (sa rfl rfl (Wn (tN (W_goto (tG (scA ⟨_, _, ?_, ⟨i + 1, x + (b.toNat - 128) * 2 ^ (7 * i), rfl, rfl, by omega, hxn, heqn, hcw, hBn, by omega⟩, ⟨rfl, by rw [show b.toNat % 128 = b.toNat - 128 by omega]; rfl, rfl, rfl, trivial⟩⟩))))))))
       omega
      ·first | replace h53 := of_decide_eq_false h53 | replace h53 := of_decide_eq_true (notF h53) | replace h53 := notF h53 | skip
       have hres : uvM 0 0 (s.drop at_) = (x + b.toNat * 2 ^ (7 * i), i + 1, 0) := by
        rw [heq, hdr]
        unfold uvM
        rw [if_neg hno, if_pos (by omega)]
       rw [hres]
       have hbm : b.toNat % 128 = b.toNat := by omega
       refine W_skip (tN (W_seq (W_rs (sm rfl rfl (sa rfl rfl (Wn (tN (W_ret (tR (scR ?_))))))))))
       rw [hbm]
       exact (rT rfl rfl ⟨rfl, hB, hcw⟩).1
   ·first | replace h31 := of_decide_eq_false h31 | replace h31 := of_decide_eq_true (notF h31) | replace h31 := notF h31 | skip
    refine gN (g := 31) rfl rfl rfl rfl (gN (g := 31) rfl rfl rfl rfl (st (X.pickF rfl rfl) rfl (sm rfl rfl (gY (g := 35) rfl rfl rfl (sm rfl rfl (gY (g := 35) rfl rfl rfl (st (X.gtr rfl rfl) rfl (gY (g := 35) rfl rfl rfl (sb rfl rfl (fun h38 => ?_) (fun h38 => ?_))))))))))
    ·first | replace h38 := of_decide_eq_true h38 | replace h38 := of_decide_eq_false (notT h38) | replace h38 := notT h38 | skip
     refine gY (g := 38) rfl rfl rfl (sm rfl rfl (gY (g := 38) rfl rfl rfl (st (X.eql rfl rfl) rfl (gY (g := 35) rfl rfl rfl (st (X.pickT rfl rfl) rfl (st (X.pickF rfl rfl) rfl (sa rfl rfl (Wn (tN (W_if rfl (fun h28 => ?_) (fun h28 => ?_)))))))))))
     ·first | replace h28 := of_decide_eq_true h28 | replace h28 := of_decide_eq_false (notT h28) | replace h28 := notT h28 | skip
      refine W_goto (bG (tG (scO rfl rfl (W_skip_s (W_rs (sm rfl rfl (sm rfl rfl ?_)))))))
      have hres : uvM 0 0 (s.drop at_) = (0, 0, 12) := by
       rw [heq, hdr]
       unfold uvM
       rw [if_pos (by omega)]
      rw [hres]
      refine sc _ Tryz.func148 rfl (by kernel_rfl) rfl rfl ((fail_any g s _ _ _ hB 12 at_).mono ?_)
      rintro e_ w6 ⟨rfl, hB1, hX⟩
      refine cR ?_
      have hn1 := hcw.next hX (fun k hk => .inl hk)
      clear hcw hB
      have hcw := hn1
      have hB := hB1
      refine Wn (tN (W_rs (sa rfl rfl (Wn (tN (W_ret (njR ?_)))))))
      exact (rT rfl rfl ⟨rfl, hB, hcw⟩).1
     ·first | replace h28 := of_decide_eq_false h28 | replace h28 := of_decide_eq_true (notF h28) | replace h28 := notF h28 | skip
      refine W_skip (bN (tN (W_rs ?_)))
      have hno : ¬ ((i = 9 ∧ 1 < b.toNat) ∨ (0 < i ∧ b.toNat = 0)) := by omega
      have hmul : ((b.toNat % 128 : Nat) : Int) * ((2 ^ (7 * i) : Nat) : Int) = ((b.toNat % 128 * 2 ^ (7 * i) : Nat) : Int) := by rw [Int.natCast_mul]
      have hsh : b.toNat % 128 * 2 ^ (7 * i) + 2 ^ (7 * i) ≤ 18446744073709551616 := sh_bound hi (by omega) (by omega)
      refine sm rfl rfl (sm rfl rfl (st (X.bits (z := ((b.toNat % 128 : Nat) : Int)) (by simp) rfl rfl (and127 b)) rfl ?_))
      refine st (X.convI (m := ((b.toNat % 128 : Nat) : Int)) (z := ((b.toNat % 128 : Nat) : Int)) rfl Tryz.underlying5 Tryz.underlying165 (IntWalk.u64_in _ (by omega))) rfl (sm rfl rfl (st (X.mul64 rfl rfl (by omega)) rfl (st (X.convI (m := 7 * (i : Int)) (z := 7 * (i : Int)) rfl Tryz.underlying3 Tryz.underlying173 (IntWalk.u64_in _ (by omega))) rfl (st (X.shl (s := 7 * i) (q := ((2 ^ (7 * i) : Nat) : Int)) (z := ((b.toNat % 128 : Nat) : Int) * ((2 ^ (7 * i) : Nat) : Int)) rfl rfl (by omega) (by show 7 * (i : Int) ≤ 64; omega) (by omega) (by simp) (by rw [hmul]; exact IntWalk.u64_in _ (by omega))) rfl ?_))))
      refine st (X.bits (by simp) rfl rfl (or_add64 _ _ _ hx (by omega))) rfl ?_
      refine sa rfl rfl (Wn (tN (W_seq (W_rs (sm rfl rfl (st (X.geq rfl rfl) rfl (Wn (tN (W_if rfl (fun h53 => ?_) (fun h53 => ?_))))))))))
      ·first | replace h53 := of_decide_eq_true h53 | replace h53 := of_decide_eq_false (notT h53) | replace h53 := notT h53 | skip
       have hxn : x + (b.toNat - 128) * 2 ^ (7 * i) < 2 ^ (7 * (i + 1)) := sh_next hx (by omega)
       have heqn : uvM 0 0 (s.drop at_) = uvM (i + 1) (x + (b.toNat - 128) * 2 ^ (7 * i)) (s.drop (at_ + (i + 1))) := by
        rw [heq, hdr]
        have hd2 : s.drop (at_ + (i + 1)) = l' := by rw [← Nat.add_assoc, ← List.drop_drop, hdr]; rfl
        rw [hd2]
        conv => lhs; unfold uvM
        rw [if_neg hno, if_neg (by omega)]
       have hBn : Blk w2 g 222 #[str s, .int .i64 (at_ + (i + 1) : Nat), .int .i64 0] := hB
       refine W_rs (sm rfl rfl (st (X.add64 rfl rfl (by omega)) rfl (sa rfl rfl (Wn (tN (W_goto (tG (scA ⟨_, _, ?_, ⟨i + 1, x + (b.toNat - 128) * 2 ^ (7 * i), rfl, rfl, by omega, hxn, heqn, hcw, hBn, by omega⟩, ⟨rfl, by rw [show b.toNat % 128 = b.toNat - 128 by omega]; rfl, rfl, rfl, trivial⟩⟩))))))))
       omega
      ·first | replace h53 := of_decide_eq_false h53 | replace h53 := of_decide_eq_true (notF h53) | replace h53 := notF h53 | skip
       have hres : uvM 0 0 (s.drop at_) = (x + b.toNat * 2 ^ (7 * i), i + 1, 0) := by
        rw [heq, hdr]
        unfold uvM
        rw [if_neg hno, if_pos (by omega)]
       rw [hres]
       have hbm : b.toNat % 128 = b.toNat := by omega
       refine W_skip (tN (W_seq (W_rs (sm rfl rfl (sa rfl rfl (Wn (tN (W_ret (tR (scR ?_))))))))))
       rw [hbm]
       exact (rT rfl rfl ⟨rfl, hB, hcw⟩).1
    ·first | replace h38 := of_decide_eq_false h38 | replace h38 := of_decide_eq_true (notF h38) | replace h38 := notF h38 | skip
     refine gN (g := 38) rfl rfl rfl rfl (gN (g := 38) rfl rfl rfl rfl (gY (g := 35) rfl rfl rfl (st (X.pickF rfl rfl) rfl (st (X.pickF rfl rfl) rfl (sa rfl rfl (Wn (tN (W_no rfl (rfl) (W_skip (bN ?_))))))))))
     refine tN (W_rs ?_)
     have hno : ¬ ((i = 9 ∧ 1 < b.toNat) ∨ (0 < i ∧ b.toNat = 0)) := by omega
     have hmul : ((b.toNat % 128 : Nat) : Int) * ((2 ^ (7 * i) : Nat) : Int) = ((b.toNat % 128 * 2 ^ (7 * i) : Nat) : Int) := by rw [Int.natCast_mul]
     have hsh : b.toNat % 128 * 2 ^ (7 * i) + 2 ^ (7 * i) ≤ 18446744073709551616 := sh_bound hi (by omega) (by omega)
     refine sm rfl rfl (sm rfl rfl (st (X.bits (z := ((b.toNat % 128 : Nat) : Int)) (by simp) rfl rfl (and127 b)) rfl ?_))
     refine st (X.convI (m := ((b.toNat % 128 : Nat) : Int)) (z := ((b.toNat % 128 : Nat) : Int)) rfl Tryz.underlying5 Tryz.underlying165 (IntWalk.u64_in _ (by omega))) rfl (sm rfl rfl (st (X.mul64 rfl rfl (by omega)) rfl (st (X.convI (m := 7 * (i : Int)) (z := 7 * (i : Int)) rfl Tryz.underlying3 Tryz.underlying173 (IntWalk.u64_in _ (by omega))) rfl (st (X.shl (s := 7 * i) (q := ((2 ^ (7 * i) : Nat) : Int)) (z := ((b.toNat % 128 : Nat) : Int) * ((2 ^ (7 * i) : Nat) : Int)) rfl rfl (by omega) (by show 7 * (i : Int) ≤ 64; omega) (by omega) (by simp) (by rw [hmul]; exact IntWalk.u64_in _ (by omega))) rfl ?_))))
     refine st (X.bits (by simp) rfl rfl (or_add64 _ _ _ hx (by omega))) rfl ?_
     refine sa rfl rfl (Wn (tN (W_seq (W_rs (sm rfl rfl (st (X.geq rfl rfl) rfl (Wn (tN (W_if rfl (fun h53 => ?_) (fun h53 => ?_))))))))))
     ·first | replace h53 := of_decide_eq_true h53 | replace h53 := of_decide_eq_false (notT h53) | replace h53 := notT h53 | skip
      have hxn : x + (b.toNat - 128) * 2 ^ (7 * i) < 2 ^ (7 * (i + 1)) := sh_next hx (by omega)
      have heqn : uvM 0 0 (s.drop at_) = uvM (i + 1) (x + (b.toNat - 128) * 2 ^ (7 * i)) (s.drop (at_ + (i + 1))) := by
       rw [heq, hdr]
       have hd2 : s.drop (at_ + (i + 1)) = l' := by rw [← Nat.add_assoc, ← List.drop_drop, hdr]; rfl
       rw [hd2]
       conv => lhs; unfold uvM
       rw [if_neg hno, if_neg (by omega)]
      have hBn : Blk w2 g 222 #[str s, .int .i64 (at_ + (i + 1) : Nat), .int .i64 0] := hB
      refine W_rs (sm rfl rfl (st (X.add64 rfl rfl (by omega)) rfl (sa rfl rfl (Wn (tN (W_goto (tG (scA ⟨_, _, ?_, ⟨i + 1, x + (b.toNat - 128) * 2 ^ (7 * i), rfl, rfl, by omega, hxn, heqn, hcw, hBn, by omega⟩, ⟨rfl, by rw [show b.toNat % 128 = b.toNat - 128 by omega]; rfl, rfl, rfl, trivial⟩⟩))))))))
      omega
     ·first | replace h53 := of_decide_eq_false h53 | replace h53 := of_decide_eq_true (notF h53) | replace h53 := notF h53 | skip
      have hres : uvM 0 0 (s.drop at_) = (x + b.toNat * 2 ^ (7 * i), i + 1, 0) := by
       rw [heq, hdr]
       unfold uvM
       rw [if_neg hno, if_pos (by omega)]
      rw [hres]
      have hbm : b.toNat % 128 = b.toNat := by omega
      refine W_skip (tN (W_seq (W_rs (sm rfl rfl (sa rfl rfl (Wn (tN (W_ret (tR (scR ?_))))))))))
      rw [hbm]
      exact (rT rfl rfl ⟨rfl, hB, hcw⟩).1
 ·intro hpass_
  refine W_seq (W_rs (sm rfl rfl (st (X.rdEq rfl) rfl (sbN rfl (rfl) rfl (gY (g := 9) rfl rfl rfl (sm rfl rfl (gY (g := 9) rfl rfl rfl (st (X.nilChk rfl) rfl (gY (g := 9) rfl rfl rfl (st (X.fa fa222_2 rfl) rfl ?_))))))))))
  refine gY (g := 9) rfl rfl rfl (st (X.ldL rfl hB Tryz.underlying26 rfl rfl) rfl (gY (g := 9) rfl rfl rfl (st (X.neq rfl rfl) rfl (st (X.pickF rfl rfl) rfl (Wn (tN (W_no rfl (rfl) (W_skip (tN (W_rs ?_))))))))))
  refine sa rfl rfl (Wn (tN (W_rs (sm rfl rfl (st (X.nilChk rfl) rfl (st (X.fa fa222_1 rfl) rfl (st (X.ldL rfl hB Tryz.underlying3 rfl rfl) rfl (sa rfl rfl (sa rfl rfl (Wn ?_))))))))))
  refine tN (W_label_s (W_sub _ (hpass_ _ _ _ ⟨0, 0, rfl, rfl, by omega, by simp, rfl, hcw, hB, ha⟩) ⟨rfl, rfl, rfl, rfl, trivial⟩))
omit hB in
theorem Text_any (most : Nat) (hm : most ≤ 1099511627776) (hB : Blk w g 222 #[str s, .int .i64 at_, .int .i64 0]) (hs : s.length ≤ 1099511627776) (ha : at_ ≤ s.length) : Calls Tryz.prog 107 #[.pointer (some ⟨g, 0, none⟩), .int .i64 most] w fun e w' =>
  e = .returned (str (textR s at_ most).1) ∧ Blk w' g 222 #[str s, .int .i64 (textR s at_ most).2.1, .int .i64 (textR s at_ most).2.2] ∧ Chg (fun k => k = g) w w' := by
 have hlt := hB.lt
 have hU := Uvar_any g s at_ 0 w hB hs ha
 have hua := uvR_at (e := 0) ha
 unfold textR
 obtain ⟨u, hu⟩ : ∃ u, uvR s at_ 0 = u := ⟨_, rfl⟩
 rw [hu] at hU hua ⊢
 obtain ⟨n, a1, e1⟩ := u
 replace hua : a1 ≤ s.length := hua
 simp only
 refine W_enter (args := [.pointer (some ⟨g, 0, none⟩), .int .i64 most]) 40 Tryz.func107 rfl rfl rfl (W_sub [(0, .pointer (some ⟨g, 0, none⟩)), (1, .int .i64 most)] ?_ ⟨rfl, rfl, trivial⟩)
 have hcw := Chg.refl (fun k => k = g) w
 refine W_rs (sa rfl rfl (Wn (tN (W_rs (sm rfl rfl (sc _ Tryz.func108 rfl (by kernel_rfl) rfl rfl ((At_any g s at_ 0 _ hB).mono ?_)))))))
 rintro e_ w_ ⟨rfl, rfl⟩
 refine cR (sa rfl rfl (Wn (tN (W_rs (sm rfl rfl (sc _ Tryz.func147 rfl (by kernel_rfl) rfl rfl (hU.mono ?_)))))))
 rintro e_ w1 ⟨rfl, hB1, hX⟩
 refine cR ?_
 have hn1 := hcw.next hX (fun k hk => .inl hk)
 clear hcw hB
 have hcw := hn1
 have hB : Blk w1 g 222 #[str s, .int .i64 a1, .int .i64 e1] := hB1
 clear hB1 hn1
 refine sa rfl rfl (Wn (tN (W_seq (W_block (W_rs (sm rfl rfl (sc _ Tryz.func106 rfl (by kernel_rfl) rfl rfl ((Err_any g s a1 e1 _ hB).mono ?_))))))))
 rintro e_ w_ ⟨rfl, rfl⟩
 refine cR (st (X.neq rfl rfl) rfl (sa rfl rfl (Wn (tN (W_if rfl (fun h11 => ?_) (fun h11 => ?_))))))
 ·first | replace h11 := of_decide_eq_true h11 | replace h11 := of_decide_eq_false (notT h11) | replace h11 := notT h11 | skip
  rw [if_pos h11]
  refine W_rs (sa rfl rfl (Wn (tN (W_ret (bR (tR ?_))))))
  exact (rT rfl rfl ⟨rfl, hB, hcw⟩).1
 ·first | replace h11 := of_decide_eq_false h11 | replace h11 := of_decide_eq_true (notF h11) | replace h11 := notF h11 | skip
  rw [if_neg h11]
  obtain rfl : e1 = 0 := Classical.byContradiction h11
  refine W_rs (sm rfl rfl (st (X.lss rfl rfl) rfl (sbN rfl (decide_eq_false (by omega)) rfl (gY (g := 18) rfl rfl rfl (sm rfl rfl (gY (g := 18) rfl rfl rfl (sm rfl rfl (gY (g := 18) rfl rfl rfl (st (X.convI (m := (most : Int)) (z := (most : Int)) rfl Tryz.underlying3 Tryz.underlying165 (IntWalk.u64_in _ (by omega))) rfl (gY (g := 18) rfl rfl rfl ?_))))))))))
  refine st (X.gtr rfl rfl) rfl (st (X.pickF rfl rfl) rfl (sa rfl rfl (Wn (tN (W_if rfl (fun h15 => ?_) (fun h15 => ?_))))))
  ·first | replace h15 := of_decide_eq_true h15 | replace h15 := of_decide_eq_false (notT h15) | replace h15 := notT h15 | skip
   rw [if_pos (by have : (most : Int) < (n : Int) := h15; omega)]
   refine W_rs (sm rfl rfl (sm rfl rfl (sc _ Tryz.func148 rfl (by kernel_rfl) rfl rfl ((fail_any g s _ _ _ hB 12 at_).mono ?_))))
   rintro e_ w2 ⟨rfl, hB1, hX⟩
   refine cR ?_
   have hn1 := hcw.next hX (fun k hk => .inl hk)
   clear hcw hB
   have hcw := hn1
   have hB := hB1
   refine Wn (tN (W_rs (sa rfl rfl (Wn (tN (W_ret (bR (tR ?_))))))))
   exact (rT rfl rfl ⟨rfl, hB, hcw⟩).1
  ·first | replace h15 := of_decide_eq_false h15 | replace h15 := of_decide_eq_true (notF h15) | replace h15 := notF h15 | skip
   have hnm : n ≤ most := by have : ¬ (most : Int) < (n : Int) := h15; omega
   rw [if_neg (by omega)]
   refine W_rs (sm rfl rfl (sm rfl rfl (sc _ Tryz.func149 rfl (by kernel_rfl) rfl rfl ((Left_any g s a1 0 _ hB hs hua).mono ?_))))
   rintro e_ w3 ⟨rfl, hb⟩
   refine cR ?_
   replace hcw := hcw.then_below hb
   replace hB := hB.bel hb
   have hz_w3 := hb.size
   clear hb
   refine st (X.convI (m := ((s.length - a1 : Nat) : Int)) (z := ((s.length - a1 : Nat) : Int)) rfl Tryz.underlying3 Tryz.underlying165 (IntWalk.u64_in _ (by omega))) rfl (st (X.gtr rfl rfl) rfl (sa rfl rfl (Wn (tN (W_if rfl (fun h27 => ?_) (fun h27 => ?_))))))
   ·first | replace h27 := of_decide_eq_true h27 | replace h27 := of_decide_eq_false (notT h27) | replace h27 := notT h27 | skip
    rw [if_pos (by have : ((s.length - a1 : Nat) : Int) < (n : Int) := h27; omega)]
    refine W_rs (sm rfl rfl (sm rfl rfl (sc _ Tryz.func148 rfl (by kernel_rfl) rfl rfl ((fail_any g s _ _ _ hB 10 at_).mono ?_))))
    rintro e_ w4 ⟨rfl, hB1, hX⟩
    refine cR ?_
    have hn1 := hcw.next hX (fun k hk => .inl hk)
    clear hcw hB
    have hcw := hn1
    have hB := hB1
    refine Wn (tN (W_rs (sa rfl rfl (Wn (tN (W_ret (bR (tR ?_))))))))
    exact (rT rfl rfl ⟨rfl, hB, hcw⟩).1
   ·first | replace h27 := of_decide_eq_false h27 | replace h27 := of_decide_eq_true (notF h27) | replace h27 := notF h27 | skip
    rw [if_neg (by have : ¬ ((s.length - a1 : Nat) : Int) < (n : Int) := h27; omega)]
    refine W_skip (bN (tN (W_rs (sm rfl rfl (sm rfl rfl (st (X.convI (m := (n : Int)) (z := (n : Int)) rfl Tryz.underlying165 Tryz.underlying3 (w64 (by omega))) rfl (sc _ Tryz.func150 rfl (by kernel_rfl) rfl rfl ((take_any g s a1 0 _ hB n hs hua (by omega)).mono ?_))))))))
    rintro e_ w5 ⟨rfl, hB1, hX⟩
    refine cR ?_
    have hn1 := hcw.next hX (fun k hk => .inl hk)
    clear hcw hB
    have hcw := hn1
    have hB := hB1
    refine sa rfl rfl (Wn (tN (W_ret ?_)))
    exact (rT rfl rfl ⟨rfl, hB, hcw⟩).1
end
end Go.Proofs.YtnlabkogebnioaaGreatDoor
namespace Go.Proofs.YtnlabkogebnioaaGreatDoor
open Go.RowKit
section
variable {P : Program} {fn : Func} {R : Ending → World → Prop} {l : Env} {w : World}
theorem r4 {x y z u : ResultVar} {v1 v2 v3 v4 : Value} (hf : fn.results = #[x, y, z, u]) (hx : ResVar P l w x v1) (hy : ResVar P l w y v2) (hz : ResVar P l w z v3) (hu : ResVar P l w u v4) (hR : R (.returned (.tuple #[v1, v2, v3, v4])) w) : fnPost P fn R .ret l w ∧ fnPost P fn R .normal l w := by
 have h : ∃ v, (∀ a : Array Value, (∀ t v, lk l t = some v → a.getD t undef = v) → (results fn a).run P w = .ok v w) ∧ R (.returned v) w := ⟨.tuple #[v1, v2, v3, v4], fun a ha => by
  have h1 := run_resVar hx a ha
  have h2 := run_resVar hy a ha
  have h3 := run_resVar hz a ha
  have h4 := run_resVar hu a ha
  rw [results_eq, hf]
  simp only [List.mapM_toArray, List.mapM_cons, List.mapM_nil, Sem.run_bind, Sem.run_pure, map_eq_pure_bind]
  simp only [h1, h2, h3, h4, Result.andThen_ok]
  rfl, hR⟩
 exact ⟨h, h⟩
theorem r4T {t t2 t3 t4 : Nat} {v v2 v3 v4 : Value} (hf : fn.results = #[.tmp t, .tmp t2, .tmp t3, .tmp t4]) (hx : lk l t = some v) (hy : lk l t2 = some v2) (hz : lk l t3 = some v3) (hu : lk l t4 = some v4) (hR : R (.returned (.tuple #[v, v2, v3, v4])) w) : fnPost P fn R .ret l w ∧ fnPost P fn R .normal l w := r4 hf hx hy hz hu hR
end
def nextM (s : List UInt8) : UInt8 × List UInt8 × Nat × Int :=
  if s = [] then (0, [], 0, 10) else if s.headD 0 = 0 then (0, [], 0, 14)
  else if (textR s 1 1048576).2.2 ≠ 0 then (0, [], 0, (textR s 1 1048576).2.2)
  else if s.length - (textR s 1 1048576).2.1 < 4 then (0, [], 0, 10)
  else if leN ((s.drop (textR s 1 1048576).2.1).take 4) ≠ (Crc.crc (s.take (textR s 1 1048576).2.1)).toNat then (0, [], 0, 13)
  else (s.headD 0, (textR s 1 1048576).1, (textR s 1 1048576).2.1 + 4, 0)
def nextV (x : UInt8 × List UInt8 × Nat × Int) : Value := .tuple #[.int .u8 x.1.toNat, str x.2.1, .int .i64 x.2.2.1, .int .i64 x.2.2.2]
theorem takeM_at {s : List UInt8} {a : Nat} {e : Int} {n : Nat} (h : a ≤ s.length) : (takeM s a e n).2.1 ≤ s.length := by
 unfold takeM
 split
 ·exact h
 ·split
  ·exact h
  ·simp only
   omega
theorem textR_at {s : List UInt8} {a m : Nat} (h : a ≤ s.length) : (textR s a m).2.1 ≤ s.length := by
 have hu := uvR_at (e := 0) h
 unfold textR
 split
 ·exact hu
 ·split
  ·exact h
  ·split
   ·exact h
   ·exact takeM_at hu
theorem take_cases {s ul : List UInt8} {a ua n : Nat} {e ue : Int} (h : takeM s a e n = (ul, ua, ue)) : (e ≠ 0 ∧ ue = e) ∨ (e = 0 ∧ s.length - a < n ∧ ue = 10) ∨ (e = 0 ∧ ¬ s.length - a < n ∧ ue = 0 ∧ ul = (s.drop a).take n ∧ ua = a + n) := by
 unfold takeM at h
 by_cases he : e ≠ 0
 ·rw [if_pos he] at h
  injection h with h1 h2
  injection h2 with h2 h3
  exact .inl ⟨he, h3.symm⟩
 ·have he0 : e = 0 := Classical.byContradiction he
  rw [if_neg he] at h
  by_cases hl : s.length - a < n
  ·rw [if_pos hl] at h
   injection h with h1 h2
   injection h2 with h2 h3
   exact .inr (.inl ⟨he0, hl, h3.symm⟩)
  ·rw [if_neg hl] at h
   injection h with h1 h2
   injection h2 with h2 h3
   exact .inr (.inr ⟨he0, hl, h3.symm, h1.symm, h2.symm⟩)
set_option maxRecDepth 10000 in
theorem Next_any (s : List UInt8) (w : World) (hs : s.length ≤ 1099511627776) : Calls Tryz.prog 61 #[str s] w fun e w' => e = .returned (nextV (nextM s)) ∧ Below w.heap.size w w' := by
 unfold nextM
 cases hse : s with
 | nil =>
  rw [if_pos rfl]
  refine W_enter (args := [str []]) 47 Tryz.func61 rfl rfl rfl (W_sub [(0, str [])] ?_ ⟨rfl, trivial⟩)
  have hbw := Below.refl w.heap.size w
  refine W_rs (sa rfl rfl (sa rfl rfl (sa rfl rfl (sa rfl rfl (Wn (tN (W_rs (sm rfl rfl (sc _ Tryz.func104 rfl (by kernel_rfl) rfl rfl ((Read_rd [] _).mono ?_))))))))))
  rintro e_ w1 ⟨g, rfl, hB, hg, hgl, hb⟩
  refine cR ?_
  replace hbw := bthen hbw hb
  have hz_w1 := hb.size
  clear hb
  refine sa rfl rfl (Wn (tN (W_rs (sm rfl rfl (sc _ Tryz.func105 rfl (by kernel_rfl) rfl rfl ((U8_any g [] 0 0 _ hB (by simp) (Nat.zero_le _)).mono ?_))))))
  rintro e_ w2 ⟨rfl, hB1, hC⟩
  refine cR ?_
  replace hbw := bset hbw hC (by omega)
  have hz_w2 := hC.size
  clear hC
  clear hB
  have hB : Blk w2 g 222 #[str [], .int .i64 0, .int .i64 10] := hB1
  clear hB1
  refine sa rfl rfl (Wn (tN (W_seq (W_block (W_rs (sm rfl rfl (sc _ Tryz.func106 rfl (by kernel_rfl) rfl rfl ((Err_any g [] 0 10 _ hB).mono ?_))))))))
  rintro e_ w_ ⟨rfl, rfl⟩
  refine cR (st (X.neq rfl rfl) rfl (sa rfl rfl (Wn (tN (W_yes rfl (rfl) (W_rs (sm rfl rfl (sc _ Tryz.func106 rfl (by kernel_rfl) rfl rfl ((Err_any g [] 0 10 _ hB).mono ?_)))))))))
  rintro e_ w_ ⟨rfl, rfl⟩
  refine cR (sa rfl rfl (sa rfl rfl (sa rfl rfl (sa rfl rfl (Wn (tN (W_ret (bR (tR ?_)))))))))
  exact (r4T rfl rfl rfl rfl rfl ⟨rfl, hbw⟩).1
 | cons k s1 =>
  rw [← hse]
  have hne : s ≠ [] := by rw [hse]; simp
  have hk : s.headD 0 = k := by rw [hse]; rfl
  have hl1 : 1 ≤ s.length := by rw [hse]; simp
  have ht1 : takeM s 0 0 1 = ([k], 1, 0) := by
   rw [hse]
   unfold takeM
   rw [if_neg (by simp), if_neg (by simp)]
   rfl
  have hta := textR_at (m := 1048576) hl1
  rw [if_neg hne, hk]
  obtain ⟨t, ht⟩ : ∃ t, textR s 1 1048576 = t := ⟨_, rfl⟩
  have hTx := fun g w hB => Text_any g s 1 w 1048576 (by omega) hB hs hl1
  rw [ht] at hta ⊢
  simp only [ht] at hTx
  obtain ⟨body, a1, e1⟩ := t
  replace hta : a1 ≤ s.length := hta
  simp only at hTx ⊢
  refine W_enter (args := [str s]) 47 Tryz.func61 rfl rfl rfl (W_sub [(0, str s)] ?_ ⟨rfl, trivial⟩)
  have hbw := Below.refl w.heap.size w
  refine W_rs (sa rfl rfl (sa rfl rfl (sa rfl rfl (sa rfl rfl (Wn (tN (W_rs (sm rfl rfl (sc _ Tryz.func104 rfl (by kernel_rfl) rfl rfl ((Read_rd s _).mono ?_))))))))))
  rintro e_ w1 ⟨g, rfl, hB, hg, hgl, hb⟩
  refine cR ?_
  replace hbw := bthen hbw hb
  have hz_w1 := hb.size
  clear hb
  refine sa rfl rfl (Wn (tN (W_rs (sm rfl rfl (sc _ Tryz.func105 rfl (by kernel_rfl) rfl rfl ((U8_any g s 0 0 _ hB hs (Nat.zero_le _)).mono ?_))))))
  rintro e_ w2 ⟨rfl, hB1, hC⟩
  refine cR ?_
  replace hbw := bset hbw hC (by omega)
  have hz_w2 := hC.size
  clear hC
  rw [ht1] at hB1
  rw [ht1]
  clear hB
  have hB : Blk w2 g 222 #[str s, .int .i64 1, .int .i64 0] := hB1
  clear hB1
  show WL _ _ _ _ _ _ ((_, .int .u8 k.toNat) :: _) _
  refine sa rfl rfl (Wn (tN (W_seq (W_block (W_rs (sm rfl rfl (sc _ Tryz.func106 rfl (by kernel_rfl) rfl rfl ((Err_any g s 1 0 _ hB).mono ?_))))))))
  rintro e_ w_ ⟨rfl, rfl⟩
  refine cR (st (X.neq rfl rfl) rfl (sa rfl rfl (Wn (tN (W_no rfl (rfl) (W_rs (sm rfl rfl (st (X.eql rfl rfl) rfl (sa rfl rfl (Wn ?_))))))))))
  refine tN (W_if rfl (fun h21 => ?_) (fun h21 => ?_))
  ·first | replace h21 := of_decide_eq_true h21 | replace h21 := of_decide_eq_false (notT h21) | replace h21 := notT h21 | skip
   rw [if_pos (by apply UInt8.toNat.inj; show k.toNat = 0; omega)]
   refine W_rs (sa rfl rfl (sa rfl rfl (sa rfl rfl (sa rfl rfl (Wn (tN (W_ret (bR (tR ?_)))))))))
   exact (r4T rfl rfl rfl rfl rfl ⟨rfl, hbw⟩).1
  ·first | replace h21 := of_decide_eq_false h21 | replace h21 := of_decide_eq_true (notF h21) | replace h21 := notF h21 | skip
   rw [if_neg (fun e => h21 (by rw [e]; rfl))]
   refine W_skip (bN (tN (W_rs (sm rfl rfl (sc _ Tryz.func107 rfl (by kernel_rfl) rfl rfl ((hTx g _ hB).mono ?_))))))
   rintro e_ w3 ⟨rfl, hB1, hC⟩
   refine cR ?_
   replace hbw := bset hbw hC (by omega)
   have hz_w3 := hC.size
   clear hC
   clear hB
   have hB := hB1
   clear hB1
   refine sa rfl rfl (Wn (tN (W_rs (sm rfl rfl (sc _ Tryz.func108 rfl (by kernel_rfl) rfl rfl ((At_any g s a1 e1 _ hB).mono ?_))))))
   rintro e_ w_ ⟨rfl, rfl⟩
   refine cR (sa rfl rfl (Wn (tN (W_rs (sm rfl rfl ?_)))))
   have hU := U32_any g s a1 e1 _ hB hs hta
   obtain ⟨u, hu⟩ : ∃ u, takeM s a1 e1 4 = u := ⟨_, rfl⟩
   rw [hu] at hU
   obtain ⟨ul, ua, ue⟩ := u
   simp only at hU
   refine sc _ Tryz.func109 rfl (by kernel_rfl) rfl rfl ((hU).mono ?_)
   rintro e_ w4 ⟨rfl, hB1, hC⟩
   refine cR ?_
   replace hbw := bset hbw hC (by omega)
   have hz_w4 := hC.size
   clear hC
   clear hB
   have hB := hB1
   clear hB1 hU
   refine sa rfl rfl (Wn (tN (W_seq (W_block (W_rs (sm rfl rfl (sc _ Tryz.func106 rfl (by kernel_rfl) rfl rfl ((Err_any g s ua ue _ hB).mono ?_))))))))
   rintro e_ w_ ⟨rfl, rfl⟩
   refine cR (st (X.neq rfl rfl) rfl (sa rfl rfl (Wn (tN (W_if rfl (fun h30 => ?_) (fun h30 => ?_))))))
   ·first | replace h30 := of_decide_eq_true h30 | replace h30 := of_decide_eq_false (notT h30) | replace h30 := notT h30 | skip
    refine W_rs ?_
    have hres : (if e1 ≠ 0 then ((0 : UInt8), ([] : List UInt8), 0, e1) else if s.length - a1 < 4 then (0, [], 0, 10) else if leN ((s.drop a1).take 4) ≠ (Crc.crc (s.take a1)).toNat then (0, [], 0, 13) else (k, body, a1 + 4, 0)) = (0, [], 0, ue) := by
     rcases take_cases hu with ⟨h1, h2⟩ | ⟨h1, h2, h3⟩ | ⟨_, _, h3, _⟩
     ·rw [if_pos h1, h2]
     ·rw [if_neg (by rw [h1]; simp), if_pos h2, h3]
     ·exact absurd h3 h30
    refine sm rfl rfl (sc _ Tryz.func106 rfl (by kernel_rfl) rfl rfl ((Err_any g s ua ue _ hB).mono ?_))
    rintro e_ w_ ⟨rfl, rfl⟩
    refine cR (sa rfl rfl (sa rfl rfl (sa rfl rfl (sa rfl rfl (Wn (tN (W_ret (bR (tR ?_)))))))))
    rw [hres]
    exact (r4T rfl rfl rfl rfl rfl ⟨rfl, hbw⟩).1
   ·first | replace h30 := of_decide_eq_false h30 | replace h30 := of_decide_eq_true (notF h30) | replace h30 := notF h30 | skip
    have h30' : ue = 0 := Classical.byContradiction h30
    obtain ⟨he1, hl4, _, hul, hua⟩ : e1 = 0 ∧ ¬ s.length - a1 < 4 ∧ ue = 0 ∧ ul = (s.drop a1).take 4 ∧ ua = a1 + 4 := by
     rcases take_cases hu with ⟨h1, h2⟩ | ⟨h1, h2, h3⟩ | h
     ·rw [h2] at h30'; exact absurd h30' h1
     ·rw [h3] at h30'; cases h30'
     ·exact h
    rw [if_neg (by rw [he1]; simp), if_neg hl4]
    refine W_rs (sm rfl rfl (sm rfl rfl (sm rfl rfl (st (X.toS (s := s) rfl rfl Tryz.underlying9 rfl hta) rfl (sc _ Tryz.func78 rfl (by kernel_rfl) rfl rfl ((Crc_any (s.take a1) _ (by rw [List.length_take]; omega)).mono ?_))))))
    rintro e_ w5 ⟨rfl, hb⟩
    refine cR ?_
    replace hbw := bthen hbw hb
    replace hB := hB.bel hb
    have hz_w5 := hb.size
    clear hb
    refine st (X.neq rfl rfl) rfl (sa rfl rfl (Wn (tN (W_if rfl (fun h36 => ?_) (fun h36 => ?_)))))
    ·first | replace h36 := of_decide_eq_true h36 | replace h36 := of_decide_eq_false (notT h36) | replace h36 := notT h36 | skip
     rw [if_pos (by rw [← hul]; omega)]
     refine W_rs (sa rfl rfl (sa rfl rfl (sa rfl rfl (sa rfl rfl (Wn (tN (W_ret (bR (tR ?_)))))))))
     exact (r4T rfl rfl rfl rfl rfl ⟨rfl, hbw⟩).1
    ·first | replace h36 := of_decide_eq_false h36 | replace h36 := of_decide_eq_true (notF h36) | replace h36 := notF h36 | skip
     rw [if_neg (by rw [← hul]; omega), ← hua]
     refine W_skip (bN (tN (W_rs (sm rfl rfl (sm rfl rfl (sm rfl rfl (sc _ Tryz.func108 rfl (by kernel_rfl) rfl rfl ((At_any g s ua ue _ hB).mono ?_))))))))
     rintro e_ w_ ⟨rfl, rfl⟩
     refine cR (sa rfl rfl (sa rfl rfl (sa rfl rfl (sa rfl rfl (Wn (tN (W_ret ?_)))))))
     exact (r4T rfl rfl rfl rfl rfl ⟨rfl, hbw⟩).1
end Go.Proofs.YtnlabkogebnioaaGreatDoor
namespace Go.Proofs.YtnlabkogebnioaaGreatDoor
open Go.RowKit
def fixB : Nat → Nat → List UInt8
  | _, 0 => []
  | x, n + 1 => UInt8.ofNat (x % 256) :: fixB (x / 256) n
theorem fixB_length : ∀ (x n : Nat), (fixB x n).length = n
 | _, 0 => rfl
 | x, n + 1 => by rw [fixB, List.length_cons, fixB_length]
theorem leN_fixB : ∀ (n x : Nat), x < 256 ^ n → leN (fixB x n) = x
 | 0, x, h => by simp at h; subst h; rfl
 | n + 1, x, h => by
  rw [fixB, leN, leN_fixB n (x / 256) (by rw [Nat.pow_succ] at h; exact Nat.div_lt_of_lt_mul (by rw [Nat.mul_comm]; exact h))]
  have : (UInt8.ofNat (x % 256)).toNat = x % 256 := by simp
  rw [this]
  omega
theorem fixB_snoc : ∀ (i x : Nat), fixB x i ++ [UInt8.ofNat (x / 256 ^ i % 256)] = fixB x (i + 1)
 | 0, x => by simp [fixB]
 | i + 1, x => by
  have := fixB_snoc i (x / 256)
  rw [Nat.div_div_eq_div_mul, ← Nat.pow_succ'] at this
  rw [fixB, List.cons_append, this]
  rfl
end Go.Proofs.YtnlabkogebnioaaGreatDoor
namespace Go.Proofs.YtnlabkogebnioaaGreatDoor
open Go.RowKit
def uvF : Nat → Nat → List UInt8
  | 0, _ => []
  | n + 1, x => if x < 128 then [UInt8.ofNat (x % 256)] else (UInt8.ofNat (x % 256) ||| 128) :: uvF n (x / 128)
def uvB (x : Nat) : List UInt8 := uvF 10 x
theorem uvF_lt {n x : Nat} (hn : 0 < n) (h : x < 128) : uvF n x = [UInt8.ofNat (x % 256)] := by
 obtain ⟨m, rfl⟩ : ∃ m, n = m + 1 := ⟨n - 1, by omega⟩
 rw [uvF, if_pos h]
theorem uvF_ge {n x : Nat} (hn : 0 < n) (h : ¬ x < 128) : uvF n x = [UInt8.ofNat (x % 256) ||| 128] ++ uvF (n - 1) (x / 128) := by
 obtain ⟨m, rfl⟩ : ∃ m, n = m + 1 := ⟨n - 1, by omega⟩
 rw [uvF, if_neg h]
 rfl
theorem uv_step {k x : Nat} (hk : k ≤ 9) (h : x < 2 ^ (64 - 7 * k)) (h8 : 128 ≤ x) : k + 1 ≤ 9 ∧ x / 128 < 2 ^ (64 - 7 * (k + 1)) := by
 have : k = 0 ∨ k = 1 ∨ k = 2 ∨ k = 3 ∨ k = 4 ∨ k = 5 ∨ k = 6 ∨ k = 7 ∨ k = 8 ∨ k = 9 := by omega
 rcases this with rfl | rfl | rfl | rfl | rfl | rfl | rfl | rfl | rfl | rfl
 all_goals (simp only [Nat.reduceMul, Nat.reduceSub, Nat.reducePow, Nat.reduceAdd] at h ⊢; omega)
section
variable {l : Env} {x : Operand} {p : Option Addr} {t' ty : TypeId} {w : World}
theorem wrNeP (w : World) (a : Addr) : (binOp .neq 217 (.pointer (some a)) (.pointer none)).run Tryz.prog w = .ok (.bool true) w := by kernel_rfl
theorem wrEqP (w : World) (a : Addr) : (binOp .eql 217 (.pointer (some a)) (.pointer none)).run Tryz.prog w = .ok (.bool false) w := by kernel_rfl
theorem X.wrNe {a : Addr} (hx : ev l x = some (.pointer (some a))) : X Tryz.prog l (.binOp .neq 217 x (.const (.pointer none)) t') ty w (.bool true) w :=
 X.bin hx rfl guard_ptr (wrNeP w a)
theorem X.wrEq {a : Addr} (hx : ev l x = some (.pointer (some a))) : X Tryz.prog l (.binOp .eql 217 x (.const (.pointer none)) t') ty w (.bool false) w :=
 X.bin hx rfl guard_ptr (wrEqP w a)
end
theorem uvB_length : ∀ (x : Nat), x < 100000000 → (uvB x).length ≤ 4 := by
 intro x hx
 unfold uvB
 rw [uvF]
 split
 ·simp
 rw [uvF]
 split
 ·simp
 rw [uvF]
 split
 ·simp
 rw [uvF]
 split
 ·simp
 ·omega
structure WrAt (w : World) (B g : Nat) (t : List UInt8) : Prop where
  ge : B ≤ g
  is : ∃ v, Blk w g 170 #[v] ∧ Row w 5 1 v t.length (t.map bv) ∧ ∀ k, v.ownBlock = some k → B ≤ k
theorem WrAt.bel {w w' : World} {B g : Nat} {t : List UInt8} (h : WrAt w B g t) (hb : Below w.heap.size w w') : WrAt w' B g t := by
 obtain ⟨h1, v, h2, h3, h4⟩ := h
 exact ⟨h1, v, h2.bel hb, h3.bel hb, h4⟩
theorem WrAt.lt {w : World} {B g : Nat} {t : List UInt8} (h : WrAt w B g t) : g < w.heap.size := by
 obtain ⟨h1, v, h2, h3, h4⟩ := h
 exact h2.lt
theorem wput_any (B g : Nat) (t m : List UInt8) (u : Value) (w : World) (h : WrAt w B g t) (hu : Reads w 1 u m.length (m.map bv)) (hl : t.length + m.length ≤ 4398046511104) :
  Calls Tryz.prog 141 #[.pointer (some ⟨g, 0, none⟩), u] w fun e w' => e = .returned (.tuple #[]) ∧ WrAt w' B g (t ++ m) ∧ Chg (fun k => B ≤ k) w w' := by
 obtain ⟨hge, v, hB, hR, hvo⟩ := h
 have hlt := hB.lt
 refine W_enter (args := [.pointer (some ⟨g, 0, none⟩), u]) 15 Tryz.func141 rfl rfl rfl (W_sub [(0, .pointer (some ⟨g, 0, none⟩)), (1, u)] ?_ ⟨rfl, rfl, trivial⟩)
 have hcw := Chg.refl (fun k => B ≤ k) w
 refine W_rs (sm rfl rfl (st (X.wrNe rfl) rfl (Wn (tN (W_yes rfl (rfl) (W_reg (sm rfl rfl (sm rfl rfl (st (X.nilChk rfl) rfl (st (X.fa fa170_0 rfl) rfl ?_))))))))))
 refine st (X.ldL rfl hB Tryz.underlying123 rfl rfl) rfl (sm rfl rfl (sapp rfl rfl Tryz.underlying123 inf5 rfl (by decide) hR (hu.src Tryz.underlying123 (bv_one m)) (by simp only [maxLen]; omega) (by omega) rfl (fun v' w1 hR2 hC2 hv => ?_)))
 obtain ⟨a', c', rfl, _, _⟩ := hR2.shape
 have hz_w1 := hC2.size
 replace hB := hB.chg hC2 (fun hk => hR.ne2 hB (by decide) _ hk rfl)
 have hne := hR2.ne2 hB (by decide)
 replace hcw := hcw.next hC2 (fun i hi => .inl (hvo i hi))
 replace hR := hR2
 clear hC2 hR2
 refine st (X.nilChk rfl) rfl (st (X.fa fa170_0 rfl) rfl (ssB rfl rfl hB siz123 rfl (by first | decide | simp) (fun w2 hB_ hc_ => ?_)))
 replace hB := hB_
 clear hB_
 replace hR := hR.chg hc_ (by first | (show ¬ _ = _; omega) | (intro k_ hk_; simp [Value.ownBlock] at hk_; subst hk_; show ¬ _ = _; omega) | assumption | trivial)
 replace hcw := hcw.next hc_ (fun i_ hi_ => by first | exact .inl hi_ | exact .inl (.inl hi_) | (right; subst hi_; omega) | (left; subst hi_; show _ ≤ _; omega) | (left; subst hi_; assumption))
 have hz_w2 := hc_.size
 clear hc_
 refine Wn ((r0 rfl ⟨rfl, ⟨hge, _, hB, ?_, ?_⟩, hcw⟩).2)
 ·rw [List.map_append, List.length_append]; exact hR
 ·intro k hk
  rcases hv with hv | hv
  ·exact hvo k (hv ▸ hk)
  ·rw [hv] at hk
   injection hk with hk
   omega
section
variable (B g : Nat) (t : List UInt8) (w : World) (h : WrAt w B g t)
include h
theorem WU8_any (x : UInt8) (hl : t.length ≤ 1099511627776) : Calls Tryz.prog 98 #[.pointer (some ⟨g, 0, none⟩), .int .u8 x.toNat] w fun e w' => e = .returned (.tuple #[]) ∧ WrAt w' B g (t ++ [x]) ∧ Chg (fun k => B ≤ k) w w' := by
 have hlt := h.lt
 have hge := h.ge
 refine W_enter (args := [.pointer (some ⟨g, 0, none⟩), .int .u8 x.toNat]) 8 Tryz.func98 rfl rfl rfl (W_sub [(0, .pointer (some ⟨g, 0, none⟩)), (1, .int .u8 x.toNat)] ?_ ⟨rfl, rfl, trivial⟩)
 have hcw := Chg.refl (fun k => B ≤ k) w
 refine W_reg (sm rfl rfl (sm rfl rfl (sbs1 rfl Tryz.underlying123 inf5 rfl rfl (by decide) (by decide) rfl (fun g6 w1 hR6 hg6 hb => ?_))))
 replace hcw := hcw.then_below hb
 replace h := h.bel hb
 have hz_w1 := hb.size
 clear hb
 have hl6 := hR6.blt (by decide)
 refine sc _ Tryz.func141 rfl (by kernel_rfl) rfl rfl ((wput_any B g t [x] _ _ h hR6.reads (by simp; omega)).mono ?_)
 clear h
 rintro e_ w2 ⟨rfl, h, hC⟩
 refine cR ?_
 replace hcw := hcw.next hC (fun i_ hi_ => by first | exact .inl hi_ | exact .inl (.inl hi_) | (right; subst hi_; omega) | (left; subst hi_; show _ ≤ _; omega) | (left; subst hi_; assumption))
 have hz_w2 := hC.size
 clear hC
 refine Wn ?_
 exact (r0 rfl ⟨rfl, h, hcw⟩).2
theorem WRaw_any (m : List UInt8) (hl : t.length ≤ 1099511627776) (hm : m.length ≤ 1099511627776) : Calls Tryz.prog 143 #[.pointer (some ⟨g, 0, none⟩), str m] w fun e w' => e = .returned (.tuple #[]) ∧ WrAt w' B g (t ++ m) ∧ Chg (fun k => B ≤ k) w w' := by
 have hlt := h.lt
 have hge := h.ge
 refine W_enter (args := [.pointer (some ⟨g, 0, none⟩), str m]) 8 Tryz.func143 rfl rfl rfl (W_sub [(0, .pointer (some ⟨g, 0, none⟩)), (1, str m)] ?_ ⟨rfl, rfl, trivial⟩)
 have hcw := Chg.refl (fun k => B ≤ k) w
 refine W_reg (sm rfl rfl (sm rfl rfl (scb (s := m) rfl Tryz.underlying9 Tryz.underlying123 Tryz.underlying5 (by omega) rfl (fun gv cv w1 hR hgv hgl hb => ?_))))
 replace h := h.bel hb
 replace hcw := hcw.then_below hb
 have hz_w1 := hb.size
 clear hb
 refine sc _ Tryz.func141 rfl (by kernel_rfl) rfl rfl ((wput_any B g t m _ _ h hR (by omega)).mono ?_)
 clear h
 rintro e_ w2 ⟨rfl, h, hC⟩
 refine cR ?_
 replace hcw := hcw.next hC (fun i_ hi_ => by first | exact .inl hi_ | exact .inl (.inl hi_) | (right; subst hi_; omega) | (left; subst hi_; show _ ≤ _; omega) | (left; subst hi_; assumption))
 have hz_w2 := hC.size
 clear hC
 refine Wn ?_
 exact (r0 rfl ⟨rfl, h, hcw⟩).2
theorem WUvar_any (x : Nat) (hl : t.length ≤ 1099511627776) (hx : x < 18446744073709551616) : Calls Tryz.prog 142 #[.pointer (some ⟨g, 0, none⟩), .int .u64 x] w fun e w' => e = .returned (.tuple #[]) ∧ WrAt w' B g (t ++ uvB x) ∧ Chg (fun k => B ≤ k) w w' := by
 have hlt := h.lt
 have hge := h.ge
 refine W_enter (args := [.pointer (some ⟨g, 0, none⟩), .int .u64 x]) 19 Tryz.func142 rfl rfl rfl (W_sub [(0, .pointer (some ⟨g, 0, none⟩)), (1, .int .u64 x)] ?_ ⟨rfl, rfl, trivial⟩)
 have hcw := Chg.refl (fun k => B ≤ k) w
 refine W_seq (W_block (W_lp (fun nw1_ lw1_ w1 => ∃ y : Nat, ∃ m : List UInt8, nw1_ = 0 + y ∧ lw1_ = ([(0, .pointer (some ⟨g, 0, none⟩)), (1, .int .u64 y)] : Env) ∧ (y < 2 ^ (64 - 7 * m.length)) ∧ (m.length ≤ 9) ∧ (uvB x = m ++ uvF (10 - m.length) y) ∧ (WrAt w1 B g (t ++ m)) ∧ (Chg (fun k => B ≤ k) w w1)) _ ⟨_, ⟨x, [], rfl, rfl, by simpa using hx, by simp, rfl, by rw [List.append_nil]; exact h, hcw⟩, ⟨rfl, rfl, trivial⟩⟩ ?_))
 clear hcw
 rintro nw1_ lw1_ w1 ⟨y, m, rfl, rfl, hy, hm9, hub, h, hcw⟩
 have hlt2 := h.lt
 have hz_w1 := hcw.size
 have hml : (t ++ m).length = t.length + m.length := List.length_append
 have hy64 : y < 18446744073709551616 := Nat.lt_of_lt_of_le hy (Nat.pow_le_pow_right (by decide) (show 64 - 7 * m.length ≤ 64 by omega))
 have hbt : (UInt8.ofNat (y % 256)).toNat = y % 256 := by simp
 refine W_seq (W_rs (sm rfl rfl (st (X.geq rfl rfl) rfl (Wn (tN (W_if rfl (fun h5 => ?_) (fun h5 => ?_)))))))
 ·first | replace h5 := of_decide_eq_true h5 | replace h5 := of_decide_eq_false (notT h5) | replace h5 := notT h5 | skip
  have hst := uv_step hm9 hy (by omega)
  refine W_skip (tN (W_seq (W_block (W_reg (sm rfl rfl (sm rfl rfl (st (X.convI (m := (y : Int)) (z := ((UInt8.ofNat (y % 256)).toNat : Int)) rfl Tryz.underlying165 Tryz.underlying5 (by rw [hbt, w8]; omega)) rfl ?_)))))))
  refine st (X.bits (by simp) rfl rfl (or_u8 _ 128)) rfl ?_
  refine sbs1 rfl Tryz.underlying123 inf5 rfl rfl (by decide) (by decide) rfl (fun g12 w2 hR12 hg12 hb => ?_)
  replace hcw := hcw.then_below hb
  replace h := h.bel hb
  have hz_w2 := hb.size
  clear hb
  have hl12 := hR12.blt (by decide)
  refine sc _ Tryz.func141 rfl (by kernel_rfl) rfl rfl ((wput_any B g (t ++ m) [UInt8.ofNat (y % 256) ||| 128] _ _ h hR12.reads (by simp; omega)).mono ?_)
  clear h
  rintro e_ w3 ⟨rfl, h, hC⟩
  refine cR ?_
  replace hcw := hcw.next hC (fun i_ hi_ => by first | exact .inl hi_ | exact .inl (.inl hi_) | (right; subst hi_; omega) | (left; subst hi_; show _ ≤ _; omega) | (left; subst hi_; assumption))
  have hz_w3 := hC.size
  clear hC
  refine Wn (bN (tN (W_reg (sm rfl rfl (st (X.shr (q := 128) rfl rfl (by decide) (by decide) rfl rfl) rfl (sa rfl rfl (Wn (tN ⟨_, _, ?_, ⟨y / 128, m ++ [UInt8.ofNat (y % 256) ||| 128], rfl, rfl, by rw [List.length_append]; exact hst.2, by rw [List.length_append]; exact hst.1, by rw [hub, uvF_ge (by omega) (by omega), List.append_assoc, List.length_append, Nat.sub_sub]; rfl, by rw [← List.append_assoc]; exact h, hcw⟩, ⟨rfl, rfl, trivial⟩⟩))))))))
  omega
 ·first | replace h5 := of_decide_eq_false h5 | replace h5 := of_decide_eq_true (notF h5) | replace h5 := notF h5 | skip
  refine W_exit (tE (tE (bH (tN (W_reg (sm rfl rfl (sm rfl rfl (st (X.convI (m := (y : Int)) (z := ((UInt8.ofNat (y % 256)).toNat : Int)) rfl Tryz.underlying165 Tryz.underlying5 (by rw [hbt, w8]; omega)) rfl ?_))))))))
  refine sbs1 rfl Tryz.underlying123 inf5 rfl rfl (by decide) (by decide) rfl (fun g17 w4 hR17 hg17 hb => ?_)
  replace hcw := hcw.then_below hb
  replace h := h.bel hb
  have hz_w4 := hb.size
  clear hb
  have hl17 := hR17.blt (by decide)
  refine sc _ Tryz.func141 rfl (by kernel_rfl) rfl rfl ((wput_any B g (t ++ m) [UInt8.ofNat (y % 256)] _ _ h hR17.reads (by simp; omega)).mono ?_)
  clear h
  rintro e_ w5 ⟨rfl, h, hC⟩
  refine cR ?_
  replace hcw := hcw.next hC (fun i_ hi_ => by first | exact .inl hi_ | exact .inl (.inl hi_) | (right; subst hi_; omega) | (left; subst hi_; show _ ≤ _; omega) | (left; subst hi_; assumption))
  have hz_w5 := hC.size
  clear hC
  refine Wn ?_
  have hub2 : uvB x = m ++ [UInt8.ofNat (y % 256)] := by rw [hub, uvF_lt (by omega) (by omega)]
  rw [List.append_assoc, ← hub2] at h
  exact (r0 rfl ⟨rfl, h, hcw⟩).2
theorem WText_any (m : List UInt8) (hl : t.length ≤ 1000000) (hm : m.length ≤ 10000000) : Calls Tryz.prog 99 #[.pointer (some ⟨g, 0, none⟩), str m] w fun e w' => e = .returned (.tuple #[]) ∧ WrAt w' B g (t ++ (uvB m.length ++ m)) ∧ Chg (fun k => B ≤ k) w w' := by
 have hlt := h.lt
 have hge := h.ge
 have hul := uvB_length m.length (by omega)
 refine W_enter (args := [.pointer (some ⟨g, 0, none⟩), str m]) 12 Tryz.func99 rfl rfl rfl (W_sub [(0, .pointer (some ⟨g, 0, none⟩)), (1, str m)] ?_ ⟨rfl, rfl, trivial⟩)
 have hcw := Chg.refl (fun k => B ≤ k) w
 refine W_rs (sm rfl rfl (sm rfl rfl (st (X.lenS rfl rfl Tryz.underlying9) rfl (st (X.convI (m := (m.length : Int)) (z := (m.length : Int)) rfl Tryz.underlying3 Tryz.underlying165 (IntWalk.u64_in _ (by omega))) rfl (sc _ Tryz.func142 rfl (by kernel_rfl) rfl rfl ((WUvar_any B g t _ h m.length (by omega) (by omega)).mono ?_))))))
 clear h
 rintro e_ w1 ⟨rfl, h, hC⟩
 refine cR ?_
 replace hcw := hcw.next hC (fun i_ hi_ => by first | exact .inl hi_ | exact .inl (.inl hi_) | (right; subst hi_; omega) | (left; subst hi_; show _ ≤ _; omega) | (left; subst hi_; assumption))
 have hz_w1 := hC.size
 clear hC
 refine Wn (tN (W_reg (sm rfl rfl (sm rfl rfl (sc _ Tryz.func143 rfl (by kernel_rfl) rfl rfl ((WRaw_any B g (t ++ uvB m.length) _ h m (by rw [List.length_append]; omega) (by omega)).mono ?_))))))
 clear h
 rintro e_ w2 ⟨rfl, h, hC⟩
 refine cR ?_
 replace hcw := hcw.next hC (fun i_ hi_ => by first | exact .inl hi_ | exact .inl (.inl hi_) | (right; subst hi_; omega) | (left; subst hi_; show _ ≤ _; omega) | (left; subst hi_; assumption))
 have hz_w2 := hC.size
 clear hC
 refine Wn ?_
 rw [List.append_assoc] at h
 exact (r0 rfl ⟨rfl, h, hcw⟩).2
theorem Wfixed_any (x n : Nat) (hl : t.length ≤ 1099511627776) (hn : n ≤ 8) (hx : x < 18446744073709551616) : Calls Tryz.prog 144 #[.pointer (some ⟨g, 0, none⟩), .int .u64 x, .int .i64 n] w fun e w' => e = .returned (.tuple #[]) ∧ WrAt w' B g (t ++ fixB x n) ∧ Chg (fun k => B ≤ k) w w' := by
 have hlt := h.lt
 have hge := h.ge
 refine W_enter (args := [.pointer (some ⟨g, 0, none⟩), .int .u64 x, .int .i64 n]) 17 Tryz.func144 rfl rfl rfl (W_sub [(0, .pointer (some ⟨g, 0, none⟩)), (1, .int .u64 x), (2, .int .i64 n)] ?_ ⟨rfl, rfl, rfl, trivial⟩)
 have hcw := Chg.refl (fun k => B ≤ k) w
 refine W_rs (sm rfl rfl (sm rfl rfl (Wn (tN (W_block (W_lp (fun nw1_ lw1_ w1 => ∃ i : Nat, nw1_ = n - i ∧ lw1_ = ([(0, .pointer (some ⟨g, 0, none⟩)), (1, .int .u64 (x / 256 ^ i : Nat)), (6, .int .i64 n), (7, .int .i64 i)] : Env) ∧ (i ≤ n) ∧ (WrAt w1 B g (t ++ fixB x i)) ∧ (Chg (fun k => B ≤ k) w w1)) _ ⟨_, ⟨0, rfl, rfl, by omega, by rw [fixB, List.append_nil]; exact h, hcw⟩, ⟨rfl, by rw [Nat.pow_zero, Nat.div_one]; rfl, rfl, rfl, trivial⟩⟩ ?_))))))
 clear hcw
 rintro nw1_ lw1_ w1 ⟨i, rfl, rfl, hi, h, hcw⟩
 have hlt2 := h.lt
 have hz_w1 := hcw.size
 have hml : (t ++ fixB x i).length = t.length + i := by rw [List.length_append, fixB_length]
 have hfl := fixB_length x i
 refine W_rs (st (X.lss rfl rfl) rfl (Wn (tN (W_seq (W_if rfl (fun h8 => ?_) (fun h8 => ?_))))))
 ·first | replace h8 := of_decide_eq_true h8 | replace h8 := of_decide_eq_false (notT h8) | replace h8 := notT h8 | skip
  obtain ⟨y, hy⟩ : ∃ y, x / 256 ^ i = y := ⟨_, rfl⟩
  have hxi : y < 18446744073709551616 := by have := Nat.div_le_self x (256 ^ i); omega
  rw [hy]
  have hbt : (UInt8.ofNat (y % 256)).toNat = y % 256 := by simp
  refine W_skip (tN (W_seq (W_block (W_rs (sm rfl rfl (sm rfl rfl (st (X.convI (m := (y : Int)) (z := ((UInt8.ofNat (y % 256)).toNat : Int)) rfl Tryz.underlying165 Tryz.underlying5 (by rw [hbt, w8]; omega)) rfl ?_)))))))
  refine sbs1 rfl Tryz.underlying123 inf5 rfl rfl (by decide) (by decide) rfl (fun g12 w2 hR12 hg12 hb => ?_)
  replace hcw := hcw.then_below hb
  replace h := h.bel hb
  have hz_w2 := hb.size
  clear hb
  have hl12 := hR12.blt (by decide)
  refine sc _ Tryz.func141 rfl (by kernel_rfl) rfl rfl ((wput_any B g (t ++ fixB x i) [UInt8.ofNat (y % 256)] _ _ h hR12.reads (by simp; omega)).mono ?_)
  clear h
  rintro e_ w3 ⟨rfl, h, hC⟩
  refine cR ?_
  replace hcw := hcw.next hC (fun i_ hi_ => by first | exact .inl hi_ | exact .inl (.inl hi_) | (right; subst hi_; omega) | (left; subst hi_; show _ ≤ _; omega) | (left; subst hi_; assumption))
  have hz_w3 := hC.size
  clear hC
  rw [← hy] at h ⊢
  refine Wn (tN (W_reg (sm rfl rfl (st (X.shr (q := 256) rfl rfl (by decide) (by decide) rfl rfl) rfl (sa rfl rfl (Wn (bN (tN (W_reg (st (X.add64 rfl rfl (by omega)) rfl ?_))))))))))
  refine sm rfl rfl (Wn (tN ⟨_, _, ?_, ⟨i + 1, rfl, rfl, by omega, by rw [← fixB_snoc, ← List.append_assoc]; exact h, hcw⟩, ⟨rfl, by rw [Nat.pow_succ, ← Nat.div_div_eq_div_mul]; rfl, rfl, rfl, trivial⟩⟩))
  omega
 ·first | replace h8 := of_decide_eq_false h8 | replace h8 := of_decide_eq_true (notF h8) | replace h8 := notF h8 | skip
  refine W_exit (tE (tE (bH ?_)))
  obtain rfl : i = n := by omega
  exact (r0 rfl ⟨rfl, h, hcw⟩).2
theorem WU32_any (x : Nat) (hl : t.length ≤ 1099511627776) (hx : x < 4294967296) : Calls Tryz.prog 100 #[.pointer (some ⟨g, 0, none⟩), .int .u32 x] w fun e w' => e = .returned (.tuple #[]) ∧ WrAt w' B g (t ++ fixB x 4) ∧ Chg (fun k => B ≤ k) w w' := by
 have hlt := h.lt
 have hge := h.ge
 refine W_enter (args := [.pointer (some ⟨g, 0, none⟩), .int .u32 x]) 8 Tryz.func100 rfl rfl rfl (W_sub [(0, .pointer (some ⟨g, 0, none⟩)), (1, .int .u32 x)] ?_ ⟨rfl, rfl, trivial⟩)
 have hcw := Chg.refl (fun k => B ≤ k) w
 refine W_reg (sm rfl rfl (sm rfl rfl (st (X.convI (m := (x : Int)) (z := (x : Int)) rfl Tryz.underlying145 Tryz.underlying165 (IntWalk.u64_in _ (by omega))) rfl (sc _ Tryz.func144 rfl (by kernel_rfl) rfl rfl ((Wfixed_any B g t _ h x 4 hl (by omega) (by omega)).mono ?_)))))
 clear h
 rintro e_ w1 ⟨rfl, h, hC⟩
 refine cR ?_
 replace hcw := hcw.next hC (fun i_ hi_ => by first | exact .inl hi_ | exact .inl (.inl hi_) | (right; subst hi_; omega) | (left; subst hi_; show _ ≤ _; omega) | (left; subst hi_; assumption))
 have hz_w1 := hC.size
 clear hC
 refine Wn ?_
 exact (r0 rfl ⟨rfl, h, hcw⟩).2
theorem WString_any : Calls Tryz.prog 101 #[.pointer (some ⟨g, 0, none⟩)] w fun e w' => e = .returned (str t) ∧ w = w' := by
 obtain ⟨hge, v, hB, hR, hvo⟩ := h
 refine W_enter (args := [.pointer (some ⟨g, 0, none⟩)]) 10 Tryz.func101 rfl rfl rfl (W_sub [(0, .pointer (some ⟨g, 0, none⟩))] ?_ ⟨rfl, trivial⟩)
 refine W_rs (sa rfl rfl (Wn (tN (W_seq (W_rs (sm rfl rfl (st (X.wrEq rfl) rfl (Wn (tN (W_no rfl (rfl) ?_))))))))))
 refine W_skip (tN (W_rs (sm rfl rfl (st (X.nilChk rfl) rfl (st (X.fa fa170_0 rfl) rfl (st (X.ldL rfl hB Tryz.underlying123 rfl rfl) rfl (st (X.strOf (s := t) rfl Tryz.underlying123 Tryz.underlying5 Tryz.underlying9 hR.reads) rfl (sa rfl rfl (Wn (tN ?_))))))))))
 refine W_ret ?_
 exact (rT rfl rfl ⟨rfl, rfl⟩).1
end
def sealM (k : UInt8) (b : List UInt8) : List UInt8 := if k = 0 ∨ 1048576 < b.length then [] else ([k] ++ (uvB b.length ++ b)) ++ fixB (Crc.crc ([k] ++ (uvB b.length ++ b))).toNat 4
theorem Seal_any (k : UInt8) (b : List UInt8) (w : World) (hl : b.length ≤ 1099511627776) : Calls Tryz.prog 52 #[.int .u8 k.toNat, str b] w fun e w' => e = .returned (str (sealM k b)) ∧ Below w.heap.size w w' := by
 unfold sealM
 refine W_enter (args := [.int .u8 k.toNat, str b]) 21 Tryz.func52 rfl rfl rfl (W_sub [(0, .int .u8 k.toNat), (1, str b)] ?_ ⟨rfl, rfl, trivial⟩)
 have hcw := Chg.refl (fun k => w.heap.size ≤ k) w
 refine W_rs (sa rfl rfl (Wn (tN (W_seq (W_rs (sm rfl rfl (st (X.eql rfl rfl) rfl (sb rfl rfl (fun h8 => ?_) (fun h8 => ?_)))))))))
 ·first | replace h8 := of_decide_eq_true h8 | replace h8 := of_decide_eq_false (notT h8) | replace h8 := notT h8 | skip
  rw [if_pos (.inl (by apply UInt8.toNat.inj; show k.toNat = 0; omega))]
  refine gN (g := 8) rfl rfl rfl rfl (gN (g := 8) rfl rfl rfl rfl (gN (g := 8) rfl rfl rfl rfl (st (X.pickT rfl rfl) rfl (Wn (tN (W_yes rfl (rfl) (W_rs (sa rfl rfl (Wn (tN ?_))))))))))
  refine W_ret (tR ?_)
  exact (rT rfl rfl ⟨rfl, hcw.below (Nat.le_refl _) (fun _ h => h)⟩).1
 ·first | replace h8 := of_decide_eq_false h8 | replace h8 := of_decide_eq_true (notF h8) | replace h8 := notF h8 | skip
  have hk0 : k ≠ 0 := fun e => h8 (by rw [e]; rfl)
  refine gY (g := 8) rfl rfl rfl (sm rfl rfl (gY (g := 8) rfl rfl rfl (st (X.lenS rfl rfl Tryz.underlying9) rfl (gY (g := 8) rfl rfl rfl (st (X.gtr rfl rfl) rfl (st (X.pickF rfl rfl) rfl (Wn (tN (W_if rfl (fun h12 => ?_) (fun h12 => ?_))))))))))
  ·first | replace h12 := of_decide_eq_true h12 | replace h12 := of_decide_eq_false (notT h12) | replace h12 := notT h12 | skip
   rw [if_pos (.inr (by omega))]
   refine W_rs (sa rfl rfl (Wn (tN (W_ret (tR ?_)))))
   exact (rT rfl rfl ⟨rfl, hcw.below (Nat.le_refl _) (fun _ h => h)⟩).1
  ·first | replace h12 := of_decide_eq_false h12 | replace h12 := of_decide_eq_true (notF h12) | replace h12 := notF h12 | skip
   rw [if_neg (fun e => by rcases e with e | e; exact hk0 e; omega)]
   refine W_skip (tN (W_rs (salA inf170 rfl (fun g5 w1 hB5 hg5 hb hl5 => ?_))))
   replace hcw := hcw.then_below hb
   have hz_w1 := hb.size
   clear hb
   refine Wn (tN (W_rs ?_))
   have h : WrAt w1 w.heap.size g5 [] := ⟨by omega, _, hB5, Row.nil _ _ _, by simp [Value.ownBlock]⟩
   have hul := uvB_length b.length (by omega)
   clear hB5
   refine sm rfl rfl (sc _ Tryz.func98 rfl (by kernel_rfl) rfl rfl ((WU8_any _ _ [] _ h k (by simp)).mono ?_))
   clear h
   rintro e_ w2 ⟨rfl, h, hC⟩
   refine cR ?_
   replace hcw := hcw.next hC (fun i_ hi_ => by first | exact .inl hi_ | exact .inl (.inl hi_) | (right; subst hi_; omega) | (left; subst hi_; show _ ≤ _; omega) | (left; subst hi_; assumption))
   have hz_w2 := hC.size
   clear hC
   refine Wn (tN (W_rs (sm rfl rfl (sc _ Tryz.func99 rfl (by kernel_rfl) rfl rfl ((WText_any _ _ ([] ++ [k]) _ h b (by simp) (by omega)).mono ?_)))))
   clear h
   rintro e_ w3 ⟨rfl, h, hC⟩
   refine cR ?_
   replace hcw := hcw.next hC (fun i_ hi_ => by first | exact .inl hi_ | exact .inl (.inl hi_) | (right; subst hi_; omega) | (left; subst hi_; show _ ≤ _; omega) | (left; subst hi_; assumption))
   have hz_w3 := hC.size
   clear hC
   obtain ⟨p, hp⟩ : ∃ p, [k] ++ (uvB b.length ++ b) = p := ⟨_, rfl⟩
   have hpl : p.length = 1 + ((uvB b.length).length + b.length) := by rw [← hp]; simp; omega
   rw [List.nil_append, hp] at h
   rw [hp]
   refine Wn (tN (W_rs (sc _ Tryz.func101 rfl (by kernel_rfl) rfl rfl ((WString_any _ _ _ _ h).mono ?_))))
   rintro e_ w_ ⟨rfl, rfl⟩
   refine cR (sc _ Tryz.func78 rfl (by kernel_rfl) rfl rfl ((Crc_any p _ (by omega)).mono ?_))
   rintro e_ w4 ⟨rfl, hb⟩
   refine cR ?_
   replace hcw := hcw.then_below hb
   replace h := h.bel hb
   have hz_w4 := hb.size
   clear hb
   have hcl := (Crc.crc p).toNat_lt
   refine sc _ Tryz.func100 rfl (by kernel_rfl) rfl rfl ((WU32_any _ _ p _ h (Crc.crc p).toNat (by omega) (by omega)).mono ?_)
   clear h
   rintro e_ w5 ⟨rfl, h, hC⟩
   refine cR ?_
   replace hcw := hcw.next hC (fun i_ hi_ => by first | exact .inl hi_ | exact .inl (.inl hi_) | (right; subst hi_; omega) | (left; subst hi_; show _ ≤ _; omega) | (left; subst hi_; assumption))
   have hz_w5 := hC.size
   clear hC
   refine Wn (tN (W_rs (sc _ Tryz.func101 rfl (by kernel_rfl) rfl rfl ((WString_any _ _ _ _ h).mono ?_))))
   rintro e_ w_ ⟨rfl, rfl⟩
   refine cR (sa rfl rfl (Wn (tN (W_ret ?_))))
   exact (rT rfl rfl ⟨rfl, hcw.below (Nat.le_refl _) (fun _ h => h)⟩).1
end Go.Proofs.YtnlabkogebnioaaGreatDoor
namespace Go.Proofs.YtnlabkogebnioaaGreatDoor
open Go.RowKit
theorem takeM_ge {s : List UInt8} {t n : Nat} {e : Int} (h : 1 ≤ t) : 1 ≤ (takeM s t e n).2.1 := by
 unfold takeM
 by_cases he : e ≠ 0
 ·rw [if_pos he]; exact h
 ·rw [if_neg he]
  by_cases hl : s.length - t < n
  ·rw [if_pos hl]; exact h
  ·rw [if_neg hl]; simp only; omega
theorem nextM_len {s : List UInt8} (h : (nextM s).2.2.2 = 0) : 5 ≤ (nextM s).2.2.1 ∧ (nextM s).2.2.1 ≤ s.length := by
 unfold nextM at h ⊢
 split at h
 ·simp at h
 rename_i h1
 rw [if_neg h1]
 split at h
 ·simp at h
 rename_i h2
 rw [if_neg h2]
 split at h
 ·rename_i h3
  exact absurd h h3
 rename_i h3
 rw [if_neg h3]
 split at h
 ·simp at h
 rename_i h4
 rw [if_neg h4]
 split at h
 ·simp at h
 rename_i h5
 rw [if_neg h5]
 have hl : 1 ≤ s.length := by
  cases s with
  | nil => exact absurd rfl h1
  | cons x l => simp
 have ha : 1 ≤ (textR s 1 1048576).2.1 := by
  unfold textR
  have hu : 1 ≤ (uvR s 1 0).2.1 := by
   unfold uvR
   rw [if_neg (by simp)]
   split
   ·simp only; omega
   ·exact Nat.le_refl _
  split
  ·exact hu
  ·split
   ·exact Nat.le_refl _
   ·split
    ·exact Nat.le_refl _
    ·exact takeM_ge hu
 simp only
 omega
theorem nextM_body (s : List UInt8) : (nextM s).2.1.length ≤ s.length := by
 unfold nextM
 split
 ·simp
 split
 ·simp
 split
 ·simp
 split
 ·simp
 split
 ·simp
 ·simp only
  unfold textR
  split
  ·simp
  split
  ·simp
  split
  ·simp
  unfold takeM
  split
  ·simp
  ·simp only [List.length_take, List.length_drop]
   omega
theorem nextM_body5 {s : List UInt8} (h : (nextM s).2.2.2 = 0) : (nextM s).2.1.length + 5 ≤ (nextM s).2.2.1 := by
 unfold nextM at h ⊢
 split at h
 ·simp at h
 rename_i h1
 rw [if_neg h1]
 split at h
 ·simp at h
 rename_i h2
 rw [if_neg h2]
 split at h
 ·rename_i h3
  exact absurd h h3
 rename_i h3
 rw [if_neg h3]
 split at h
 ·simp at h
 rename_i h4
 rw [if_neg h4]
 split at h
 ·simp at h
 rename_i h5
 rw [if_neg h5]
 have ha : (textR s 1 1048576).1.length + 1 ≤ (textR s 1 1048576).2.1 := by
  have hu : 1 ≤ (uvR s 1 0).2.1 := by
   unfold uvR
   rw [if_neg (by simp)]
   split
   ·simp only; omega
   ·exact Nat.le_refl _
  unfold textR at h3 ⊢
  split at h3
  ·rename_i h6
   exact absurd (by simpa using h3) h6
  rename_i h6
  rw [if_neg h6]
  split at h3
  ·simp at h3
  rename_i h7
  rw [if_neg h7]
  split at h3
  ·simp at h3
  rename_i h8
  rw [if_neg h8]
  unfold takeM
  rw [if_neg (by simp), if_neg h8]
  simp only [List.length_take, List.length_drop]
  omega
 simp only
 omega
end Go.Proofs.YtnlabkogebnioaaGreatDoor
namespace Go.Proofs.YtnlabkogebnioaaGreatDoor.Sha
def rotr (x n : UInt32) : UInt32 := (x >>> n) ||| (x <<< (32 - n))
def s0 (x : UInt32) : UInt32 := rotr x 7 ^^^ rotr x 18 ^^^ (x >>> 3)
def s1 (x : UInt32) : UInt32 := rotr x 17 ^^^ rotr x 19 ^^^ (x >>> 10)
def be (a b c d : UInt8) : UInt32 := ((a.toUInt32 <<< 24 ||| b.toUInt32 <<< 16) ||| c.toUInt32 <<< 8) ||| d.toUInt32
def wordAt (s : List UInt8) (t : Nat) : UInt32 := be (s.getD (4 * t) 0) (s.getD (4 * t + 1) 0) (s.getD (4 * t + 2) 0) (s.getD (4 * t + 3) 0)
def wordsTo (s : List UInt8) : Nat → List UInt32
  | 0 => []
  | t + 1 => wordsTo s t ++ [wordAt s t]
def ext (l : List UInt32) (t : Nat) : UInt32 := s1 (l.getD (t - 2) 0) + l.getD (t - 7) 0 + s0 (l.getD (t - 15) 0) + l.getD (t - 16) 0
def extTo (l : List UInt32) : Nat → List UInt32
  | 0 => l
  | j + 1 => extTo l j ++ [ext (extTo l j) (16 + j)]
structure St where
  a : UInt32
  b : UInt32
  c : UInt32
  d : UInt32
  e : UInt32
  f : UInt32
  g : UInt32
  h : UInt32
def kTab : List UInt32 := [
  0x428a2f98, 0x71374491, 0xb5c0fbcf, 0xe9b5dba5, 0x3956c25b, 0x59f111f1, 0x923f82a4, 0xab1c5ed5,
  0xd807aa98, 0x12835b01, 0x243185be, 0x550c7dc3, 0x72be5d74, 0x80deb1fe, 0x9bdc06a7, 0xc19bf174,
  0xe49b69c1, 0xefbe4786, 0x0fc19dc6, 0x240ca1cc, 0x2de92c6f, 0x4a7484aa, 0x5cb0a9dc, 0x76f988da,
  0x983e5152, 0xa831c66d, 0xb00327c8, 0xbf597fc7, 0xc6e00bf3, 0xd5a79147, 0x06ca6351, 0x14292967,
  0x27b70a85, 0x2e1b2138, 0x4d2c6dfc, 0x53380d13, 0x650a7354, 0x766a0abb, 0x81c2c92e, 0x92722c85,
  0xa2bfe8a1, 0xa81a664b, 0xc24b8b70, 0xc76c51a3, 0xd192e819, 0xd6990624, 0xf40e3585, 0x106aa070,
  0x19a4c116, 0x1e376c08, 0x2748774c, 0x34b0bcb5, 0x391c0cb3, 0x4ed8aa4a, 0x5b9cca4f, 0x682e6ff3,
  0x748f82ee, 0x78a5636f, 0x84c87814, 0x8cc70208, 0x90befffa, 0xa4506ceb, 0xbef9a3f7, 0xc67178f2]
def begin_ : St := ⟨0x6a09e667, 0xbb67ae85, 0x3c6ef372, 0xa54ff53a, 0x510e527f, 0x9b05688c, 0x1f83d9ab, 0x5be0cd19⟩
def t1 (v : St) (k w : UInt32) : UInt32 := v.h + (rotr v.e 6 ^^^ rotr v.e 11 ^^^ rotr v.e 25) + ((v.e &&& v.f) ^^^ (~~~v.e &&& v.g)) + k + w
def t2 (v : St) : UInt32 := (rotr v.a 2 ^^^ rotr v.a 13 ^^^ rotr v.a 22) + ((v.a &&& v.b) ^^^ (v.a &&& v.c) ^^^ (v.b &&& v.c))
def round (v : St) (k w : UInt32) : St := ⟨t1 v k w + t2 v, v.a, v.b, v.c, v.d + t1 v k w, v.e, v.f, v.g⟩
def roundsTo (ws : List UInt32) (v : St) : Nat → St
  | 0 => v
  | t + 1 => round (roundsTo ws v t) (kTab.getD t 0) (ws.getD t 0)
def addSt (x y : St) : St := ⟨x.a + y.a, x.b + y.b, x.c + y.c, x.d + y.d, x.e + y.e, x.f + y.f, x.g + y.g, x.h + y.h⟩
def sched (s : List UInt8) : List UInt32 := extTo (wordsTo s 16) 48
def block (v : St) (s : List UInt8) : St := addSt v (roundsTo (sched s) v 64)
def absorbN : Nat → St → List UInt8 → St × List UInt8
  | 0, v, l => (v, l)
  | n + 1, v, l => absorbN n (block v (l.take 64)) (l.drop 64)
def absorb (v : St) (l : List UInt8) : St × List UInt8 := absorbN (l.length / 64) v l
def zeros (len : Nat) : Nat := (119 - len % 64) % 64
def lenByte (n i : Nat) : UInt8 := UInt8.ofNat (n * 8 / 2 ^ (8 * i))
def lenTo (n : Nat) : Nat → List UInt8
  | 0 => []
  | j + 1 => lenTo n j ++ [lenByte n (7 - j)]
def pad (len n : Nat) : List UInt8 := 128 :: (List.replicate (zeros len) 0 ++ lenTo n 8)
def wordBytes (x : UInt32) : List UInt8 := [(x >>> 24).toUInt8, (x >>> 16).toUInt8, (x >>> 8).toUInt8, x.toUInt8]
def St.words (v : St) : List UInt32 := [v.a, v.b, v.c, v.d, v.e, v.f, v.g, v.h]
def St.bytes (v : St) : List UInt8 := v.words.flatMap wordBytes
def sumOf (v : St) (rest : List UInt8) (n : Nat) : List UInt8 := (absorb v (rest ++ pad rest.length n)).1.bytes
def sha (m : List UInt8) : List UInt8 := sumOf (absorb begin_ m).1 (absorb begin_ m).2 m.length
theorem absorb_end (v : St) (l : List UInt8) (h : l.length < 64) : absorb v l = (v, l) := by
 unfold absorb
 rw [show l.length / 64 = 0 from by omega]
 rfl
theorem absorb_step (v : St) (l : List UInt8) (h : 64 ≤ l.length) : absorb v l = absorb (block v (l.take 64)) (l.drop 64) := by
 unfold absorb
 rw [show l.length / 64 = (l.drop 64).length / 64 + 1 from by rw [List.length_drop]; omega]
 rfl
theorem absorbN_length (n : Nat) : ∀ (v : St) (l : List UInt8), (absorbN n v l).2.length = l.length - 64 * n := by
 induction n with
 | zero => intro v l; rfl
 | succ n ih => intro v l; simp only [absorbN]; rw [ih, List.length_drop]; omega
theorem absorb_length (v : St) (l : List UInt8) : (absorb v l).2.length = l.length % 64 := by
 unfold absorb
 rw [absorbN_length]
 omega
end Go.Proofs.YtnlabkogebnioaaGreatDoor.Sha
namespace Go.Proofs.YtnlabkogebnioaaGreatDoor
open Go.RowKit Sha
def rightP (n : Int) : Bool := decide (0 ≤ n ∧ n ≤ 999999)
def d10 (n : Nat) : UInt8 := UInt8.ofNat (48 + n % 10)
def dig : Nat → Nat → List UInt8
  | 0, _ => []
  | k + 1, n => dig k (n / 10) ++ [d10 n]
theorem dig_length : ∀ k n, (dig k n).length = k
 | 0, _ => rfl
 | k + 1, n => by rw [dig, List.length_append, dig_length]; rfl
theorem dig_zero : ∀ k, dig k 0 = List.replicate k 48
 | 0 => rfl
 | k + 1 => by rw [dig, Nat.zero_div, dig_zero k, List.replicate_succ']; rfl
theorem dig_dec : ∀ k n, n < 10 ^ (k + 1) → (Lib.decDigits n).length ≤ k + 1 ∧ List.replicate (k + 1 - (Lib.decDigits n).length) 48 ++ Lib.decDigits n = dig (k + 1) n := by
 intro k
 induction k with
 | zero =>
  intro n h
  rw [Lib.decDigits_one (by simpa using h)]
  refine ⟨Nat.le_refl _, ?_⟩
  simp only [dig, d10, List.length_singleton, List.nil_append]
  rw [Nat.mod_eq_of_lt (by simpa using h)]
  rfl
 | succ k ih =>
  intro n h
  by_cases h1 : n < 10
  ·rw [Lib.decDigits_one h1]
   refine ⟨by simp, ?_⟩
   rw [dig, Nat.div_eq_of_lt h1, dig_zero]
   simp only [d10, List.length_singleton]
   rw [Nat.mod_eq_of_lt h1]
   rfl
  ·obtain ⟨h2, h3⟩ := ih (n / 10) (by rw [Nat.pow_succ] at h; omega)
   rw [Lib.decDigits, dif_neg h1]
   refine ⟨by simp; omega, ?_⟩
   rw [List.length_append, List.length_singleton, show k + 1 + 1 - ((Lib.decDigits (n / 10)).length + 1) = k + 1 - (Lib.decDigits (n / 10)).length by omega, ← List.append_assoc, h3]
   rfl
def six (n : Nat) : List UInt8 := dig 6 n
theorem six_dec {n : Nat} (h : n ≤ 999999) : (Lib.decDigits n).length ≤ 6 ∧ List.replicate (6 - (Lib.decDigits n).length) 48 ++ Lib.decDigits n = six n := dig_dec 5 n (by omega)
def namedP (kind : List UInt8) (n : Int) : List UInt8 := if rightP n = true then kind ++ six n.toNat else []
def packB : List UInt8 := [112, 97, 99, 107, 45]
def nameP (n : Int) : List UInt8 := namedP packB n
structure Scn where
  l : List Ent
  good : Nat
  whole : Bool
def openB (b : List UInt8) : Bool := decide (33 ≤ b.length ∧ b.length ≤ 1056 ∧ sha (b.drop 32) = b.take 32)
def hadM (l : List Ent) (a : List UInt8) : Bool := l.any fun e => decide (e.sum = a)
def entP (n : Int) (x : Scn) (b : List UInt8) : Ent := ⟨b.take 32, n, x.good, b.length - 32⟩
def takeP (n : Int) (x : Scn) (k : UInt8) (b : List UInt8) (z : Nat) : Option Scn :=
  if k = 2 then (if openB b = true ∧ hadM x.l (b.take 32) = false then some ⟨x.l ++ [entP n x b], x.good + z, x.whole⟩ else none)
  else if k = 3 then (if b = four x.l.length then some ⟨x.l, x.good + z, true⟩ else none)
  else none
def stepP (n : Int) (s : List UInt8) (x : Scn) : Option Scn :=
  if x.whole = true then none
  else if (nextM (s.drop x.good)).2.2.2 ≠ 0 then none
  else takeP n x (nextM (s.drop x.good)).1 (nextM (s.drop x.good)).2.1 (nextM (s.drop x.good)).2.2.1
def scanPN (n : Int) (s : List UInt8) : Nat → Scn → Scn
  | 0, x => x
  | k + 1, x => match stepP n s x with
    | none => x
    | some y => scanPN n s k y
def headP (n : Int) (s : List UInt8) : Bool := decide ((nextM s).2.2.2 = 0 ∧ (nextM s).1 = 1 ∧ (nextM s).2.1 = four n)
def scanP (s : List UInt8) (n : Int) : Scn × Int :=
  if rightP n = false then (⟨[], 0, false⟩, 1)
  else if headP n s = false then (⟨[], 0, false⟩, 12)
  else (scanPN n s s.length ⟨[], (nextM s).2.2.1, false⟩, 0)
theorem scanPN_none {n : Int} {s : List UInt8} {x : Scn} (h : stepP n s x = none) (k : Nat) : scanPN n s k x = x := by
 cases k with
 | zero => rfl
 | succ k => rw [scanPN, h]
theorem scanPN_some {n : Int} {s : List UInt8} {x y : Scn} (h : stepP n s x = some y) {k : Nat} (hk : 0 < k) : scanPN n s k x = scanPN n s (k - 1) y := by
 obtain ⟨m, rfl⟩ : ∃ m, k = m + 1 := ⟨k - 1, by omega⟩
 rw [scanPN, h]; rfl
theorem takeP_good {n : Int} {x y : Scn} {k : UInt8} {b : List UInt8} {z : Nat} (h : takeP n x k b z = some y) : y.good = x.good + z ∧ y.l.length ≤ x.l.length + 1 := by
 unfold takeP at h
 split at h
 ·split at h
  ·injection h with h; subst h; exact ⟨rfl, by simp⟩
  ·cases h
 split at h
 ·split at h
  ·injection h with h; subst h; exact ⟨rfl, by simp⟩
  ·cases h
 ·cases h
theorem openB_len {b : List UInt8} (h : openB b = true) : 33 ≤ b.length ∧ b.length ≤ 1056 := by
 unfold openB at h
 simp only [decide_eq_true_eq] at h
 exact ⟨h.1, h.2.1⟩
theorem takeP_long {n : Int} {x y : Scn} {k : UInt8} {b : List UInt8} {z : Nat} (h : takeP n x k b z = some y) (hz : b.length + 5 ≤ z) : 38 * y.l.length + x.good ≤ 38 * x.l.length + y.good := by
 unfold takeP at h
 split at h
 ·split at h
  ·rename_i h2
   have := openB_len h2.1
   injection h with h; subst h
   simp only [List.length_append, List.length_cons, List.length_nil]
   omega
  ·cases h
 split at h
 ·split at h
  ·injection h with h; subst h
   simp only
   omega
  ·cases h
 ·cases h
theorem stepP_long {n : Int} {s : List UInt8} {x y : Scn} (h : stepP n s x = some y) : 38 * y.l.length + x.good ≤ 38 * x.l.length + y.good := by
 unfold stepP at h
 split at h
 ·cases h
 split at h
 ·cases h
 rename_i h1 h2
 exact takeP_long h (nextM_body5 (by simpa using h2))
theorem stepP_good {n : Int} {s : List UInt8} {x y : Scn} (h : stepP n s x = some y) (hx : x.good ≤ s.length) : x.good + 5 ≤ y.good ∧ y.good ≤ s.length ∧ y.l.length ≤ x.l.length + 1 ∧ x.whole = false := by
 unfold stepP at h
 split at h
 ·cases h
 split at h
 ·cases h
 rename_i h1 h2
 have h3 := nextM_len (by simpa using h2 : (nextM (s.drop x.good)).2.2.2 = 0)
 obtain ⟨h4, h5⟩ := takeP_good h
 rw [List.length_drop] at h3
 exact ⟨by omega, by omega, h5, by simpa using h1⟩
structure SOk (s : List UInt8) (n : Int) (x : Scn) : Prop where
  g : x.good ≤ s.length
  l : 38 * x.l.length ≤ x.good
  s32 : S32 x.l
  nd : (x.l.map (·.sum)).Nodup
theorem hadM_false {l : List Ent} {a : List UInt8} (h : hadM l a = false) : ∀ e ∈ l, e.sum ≠ a := by
 unfold hadM at h
 rw [List.any_eq_false] at h
 exact fun e he => by simpa using h e he
theorem stepP_ok {n : Int} {s : List UInt8} {x y : Scn} (h : stepP n s x = some y) (hx : SOk s n x) : SOk s n y := by
  obtain ⟨h1, h2, h3, _⟩ := stepP_good h hx.g
  have h38 := stepP_long h
  have hl := hx.l
  refine ⟨h2, by omega, ?_, ?_⟩
  all_goals
    unfold stepP at h
    split at h
    · cases h
    split at h
    · cases h
    unfold takeP at h
    split at h
    · split at h
      · rename_i h5
        injection h with h; subst h
        first
        | exact fun e he => by
            rcases List.mem_append.1 he with he | he
            · exact hx.s32 e he
            · rw [List.mem_singleton.1 he]
              have := h5.1
              unfold openB at this
              simp only [decide_eq_true_eq] at this
              simp only [entP, List.length_take]
              omega
        | (rw [List.map_append, List.nodup_append]
           exact ⟨hx.nd, by simp, fun a ha b hb e => by
            obtain ⟨q, hq, rfl⟩ := List.mem_map.1 ha
            rw [List.map_singleton, List.mem_singleton] at hb
            exact hadM_false h5.2 q hq (e.trans hb)⟩)
      · cases h
    split at h
    · split at h
      · injection h with h; subst h
        first | exact hx.s32 | exact hx.nd
      · cases h
    · cases h
theorem scanPN_ok {n : Int} {s : List UInt8} : ∀ (k : Nat) {x : Scn}, SOk s n x → SOk s n (scanPN n s k x)
 | 0, _, hx => hx
 | k + 1, x, hx => by
  rw [scanPN]
  cases h : stepP n s x with
  | none => exact hx
  | some y => exact scanPN_ok k (stepP_ok h hx)
theorem SOk.start {n : Int} {s : List UInt8} (h : headP n s = true) : SOk s n ⟨[], (nextM s).2.2.1, false⟩ := by
 unfold headP at h
 simp only [decide_eq_true_eq] at h
 have := nextM_len h.1
 exact ⟨this.2, by simp, by simp [S32], by simp⟩
structure Pc where
  kind : UInt8
  body : List UInt8
  pos : Nat
  next : Nat
def pcAt (s : List UInt8) (a : Nat) : Pc := ⟨(nextM (s.drop a)).1, (nextM (s.drop a)).2.1, a, a + (nextM (s.drop a)).2.2.1⟩
def framesN (s : List UInt8) : Nat → Nat → List Pc
  | 0, _ => []
  | k + 1, a => if (nextM (s.drop a)).2.2.2 ≠ 0 then [] else pcAt s a :: framesN s k (a + (nextM (s.drop a)).2.2.1)
def framesM (s : List UInt8) : List Pc := framesN s (s.length + 1) 0
def takeF (n : Int) (x : Scn) (p : Pc) : Option Scn :=
  if p.kind = 2 then (if openB p.body = true ∧ hadM x.l (p.body.take 32) = false then some ⟨x.l ++ [⟨p.body.take 32, n, p.pos, p.body.length - 32⟩], p.next, x.whole⟩ else none)
  else if p.kind = 3 then (if p.body = four x.l.length then some ⟨x.l, p.next, true⟩ else none)
  else none
def stepF (n : Int) (x : Scn) (p : Pc) : Option Scn :=
  if p.pos = 0 then (if p.kind = 1 ∧ p.body = four n then some { x with good := p.next } else none)
  else if x.whole = true then none
  else takeF n x p
def foldF (n : Int) : Scn → List Pc → Scn
  | x, [] => x
  | x, p :: l => match stepF n x p with
    | none => x
    | some y => foldF n y l
def goF (n : Int) : Scn → List Pc → Option Scn
  | x, [] => some x
  | x, p :: l => match stepF n x p with
    | none => none
    | some y => goF n y l
theorem goF_snoc {n : Int} : ∀ {l : List Pc} {x y : Scn} {p : Pc}, goF n x l = some y → goF n x (l ++ [p]) = stepF n y p
 | [], x, y, p, h => by
  injection h with h; subst h
  simp only [List.nil_append, goF]
  cases stepF n x p <;> rfl
 | q :: l, x, y, p, h => by
  rw [List.cons_append]
  rw [goF] at h ⊢
  cases hq : stepF n x q with
  | none => rw [hq] at h; cases h
  | some z => rw [hq] at h; exact goF_snoc h
theorem goF_fold {n : Int} : ∀ {l : List Pc} {x y : Scn}, goF n x l = some y → foldF n x l = y
 | [], x, y, h => by injection h
 | q :: l, x, y, h => by
  rw [goF] at h
  rw [foldF]
  cases hq : stepF n x q with
  | none => rw [hq] at h; cases h
  | some z => rw [hq] at h; exact goF_fold h
theorem foldF_stop {n : Int} {p : Pc} : ∀ {l m : List Pc} {x y : Scn}, goF n x l = some y → stepF n y p = none → foldF n x (l ++ p :: m) = y
 | [], m, x, y, h, hp => by
  injection h with h; subst h
  rw [List.nil_append, foldF, hp]
 | q :: l, m, x, y, h, hp => by
  rw [goF] at h
  rw [List.cons_append, foldF]
  cases hq : stepF n x q with
  | none => rw [hq] at h; cases h
  | some z => rw [hq] at h; exact foldF_stop h hp
theorem stepF_len {n : Int} {x y : Scn} {p : Pc} (h : stepF n x p = some y) : y.l.length ≤ x.l.length + 1 := by
 unfold stepF at h
 split at h
 ·split at h
  ·injection h with h; subst h; exact Nat.le_succ _
  ·cases h
 split at h
 ·cases h
 unfold takeF at h
 split at h
 ·split at h
  ·injection h with h; subst h; simp
  ·cases h
 split at h
 ·split at h
  ·injection h with h; subst h; exact Nat.le_succ _
  ·cases h
 ·cases h
theorem goF_len {n : Int} : ∀ {l : List Pc} {x y : Scn}, goF n x l = some y → y.l.length ≤ x.l.length + l.length
 | [], x, y, h => by injection h with h; subst h; exact Nat.le_refl _
 | p :: l, x, y, h => by
  rw [goF] at h
  cases hq : stepF n x p with
  | none => rw [hq] at h; cases h
  | some z =>
   rw [hq] at h
   have h1 := stepF_len hq
   have h2 := goF_len h
   rw [List.length_cons]
   omega
def sc0 : Scn := ⟨[], 0, false⟩
theorem takeF_eq (n : Int) (s : List UInt8) (x : Scn) : takeF n x (pcAt s x.good) = takeP n x (nextM (s.drop x.good)).1 (nextM (s.drop x.good)).2.1 (nextM (s.drop x.good)).2.2.1 := rfl
theorem fold_scan (n : Int) (s : List UInt8) : ∀ (k : Nat) (x : Scn), 0 < x.good → foldF n x (framesN s k x.good) = scanPN n s k x
 | 0, _, _ => rfl
 | k + 1, x, hx => by
  rw [framesN, scanPN]
  unfold stepP
  by_cases he : (nextM (s.drop x.good)).2.2.2 ≠ 0
  ·rw [if_pos he]
   by_cases hw : x.whole = true
   ·rw [if_pos hw]; rfl
   ·rw [if_neg hw, if_pos he]; rfl
  ·rw [if_neg he, foldF]
   unfold stepF
   rw [if_neg (show (pcAt s x.good).pos ≠ 0 by show x.good ≠ 0; omega)]
   by_cases hw : x.whole = true
   ·rw [if_pos hw, if_pos hw]
   ·rw [if_neg hw, if_neg hw, if_neg he, takeF_eq]
    cases ht : takeP n x (nextM (s.drop x.good)).1 (nextM (s.drop x.good)).2.1 (nextM (s.drop x.good)).2.2.1 with
    | none => rfl
    | some y =>
     have hg := (takeP_good ht).1
     simp only
     rw [← hg]
     exact fold_scan n s k y (by omega)
theorem scanP_fold {n : Int} (s : List UInt8) (hn : rightP n = true) : scanP s n = if (foldF n sc0 (framesM s)).good = 0 then (sc0, 12) else (foldF n sc0 (framesM s), 0) := by
 unfold scanP framesM headP
 rw [if_neg (by rw [hn]; decide), framesN, List.drop_zero]
 by_cases he : (nextM s).2.2.2 = 0
 ·rw [if_neg (show ¬ (nextM s).2.2.2 ≠ 0 from fun h => h he), foldF]
  have hl := nextM_len he
  unfold stepF
  rw [if_pos (show (pcAt s 0).pos = 0 from rfl)]
  have e1 : (pcAt s 0).kind = (nextM s).1 := by simp [pcAt]
  have e2 : (pcAt s 0).body = (nextM s).2.1 := by simp [pcAt]
  have e3 : (pcAt s 0).next = (nextM s).2.2.1 := by simp [pcAt]
  rw [e1, e2, e3]
  by_cases h2 : (nextM s).1 = 1 ∧ (nextM s).2.1 = four n
  ·rw [if_neg (by simp [he, h2.1, h2.2]), if_pos h2]
   simp only
   rw [Nat.zero_add, show ({ sc0 with good := (nextM s).2.2.1 } : Scn) = ⟨[], (nextM s).2.2.1, false⟩ from rfl]
   have := fold_scan n s s.length ⟨[], (nextM s).2.2.1, false⟩ (by show 0 < (nextM s).2.2.1; omega)
   simp only at this
   rw [this]
   have hok := scanPN_ok (n := n) (s := s) s.length (SOk.start (n := n) (s := s) (by unfold headP; simp [he, h2.1, h2.2]))
   have hge : ∀ (k : Nat) (x : Scn), x.good ≤ s.length → x.good ≤ (scanPN n s k x).good := by
    intro k
    induction k with
    | zero => intro x _; exact Nat.le_refl _
    | succ k ih =>
     intro x hx
     rw [scanPN]
     cases h : stepP n s x with
     | none => exact Nat.le_refl _
     | some y =>
      have := stepP_good h hx
      exact Nat.le_trans (by omega) (ih y this.2.1)
   have := hge s.length ⟨[], (nextM s).2.2.1, false⟩ hl.2
   simp only at this
   rw [if_neg (by omega)]
  ·rw [if_pos (by simp only [he, true_and]; simpa using h2), if_neg h2]
   rfl
 ·rw [if_pos he, if_pos (by simp [he])]
  rfl
end Go.Proofs.YtnlabkogebnioaaGreatDoor
namespace Go.Proofs.YtnlabkogebnioaaGreatDoor
open Go.RowKit Sha
theorem rotr_any (x : UInt32) (n : Int) (w : World) (h0 : 1 ≤ n) (h1 : n ≤ 31) :
  Calls Tryz.prog 151 #[.int .u32 x.toNat, .int .u64 n] w fun e w' => e = .returned (.int .u32 (rotr x (UInt32.ofNat n.toNat)).toNat) ∧ w = w' := by
 have hx := lt_u32 x
 have hx0 : (0 : Int) ≤ x.toNat := by omega
 go_enter Tryz.func151, Tryz.ntmps151
 go_wp2
 go_ret
 obtain ⟨m, rfl⟩ := Int.eq_ofNat_of_zero_le (by omega : 0 ≤ n)
 refine ⟨?_, rfl⟩
 have e1 : (32 - (m : Int)).toNat = 32 - m := by omega
 have key : bits BinOp.or IntKind.u32 ((x.toNat : Int) / 2 ^ m) ((x.toNat : Int) * 2 ^ (32 - m) % 4294967296) = ((rotr x (UInt32.ofNat m)).toNat : Int) := by
  rw [shr_u32 x m (by omega), shl_u32 x (32 - m) (by omega), or_u32]
  show ((x >>> UInt32.ofNat m ||| x <<< UInt32.ofNat (32 - m)).toNat : Int) = ((x >>> UInt32.ofNat m ||| x <<< (32 - UInt32.ofNat m)).toNat : Int)
  congr 4
  apply UInt32.toNat.inj
  rw [UInt32.toNat_sub_of_le, UInt32.toNat_ofNat_of_lt' (by simp [UInt32.size]; omega), UInt32.toNat_ofNat_of_lt' (by simp [UInt32.size]; omega)]
  ·rfl
  ·rw [UInt32.le_iff_toNat_le, UInt32.toNat_ofNat_of_lt' (by simp [UInt32.size]; omega)]; simp; omega
 simp only [Int.toNat_natCast, e1]
 rw [← key]
 rfl
theorem getD_snoc (l : List UInt32) (x : UInt32) (j t : Nat) (h : l.length = t) : (if j = t then x else l.getD j 0) = (l ++ [x]).getD j 0 := by
 subst h
 by_cases hj : j = l.length
 ·subst hj; simp
 ·rw [if_neg hj]
  rcases Nat.lt_or_ge j l.length with h1 | h1
  ·simp [List.getD, List.getElem?_append_left h1]
  ·simp [List.getD, List.getElem?_eq_none h1, List.getElem?_eq_none (l := l ++ [x]) (i := j) (by simp; omega)]
theorem be_eq (x0 x1 x2 x3 : UInt8) : bits BinOp.or IntKind.u32
           (bits BinOp.or IntKind.u32
            (bits BinOp.or IntKind.u32 ((x0.toNat : Int) % 4294967296 * 16777216 % 4294967296)
             ((x1.toNat : Int) % 4294967296 * 65536 % 4294967296))
            ((x2.toNat : Int) % 4294967296 * 256 % 4294967296))
           ((x3.toNat : Int) % 4294967296) = ((be x0 x1 x2 x3).toNat : Int) := by
 have a := shl_u32 x0.toUInt32 24 (by omega)
 have b := shl_u32 x1.toUInt32 16 (by omega)
 have c := shl_u32 x2.toUInt32 8 (by omega)
 simp only [u8_to_u32] at *
 rw [show (16777216 : Int) = 2 ^ 24 from rfl, show (65536 : Int) = 2 ^ 16 from rfl, show (256 : Int) = 2 ^ 8 from rfl, a, b, c, or_u32, or_u32, or_u32]
 rfl
theorem s0_eq (y : UInt32) : bits BinOp.xor IntKind.u32 (bits BinOp.xor IntKind.u32 ((rotr y 7).toNat : Int) ((rotr y 18).toNat : Int)) ((y.toNat : Int) / 8) = ((s0 y).toNat : Int) := by
 rw [show (8 : Int) = 2 ^ 3 from rfl, shr_u32 y 3 (by omega), xor_u32, xor_u32]; rfl
theorem s1_eq (y : UInt32) : bits BinOp.xor IntKind.u32 (bits BinOp.xor IntKind.u32 ((rotr y 17).toNat : Int) ((rotr y 19).toNat : Int)) ((y.toNat : Int) / 1024) = ((s1 y).toNat : Int) := by
 rw [show (1024 : Int) = 2 ^ 10 from rfl, shr_u32 y 10 (by omega), xor_u32, xor_u32]; rfl
theorem ext_eq (y2 y7 y15 y16 : UInt32) : (bits BinOp.xor IntKind.u32 (bits BinOp.xor IntKind.u32 ((rotr y2 17).toNat : Int) ((rotr y2 19).toNat : Int)) ((y2.toNat : Int) / 1024) + (y7.toNat : Int)
   + bits BinOp.xor IntKind.u32 (bits BinOp.xor IntKind.u32 ((rotr y15 7).toNat : Int) ((rotr y15 18).toNat : Int)) ((y15.toNat : Int) / 8) + (y16.toNat : Int)) % 4294967296 = ((s1 y2 + y7 + s0 y15 + y16).toNat : Int) := by
 rw [s0_eq, s1_eq]
 simp only [UInt32.toNat_add]
 omega
theorem not_u32 (x : UInt32) : bits BinOp.xor IntKind.u32 IntKind.u32.max (x.toNat : Int) = ((~~~x).toNat : Int) := by
 have h : IntKind.u32.max = ((4294967295 : UInt32).toNat : Int) := by decide
 rw [h, xor_u32]
 congr 2
theorem t1_eq (x : St) (kk ww : UInt32) : ∃ n : Nat, (x.h.toNat : Int) + bits BinOp.xor IntKind.u32 (bits BinOp.xor IntKind.u32 ((rotr x.e 6).toNat : Int) ((rotr x.e 11).toNat : Int)) ((rotr x.e 25).toNat : Int)
     + bits BinOp.xor IntKind.u32 (bits BinOp.and IntKind.u32 (x.e.toNat : Int) (x.f.toNat : Int)) (bits BinOp.and IntKind.u32 (bits BinOp.xor IntKind.u32 IntKind.u32.max (x.e.toNat : Int)) (x.g.toNat : Int))
     + (kk.toNat : Int) + (ww.toNat : Int) = (n : Int) ∧ n % 4294967296 = (t1 x kk ww).toNat := by
  refine ⟨x.h.toNat + (rotr x.e 6 ^^^ rotr x.e 11 ^^^ rotr x.e 25).toNat + ((x.e &&& x.f) ^^^ (~~~x.e &&& x.g)).toNat + kk.toNat + ww.toNat, ?_, ?_⟩
  · simp only [not_u32, xor_u32, and_u32]; omega
  · simp only [t1, UInt32.toNat_add]; omega
theorem t2_eq (x : St) : ∃ n : Nat, bits BinOp.xor IntKind.u32 (bits BinOp.xor IntKind.u32 ((rotr x.a 2).toNat : Int) ((rotr x.a 13).toNat : Int)) ((rotr x.a 22).toNat : Int)
     + bits BinOp.xor IntKind.u32 (bits BinOp.xor IntKind.u32 (bits BinOp.and IntKind.u32 (x.a.toNat : Int) (x.b.toNat : Int)) (bits BinOp.and IntKind.u32 (x.a.toNat : Int) (x.c.toNat : Int))) (bits BinOp.and IntKind.u32 (x.b.toNat : Int) (x.c.toNat : Int))
      = (n : Int) ∧ n % 4294967296 = (t2 x).toNat := by
  refine ⟨(rotr x.a 2 ^^^ rotr x.a 13 ^^^ rotr x.a 22).toNat + ((x.a &&& x.b) ^^^ (x.a &&& x.c) ^^^ (x.b &&& x.c)).toNat, ?_, ?_⟩
  · simp only [xor_u32, and_u32, Int.natCast_add]
  · simp only [t2, UInt32.toNat_add]
theorem wordsTo_length (s : List UInt8) (t : Nat) : (wordsTo s t).length = t := by
 induction t with
 | zero => rfl
 | succ t ih => simp [wordsTo, ih]
theorem extTo_length (l : List UInt32) (t : Nat) : (extTo l t).length = l.length + t := by
 induction t with
 | zero => rfl
 | succ t ih => simp [extTo, ih]; omega
def stCells (v : St) : Array Value := #[.int .u32 v.a.toNat, .int .u32 v.b.toNat, .int .u32 v.c.toNat, .int .u32 v.d.toNat, .int .u32 v.e.toNat, .int .u32 v.f.toNat, .int .u32 v.g.toNat, .int .u32 v.h.toNat]
theorem quiet_add_left {P : Program} {f : FuncId} {args : Array Value} {w : World} {a n : Nat} {v : Value}
  (h : Calls P f args (w.drewN (a + n)) fun e w' => e = .returned v ∧ w.drewN (a + n) = w') :
  Calls P f args (w.drewN (a + n)) fun e w'' => e = .returned v ∧ ∃ m, w'' = w.drewN (a + m) :=
 h.mono fun _ _ ⟨he, hm⟩ => ⟨he, n, hm.symm⟩
def hashF (v x : St) (rv nv : Value) (t j : Nat) : Value :=
  if j < 8 then .int .u32 (if j < t then v.words.getD j 0 + x.words.getD j 0 else v.words.getD j 0).toNat else if j = 8 then rv else nv
def hashCells (v : St) (rv nv : Value) : Array Value := #[.int .u32 v.a.toNat, .int .u32 v.b.toNat, .int .u32 v.c.toNat, .int .u32 v.d.toNat, .int .u32 v.e.toNat, .int .u32 v.f.toNat, .int .u32 v.g.toNat, .int .u32 v.h.toNat, rv, nv]
theorem hash_of_row {w : World} {b : Nat} {v x : St} {rv nv : Value} (h : w.rowIs b 181 10 (hashF v x rv nv 8)) : Blk w b 181 (hashCells (addSt v x) rv nv) := by
 obtain ⟨c, hc, hn, hi⟩ := h
 unfold Blk
 rw [hc]
 congr 2
 apply Array.ext_getElem?
 intro i
 by_cases h10 : i < 10
 ·rw [hi i h10]
  match i, h10 with
  | 0, _ | 1, _ | 2, _ | 3, _ | 4, _ | 5, _ | 6, _ | 7, _ | 8, _ | 9, _ => rfl
 ·rw [Array.getElem?_eq_none (by omega), Array.getElem?_eq_none (by simp [hashCells]; omega)]
theorem index_st (x : St) (j : Nat) (W : World) (hj : j < 8) : (Instr.index 179 (.agg #[Value.int IntKind.u32 ↑x.a.toNat, Value.int IntKind.u32 ↑x.b.toNat, Value.int IntKind.u32 ↑x.c.toNat, Value.int IntKind.u32 ↑x.d.toNat, Value.int IntKind.u32 ↑x.e.toNat, Value.int IntKind.u32 ↑x.f.toNat, Value.int IntKind.u32 ↑x.g.toNat, Value.int IntKind.u32 ↑x.h.toNat]) (.int .i64 (j : Int))).run Tryz.prog W = .ok (.int .u32 (x.words.getD j 0).toNat) W := by
 have h : j = 0 ∨ j = 1 ∨ j = 2 ∨ j = 3 ∨ j = 4 ∨ j = 5 ∨ j = 6 ∨ j = 7 := by omega
 clear hj
 rcases h with rfl | rfl | rfl | rfl | rfl | rfl | rfl | rfl <;> (show _ = _; kernel_rfl)
theorem copy_st (w : World) (g : Nat) (x : St) (h : Blk w g 179 (stCells x)) : ∃ w3 : World,
  (∀ k, (Builtin.copy_ #[228, 228] 3 #[.slice (some ⟨g, 1, none⟩) 7 7, .slice (some ⟨g, 0, none⟩) 7 8]).run Tryz.prog (w.drewN k) = .ok (.int .i64 7) (w3.drewN k)) ∧
  Blk w3 g 179 #[.int .u32 x.a.toNat, .int .u32 x.a.toNat, .int .u32 x.b.toNat, .int .u32 x.c.toNat, .int .u32 x.d.toNat, .int .u32 x.e.toNat, .int .u32 x.f.toNat, .int .u32 x.g.toNat] ∧ Chg (fun k => k = g) w w3 := by
 obtain ⟨i, hi, _, h1, _⟩ := info_parts (show (Tryz.prog.info? 145).map (fun i => (i.zero, i.size, i.bytes)) = some (some (.int .u32 0), 1, 4) by kernel_rfl)
 refine ⟨w.setRow g #[.int .u32 x.a.toNat, .int .u32 x.a.toNat, .int .u32 x.b.toNat, .int .u32 x.c.toNat, .int .u32 x.d.toNat, .int .u32 x.e.toNat, .int .u32 x.f.toNat, .int .u32 x.g.toNat], fun k => ?_, setRow_heap _ _ _ _ _ _ h, (Chg.refl (fun k => k = g) w).setRow (.inl rfl) _⟩
 exact run_copy_within (P := Tryz.prog) (w.drewN k) (h.drewN k) 228 3 145 i Tryz.underlying228 hi h1 1 0 7 7 7 8 (by omega) (by simp [stCells]) (by simp [stCells]) (fun u hu => by simp [stCells] at hu; rcases hu with h | h | h | h | h | h | h | h <;> (subst h; rfl))
set_option maxHeartbeats 1000000 in
set_option maxRecDepth 100000 in
theorem block_any (b g off cap : Nat) (v : St) (rv nv : Value) (s : List UInt8) (w : World) (hb : Blk w b 181 (hashCells v rv nv))
   (hg : g < w.heap.size) (_hcap : 64 ≤ cap) (_hcap2 : cap ≤ 9223372036854775807)
   (hs : ∀ j, j < 64 → w.cell? ⟨g, off + j, none⟩ = some (.int .u8 (s.getD j 0).toNat))
   (hk : ∀ j, j < 64 → w.cell? ⟨1, j, none⟩ = some (.int .u32 (kTab.getD j 0).toNat)) (hk1 : 1 < w.heap.size) :
    Calls Tryz.prog 110 #[.pointer (some ⟨b, 0, none⟩), .slice (some ⟨g, off, none⟩) 64 cap] w fun e w' => e = .returned (.tuple #[]) ∧ Blk w' b 181 (hashCells (block v s) rv nv) ∧ Chg (fun k => k = b) w w' := by
  have Hs := Lib.hid hs; clear hs
  have Hk := Lib.hid hk; clear hk
  have Hb := Lib.hid hb; clear hb
  go_enter Tryz.func110, Tryz.ntmps110
  go_wp2
  go_loopw [19] (fun i wr => ∃ t : Nat, t ≤ 16 ∧ i = .int .i64 t ∧ wr.rowIs w.heap.size 226 64 (fun j => .int .u32 ((wordsTo s t).getD j 0).toNat) ∧ Chg (fun _ => False) w wr) (fun i _ => 16 - (intOf i).toNat)
  case atStart =>
    refine ⟨0, by omega, rfl, ?_, (Chg.refl _ _).alloc _⟩
    exact World.rowIs_alloc _ _ _ _ (fun i hi => by
      simp only [List.size_toArray, List.length_cons, List.length_nil] at hi
      have : ∀ i, i < 64 → (List.replicate 64 (Value.int IntKind.u32 0)).toArray[i]? = some (Value.int IntKind.u32 0) := fun i hi => by rw [List.getElem?_toArray, List.getElem?_replicate, if_pos hi]
      exact this i hi)
  case round =>
    obtain ⟨t, ht, rfl, hr, hc⟩ := hrel
    by_cases hlt : t < 16
    · have hcell : ∀ j, j < 64 → wr.cell? ⟨g, off + j, none⟩ = some (.int .u8 (s.getD j 0).toNat) := fun j hj => (hc.cell (p := ⟨g, off + j, none⟩) hg (fun f => f)).trans (Hs.out j hj)
      have c0 := hcell (4 * t) (by omega)
      have c1 := hcell (4 * t + 1) (by omega)
      have c2 := hcell (4 * t + 2) (by omega)
      have c3 := hcell (4 * t + 3) (by omega)
      clear hcell
      have d0 := hr.cell (i := t) (by omega)
      have d1 := hr.frozen (i := t)
      have Hr := Lib.hid hr; clear hr
      have Hw : Hid (wordsTo s (t + 1) = wordsTo s t ++ [be (s.getD (4*t) 0) (s.getD (4*t+1) 0) (s.getD (4*t+2) 0) (s.getD (4*t+3) 0)]) := rfl
      generalize s.getD (4*t) 0 = x0 at *
      generalize s.getD (4*t+1) 0 = x1 at *
      generalize s.getD (4*t+2) 0 = x2 at *
      generalize s.getD (4*t+3) 0 = x3 at *
      go_wp2
      go_region
      go_wp2
      go_roundw
      case rel =>
        refine ⟨t + 1, by omega, by go_num, ?_, (hc.setCell (.inr (Nat.le_refl _)) _).drew⟩
        rw [be_eq]
        refine ((Hr.out.set t _).drew).congr (fun j hj => ?_)
        rw [Hw.out, ← getD_snoc _ _ j t (wordsTo_length s t)]
        split <;> rfl
      case measure => simp [intOf]; omega
    · have Hr : Hid (wr.rowIs w.heap.size 226 64 (fun j => .int .u32 ((wordsTo s 16).getD j 0).toNat)) := by
        obtain rfl : t = 16 := by omega
        exact hr
      clear hr
      have hdec : decide ((t : Int) < 16) = false := by simp; omega
      obtain ⟨w1, rfl⟩ : ∃ w1 : World, w1 = wr := ⟨_, rfl⟩
      go_wp2
      go_loopw [6] (fun i wr => ∃ t : Nat, 16 ≤ t ∧ t ≤ 64 ∧ i = .int .i64 t ∧ wr.rowIs w.heap.size 226 64 (fun j => .int .u32 ((extTo (wordsTo s 16) (t - 16)).getD j 0).toNat) ∧ Chg (fun _ => False) w wr) (fun i _ => 64 - (intOf i).toNat)
      case atStart => exact ⟨16, by omega, by omega, rfl, Hr.out, hc⟩
      case round =>
        obtain ⟨t, ht0, ht, rfl, hr, hc'⟩ := hrel
        by_cases hlt : t < 64
        · have c0 := hr.cell (i := t - 15) (by omega)
          have c1 := hr.cell (i := t - 2) (by omega)
          have c2 := hr.cell (i := t - 7) (by omega)
          have c3 := hr.cell (i := t - 16) (by omega)
          have d0 := hr.cell (i := t) (by omega)
          have d1 := hr.frozen (i := t)
          have Hr := Lib.hid hr; clear hr
          have He : Hid (extTo (wordsTo s 16) (t + 1 - 16) = extTo (wordsTo s 16) (t - 16) ++ [s1 ((extTo (wordsTo s 16) (t - 16)).getD (t - 2) 0) + (extTo (wordsTo s 16) (t - 16)).getD (t - 7) 0 + s0 ((extTo (wordsTo s 16) (t - 16)).getD (t - 15) 0) + (extTo (wordsTo s 16) (t - 16)).getD (t - 16) 0]) := by
            show extTo (wordsTo s 16) (t + 1 - 16) = _
            rw [show t + 1 - 16 = (t - 16) + 1 from by omega, extTo, ext, show 16 + (t - 16) = t from by omega]
          have Hl : Hid ((extTo (wordsTo s 16) (t - 16)).length = t) := by
            show (extTo (wordsTo s 16) (t - 16)).length = t
            rw [extTo_length, wordsTo_length]; omega
          generalize (extTo (wordsTo s 16) (t - 16)).getD (t - 15) 0 = y15 at *
          generalize (extTo (wordsTo s 16) (t - 16)).getD (t - 2) 0 = y2 at *
          generalize (extTo (wordsTo s 16) (t - 16)).getD (t - 7) 0 = y7 at *
          generalize (extTo (wordsTo s 16) (t - 16)).getD (t - 16) 0 = y16 at *
          go_wp2_with (go_at_call 151; refine (rotr_any _ _ _ (by omega) (by omega)).mono ?_; rintro e w' ⟨rfl, rfl⟩)
          go_region
          go_wp2_with (go_at_call 151; refine (rotr_any _ _ _ (by omega) (by omega)).mono ?_; rintro e w' ⟨rfl, rfl⟩)
          go_region
          go_wp2
          go_roundw
          case rel =>
            refine ⟨t + 1, by omega, by omega, by go_num, ?_, by
               exact (hc'.setCell (.inr (Nat.le_refl _)) _).drewN 2⟩
            refine ((Hr.out.set t _).drew).congr (fun j hj => ?_)
            rw [ext_eq, He.out, ← getD_snoc _ _ j t Hl.out]
            split <;> rfl
          case measure => simp [intOf]; omega
        · have hrow : Hid (wr.rowIs w.heap.size 226 64 (fun j => .int .u32 ((sched s).getD j 0).toNat)) := by
            obtain rfl : t = 64 := by omega
            exact hr
          clear hr
          have hbr : Blk wr b 181 _ := Hb.out.chg hc' (fun f => f)
          have hcb := hbr.cell
          unfold hashCells at hcb
          have hdec : decide ((t : Int) < 64) = false := by simp; omega
          obtain ⟨w2, rfl⟩ : ∃ w2 : World, w2 = wr := ⟨_, rfl⟩
          have hsz : w.heap.size < w2.heap.size := hrow.out.lt
          go_wp2
          clear hcb
          have Hbr := Lib.hid hbr; clear hbr
          go_loopw [105] (fun i wr => ∃ t : Nat, t ≤ 64 ∧ i = .int .i64 t ∧ Blk wr w2.heap.size 179 (stCells (roundsTo (sched s) v t)) ∧ Chg (fun _ => False) w2 wr) (fun i _ => 64 - (intOf i).toNat)
          case atStart => exact ⟨0, by omega, rfl, Blk.new _ _ _, (Chg.refl _ _).alloc _⟩
          case round =>
            obtain ⟨t, ht, rfl, hv, hc''⟩ := hrel
            by_cases hlt : t < 64
            · have hkc : wr.cell? ⟨1, t, none⟩ = some (.int .u32 (kTab.getD t 0).toNat) := (hc''.cell (p := ⟨1, t, none⟩) (by show 1 < _; omega) (fun f => f)).trans ((hc'.cell (p := ⟨1, t, none⟩) hk1 (fun f => f)).trans (Hk.out t hlt))
              have hwc : wr.cell? ⟨w.heap.size, t, none⟩ = some (.int .u32 ((sched s).getD t 0).toNat) := (hc''.cell (p := ⟨w.heap.size, t, none⟩) (by simpa using hsz) (fun f => f)).trans (hrow.out.cell hlt)
              have Hn : Hid (roundsTo (sched s) v (t + 1) = round (roundsTo (sched s) v t) (kTab.getD t 0) ((sched s).getD t 0)) := rfl
              generalize kTab.getD t 0 = kk at *
              generalize (sched s).getD t 0 = ww at *
              generalize roundsTo (sched s) v t = x at *
              have hcv := hv.cell
              have hfv := hv.frozen
              have Hv := Lib.hid hv; clear hv
              unfold stCells at hcv
              go_wp2
              go_quiet (fail)
              go_wp2
              go_quiet ((go_at_call 151; exact quiet_add_left (rotr_any _ _ _ (by omega) (by omega))))
              go_wp2
              go_quiet ((go_at_call 151; exact quiet_add_left (rotr_any _ _ _ (by omega) (by omega))))
              go_wp2
              obtain ⟨w3, hcp, hB3, hC3⟩ := copy_st wr w2.heap.size x Hv.out
              have hcv3 := hB3.cell
              have hfv3 := hB3.frozen
              clear hcv hfv
              go_region
              clear hcp
              go_wp2
              go_roundw
              case rel =>
                refine ⟨t + 1, by omega, by go_num, ?_, ?_⟩
                · obtain ⟨n1, e1, m1⟩ := t1_eq x kk ww
                  obtain ⟨n2, e2, m2⟩ := t2_eq x
                  rw [e1, e2, Hn.out]
                  have f1 : ((n1 : Int) + n2) % 4294967296 = ((t1 x kk ww + t2 x).toNat : Int) := by rw [UInt32.toNat_add]; omega
                  have f2 : ((x.d.toNat : Int) + n1) % 4294967296 = ((x.d + t1 x kk ww).toNat : Int) := by rw [UInt32.toNat_add]; omega
                  rw [f1, f2]
                  exact ((hB3.drewN _).set_ 0 _).set_ 4 _
                · have hz := hc''.trans hC3 (fun i hi h => by omega)
                  exact ((hz.drewN _).setCell (.inr (Nat.le_refl _)) _).setCell (.inr (Nat.le_refl _)) _
              case measure => simp [intOf]; omega
            · have hrow3 : Hid (Blk wr w2.heap.size 179 (stCells (roundsTo (sched s) v 64))) := by
                obtain rfl : t = 64 := by omega
                exact hv
              clear hv
              have hdec : decide ((t : Int) < 64) = false := by simp; omega
              have hcv := hrow3.out.cell
              have Hx : Hid (block v s = addSt v (roundsTo (sched s) v 64)) := rfl
              generalize roundsTo (sched s) v 64 = x at *
              unfold stCells at hcv
              obtain ⟨w4, rfl⟩ : ∃ w4 : World, w4 = wr := ⟨_, rfl⟩
              go_wp2
              clear hcv
              have hidx := fun (j : Nat) (W : World) (hj : j < 8) => index_st x j W hj
              have Hidx := Lib.hid hidx; clear hidx
              go_loopw [180] (fun i wr => ∃ t : Nat, t ≤ 8 ∧ i = .int .i64 t ∧ wr.rowIs b 181 10 (hashF v x rv nv t) ∧ Chg (fun k => k = b) w wr) (fun i _ => 8 - (intOf i).toNat)
              case atStart =>
                refine ⟨0, by omega, rfl, ?_, ?_⟩
                · exact ⟨_, Hbr.out.chg hc'' (fun f => f), rfl, fun i hi => by
                    match i, hi with
                    | 0, _ | 1, _ | 2, _ | 3, _ | 4, _ | 5, _ | 6, _ | 7, _ | 8, _ | 9, _ => rfl⟩
                · exact (hc'.trans hc'' (fun _ _ f => f)).mono (fun _ _ f => f.elim)
              case round =>
                obtain ⟨t, ht, rfl, hr, hcb⟩ := hrel
                by_cases hlt : t < 8
                · have hidx := fun W => Hidx.out t W hlt
                  have c0 := hr.cell (i := t) (by omega)
                  have c1 := hr.frozen (i := t)
                  have Hr := Lib.hid hr; clear hr
                  have Hf : Hid (hashF v x rv nv t t = .int .u32 ((v.words.getD t 0).toNat : Int)) := by
                    show hashF v x rv nv t t = _
                    simp [hashF, hlt]
                  rw [Hf.out] at c0
                  generalize hvv : v.words.getD t 0 = vv at *
                  have Hvv := Lib.hid hvv; clear hvv
                  generalize hxx : x.words.getD t 0 = xx at *
                  have Hxx := Lib.hid hxx; clear hxx
                  go_wp2
                  clear hidx
                  go_region
                  go_wp2
                  go_roundw
                  case rel =>
                    refine ⟨t + 1, by omega, by go_num, ?_, (hcb.setCell (.inl rfl) _).drew⟩
                    refine ((Hr.out.set t _).drew).congr (fun j hj => ?_)
                    by_cases hjt : j = t
                    · subst hjt
                      rw [if_pos rfl, add_u32]
                      simp only [hashF, hlt, if_true, Nat.lt_succ_self, Hvv.out, Hxx.out]
                    · rw [if_neg hjt]
                      unfold hashF
                      by_cases h8 : j < 8
                      · rw [if_pos h8, if_pos h8]
                        by_cases hjl : j < t
                        · rw [if_pos hjl, if_pos (by omega)]
                        · rw [if_neg hjl, if_neg (by omega)]
                      · rw [if_neg h8, if_neg h8]
                  case measure => simp [intOf]; omega
                · have Hr : Hid (Blk wr b 181 (hashCells (block v s) rv nv)) := by
                    obtain rfl : t = 8 := by omega
                    rw [Hx.out]
                    exact hash_of_row hr
                  clear hr
                  go_wp2
                  go_end0
                  exact ⟨rfl, Hr.out, hcb⟩
end Go.Proofs.YtnlabkogebnioaaGreatDoor
namespace Go.Proofs.YtnlabkogebnioaaGreatDoor
open Go.RowKit Sha
def HashAt (w : World) (S : Nat → Prop) (b : Nat) (v : St) (rest : List UInt8) (n : Nat) : Prop :=
  ∃ rv, Blk w b 181 (hashCells v rv (.int .i64 n)) ∧ Row w 5 1 rv rest.length (rest.map bv) ∧ S b ∧ ∀ k, rv.ownBlock = some k → S k
structure ShaTabs (w : World) : Prop where
  k : ∀ j, j < 64 → w.cell? ⟨1, j, none⟩ = some (.int .u32 (kTab.getD j 0).toNat)
  b : ∀ j, w.cell? ⟨0, j, none⟩ = (stCells begin_)[j]?
  kl : 1 < w.heap.size
  bl : 0 < w.heap.size
def NoTab (S : Nat → Prop) : Prop := ¬ S 1 ∧ ¬ S 0
theorem ShaTabs.chg {S : Nat → Prop} {w w' : World} (h : ShaTabs w) (hc : Chg S w w') (hn : NoTab S) : ShaTabs w' :=
 ⟨fun j hj => (hc.cell (p := ⟨1, j, none⟩) h.kl hn.1).trans (h.k j hj), fun j => (hc.cell (p := ⟨0, j, none⟩) h.bl hn.2).trans (h.b j), Nat.lt_of_lt_of_le h.kl hc.size, Nat.lt_of_lt_of_le h.bl hc.size⟩
theorem ShaTabs.belowAll {w w' : World} (h : ShaTabs w) (hb : Below w.heap.size w w') : ShaTabs w' := h.chg (Chg.of_below hb (fun _ => False)) ⟨fun f => f, fun f => f⟩
theorem ShaTabs.alloc {w : World} (h : ShaTabs w) (o : Obj) : ShaTabs (w.alloc o) := h.chg ((Chg.refl (fun _ => False) w).alloc o) ⟨fun f => f, fun f => f⟩
theorem noTab_from {w : World} (h : ShaTabs w) {B : Nat} (hB : w.heap.size ≤ B) : NoTab (fun k => B ≤ k) := ⟨by have := h.kl; omega, by have := h.bl; omega⟩
def WritePost (w : World) (S : Nat → Prop) (b : Nat) (v : St) (l : List UInt8) (n : Nat) (e : Ending) (w' : World) : Prop :=
  e = .returned (.tuple #[]) ∧ HashAt w' (More S w) b (absorb v l).1 (absorb v l).2 n ∧ Chg S w w'
theorem info_u8 : (Tryz.prog.info? 5).map (fun i => (i.zero, i.size, i.bytes)) = some (some (.int .u8 0), 1, 1) := by kernel_rfl
set_option maxRecDepth 20000 in
set_option maxHeartbeats 1000000 in
theorem HWrite_any (S : Nat → Prop) (b : Nat) (v : St) (rest : List UInt8) (n : Nat) (s : ByteArray) (w : World) (hH : HashAt w S b v rest n) (hK : ShaTabs w) (hS : NoTab S)
  (hn : n + s.size ≤ 4611686018427387904) (hr : rest.length + s.size ≤ 4294967296) :
  Calls Tryz.prog 64 #[.pointer (some ⟨b, 0, none⟩), .string s] w (WritePost w S b v (rest ++ s.data.toList) (n + s.size)) := by
 obtain ⟨rv, hB, hR, hSb, hSr⟩ := hH
 obtain ⟨i0, hi, hz0, hz1, hz2⟩ := info_parts info_u8
 have hc := hB.cell
 have hf := hB.frozen
 unfold hashCells at hc
 have HB := Lib.hid hB; clear hB
 have HR := Lib.hid hR; clear hR
 go_enter Tryz.func64, Tryz.ntmps64
 go_wp2_with (at_builtin; go_must (refine wpList_append_row _ rfl (.tmp 19) (.tmp 20) 123 9 rfl 5 i0 _ 1 1 Tryz.underlying123 hi hz0 hz1 hz2 rfl (by omega) rv rest.length (rest.map bv) rfl (HR.out.far (HR.out.ne_ HB.out (by decide)) _) (.string s) s.size (s.data.toList.map bv) rfl (Src.ofString _ Tryz.underlying9 s) (by simp only [maxLen]; omega) (by omega) ?_); intro v1 w1 hR1 hC1 hv1; obtain ⟨a1, cap1, rfl, hcap1, hcap1'⟩ := hR1.shape; have hB1 : Blk w1 b 181 #[.int .u32 v.a.toNat, .int .u32 v.b.toNat, .int .u32 v.c.toNat, .int .u32 v.d.toNat, .int .u32 v.e.toNat, .int .u32 v.f.toNat, .int .u32 v.g.toNat, .int .u32 v.h.toNat, rv, .int .i64 ((n : Int) + s.size)] := (HB.out.set_ 9 _).chg hC1 (HR.out.ne_ HB.out (by decide)); have hcc1 := hB1.cell; have hff1 := hB1.frozen; clear hc hf)
 have hnb : (Value.slice a1 (rest.length + s.size) cap1).ownBlock ≠ some b := hR1.ne_ hB1 (by decide)
 have hsz1 : w.heap.size ≤ w1.heap.size := by have := hC1.size; simpa [World.setCell] using this
 have hCh : Chg S w w1 := ((Chg.refl S w).setCell (.inl hSb) _).trans hC1 (fun k _ hk => hSr k hk)
 have hown1 : ∀ k, (Value.slice a1 (rest.length + s.size) cap1).ownBlock = some k → More S w k := fun k hk => by
  rcases hv1 with h | h
  ·exact .inl (hSr k (h.symm.trans hk))
  ·rw [h] at hk
   injection hk with hk
   subst hk
   exact .inr (by simp [World.setCell])
 go_loopg [] (rest.length + s.size) (fun k wr => ∃ v' rest', k = rest'.length ∧ HashAt wr (More S w) b v' rest' (n + s.size) ∧ absorb v' rest' = absorb v (rest ++ s.data.toList) ∧ Chg S w wr)
 case atStart =>
  refine ⟨v, rest ++ s.data.toList, by rw [List.length_append]; rfl, ⟨_, ?_, ?_, .inl hSb, hown1⟩, rfl, hCh.setCell (.inl hSb) _⟩
  ·exact hB1.set_ 8 _
  ·have := hR1.far (p := ⟨b, 8, none⟩) hnb (.slice a1 (rest.length + s.size) cap1)
   rw [List.map_append, List.length_append]
   exact this
 case round =>
  obtain ⟨v', rest', rfl, ⟨rv', hB', hR', _, hSr'⟩, habs, hcw⟩ := hrel
  have Habs := Lib.hid habs; clear habs
  clear hcc1 hff1
  have hc' := hB'.cell
  have hf' := hB'.frozen
  unfold hashCells at hc'
  by_cases hlen : 64 ≤ rest'.length
  ·obtain ⟨g, off, cap, rfl, hob, hcap2, hcap3, hcells, hfr⟩ := hR'.form (by omega)
   unfold maxLen at hcap3
   have HR' := Lib.hid hR'; clear hR'
   have HB' := Lib.hid hB'; clear hB'
   have Hcells := Lib.hid hcells; clear hcells
   have Hfr := Lib.hid hfr; clear hfr
   have hlenI : (64 : Int) ≤ (rest'.length : Int) := by omega
   have hl' : rest'.length ≤ 9223372036854775807 := by omega
   go_wp2_with fail
   have hgs : g < wr.heap.size := HR'.out.lt g hob
   have hkt : ShaTabs wr := hK.chg hcw hS
   refine (block_any b g off cap v' _ _ (rest'.take 64) wr HB'.out hgs (by omega) (by omega) (fun j hj => Hcells.out j _ (by rw [List.getElem?_map]; simp [List.getElem?_eq_getElem (show j < rest'.length by omega), hj, bv])) hkt.k hkt.kl).mono ?_
   rintro e w2 ⟨rfl, hB2, hC2⟩
   have hc2 := hB2.cell
   have hf2 := hB2.frozen
   unfold hashCells at hc2
   clear hc' hf'
   have hR2 := HR'.out.chg hC2 (fun k hk => by rintro rfl; exact HR'.out.ne_ HB'.out (by decide) hk)
   have hcut := hR2.cut rfl 64 rest'.length hlen (Nat.le_refl _)
   have HR2 := Lib.hid hR2; clear hR2
   have Hcut := Lib.hid hcut; clear hcut
   have HB2 := Lib.hid hB2; clear hB2
   go_wp2_with fail
   all_goals
    go_roundg (rest'.length - 64)
    case measure => omega
    case rel =>
     refine ⟨block v' (rest'.take 64), rest'.drop 64, by rw [List.length_drop], ⟨_, HB2.out.set_ 8 _, ?_, .inl hSb, ?_⟩, by rw [← Habs.out, absorb_step v' rest' hlen], (hcw.trans hC2 (fun i _ h => by rw [h]; exact hSb)).setCell (.inl hSb) _⟩
     ·have h1 := Hcut.out.far (p := ⟨b, 8, none⟩) (fun hk => HR2.out.ne_ HB2.out (by decide) (ownBlock_sliced hk)) (sliced (some ⟨g, off, none⟩) 64 rest'.length cap 1)
      simp only [Nat.mul_one, List.take_of_length_le (show (List.map bv rest').length ≤ rest'.length by simp), sliced] at h1
      simpa [*, Addr.add_lit] using h1
     ·intro k hk
      apply hSr' k
      simpa [Value.ownBlock] using hk
  ·obtain ⟨a', cap', rfl, hca, hcb⟩ := hR'.shape
   have HR' := Lib.hid hR'; clear hR'
   have HB' := Lib.hid hB'; clear hB'
   go_wp2_with fail
   go_end0
   rw [absorb_end v' rest' (by omega)] at Habs
   refine ⟨rfl, ?_, hcw⟩
   rw [← Habs.out]
   exact ⟨_, HB'.out, HR'.out, .inl hSb, hSr'⟩
end Go.Proofs.YtnlabkogebnioaaGreatDoor
namespace Go.Proofs.YtnlabkogebnioaaGreatDoor
open Go.RowKit Sha
def NewHash (w : World) (e : Ending) (w' : World) : Prop := ∃ b, e = .returned (.pointer (some ⟨b, 0, none⟩)) ∧ HashAt w' (fun k => w.heap.size ≤ k) b begin_ [] 0 ∧ Below w.heap.size w w'
theorem HashAt.new (w : World) (S : Nat → Prop) (h : S w.heap.size) : HashAt (w.alloc (.cells (hashCells begin_ (.slice none 0 0) (.int .i64 0)) 181)) S w.heap.size begin_ [] 0 :=
 ⟨_, Blk.new _ _ _, Row.nil _ _ _, h, fun k hk => by simp [Value.ownBlock] at hk⟩
theorem New_any (w : World) (hT : ShaTabs w) : Calls Tryz.prog 63 #[] w (NewHash w) := by
 have hb := hT.b
 unfold stCells at hb
 go_enter Tryz.func63, Tryz.ntmps63
 go_wp2
 go_ret
 exact ⟨w.heap.size, rfl, HashAt.new w _ (Nat.le_refl _), ((Chg.refl (fun _ => False) w).alloc _).belowAll⟩
theorem HashAt.mono {w : World} {S T : Nat → Prop} {b : Nat} {v : St} {rest : List UInt8} {n : Nat} (h : HashAt w S b v rest n) (hs : ∀ k, S k → T k) : HashAt w T b v rest n := by
 obtain ⟨rv, h1, h2, h3, h4⟩ := h
 exact ⟨rv, h1, h2, hs _ h3, fun k hk => hs _ (h4 k hk)⟩
def NewRow (w : World) (e : TypeId) (size n : Nat) (xs : List Value) (en : Ending) (w' : World) : Prop :=
  ∃ v, en = .returned v ∧ Row w' e size v n xs ∧ Below w.heap.size w w' ∧ ∀ k, v.ownBlock = some k → w.heap.size ≤ k
theorem Clone_any (w : World) (v : Value) (n : Nat) (l : List UInt8) (h : Row w 5 1 v n (l.map bv)) (hn : n ≤ 4294967296) :
  Calls Tryz.prog 111 #[v] w (NewRow w 5 1 n (l.map bv)) := by
 obtain ⟨i0, hi, hz0, hz1, hz2⟩ := info_parts info_u8
 obtain ⟨a, cap, rfl, h1, h2⟩ := h.shape
 have he : ∀ W : World, (binOp .eql 123 (.slice a n cap) (.slice none 0 0)).run Tryz.prog W = .ok (.bool a.isNone) W := fun W => Lib.run_eql_slice_nil W _ _ a n cap 0 0 Tryz.underlying123
 have HR := Lib.hid h; clear h
 cases a with
 | none =>
  have hd : Option.isNone (none : Option Addr) = true := rfl
  rw [hd] at he
  go_enter Tryz.func111, Tryz.ntmps111
  go_wp2_with fail
  go_ret
  have hn0 : n = 0 := by
   rcases HR.out.2 with ⟨_, h⟩ | ⟨_, _, _, _, _, h, _⟩
   ·exact h
   ·cases h
  subst hn0
  obtain rfl : l = [] := List.eq_nil_of_length_eq_zero (by have := HR.out.1; simpa using this)
  exact ⟨_, rfl, Row.nil _ _ _, Below.refl _ _, fun k hk => by simp [Value.ownBlock] at hk⟩
 | some a =>
  have hd : Option.isNone (some a) = false := rfl
  rw [hd] at he
  go_enter Tryz.func111, Tryz.ntmps111
  go_wp2_with (at_builtin; refine wpList_append_row _ rfl (.tmp 5) (.tmp 6) 123 123 rfl 5 i0 _ 1 1 Tryz.underlying123 hi hz0 hz1 hz2 rfl (by omega) (.slice (some ⟨w.heap.size, 0, none⟩) 0 0) 0 [] rfl (Row.new w 5 1 0 #[] (by simp [maxLen]) rfl) (.slice (some a) n cap) n (l.map bv) rfl ((HR.out.alloc _).src Tryz.underlying123 (bv_one l)) (by simp only [maxLen]; omega) (by omega) ?_; intro v1 w1 hR1 hC1 hv1)
  go_ret
  simp only [Nat.zero_add, List.nil_append] at hR1
  refine ⟨v1, rfl, hR1, ?_, ?_⟩
  ·exact (((Chg.refl (fun _ => False) w).alloc _).next hC1 (fun k hk => .inr (by simp [Value.ownBlock] at hk; omega))).belowAll
  ·intro k hk
   rcases hv1 with h | h <;> rw [h] at hk <;> simp [Value.ownBlock] at hk <;> omega
def z32 : Array Value := #[.int .u8 0, .int .u8 0, .int .u8 0, .int .u8 0, .int .u8 0, .int .u8 0, .int .u8 0, .int .u8 0, .int .u8 0, .int .u8 0, .int .u8 0, .int .u8 0, .int .u8 0, .int .u8 0, .int .u8 0, .int .u8 0, .int .u8 0, .int .u8 0, .int .u8 0, .int .u8 0, .int .u8 0, .int .u8 0, .int .u8 0, .int .u8 0, .int .u8 0, .int .u8 0, .int .u8 0, .int .u8 0, .int .u8 0, .int .u8 0, .int .u8 0, .int .u8 0]
def SumIs (w : World) (l : List UInt8) (e : Ending) (w' : World) : Prop := e = .returned (.agg (l.map bv).toArray) ∧ Below w.heap.size w w'
theorem z32_eq : z32 = (List.replicate 32 (bv 0)).toArray := rfl
theorem z32_at (i : Nat) (hi : i < 32) : z32[i]? = some (bv 0) := by
 rw [z32_eq, List.getElem?_toArray, List.getElem?_replicate, if_pos hi]
theorem bytes_length (x : St) : x.bytes.length = 32 := rfl
theorem bytes_size (x : St) : (x.bytes.map bv).toArray.size = 32 := by rw [List.size_toArray, List.length_map, bytes_length]
theorem info_sum : (Tryz.prog.info? 60).map (·.size) = some 32 := by kernel_rfl
theorem bytes_at (x : St) (j : Nat) (hj : j < 8) : x.bytes.getD (4 * j) 0 = (x.words.getD j 0 >>> 24).toUInt8 ∧ x.bytes.getD (4 * j + 1) 0 = (x.words.getD j 0 >>> 16).toUInt8 ∧
  x.bytes.getD (4 * j + 2) 0 = (x.words.getD j 0 >>> 8).toUInt8 ∧ x.bytes.getD (4 * j + 3) 0 = (x.words.getD j 0).toUInt8 := by
 have h : j = 0 ∨ j = 1 ∨ j = 2 ∨ j = 3 ∨ j = 4 ∨ j = 5 ∨ j = 6 ∨ j = 7 := by omega
 clear hj
 rcases h with rfl | rfl | rfl | rfl | rfl | rfl | rfl | rfl <;> exact ⟨rfl, rfl, rfl, rfl⟩
theorem byte0_eq (y : UInt32) : Value.int IntKind.u8 ((y.toNat : Int) % 256) = bv y.toUInt8 := by unfold bv; rw [u32_to_u8]
theorem byte1_eq (y : UInt32) : Value.int IntKind.u8 ((y.toNat : Int) / 256 % 256) = bv (y >>> 8).toUInt8 := by
 have h : (y.toNat : Int) / (256 : Int) = ((y >>> 8).toNat : Int) := shr_u32 y 8 (by omega)
 unfold bv; rw [h, u32_to_u8]
theorem byte2_eq (y : UInt32) : Value.int IntKind.u8 ((y.toNat : Int) / 65536 % 256) = bv (y >>> 16).toUInt8 := by
 have h : (y.toNat : Int) / (65536 : Int) = ((y >>> 16).toNat : Int) := shr_u32 y 16 (by omega)
 unfold bv; rw [h, u32_to_u8]
theorem byte3_eq (y : UInt32) : Value.int IntKind.u8 ((y.toNat : Int) / 16777216 % 256) = bv (y >>> 24).toUInt8 := by
 have h : (y.toNat : Int) / (16777216 : Int) = ((y >>> 24).toNat : Int) := shr_u32 y 24 (by omega)
 unfold bv; rw [h, u32_to_u8]
theorem lenByte_eq (n i : Nat) : Value.int IntKind.u8 ((n : Int) * 8 / 2 ^ (8 * i) % 256) = bv (lenByte n i) := by
 unfold bv lenByte
 congr 1
set_option maxRecDepth 20000 in
set_option maxHeartbeats 1000000 in
theorem Sum_any (S : Nat → Prop) (b : Nat) (v : St) (rest : List UInt8) (n : Nat) (w : World) (hH : HashAt w S b v rest n) (hT : ShaTabs w)
  (hn : n ≤ 1152921504606846976) (hr : rest.length ≤ 4294960000) :
  Calls Tryz.prog 65 #[.pointer (some ⟨b, 0, none⟩)] w (SumIs w (sumOf v rest n)) := by
 obtain ⟨rv, hB, hR, hSb, hSr⟩ := hH
 obtain ⟨i0, hi, hz0, hz1, hz2⟩ := info_parts info_u8
 have hc := hB.cell
 unfold hashCells at hc
 have HB := Lib.hid hB; clear hB
 have HR := Lib.hid hR; clear hR
 have HT := Lib.hid hT; clear hT
 have hb := HB.out.lt
 have hb1 : b < w.heap.size + 1 := by omega
 have hb2 : b < w.heap.size + 1 + 1 := by omega
 obtain ⟨ra, rc, rfl, hrc, _⟩ := HR.out.shape
 go_enter Tryz.func65, Tryz.ntmps65
 go_wp2_with fail
 refine (Clone_any _ _ rest.length rest (((HR.out.alloc _).alloc _).alloc _) (by omega)).mono ?_
 rintro e w1 ⟨v1, rfl, hR1, hb1, hf1⟩
 go_wp2_with (at_builtin; refine wpList_append_row _ rfl (.tmp 21) (.tmp 22) 123 123 rfl 5 i0 _ 1 1 Tryz.underlying123 hi hz0 hz1 hz2 rfl (by omega) v1 rest.length (rest.map bv) rfl (hR1.alloc _) (.slice (some ⟨w1.heap.size, 0, none⟩) 1 1) 1 [bv 128] rfl (Row.src (Row.new w1 5 1 1 #[.int .u8 128] (by simp [maxLen]) rfl) Tryz.underlying123 (bv_one [128])) (by simp only [maxLen]; omega) (by omega) ?_; intro v2 w2 hR2 hC2 hv2)
 have hz : w.heap.size + 3 ≤ w1.heap.size := by have := hb1.size; simp at this; omega
 have k0 : Blk w1 w.heap.size 60 z32 := (((Blk.new w 60 z32).alloc _).alloc _).belowAll hb1
 have k1 : Blk w1 (w.heap.size + 1) 60 z32 := by
  have := ((Blk.new (w.alloc (.cells z32 60)) 60 z32).alloc _).belowAll hb1
  simpa using this
 have k2 : Blk w1 (w.heap.size + 1 + 1) 181 (hashCells v (.slice none 0 0) (.int .i64 0)) := by
  have := (Blk.new ((w.alloc (.cells z32 60)).alloc (.cells z32 60)) 181 (hashCells v (.slice none 0 0) (.int .i64 0))).belowAll hb1
  simpa using this
 have hw1 : Chg (fun _ => False) w w1 := (((Chg.refl _ w).alloc _).alloc _).alloc _ |>.then_below hb1
 have hcw2 : Chg (fun k => w.heap.size + 3 ≤ k) w1 w2 := ((Chg.refl _ w1).alloc _).next hC2 (fun k hk => .inl (by have := hf1 k hk; simp at this; omega))
 have hf2 : ∀ k, v2.ownBlock = some k → w.heap.size + 3 ≤ k := fun k hk => by
  rcases hv2 with h | h
  ·have := hf1 k (h.symm.trans hk); simp at this; omega
  ·rw [h] at hk; simp at hk; omega
 clear hv2 hC2 hR1 hf1 hb1
 have Hk : Hid (Blk w1 w.heap.size 60 z32 ∧ Blk w1 (w.heap.size + 1) 60 z32 ∧ Blk w1 (w.heap.size + 1 + 1) 181 (hashCells v (.slice none 0 0) (.int .i64 0))) := ⟨k0, k1, k2⟩
 clear k0 k1 k2 hc
 go_loopg [5] (zeros rest.length) (fun k sl wr => ∃ j, k = zeros rest.length - j ∧ j ≤ zeros rest.length ∧ Row wr 5 1 sl (rest.length + 1 + j) ((rest ++ 128 :: List.replicate j 0).map bv) ∧ Chg (fun k => w.heap.size + 3 ≤ k) w1 wr ∧ ∀ k, sl.ownBlock = some k → w.heap.size + 3 ≤ k)
 case atStart => exact ⟨0, by omega, by omega, by simpa using hR2, hcw2, hf2⟩
 case round =>
  obtain ⟨j, rfl, hj, hRj, hCj, hfj⟩ := hrel
  obtain ⟨aj, cj, rfl, hcj, hcj2⟩ := hRj.shape
  have HRj := Lib.hid hRj; clear hRj
  have hjz : zeros rest.length < 64 := by unfold zeros; omega
  by_cases hlt : j < zeros rest.length
  ·have ht : (rest.length + 1 + j) % 64 ≠ 56 := by unfold zeros at hlt; omega
   have hmb : rest.length + 1 + j ≤ 4294967000 := by omega
   generalize hm : rest.length + 1 + j = m at *
   have Hm := Lib.hid hm; clear hm
   have htb : (((m : Int) % 64) != 56) = true := by rw [bne_iff_ne]; omega
   go_wp2_with (at_builtin; refine wpList_append_row _ rfl (.tmp 28) (.tmp 29) 123 123 rfl 5 i0 _ 1 1 Tryz.underlying123 hi hz0 hz1 hz2 rfl (by omega) (.slice aj m cj) m ((rest ++ 128 :: List.replicate j 0).map bv) rfl (HRj.out.alloc _) (.slice (some ⟨wr.heap.size, 0, none⟩) 1 1) 1 [bv 0] rfl (Row.src (Row.new wr 5 1 1 #[.int .u8 0] (by simp [maxLen]) rfl) Tryz.underlying123 (bv_one [0])) (by simp only [maxLen]; omega) (by omega) ?_; intro v3 w3 hR3 hC3 hv3)
   go_roundg (zeros rest.length - (j + 1))
   case measure => omega
   case rel =>
    refine ⟨j + 1, rfl, by omega, ?_, (hCj.alloc _).next hC3 (fun k hk => .inl (hfj k hk)), fun k hk => ?_⟩
    ·rw [← Hm.out] at hR3
     rw [List.replicate_succ', ← List.cons_append, ← List.append_assoc, List.map_append]
     exact hR3
    ·rcases hv3 with h | h
     ·exact hfj k (h.symm.trans hk)
     ·rw [h] at hk; have := hCj.size; simp at hk; omega
  ·have ht : (rest.length + 1 + j) % 64 = 56 := by unfold zeros at hlt hj; omega
   have hmb : rest.length + 1 + j ≤ 4294967000 := by omega
   obtain rfl : j = zeros rest.length := by omega
   generalize hm : rest.length + 1 + zeros rest.length = m at *
   have Hm := Lib.hid hm; clear hm
   have htb : (((m : Int) % 64) != 56) = false := by rw [bne_eq_false_iff_eq]; omega
   have Ht := Lib.hid ht; clear ht
   have HC := Lib.hid hCj; clear hCj
   obtain ⟨w4, rfl⟩ : ∃ w4 : World, w4 = wr := ⟨_, rfl⟩
   go_wp2_with fail
   go_loopg [5, 6] 8 (fun k sl i wr => ∃ j : Nat, j ≤ 8 ∧ k = 8 - j ∧ i = .int .i64 (7 - (j : Int)) ∧ Row wr 5 1 sl (m + j) ((rest ++ 128 :: (List.replicate (zeros rest.length) 0 ++ lenTo n j)).map bv) ∧ Chg (fun k => w.heap.size + 3 ≤ k) w1 wr ∧ ∀ k, sl.ownBlock = some k → w.heap.size + 3 ≤ k)
   case atStart => exact ⟨0, by omega, rfl, rfl, by simpa [lenTo] using HRj.out, HC.out, hfj⟩
   case round =>
    obtain ⟨j, hj8, rfl, rfl, hR5, hC5, hf5⟩ := hrel
    obtain ⟨a5, c5, rfl, hc5, hc52⟩ := hR5.shape
    have HR5 := Lib.hid hR5; clear hR5
    have hcb : wr.cell? ⟨b, 9, none⟩ = some (.int .i64 n) := by
     rw [hC5.cell (p := ⟨b, 9, none⟩) (Nat.lt_of_lt_of_le hb hw1.size) (by show ¬ _ ≤ b; omega), hw1.cell (p := ⟨b, 9, none⟩) hb (fun f => f), HB.out.cell]; rfl
    by_cases hlt : j < 8
    ·have hle : decide ((j : Int) ≤ 7) = true := by simp; omega
     have Hb : Hid (Value.int IntKind.u8 ((n : Int) * 8 / 2 ^ (8 * (7 - j)) % 256) = bv (lenByte n (7 - j))) := lenByte_eq n (7 - j)
     go_wp2_with (at_builtin; refine wpList_append_row _ rfl (.tmp 35) (.tmp 47) 123 123 rfl 5 i0 _ 1 1 Tryz.underlying123 hi hz0 hz1 hz2 rfl (by omega) (.slice a5 (m + j) c5) (m + j) _ rfl (HR5.out.alloc _) (.slice (some ⟨wr.heap.size, 0, none⟩) 1 1) 1 [Value.int IntKind.u8 ((n : Int) * 8 / 2 ^ (8 * (7 - j)) % 256)] rfl (Row.src (Row.new wr 5 1 1 #[Value.int IntKind.u8 ((n : Int) * 8 / 2 ^ (8 * (7 - j)) % 256)] (by simp [maxLen]) rfl) Tryz.underlying123 (fun u hu => by simp at hu; subst hu; rfl)) (by simp only [maxLen]; omega) (by omega) ?_; intro v6 w6 hR6 hC6 hv6)
     go_roundg (8 - (j + 1))
     case measure => omega
     case rel =>
      refine ⟨j + 1, by omega, rfl, by congr 1; omega, ?_, (hC5.alloc _).next hC6 (fun k hk => .inl (hf5 k hk)), fun k hk => ?_⟩
      ·rw [Hb.out] at hR6
       have e1 : rest ++ 128 :: (List.replicate (zeros rest.length) 0 ++ lenTo n (j + 1)) = (rest ++ 128 :: (List.replicate (zeros rest.length) 0 ++ lenTo n j)) ++ [lenByte n (7 - j)] := by simp [lenTo]
       rw [e1, List.map_append]
       exact hR6
      ·rcases hv6 with h | h
       ·exact hf5 k (h.symm.trans hk)
       ·rw [h] at hk; have := hC5.size; simp at hk; omega
    ·obtain rfl : j = 8 := by omega
     have hle : decide ((8 : Int) ≤ 7) = false := by simp
     have hcv : ∀ W : World, W = wr → (convert 123 9 (.slice a5 (m + 8) c5)).run Tryz.prog W = .ok (.string ⟨(rest ++ pad rest.length n).toArray⟩) W := by
      rintro W rfl
      exact run_str_of_row W _ _ _ _ _ _ Tryz.underlying123 Tryz.underlying5 Tryz.underlying9 HR5.out
     have hcv' := hcv wr rfl
     clear hcv
     have Hlen : Hid ((rest ++ pad rest.length n).length = m + 8) := by
      show _ = _
      have := HR5.out.1; simpa [pad] using this
     obtain ⟨w7, rfl⟩ : ∃ w7 : World, w7 = wr := ⟨_, rfl⟩
     have hsz : (ByteArray.mk (rest ++ pad rest.length n).toArray).size = m + 8 := Hlen.out
     have hnt : NoTab (fun k => w.heap.size + 1 + 1 ≤ k) := noTab_from HT.out (by omega)
     have hT7 : ShaTabs w7 := (HT.out.chg hw1 ⟨fun f => f, fun f => f⟩).chg hC5 (noTab_from HT.out (by omega))
     have hX : HashAt w7 (fun k => w.heap.size + 1 + 1 ≤ k) (w.heap.size + 1 + 1) v [] 0 :=
      ⟨_, Hk.out.2.2.chg hC5 (by omega), Row.nil _ _ _, Nat.le_refl _, fun k hk => by simp [Value.ownBlock] at hk⟩
     have Hsz := Lib.hid hsz; clear hsz
     go_wp2_with fail
     refine (HWrite_any _ _ v [] 0 _ w7 hX hT7 hnt (by rw [Hsz.out]; omega) (by rw [Hsz.out]; simp; omega)).mono ?_
     rintro e w8 ⟨rfl, hX8, hC8⟩
     simp only [List.nil_append] at hX8
     obtain ⟨rv8, hB8, _, _, _⟩ := hX8
     have HF : Hid (sumOf v rest n = (absorb v (rest ++ pad rest.length n)).1.bytes) := rfl
     generalize (absorb v (rest ++ pad rest.length n)).1 = x at *
     have hc8 := hB8.cell
     unfold hashCells at hc8
     have HB8 := Lib.hid hB8; clear hB8
     clear hcv'
     have k0 : Blk w8 w.heap.size 60 z32 := (Hk.out.1.chg hC5 (by omega)).chg hC8 (by omega)
     have k1 : Blk w8 (w.heap.size + 1) 60 z32 := (Hk.out.2.1.chg hC5 (by omega)).chg hC8 (by omega)
     have Hk0 := Lib.hid k0; clear k0
     have Hk1 := Lib.hid k1; clear k1
     have hw8 : Chg (fun _ => False) w w8 := (hw1.next hC5 (fun i h => .inr (by omega))).next hC8 (fun i h => .inr (by omega))
     have hidx := fun (j : Nat) (W : World) (hj : j < 8) => index_st x j W hj
     have Hidx := Lib.hid hidx; clear hidx
     go_wp2_with fail
     clear hc8
     go_loopg [54] 8 (fun k i wr => ∃ j : Nat, j ≤ 8 ∧ k = 8 - j ∧ i = .int .i64 j ∧ wr.rowIs (w.heap.size + 1) 60 32 (fun k => bv (if k < 4 * j then x.bytes.getD k 0 else 0)) ∧ Chg (fun k => k = w.heap.size + 1) w8 wr)
     case atStart =>
      refine ⟨0, by omega, rfl, rfl, Hk1.out.row rfl (fun i hi => ?_), Chg.refl _ _⟩
      rw [if_neg (by omega)]
      exact z32_at i hi
     case round =>
      obtain ⟨j, hj8, rfl, rfl, hr9, hC9⟩ := hrel
      by_cases hlt : j < 8
      ·have hix := fun W => Hidx.out j W hlt
       have c0 := hr9.cell (i := 4 * j) (by omega)
       have c1 := hr9.cell (i := 4 * j + 1) (by omega)
       have c2 := hr9.cell (i := 4 * j + 2) (by omega)
       have c3 := hr9.cell (i := 4 * j + 3) (by omega)
       have f0 := hr9.frozen
       generalize hy : x.words.getD j 0 = y at *
       have Hy := Lib.hid hy; clear hy
       go_wp2_with fail
       go_roundg (8 - (j + 1))
       case measure => omega
       case rel =>
        refine ⟨j + 1, by omega, rfl, by go_num, ?_, (((hC9.setCell (.inl rfl) _).setCell (.inl rfl) _).setCell (.inl rfl) _).setCell (.inl rfl) _⟩
        obtain ⟨y0, y1, y2, y3⟩ := bytes_at x j hlt
        rw [Hy.out] at y0 y1 y2 y3
        refine ((((hr9.set (4 * j) _).set (4 * j + 1) _).set (4 * j + 2) _).set (4 * j + 3) _).congr (fun k hk => ?_)
        show (if k = 4 * j + 3 then _ else if k = 4 * j + 2 then _ else if k = 4 * j + 1 then _ else if k = 4 * j then _ else _) = _
        by_cases e3 : k = 4 * j + 3
        ·rw [if_pos e3, if_pos (by omega), e3, y3, byte0_eq]
        rw [if_neg e3]
        by_cases e2 : k = 4 * j + 2
        ·rw [if_pos e2, if_pos (by omega), e2, y2, byte1_eq]
        rw [if_neg e2]
        by_cases e1 : k = 4 * j + 1
        ·rw [if_pos e1, if_pos (by omega), e1, y1, byte2_eq]
        rw [if_neg e1]
        by_cases e0 : k = 4 * j
        ·rw [if_pos e0, if_pos (by omega), e0, y0, byte3_eq]
        rw [if_neg e0]
        by_cases el : k < 4 * j
        ·rw [if_pos el, if_pos (by omega)]
        ·rw [if_neg el, if_neg (by omega)]
      ·obtain rfl : j = 8 := by omega
       have hB9 : Blk wr (w.heap.size + 1) 60 (x.bytes.map bv).toArray := Blk.of_row hr9 (by simp [bytes_length]) (fun i hi => by
        simp only [List.getElem?_toArray, List.getElem?_map]
        rw [if_pos (by omega), List.getElem?_eq_getElem (by rw [bytes_length]; exact hi)]
        simp [List.getD, List.getElem?_eq_getElem (show i < x.bytes.length by rw [bytes_length]; exact hi)])
       have hB0 : Blk wr w.heap.size 60 z32 := Hk0.out.chg hC9 (by omega)
       have HB9 := Lib.hid hB9; clear hB9
       have HB0 := Lib.hid hB0; clear hB0
       have HR9 := Lib.hid hr9; clear hr9
       go_wp2_with (first
        | (refine wpList_load_blk rfl 60 (.tmp 3) rfl (w.heap.size + 1) rfl HB9.out Tryz.underlying60 rfl (by rw [bytes_size]; exact info_sum) ?_)
        | ((refine wpList_store_blk rfl 60 (.tmp 2) (.tmp 85) rfl w.heap.size (x.bytes.map bv).toArray rfl rfl HB0.out (by rw [bytes_size]; exact info_sum) (by rw [bytes_size]; rfl) (bv_one x.bytes) ?_); intro w10 hB10 hC10))
       refine bodyPost_ret (results_blk rfl _ _ w.heap.size rfl hB10 Tryz.underlying60 rfl (by rw [bytes_size]; exact info_sum)) rfl ?_
       exact ⟨by rw [HF.out], ((hw8.next hC9 (fun i h => .inr (by omega))).next hC10 (fun i h => .inr (by omega))).belowAll⟩
end Go.Proofs.YtnlabkogebnioaaGreatDoor
namespace Go.Proofs.YtnlabkogebnioaaGreatDoor
open Go.RowKit Sha
theorem sha_length (m : List UInt8) : (sha m).length = 32 := rfl
theorem sum_size {l : List UInt8} (h : l.length = 32) : (l.map bv).toArray.size = 32 := by rw [List.size_toArray, List.length_map, h]
set_option maxRecDepth 20000 in
set_option maxHeartbeats 1000000 in
theorem ShaOf_any (s : ByteArray) (w : World) (hT : ShaTabs w) (hs : s.size ≤ 4294960000) :
  Calls Tryz.prog 24 #[.string s] w (SumIs w (sha s.data.toList)) := by
 have HT := Lib.hid hT; clear hT
 have k0 := Blk.new w 60 z32
 have Hk := Lib.hid k0; clear k0
 go_enter Tryz.func24, Tryz.ntmps24
 go_wp2_with fail
 ((with_reducible refine (New_any _ (HT.out.alloc _)).mono ?_); rintro e w1 ⟨b, rfl, hX1, hb1⟩)
 have hT1 : ShaTabs w1 := (HT.out.alloc _).belowAll hb1
 have hX1' := hX1.mono (T := fun k => w.heap.size + 1 ≤ k) (fun k hk => by simp at hk; omega)
 go_wp2_with fail
 ((with_reducible refine (HWrite_any (fun k => w.heap.size + 1 ≤ k) b begin_ [] 0 s w1 hX1' hT1 (noTab_from HT.out (by omega)) (by omega) (by simp; omega)).mono ?_); rintro e w2 ⟨rfl, hX2, hC2⟩)
 simp only [List.nil_append, Nat.zero_add] at hX2
 have hT2 : ShaTabs w2 := hT1.chg hC2 (noTab_from HT.out (by omega))
 go_wp2_with fail
 ((with_reducible refine (Sum_any _ _ _ _ _ w2 hX2 hT2 (by omega) (by rw [absorb_length]; omega)).mono ?_); rintro e w3 ⟨rfl, hb3⟩)
 have hc2 : Chg (fun _ => False) w w2 := (((Chg.refl _ w).alloc _).then_below hb1).next hC2 (fun i h => .inr (by omega))
 have hB3 : Blk w3 w.heap.size 60 z32 := ((Hk.out.belowAll hb1).chg hC2 (by omega)).belowAll hb3
 have HF : Hid (sumOf (absorb begin_ s.data.toList).1 (absorb begin_ s.data.toList).2 s.size = sha s.data.toList) := rfl
 have HB3 := Lib.hid hB3; clear hB3
 rw [HF.out]
 go_wp2_with (refine wpList_store_blk rfl 60 (.tmp 2) (.tmp 9) rfl w.heap.size ((sha s.data.toList).map bv).toArray rfl rfl HB3.out (by rw [sum_size (sha_length _)]; exact info_sum) (by rw [sum_size (sha_length _)]; rfl) (bv_one (sha s.data.toList)) ?_; intro w10 hB10 hC10)
 refine bodyPost_end (results_blk rfl _ _ w.heap.size rfl hB10 Tryz.underlying60 rfl (by rw [sum_size (sha_length _)]; exact info_sum)) rfl ?_
 exact ⟨rfl, ((hc2.then_below hb3).next hC10 (fun i h => .inr (by omega))).belowAll⟩
end Go.Proofs.YtnlabkogebnioaaGreatDoor
namespace Go.Proofs.YtnlabkogebnioaaGreatDoor
open Go.RowKit Go.Shelf
shelf_lay LaysM.n171 Nm 171 at Tryz as Tryz.lays171
def PowTab (w : World) : Prop := Lib.TabIs Tryz.prog w "internal/strconv.uint64pow10" .u64 Lib.pow10Tab
theorem Itoa_any (n : Nat) (w : World) (hT : PowTab w) (hn : n ≤ 9223372036854775807) : Calls Tryz.prog 102 #[.int .i64 n] w fun e w' => e = .returned (str (Lib.decDigits n)) ∧ Below w.heap.size w w' := by
 refine (Any.strconv_Itoa Tryz.lays171 (n : Int) (by omega) (by omega) w hT).mono ?_
 rintro e w' ⟨rfl, k, os, rfl⟩
 refine ⟨?_, ?_⟩
 ·rw [Lib.itoa_nonneg]
  rfl
 ·refine ⟨rfl, rfl, rfl, ?_, fun k hk => ?_⟩
  ·show w.heap.size ≤ (w.heap ++ os).size
   rw [Array.size_append]; omega
  ·show (w.heap ++ os)[k]? = _
   rw [Array.getElem?_append_left hk]
theorem PowTab.bel {w w' : World} (h : PowTab w) (hb : Below w.heap.size w w') : PowTab w' := Go.Joins.tab_stays (g := 2) (by kernel_rfl) h hb (Nat.le_refl _)
theorem pright_any (n : Int) (w : World) : Calls Tryz.prog 86 #[.int .i64 n] w fun e w' => e = .returned (.bool (rightP n)) ∧ Below w.heap.size w w' := by
 refine W_enter (args := [.int .i64 n]) 9 Tryz.func86 rfl rfl rfl (W_sub [(0, .int .i64 n)] ?_ ⟨rfl, trivial⟩)
 have hbw := Below.refl w.heap.size w
 refine W_rs (sa rfl rfl (Wn (tN (W_rs (sm rfl rfl (st (X.geq rfl rfl) rfl (sb rfl rfl (fun h5 => ?_) (fun h5 => ?_))))))))
 ·first | replace h5 := of_decide_eq_true h5 | replace h5 := of_decide_eq_false (notT h5) | replace h5 := notT h5 | skip
  refine gY (g := 5) rfl rfl rfl (sm rfl rfl (gY (g := 5) rfl rfl rfl (st (X.leq rfl rfl) rfl (st (X.pickT rfl rfl) rfl (sa rfl rfl (Wn (tN (W_ret ((rT rfl rfl ⟨?_, hbw⟩).1)))))))))
  congr 2
  unfold rightP
  simp
  omega
 ·first | replace h5 := of_decide_eq_false h5 | replace h5 := of_decide_eq_true (notF h5) | replace h5 := notF h5 | skip
  refine gN (g := 5) rfl rfl rfl rfl (gN (g := 5) rfl rfl rfl rfl (st (X.pickF rfl rfl) rfl (sa rfl rfl (Wn (tN (W_ret ((rT rfl rfl ⟨?_, hbw⟩).1)))))))
  congr 2
  unfold rightP
  simp
  omega
theorem pbs4 (a b c d : UInt8) (w : World) : (Instr.buildSlice 123 4 #[(0, bv a), (1, bv b), (2, bv c), (3, bv d)]).run Tryz.prog w = .ok (.slice (some ⟨w.heap.size, 0, none⟩) 4 4) (w.alloc (.cells #[bv a, bv b, bv c, bv d] 5)) := by kernel_rfl
theorem pfour_any (n : Int) (w : World) : Calls Tryz.prog 53 #[.int .i64 n] w fun e w' => e = .returned (str (four n)) ∧ Below w.heap.size w w' := by
 refine W_enter (args := [.int .i64 n]) 16 Tryz.func53 rfl rfl rfl (W_sub [(0, .int .i64 n)] ?_ ⟨rfl, trivial⟩)
 have hbw := Below.refl w.heap.size w
 refine W_rs (sa rfl rfl (Wn (tN (W_rs (sm rfl rfl (st (X.convI rfl Tryz.underlying3 Tryz.underlying5 (wb _)) rfl (sm rfl rfl (st (X.shr (q := 256) rfl rfl (by decide) (by decide) rfl rfl) rfl (st (X.convI rfl Tryz.underlying3 Tryz.underlying5 (wb _)) rfl (sm rfl rfl ?_))))))))))
 refine st (X.shr (q := 65536) rfl rfl (by decide) (by decide) rfl rfl) rfl (st (X.convI rfl Tryz.underlying3 Tryz.underlying5 (wb _)) rfl (sm rfl rfl (st (X.shr (q := 16777216) rfl rfl (by decide) (by decide) rfl rfl) rfl (st (X.convI rfl Tryz.underlying3 Tryz.underlying5 (wb _)) rfl (sbs 1 rfl (pbs4 _ _ _ _ _) (by simp [maxLen]) rfl rfl (fun g w1 hR hg hb => ?_))))))
 replace hbw := bthen hbw hb
 refine st (X.strOf (s := four n) rfl Tryz.underlying123 Tryz.underlying5 Tryz.underlying9 hR.reads) rfl (sa rfl rfl (Wn (tN (W_ret ?_))))
 exact (rT rfl rfl ⟨rfl, hbw⟩).1
theorem take_zeros (k : Nat) (h : k ≤ 6) : List.take k [48, 48, 48, 48, 48, 48] = List.replicate k (48 : UInt8) := by
 rw [show ([48, 48, 48, 48, 48, 48] : List UInt8) = List.replicate 6 48 from rfl, List.take_replicate, Nat.min_eq_left h]
theorem pnamed_any (kind : List UInt8) (n : Int) (w : World) (hT : PowTab w) (hk : kind.length ≤ 1000) : Calls Tryz.prog 58 #[str kind, .int .i64 n] w fun e w' => e = .returned (str (namedP kind n)) ∧ Below w.heap.size w w' := by
 refine W_enter (args := [str kind, .int .i64 n]) 19 Tryz.func58 rfl rfl rfl (W_sub [(0, str kind), (1, .int .i64 n)] ?_ ⟨rfl, rfl, trivial⟩)
 have hbw := Below.refl w.heap.size w
 refine W_rs (sa rfl rfl (Wn (tN (W_seq (W_rs (sm rfl rfl (sc _ Tryz.func86 rfl (by kernel_rfl) rfl rfl ((pright_any n _).mono ?_))))))))
 rintro e_ w1 ⟨rfl, hb⟩
 refine cR ?_
 replace hbw := bthen hbw hb
 replace hT := hT.bel hb
 have hz_w1 := hb.size
 clear hb
 refine st (X.not rfl) rfl (Wn (tN (W_if rfl (fun h8 => ?_) (fun h8 => ?_))))
 ·first | replace h8 := of_decide_eq_true h8 | replace h8 := of_decide_eq_false (notT h8) | replace h8 := notT h8 | skip
  refine W_rs (sa rfl rfl (Wn (tN (W_ret (tR ?_)))))
  exact (rT rfl rfl ⟨by rw [namedP, if_neg (by simpa [rightP] using h8)]; rfl, hbw⟩).1
 ·first | replace h8 := of_decide_eq_false h8 | replace h8 := of_decide_eq_true (notF h8) | replace h8 := notF h8 | skip
  have hn : 0 ≤ n ∧ n ≤ 999999 := h8
  obtain ⟨m, rfl⟩ : ∃ m : Nat, n = m := ⟨n.toNat, by omega⟩
  obtain ⟨hd1, hd2⟩ := six_dec (n := m) (by omega)
  refine W_skip (tN (W_rs (sm rfl rfl (sc _ Tryz.func102 rfl (by kernel_rfl) rfl rfl ((Itoa_any m _ hT (by omega)).mono ?_)))))
  rintro e_ w2 ⟨rfl, hb⟩
  refine cR ?_
  replace hbw := bthen hbw hb
  replace hT := hT.bel hb
  have hz_w2 := hb.size
  clear hb
  refine sa rfl rfl (Wn (tN (W_rs (sm rfl rfl (sm rfl rfl (st (X.lenS rfl rfl Tryz.underlying9) rfl (st (X.sub64 rfl rfl (by omega)) rfl (st (X.toS (j := 6 - (Lib.decDigits m).length) rfl rfl Tryz.underlying9 (by omega) (by simp)) rfl ?_))))))))
  rw [take_zeros (6 - (Lib.decDigits m).length) (by omega)]
  refine st (X.cat rfl rfl (by simp; omega)) rfl ?_
  refine sm rfl rfl (st (X.cat rfl rfl (by simp; omega)) rfl ?_)
  rw [List.append_assoc, hd2]
  refine sa rfl rfl (Wn (tN (W_ret ?_)))
  exact (rT rfl rfl ⟨by rw [namedP, if_pos (by simpa [rightP] using hn)]; simp, hbw⟩).1
theorem Name_p (n : Int) (w : World) (hT : PowTab w) : Calls Tryz.prog 21 #[.int .i64 n] w fun e w' => e = .returned (str (nameP n)) ∧ Below w.heap.size w w' := by
 refine W_enter (args := [.int .i64 n]) 5 Tryz.func21 rfl rfl rfl (W_sub [(0, .int .i64 n)] ?_ ⟨rfl, trivial⟩)
 have hbw := Below.refl w.heap.size w
 refine W_rs (sa rfl rfl (Wn (tN (W_rs (sm rfl rfl (sc _ Tryz.func58 rfl (by kernel_rfl) rfl rfl ((pnamed_any packB n _ hT (by simp [packB])).mono ?_)))))))
 rintro e_ w1 ⟨rfl, hb⟩
 refine cR ?_
 replace hbw := bthen hbw hb
 replace hT := hT.bel hb
 have hz_w1 := hb.size
 clear hb
 refine sa rfl rfl (Wn (tN (W_ret ?_)))
 exact (rT rfl rfl ⟨rfl, hbw⟩).1
def mayP (d : Bool) (n : Int) : Int := if d = false then 2 else if rightP n = false then 1 else 0
theorem pmay_any (p : Option Addr) (n : Int) (w : World) : Calls Tryz.prog 55 #[.pointer p, .int .i64 n] w fun e w' => e = .returned (.int .i64 (mayP p.isSome n)) ∧ Below w.heap.size w w' := by
 refine W_enter (args := [.pointer p, .int .i64 n]) 12 Tryz.func55 rfl rfl rfl (W_sub [(0, .pointer p), (1, .int .i64 n)] ?_ ⟨rfl, rfl, trivial⟩)
 have hbw := Below.refl w.heap.size w
 refine W_rs (sa rfl rfl (Wn (tN (W_seq (W_block (W_rs (sm rfl rfl (st (X.dEq rfl) rfl (sa rfl rfl (Wn ?_))))))))))
 refine tN (W_if rfl (fun h5 => ?_) (fun h5 => ?_))
 ·first | replace h5 := of_decide_eq_true h5 | replace h5 := of_decide_eq_false (notT h5) | replace h5 := notT h5 | skip
  refine W_rs (sa rfl rfl (Wn (tN (W_ret (bR (tR ?_))))))
  exact (rT rfl rfl ⟨by cases p with | none => rfl | some a => simp at h5, hbw⟩).1
 ·first | replace h5 := of_decide_eq_false h5 | replace h5 := of_decide_eq_true (notF h5) | replace h5 := notF h5 | skip
  obtain ⟨a, rfl⟩ : ∃ a, p = some a := by cases p with | none => simp at h5 | some a => exact ⟨a, rfl⟩
  refine W_rs (sm rfl rfl (sc _ Tryz.func86 rfl (by kernel_rfl) rfl rfl ((pright_any n _).mono ?_)))
  rintro e_ w1 ⟨rfl, hb⟩
  refine cR ?_
  replace hbw := bthen hbw hb
  have hz_w1 := hb.size
  clear hb
  refine st (X.not rfl) rfl (sa rfl rfl (Wn (tN (W_if rfl (fun h8 => ?_) (fun h8 => ?_)))))
  ·first | replace h8 := of_decide_eq_true h8 | replace h8 := of_decide_eq_false (notT h8) | replace h8 := notT h8 | skip
   refine W_rs (sa rfl rfl (Wn (tN (W_ret (bR (tR ?_))))))
   exact (rT rfl rfl ⟨by rw [mayP, if_neg (by simp), if_pos (by simpa [rightP] using h8)], hbw⟩).1
  ·first | replace h8 := of_decide_eq_false h8 | replace h8 := of_decide_eq_true (notF h8) | replace h8 := notF h8 | skip
   refine W_skip (bN (tN (W_rs (sa rfl rfl (Wn (tN (W_ret ?_)))))))
   exact (rT rfl rfl ⟨by rw [mayP, if_neg (by simp), if_neg (by simpa [rightP] using h8)], hbw⟩).1
end Go.Proofs.YtnlabkogebnioaaGreatDoor
namespace Go.Proofs.YtnlabkogebnioaaGreatDoor
open Go.ChangeShapes Go.WideShapes Go.ChangeAt Go.RowKit
theorem info_u8' : (Tryz.prog.info? 5).map (fun i => (i.zero, i.size, i.bytes)) = some (some (.int .u8 0), 1, 1) := by kernel_rfl
theorem cells_u8 : Tryz.prog.cellsOf 5 = 1 := by kernel_rfl
theorem run_part_byte (l : List UInt8) (i : Nat) (h : i < l.length) (W : World) : (part 5 (l.map bv).toArray i).run Tryz.prog W = .ok (.int .u8 (l.getD i 0).toNat) W := by
 have hc : (l.map bv).toArray[i]? = some (.int .u8 (l.getD i 0).toNat) := by
  rw [List.getElem?_toArray, List.getElem?_map, List.getElem?_eq_getElem h]
  simp [bv, List.getD, List.getElem?_eq_getElem h]
 unfold part
 simp only [Sem.run_bind, isAgg, run_underlying Tryz.underlying5, Result.andThen_ok, Sem.run_pure, Bool.false_eq_true, if_false]
 rw [hc]
 rfl
theorem run_eqItems_bytes (d : Nat) (l m : List UInt8) (W : World) : ∀ is : List Nat, (∀ i ∈ is, i < l.length ∧ i < m.length) →
  (Op.eqItems (d + 1) 5 1 (l.map bv).toArray (m.map bv).toArray is).run Tryz.prog W = .ok (is.all fun i => l.getD i 0 == m.getD i 0) W
 | [], _ => by simp [Op.eqItems]
 | i :: is, h => by
  have hi := h i (by simp)
  have ih := run_eqItems_bytes d l m W is (fun j hj => h j (by simp [hj]))
  simp only [Op.eqItems, Sem.run_bind, Nat.mul_one, run_part_byte l i hi.1 W, run_part_byte m i hi.2 W, Result.andThen_ok, run_equalIn_int W d 5 .u8 .u8 _ _ Tryz.underlying5]
  have e : (((l.getD i 0).toNat : Int) == ((m.getD i 0).toNat : Int)) = (l.getD i 0 == m.getD i 0) := by
   rw [Bool.eq_iff_iff, beq_iff_eq, beq_iff_eq]
   exact ⟨fun h => UInt8.toNat.inj (by omega), fun h => by rw [h]⟩
  rw [e]
  cases hq : (l.getD i 0 == m.getD i 0)
  ·simp only [Bool.not_false, if_true, Sem.run_pure, List.all_cons, hq, Bool.false_and]
  ·simp only [Bool.not_true, Bool.false_eq_true, if_false, ih, List.all_cons, hq, Bool.true_and]
theorem all_getD (l m : List UInt8) (n : Nat) (hl : l.length = n) (hm : m.length = n) : ((List.range n).all fun i => l.getD i 0 == m.getD i 0) = (l == m) := by
 rw [Bool.eq_iff_iff, List.all_eq_true, beq_iff_eq]
 constructor
 ·intro h
  apply List.ext_getElem (by omega)
  intro i h1 h2
  have := h i (by simp; omega)
  simpa [List.getD, List.getElem?_eq_getElem h1, List.getElem?_eq_getElem h2] using this
 ·rintro rfl i _
  simp
theorem run_eql_sum (l m : List UInt8) (hl : l.length = 32) (hm : m.length = 32) (W : World) :
  (binOp .eql 60 (.agg (l.map bv).toArray) (.agg (m.map bv).toArray)).run Tryz.prog W = .ok (.bool (l == m)) W := by
 obtain ⟨i0, hi, hz0, hz1, hz2⟩ := info_parts info_u8'
 simp only [binOp]
 have := run_equalIn_array (P := Tryz.prog) W 9999 (l.map bv).toArray (m.map bv).toArray Tryz.underlying60 hi
 rw [cells_u8, run_eqItems_bytes 9998 l m W (List.range 32) (fun i h => by simp at h; omega), all_getD l m 32 hl hm] at this
 simp [Op.equal, Op.maxDepth, this]
theorem run_neq_sum (l m : List UInt8) (hl : l.length = 32) (hm : m.length = 32) (W : World) :
  (binOp .neq 60 (.agg (l.map bv).toArray) (.agg (m.map bv).toArray)).run Tryz.prog W = .ok (.bool (l != m)) W := by
 obtain ⟨i0, hi, hz0, hz1, hz2⟩ := info_parts info_u8'
 simp only [binOp]
 have := run_equalIn_array (P := Tryz.prog) W 9999 (l.map bv).toArray (m.map bv).toArray Tryz.underlying60 hi
 rw [cells_u8, run_eqItems_bytes 9998 l m W (List.range 32) (fun i h => by simp at h; omega), all_getD l m 32 hl hm] at this
 simp [Op.equal, Op.maxDepth, this, bne]
end Go.Proofs.YtnlabkogebnioaaGreatDoor
namespace Go.Proofs.YtnlabkogebnioaaGreatDoor
open Go.RowKit
abbrev Sum32 : Type := { l : List UInt8 // l.length = 32 }
def encSum (k : Sum32) : Value := .agg (k.1.map bv).toArray
def encInt (n : Int) : Value := .int .i64 n
theorem part_byte (k : Sum32) (i : Nat) (h : i < 32) (w : World) : (part 5 (k.1.map bv).toArray i).run Tryz.prog w = .ok (.int .u8 (k.1.getD i 0).toNat) w := run_part_byte k.1 i (by rw [k.2]; exact h) w
theorem run_forIn_unit {P : Program} {w : World} (f : Nat → PUnit → Sem (ForInStep PUnit)) : ∀ l : List Nat, (∀ i ∈ l, (f i PUnit.unit).run P w = .ok (.yield PUnit.unit) w) → (forIn l PUnit.unit f).run P w = .ok PUnit.unit w
 | [], _ => by simp
 | i :: l, h => by
  have ih := run_forIn_unit f l (fun j hj => h j (by simp [hj]))
  simp only [List.forIn_cons, Sem.run_bind, h i (by simp), Result.andThen_ok]
  exact ih
theorem check_byte (b : Bool) (n : Nat) (m : Int) (w : World) : (Instr.checkKey b (n + 1) 5 (.int .u8 m)).run Tryz.prog w = .ok () w := by
 rw [Instr.checkKey]
 simp [run_underlying Tryz.underlying5]
theorem check_sum (b : Bool) (k : Sum32) (w : World) : (Instr.checkKey b 10000 60 (encSum k)).run Tryz.prog w = .ok () w := by
 obtain ⟨i0, hi, hz0, hz1, hz2⟩ := info_parts info_u8'
 rw [Instr.checkKey]
 simp only [Sem.run_bind, run_underlying Tryz.underlying60, Result.andThen_ok, encSum]
 simp only [Std.Legacy.Range.forIn_eq_forIn_range', Std.Legacy.Range.size, Nat.sub_zero, Nat.add_one_sub_one, Nat.div_one]
 rw [run_forIn_unit]
 ·rfl
 intro i hi2
 have hi3 : i < 32 := by simp at hi2; omega
 simp only [Sem.run_bind, run_sizeOf _ hi, Result.andThen_ok, cells_u8, Nat.mul_one, part_byte k i hi3 w, check_byte, Sem.run_pure]
theorem eq_sum (k q : Sum32) (w : World) : (Op.equal 60 (encSum k) (encSum q)).run Tryz.prog w = .ok (decide (k = q)) w := by
 obtain ⟨i0, hi, hz0, hz1, hz2⟩ := info_parts info_u8'
 have := run_equalIn_array (P := Tryz.prog) w 9999 (k.1.map bv).toArray (q.1.map bv).toArray Tryz.underlying60 hi
 rw [cells_u8, run_eqItems_bytes 9998 k.1 q.1 w (List.range 32) (fun i h => by simp at h; rw [k.2, q.2]; omega), all_getD k.1 q.1 32 k.2 q.2] at this
 have e : decide (k = q) = (k.1 == q.1) := by rw [Bool.eq_iff_iff, decide_eq_true_eq, beq_iff_eq, Subtype.ext_iff]
 rw [e]
 exact this
theorem keySum : KeyLaw Tryz.prog 60 encSum where
 check := check_sum
 find k ks w := by
  rw [run_findKey_eq w (by rw [Tryz.underlying60])]
  have key : ∀ (ks : List (Sum32 × Value × Nat)) (j : Nat), (Instr.findAsking 60 (encSum k) (ks.map fun p => (⟨encSum p.1, p.2.1, p.2.2⟩ : MapEntry)) j).run Tryz.prog w = .ok ((ks.findIdx? fun p => decide (k = p.1)).bind fun i => (ks[i]?).map fun p => (i + j, p.2.1)) w := by
   intro ks
   induction ks with
   | nil => intro j; simp [Instr.findAsking]
   | cons p ks ih =>
    intro j
    simp only [List.map_cons, Instr.findAsking, Sem.run_bind, eq_sum, Result.andThen_ok, List.findIdx?_cons]
    by_cases h : k = p.1
    ·simp [h]
    ·have hd : decide (k = p.1) = false := decide_eq_false h
     simp only [hd, Bool.false_eq_true, if_false, ih (j + 1)]
     cases ks.findIdx? fun p => decide (k = p.1) with
     | none => rfl
     | some i =>
      simp only [Option.map_some, Option.bind_some, List.getElem?_cons_succ]
      rw [show i + 1 + j = i + (j + 1) by omega]
  exact key ks 0
 same k := by
  unfold encSum
  rw [Instr.sameBits]
  simp only [beq_self_eq_true, Bool.true_and, List.all_eq_true]
  intro p hp
  obtain ⟨x, y⟩ := p
  have hxy : x = y := by
   obtain ⟨i, hi, he⟩ := List.mem_iff_getElem.1 hp
   simp only [List.getElem_zip, Prod.mk.injEq] at he
   rw [← he.1, ← he.2]
  subst hxy
  have hm := (List.of_mem_zip hp).1
  simp only [List.mem_map] at hm
  obtain ⟨u, _, rfl⟩ := hm
  simp [Instr.sameBits, bv]
end Go.Proofs.YtnlabkogebnioaaGreatDoor
namespace Go.Proofs.YtnlabkogebnioaaGreatDoor
open Go.RowKit
theorem wideT3 : Wide Fence.wide := fun _ => trivial
end Go.Proofs.YtnlabkogebnioaaGreatDoor
namespace Go.Proofs.YtnlabkogebnioaaGreatDoor
open Go.RowKit
def cmpSum (a b : List UInt8) : Int := Lib.compareBytes a b
def Grows (w w' : World) : Prop := ∃ q os, w' = Sort.grow (w.drewN q) os
def CmpIs (w : World) (n : Int) (e : Ending) (w' : World) : Prop := e = .returned (.int .i64 n) ∧ Grows w w'
theorem blk_bytes {w : World} {g : Nat} {t : TypeId} {l : List UInt8} (h : Blk w g t (l.map bv).toArray) : ∀ j (hj : j < l.length), w.cell? ⟨g, 0 + j, none⟩ = some (.int .u8 (l[j].toNat : Int)) := fun j hj => by
 rw [Nat.zero_add, h.cell, List.getElem?_toArray, List.getElem?_map, List.getElem?_eq_getElem hj]
 rfl
theorem Grows.refl (w : World) : Grows w w := ⟨0, #[], by simp [World.drewN]⟩
theorem Grows.drew {w w' : World} (h : Grows w w') : Grows w w'.drew := by
 obtain ⟨q, os, rfl⟩ := h
 exact ⟨q + 1, os, rfl⟩
theorem Grows.alloc {w w' : World} (h : Grows w w') (o : Obj) : Grows w (w'.alloc o) := by
 obtain ⟨q, os, rfl⟩ := h
 refine ⟨q, os.push o, ?_⟩
 simp only [World.alloc, Sort.grow, World.drewN, Array.push_eq_append, Array.append_assoc]
theorem X.boxA {P : Program} {l : Env} {x : Operand} {t ty : TypeId} {w : World} {cs : Array Value} (hx : ev l x = some (.agg cs)) : X P l (.box t x) ty w (.pointer (some ⟨w.heap.size, 0, none⟩)) (w.alloc (.cells cs t)) := fun ρ hρ => by
 unfold execOp
 simp [hρ _ _ hx, Instr.box, newVar, newRow, Value.cells]
end Go.Proofs.YtnlabkogebnioaaGreatDoor
namespace Go.Proofs.YtnlabkogebnioaaGreatDoor
open Go.RowKit Go.Sort Go.Lib
section
variable {α : Type} [Inhabited α]
theorem flat_get (enc : α → List Value) (k : Nat) (hk : ∀ x, (enc x).length = k) : ∀ (l : List α) (j : Nat), j < l.length * k → (l.flatMap enc)[j]? = some ((flatK enc k l.toArray)[j]!)
 | l, j, hj => by
  have h0 : 0 < k := by rcases Nat.eq_zero_or_pos k with h | h; subst h; simp at hj; exact h
  have hq : j / k < l.length := Nat.div_lt_of_lt_mul (by rw [Nat.mul_comm]; exact hj)
  have hm : j % k < k := Nat.mod_lt _ h0
  rw [get_flatK enc k l.toArray j (by simpa using hj)]
  have hx : l[j / k]? = some l[j / k] := List.getElem?_eq_getElem hq
  have hf := flat_at enc k l (j / k) l[j / k] (fun a _ => hk a) hx
  have e1 : (l.flatMap enc)[j]? = (((l.flatMap enc).drop (j / k * k)).take k)[j % k]? := by
   rw [List.getElem?_take, if_pos hm, List.getElem?_drop]
   congr 1
   have := Nat.div_add_mod j k
   rw [Nat.mul_comm] at this
   omega
  rw [e1, hf]
  have e2 : l.toArray[j / k]! = l[j / k] := by simp [hq]
  rw [e2, List.getElem?_eq_getElem (by rw [hk]; exact hm)]
  rw [getElem!_pos _ _ (by rw [hk]; exact hm)]
theorem row_holds {w : World} {e : TypeId} {k g o n c : Nat} {enc : α → List Value} (hk : ∀ x, (enc x).length = k) {l : List α} (h : Row w e k (.slice (some ⟨g, o, none⟩) n c) n (l.flatMap enc)) (hn : l.length = n) : HoldsK enc k w g o l.toArray := by
 obtain ⟨h1, h2⟩ := h
 rcases h2 with ⟨h2, _⟩ | ⟨g', o', cap, cur, fz, hv, hg, hc1, hc2, hcs, hx, hz⟩
 ·cases h2
 injection hv with hv _ hcap
 injection hv with hv
 injection hv with e1 e2
 subst e1 e2 hcap
 intro j hj
 rw [size_flatK] at hj
 have hj' : j < n * k := by rw [← hn]; simpa using hj
 have hle : n * k ≤ c * k := Nat.mul_le_mul_right k hc1
 have hfg := flat_get enc k hk l j (by rw [hn]; exact hj')
 have hcell : cur[o + j]? = some ((flatK enc k l.toArray)[j]!) := by
  rw [← hfg, ← hx, List.getElem?_take, if_pos hj', List.getElem?_drop, Array.getElem?_toList]
 refine ⟨?_, ?_⟩
 ·show w.cell? ⟨g, o + j, none⟩ = _
  simp only [World.cell?, hg]
  exact hcell
 ·simp only [World.frozen?, hg]
  have := hz (o + j) (by omega)
  simpa using this
theorem sort_row {w w' : World} {e : TypeId} {k g o n c n' : Nat} {enc : α → List Value} (hk : ∀ x, (enc x).length = k) {l : List α} (h : Row w e k (.slice (some ⟨g, o, none⟩) n c) n (l.flatMap enc)) (hn : l.length = n) {d' : Array α} {os : Array Obj} (hd : d'.size = n) (hw : w' = sortWorldK enc k w g o n' d' os) :
  Row w' e k (.slice (some ⟨g, o, none⟩) n c) n (d'.toList.flatMap enc) ∧ Chg (fun q => q = g) w w' := by
 have hH := row_holds hk h hn
 obtain ⟨h1, h2⟩ := h
 rcases h2 with ⟨h2, _⟩ | ⟨g', o', cap, cur, fz, hv, hg, hc1, hc2, hcs, hx, hz⟩
 ·cases h2
 injection hv with hv _ hcap
 injection hv with hv
 injection hv with e1 e2
 subst e1 e2 hcap
 have hlt : g < w.heap.size := (Array.getElem?_eq_some_iff.1 hg).1
 have hH' := holdsK_sortWorldK enc k w g o n' l.toArray d' os hlt hH (by rw [hd]; simpa using hn.symm)
 have hle : n * k ≤ c * k := Nat.mul_le_mul_right k hc1
 have hgo : (sortWorldK enc k w g o n' d' os).heap[g]? = some (.cells (putCells id o (flatK enc k d') cur) e fz) := by
  show ((putRow id (Sort.ahead w n') g o (flatK enc k d')).heap ++ os)[g]? = _
  rw [Array.getElem?_append_left (by rw [size_putRow]; exact hlt)]
  show (w.heap.modify g _)[g]? = _
  rw [Array.getElem?_modify, if_pos rfl, hg]
  rfl
 have hsz : (putCells id o (flatK enc k d') cur).size = cur.size := by simp [putCells]
 refine ⟨⟨?_, .inr ⟨g, o, c, putCells id o (flatK enc k d') cur, fz, rfl, by rw [hw]; exact hgo, hc1, hc2, by rw [hsz]; exact hcs, ?_, by rw [hsz]; exact hz⟩⟩, ?_⟩
 ·rw [flat_length enc k _ (fun a _ => hk a)]; simp [hd]
 ·apply List.ext_getElem?
  intro j
  by_cases hj : j < n * k
  ·rw [List.getElem?_take, if_pos hj, List.getElem?_drop, Array.getElem?_toList]
   have h3 := (hH' j (by rw [size_flatK, hd]; exact hj)).1
   simp only [World.cell?, hgo] at h3
   have h4 := flat_get enc k hk d'.toList j (by simpa [hd] using hj)
   rw [h4]
   exact h3
  ·rw [List.getElem?_eq_none (by rw [List.length_take]; omega), List.getElem?_eq_none (by rw [flat_length enc k _ (fun a _ => hk a)]; simp [hd]; omega)]
 ·rw [hw]
  refine ⟨rfl, rfl, rfl, ?_, fun q hq hne => ?_⟩
  ·show w.heap.size ≤ ((putRow id (Sort.ahead w n') g o (flatK enc k d')).heap ++ os).size
   rw [Array.size_append, size_putRow]
   show w.heap.size ≤ w.heap.size + _
   omega
  ·show ((putRow id (Sort.ahead w n') g o (flatK enc k d')).heap ++ os)[q]? = _
   rw [Array.getElem?_append_left (by rw [size_putRow]; exact hq)]
   show (w.heap.modify g _)[q]? = _
   rw [Array.getElem?_modify, if_neg (fun e => hne e.symm)]
end
end Go.Proofs.YtnlabkogebnioaaGreatDoor
namespace Go.Proofs.YtnlabkogebnioaaGreatDoor
open Go.RowKit Go.Shelf
def nameOf3 (P : Program) (f : FuncId) : String := ((P.funcs[f]?).map (·.name)).getD ""
theorem bears_of3 {P : Program} {f : FuncId} {B : Func} (h1 : (nameOf3 P f == "runtime.NumGoroutine") = false) (h2 : P.funcs[f]? = some { B with name := nameOf3 P f }) : Bears P f B := ⟨_, h1, h2⟩
theorem cmp_lt : ∀ a b : List UInt8, Lib.compareBytes a b < 0 ↔ a < b
 | [], [] => by simp [Lib.compareBytes]
 | [], _ :: _ => by simp [Lib.compareBytes]
 | _ :: _, [] => by simp [Lib.compareBytes]
 | x :: a, y :: b => by
  have ih := cmp_lt a b
  simp only [Lib.compareBytes, List.cons_lt_cons_iff]
  by_cases h1 : x < y
  ·simp [h1]
  ·by_cases h2 : y < x
   ·have hne : x ≠ y := fun e => by subst e; exact h1 h2
    simp [h1, h2, hne]
   ·have he : x = y := by
     apply UInt8.toNat.inj
     rw [UInt8.lt_iff_toNat_lt] at h1 h2
     omega
    subst he
    simp only [h1, if_false, false_or, true_and]
    exact ih
end Go.Proofs.YtnlabkogebnioaaGreatDoor
namespace Go.Proofs.YtnlabkogebnioaaGreatDoor
open Go.RowKit
def Ent.cells (e : Ent) : List Value := e.sum.map bv ++ [.int .i64 e.pack, .int .i64 e.pos, .int .i64 e.len]
theorem Ent.cells_length {e : Ent} (h : e.sum.length = 32) : e.cells.length = 35 := by simp [Ent.cells, h]
theorem Ent.size {e : Ent} (h : e.sum.length = 32) : e.cells.toArray.size = 35 := by simp [Ent.cells, h]
theorem entSum {w : World} {g : Nat} {t : TypeId} {x : Ent} (h : Blk w g t x.cells.toArray) : w.rangeAt g (0 + 0) (x.sum.map bv) := fun i v hv => by
 have hi := (List.getElem?_eq_some_iff.1 hv).1
 rw [Nat.zero_add, h.cell, List.getElem?_toArray]
 unfold Ent.cells
 rw [List.getElem?_append_left hi, hv]
theorem Grows.trans {w w' w'' : World} (h : Grows w w') (h' : Grows w' w'') : Grows w w'' := by
 obtain ⟨q, os, rfl⟩ := h
 obtain ⟨q', os', rfl⟩ := h'
 refine ⟨q + q', os ++ os', ?_⟩
 simp [Sort.grow, World.drewN, Array.append_assoc, Nat.add_assoc]
end Go.Proofs.YtnlabkogebnioaaGreatDoor
