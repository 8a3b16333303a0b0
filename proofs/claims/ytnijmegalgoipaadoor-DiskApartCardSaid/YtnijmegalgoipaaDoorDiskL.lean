/- disk: List (maps.Keys and slices.Sorted at names). -/
import Derived.Test.YtnijmegalgoipaaDoorDiskH
import Derived.Test.YtnijmegalgoipaaDoorDiskP
import Derived.Test.YtnijmegalgoipaaDoorIterG
import Derived.Test.YtnijmegalgoipaaDoorMapsB
import Derived.Shelf.SlIter.Sorted
import Derived.Shelf.SlIter.Keys
import Derived.Shelf.SortM.Plain
import Derived.Shelf.SortM.SortNone
namespace Go.Proofs.YtnijmegalgoipaaDoor
open Go.RowKit Go.Shelf
theorem wideT : Wide Fence.wide := fun _ => trivial
set_option maxRecDepth 10000 in
theorem keys_gives (n : Nat) (w : World) (gB b : Nat) (m : List (Key × Nat)) (hB : Blk w gB 86 #[.map (some b)]) (hM : MapAt w b str encPtr m) :
    SeqGives Fence.wide n Tryd.prog 89 #[.pointer (some ⟨gB, 0, none⟩)] encStr (fun xs => xs.Perm (m.map (·.1))) m.length w := by
  intro lp J W hW hJ hY h0
  replace hB : Blk W gB 86 #[.map (some b)] := hB.bel hW
  replace hM : MapAt W b str encPtr m := hM.bel hW
  have hgB := hB.lt
  refine callsIn_wide.2 ?_
  refine W_enter (args := [.func (.yield lp) #[] #[], .pointer (some ⟨gB, 0, none⟩)]) 14 Tryd.func89 rfl rfl rfl ?_
  refine W_sub [(0, .func (.yield lp) #[] #[]), (1, .pointer (some ⟨gB, 0, none⟩))] ?_ ⟨rfl, rfl, trivial⟩
  refine W_rs ?_
  refine st (X.ldL rfl hB Tryd.underlying86 rfl rfl) rfl ?_
  obtain ⟨w1, hr1, hI1, hb1⟩ := hM.iter (P := Tryd.prog) 86 Tryd.underlying86
  refine st (w' := w1) (v := .pointer (some ⟨W.heap.size, 0, none⟩)) (fun ρ hρ => by unfold execOp; simp only [hρ (.tmp 4) _ rfl, Sem.run_bind, hr1, Result.andThen_ok, Sem.run_pure]) rfl ?_
  refine Wn (tN ?_)
  have hJ1 : J [] w1 := hJ [] W w1 none h0 (grown_of_bel hb1) (fun r e => by cases e)
  refine W_block ?_
  have hz := hb1.size
  clear h0 hB hM hr1
  refine W_lp (fun n' l' w' => ∃ pre : List Key, n' = m.length - pre.length ∧ l' = ([(0, .func (.yield lp) #[] #[]), (5, .pointer (some ⟨W.heap.size, 0, none⟩))] : Env) ∧ IterAt w' W.heap.size b str encPtr m pre ∧ J pre w') _ ⟨_, ⟨[], rfl, rfl, hI1, hJ1⟩, ⟨rfl, rfl, trivial⟩⟩ ?_
  clear hI1 hJ1 hb1 hz w1
  rintro n' l' w1 ⟨pre, rfl, rfl, hI, hJ1⟩
  refine W_rs ?_
  rcases hI.next (P := Tryd.prog) 0 with ⟨hperm, hr⟩ | ⟨k, v, w2, hk, hkv, hr, hent, hI2, hC⟩
  · refine st (w' := w1) (v := .tuple #[.bool false]) (fun ρ hρ => by unfold execOp; simp only [hρ (.tmp 5) _ rfl, Sem.run_bind, hr, Result.andThen_ok, Sem.run_pure]) rfl ?_
    refine st (X.ext rfl rfl) rfl ?_
    refine Wn (tN ?_)
    refine W_seq ?_
    refine W_no rfl rfl ?_
    refine W_exit (tE (tE (bH ?_)))
    exact (r0 rfl ⟨⟨_, rfl⟩, ⟨pre, hperm, hJ1⟩⟩).2
  · refine st (w' := w2) (v := .tuple #[.bool true, str k, encPtr v]) (fun ρ hρ => by unfold execOp; simp only [hρ (.tmp 5) _ rfl, Sem.run_bind, hr, Result.andThen_ok, Sem.run_pure]) rfl ?_
    refine st (X.ext rfl rfl) rfl ?_
    refine Wn (tN ?_)
    refine W_seq ?_
    refine W_yes rfl rfl ?_
    refine W_skip (tN ?_)
    refine W_block ?_
    refine W_seq ?_
    refine W_reg ?_
    have hJ2 : J pre w2 := hJ pre w1 w2 (some W.heap.size) hJ1 (grown_of_chg hC) (fun r e => by cases e; exact ⟨Nat.le_refl _, hI.walk⟩)
    refine st (w' := w2) (v := .tuple #[str k, encPtr v]) (fun ρ hρ => by unfold execOp; simp only [hρ (.tmp 5) _ rfl, Sem.run_bind, hent, Result.andThen_ok, Sem.run_pure]) rfl ?_
    refine st (X.ext rfl rfl) rfl ?_
    refine sa rfl rfl ?_
    refine Wn (tN ?_)
    refine W_seq ?_
    refine W_regI (n := n) ?_
    refine stI wideT (fun c h => by cases h) (X.move rfl) rfl ?_
    refine stI wideT (fun c h => by cases h) (X.move rfl) rfl ?_
    refine syield [str k] wideT rfl rfl rfl rfl ?_
    obtain ⟨fn, tmps, assign, body, hy, hR⟩ := hY pre k w2 hJ2 hI2.more
    refine ⟨fn, tmps, assign, body, hy, RoundIn.mono hR (fun e w5 h => ?_)⟩
    obtain ⟨rfl, hJ5, hk5⟩ := h
    refine stI wideT (fun c h => by cases h) (X.not rfl) rfl ?_
    refine WIn (tN ?_)
    refine W_no rfl rfl ?_
    refine W_skip (bN ?_)
    refine tN ⟨_, _, ?_, ⟨pre ++ [k], rfl, rfl, hI2.of_walks hk5, hJ5⟩, ⟨rfl, rfl, trivial⟩⟩
    have := hI2.more
    rw [List.length_append, List.length_singleton]
    omega
def sortRenStr : Ren :=
  { f := fun x => match x with | 6 => 88 | 8 => 110 | 9 => 109 | 19 => 125 | 20 => 126 | 21 => 116 | 22 => 117 | 23 => 118 | 24 => 119 | 25 => 120 | 26 => 121 | 27 => 122 | 28 => 123 | 29 => 124 | 31 => 132 | 32 => 133 | 36 => 131 | 37 => 134 | 38 => 135 | 39 => 136 | 41 => 142 | n => n
    t := fun x => match x with | 0 => 0 | 3 => 3 | 4 => 4 | 5 => 5 | 9 => 9 | 26 => 23 | 27 => 23 | 29 => 9 | 32 => 117 | 35 => 158 | 36 => 159 | 41 => 164 | 44 => 114 | 46 => 120 | 53 => 170 | 57 => 173 | 63 => 183 | 64 => 184 | n => n
    g := fun x => x }
def iterRenStr : Ren :=
  { f := fun x => match x with | 6 => 62 | 7 => 63 | 8 => 87 | 9 => 88 | 10 => 89 | 11 => 108 | n => n
    t := fun x => match x with | 0 => 0 | 3 => 91 | 4 => 4 | 23 => 86 | 24 => 23 | 26 => 9 | 27 => 101 | 28 => 102 | 33 => 30 | n => n
    g := fun x => x }
def nameOf (P : Program) (f : FuncId) : String := ((P.funcs[f]?).map (·.name)).getD ""
theorem bears_of {P : Program} {f : FuncId} {B : Func} (h1 : (nameOf P f == "runtime.NumGoroutine") = false) (h2 : P.funcs[f]? = some { B with name := nameOf P f }) : Bears P f B := ⟨_, h1, h2⟩
set_option maxRecDepth 100000 in
theorem sortLaysStr : SlLaysM.n6 Tryd.prog sortRenStr := by
  constructor
  all_goals first | exact bears_of (by kernel_rfl) (by kernel_rfl) | kernel_rfl | exact fun _ => by kernel_rfl
set_option maxRecDepth 100000 in
theorem sortedLaysStr : SlLaysZ.n6 Tryd.prog iterRenStr := by
  constructor
  all_goals first | exact bears_of (by kernel_rfl) (by kernel_rfl) | kernel_rfl | exact fun _ => by kernel_rfl
set_option maxRecDepth 100000 in
theorem keysLaysStr : SlLaysZ.n7 Tryd.prog iterRenStr := by
  constructor
  all_goals first | exact bears_of (by kernel_rfl) (by kernel_rfl) | kernel_rfl | exact fun _ => by kernel_rfl
theorem sortsStr (m : Nat) : AnyZ.SortsIn Tryd.prog iterRenStr Fence.wide m :=
  ⟨fun blk off cap ss W hH hblk hsz => callsIn_wide.2 (AnyM.slices_Sort_string sortLaysStr blk off cap ss W hH hblk hsz),
   fun p cap W => callsIn_wide.2 (AnyM.slices_Sort_string_none sortLaysStr p cap W)⟩
theorem Keys_any (mb : Option Nat) (w : World) : Calls Tryd.prog 63 #[.map mb] w fun e w' =>
    ∃ gB, e = .returned (.func (.func 89) #[] #[.pointer (some ⟨gB, 0, none⟩)]) ∧ Blk w' gB 86 #[.map mb] ∧ Below w.heap.size w w' := by
  refine ((callsIn_wide (n := 5)).1 (AnyZ.keys_in keysLaysStr Fence.wide 5 trivial rfl mb w)).mono ?_
  rintro e w' ⟨rfl, rfl⟩
  exact ⟨_, rfl, World.alloc_heap_new w _, (Below.refl _ _).alloc (Nat.le_refl _) _⟩
theorem sorted_names {l xs : List Key} (hl : l.Pairwise (· < ·)) (hp : xs.Perm l) : xs.mergeSort (fun x y => decide (x ≤ y)) = l := by
  have tr : ∀ a b c : List UInt8, decide (a ≤ b) = true → decide (b ≤ c) = true → decide (a ≤ c) = true := fun a b c h1 h2 => by
    simp only [decide_eq_true_eq] at *
    exact List.le_trans h1 h2
  have to : ∀ a b : List UInt8, (decide (a ≤ b) || decide (b ≤ a)) = true := fun a b => by
    simp only [Bool.or_eq_true, decide_eq_true_eq]
    exact List.le_total a b
  refine List.Perm.eq_of_pairwise (le := fun a b => decide (a ≤ b) = true) (fun a b _ _ h1 h2 => ?_) (List.pairwise_mergeSort tr to xs) (hl.imp (fun h => decide_eq_true (List.le_of_lt h))) ((List.mergeSort_perm xs _).trans hp)
  simp only [decide_eq_true_eq] at h1 h2
  exact List.le_antisymm h1 h2
theorem SortedKeys_any (gB b : Nat) (m : List (Key × Nat)) (l : List Key) (w : World) (hB : Blk w gB 86 #[.map (some b)]) (hM : MapAt w b str encPtr m) (hm : m.length ≤ 1000000) (hl : l.Pairwise (· < ·)) (hp : (m.map (·.1)).Perm l) :
    Calls Tryd.prog 62 #[.func (.func 89) #[] #[.pointer (some ⟨gB, 0, none⟩)]] w fun e w' =>
      ∃ v, e = .returned v ∧ Row w' 9 1 v l.length (l.map str) ∧ (∀ k, v.ownBlock = some k → w.heap.size ≤ k) ∧ Below w.heap.size w w' := by
  refine ((callsIn_wide (n := 5)).1 (AnyZ.sorted_in sortedLaysStr Fence.wide 5 trivial trivial trivial trivial rfl (by omega) (sortsStr _) (enters_of Tryd.func88 (by kernel_rfl) rfl)
    89 #[.pointer (some ⟨gB, 0, none⟩)] trivial (enters_of Tryd.func89 (by kernel_rfl) rfl) _ m.length (by simp only [maxLen]; omega) (by omega) w (keys_gives _ w gB b m hB hM))).mono ?_
  rintro e w' ⟨v, ss, rfl, hS, hrow, hnil, hb⟩
  have e1 := sorted_names hl (hS.trans hp)
  have e2 : ss.length = l.length := (hS.trans hp).length_eq
  rw [e1, e2] at hrow
  refine ⟨v, rfl, Row.of_own hrow, fun k hk => ?_, hb⟩
  rcases hrow.2 with ⟨rfl, _⟩ | ⟨g, cap, cur, rfl, hg, _⟩
  · simp [Value.ownBlock] at hk
  · simp [Value.ownBlock] at hk
    omega
theorem DiskIn.perm {w : World} {g b : Nat} {D : DiskD} {rs : List (Key × FRec)} {S : Nat → Prop} (h : DiskIn w g b D rs S) (hok : Rising D.files) : ((rs.map fun p => (p.1, p.2.blk)).map (·.1)).Perm (namesM D) := by
  have := keys_perm (m := rs) (m' := D.files) h.keys hok.nodup (fun k => by rw [h.files]; cases mget rs k <;> rfl)
  rw [List.map_map]
  exact this
theorem List_any (g : Nat) (D : DiskD) (S : Nat → Prop) (w : World) (h : DiskAt w g D S) (hok : Rising D.files) (hlen : D.files.length ≤ 1000000) :
    Calls Tryd.prog 33 #[.pointer (some ⟨g, 0, none⟩)] w fun e w' => ∃ v, e = .returned v ∧ Row w' 9 1 v (namesM D).length ((namesM D).map str) ∧ (∀ k, v.ownBlock = some k → w.heap.size ≤ k) ∧ Below w.heap.size w w' := by
  obtain ⟨b, rs, h⟩ := h
  have hB : Blk w g 88 #[.map (some b), .int .i64 D.limit, .int .i64 D.used, .int .i64 D.refused, .bool D.stops, .int .i64 D.left] := h.blk
  have hM := h.map
  have hp := h.perm hok
  have hz0 : (rs.map fun p => (p.1, p.2.blk)).length ≤ 1000000 := by
    have := hp.length_eq
    simp only [List.length_map, namesM] at this ⊢
    omega
  have hr : (namesM D).Pairwise (· < ·) := by
    unfold namesM
    rw [List.pairwise_map]
    exact hok
  refine W_enter (args := [.pointer (some ⟨g, 0, none⟩)]) 11 Tryd.func33 rfl rfl rfl ?_
  refine W_sub [(0, .pointer (some ⟨g, 0, none⟩))] ?_ ⟨rfl, trivial⟩
  have hbw := Below.refl w.heap.size w
  refine W_rs ?_
  refine sa rfl rfl ?_
  refine Wn ?_
  refine tN ?_
  refine W_seq ?_
  refine W_rs ?_
  refine sm rfl rfl ?_
  refine st (X.dEq rfl) rfl ?_
  refine Wn ?_
  refine tN ?_
  refine W_no rfl (rfl) ?_
  refine W_skip ?_
  refine tN ?_
  refine W_rs ?_
  refine sm rfl rfl ?_
  refine st (X.nilChk rfl) rfl ?_
  refine st (X.fa fa88_0 rfl) rfl ?_
  refine st (X.ldL rfl hB Tryd.underlying86 rfl rfl) rfl ?_
  refine sc _ Tryd.func63 rfl (by kernel_rfl) rfl rfl ((Keys_any (some b) _).mono ?_)
  rintro e_ w1 ⟨gB, rfl, hK, hb⟩
  refine cR ?_
  replace hbw := bthen hbw hb
  replace hM := hM.bel hb
  have hz_w1 := hb.size
  clear hb
  refine sc _ Tryd.func62 rfl (by kernel_rfl) rfl rfl ((SortedKeys_any gB b _ (namesM D) _ hK hM hz0 hr hp).mono ?_)
  rintro e_ w2 ⟨v, rfl, hR, hO, hb⟩
  refine cR ?_
  replace hbw := bthen hbw hb
  replace hM := hM.bel hb
  have hz_w2 := hb.size
  clear hb
  refine sa rfl rfl ?_
  refine Wn ?_
  refine tN ?_
  refine W_ret ?_
  exact (rT rfl rfl ⟨v, rfl, hR, fun k hk => by have := hO k hk; omega, hbw⟩).1
theorem List_nil (w : World) : Calls Tryd.prog 33 #[.pointer none] w fun e w' => e = .returned (.slice none 0 0) ∧ Below w.heap.size w w' := by
  refine W_enter (args := [.pointer none]) 11 Tryd.func33 rfl rfl rfl ?_
  refine W_sub [(0, .pointer none)] ?_ ⟨rfl, trivial⟩
  have hbw := Below.refl w.heap.size w
  refine W_rs ?_
  refine sa rfl rfl ?_
  refine Wn ?_
  refine tN ?_
  refine W_seq ?_
  refine W_rs ?_
  refine sm rfl rfl ?_
  refine st (X.dEq rfl) rfl ?_
  refine Wn ?_
  refine tN ?_
  refine W_yes rfl (rfl) ?_
  refine W_rs ?_
  refine sa rfl rfl ?_
  refine Wn ?_
  refine tN ?_
  refine W_ret (tR ?_)
  exact (rT rfl rfl ⟨rfl, hbw⟩).1
end Go.Proofs.YtnijmegalgoipaaDoor
