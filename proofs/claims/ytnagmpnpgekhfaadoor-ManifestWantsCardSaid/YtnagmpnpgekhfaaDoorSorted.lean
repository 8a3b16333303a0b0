/- slices.SortedFunc(maps.Keys(m), sha.Cmp): the keys of a map, rising. -/
import Derived.Test.YtnagmpnpgekhfaaDoorAppendSeq
import Derived.Test.YtnagmpnpgekhfaaDoorSort
import Derived.Test.YtnagmpnpgekhfaaDoorMaps2
import Derived.Test.YtnagmpnpgekhfaaDoorNetPlain
namespace Go.Proofs.YtnagmpnpgekhfaaDoor
open Go.RowKit Go.Shelf
def sortRenSum : Ren :=
  { f := fun x => match x with | 6 => 60 | 15 => 66 | 14 => 65 | 28 => 76 | 29 => 77 | 20 => 68 | 21 => 69 | 22 => 70 | 23 => 71 | 24 => 72 | 25 => 73 | 26 => 74 | 27 => 75 | 46 => 78 | 47 => 79 | 48 => 80 | 49 => 81 | 50 => 82 | 57 => 83 | n => n
    t := fun x => match x with | 22 => 119 | 24 => 53 | 25 => 124 | 3 => 3 | 39 => 92 | 0 => 0 | 53 => 62 | 55 => 126 | 4 => 4 | 46 => 137 | 45 => 136 | 50 => 141 | 5 => 5 | 9 => 9 | 66 => 145 | 70 => 149 | 76 => 151 | 77 => 152 | n => n
    g := fun x => x }
def nameOf (P : Program) (f : FuncId) : String := ((P.funcs[f]?).map (·.name)).getD ""
theorem bears_of {P : Program} {f : FuncId} {B : Func} (h1 : (nameOf P f == "runtime.NumGoroutine") = false) (h2 : P.funcs[f]? = some { B with name := nameOf P f }) : Bears P f B := ⟨_, h1, h2⟩
set_option maxRecDepth 100000 in
theorem sortLaysSum : SlLaysF0.n6 Tryd.prog sortRenSum := by
  constructor
  all_goals first | exact bears_of (by kernel_rfl) (by kernel_rfl) | kernel_rfl | exact fun _ => by kernel_rfl
/- ---------- the order of addresses ---------- -/
theorem cmp_lt : ∀ a b : List UInt8, Lib.compareBytes a b < 0 ↔ a < b
  | [], [] => by simp [Lib.compareBytes]
  | [], _ :: _ => by simp [Lib.compareBytes]
  | _ :: _, [] => by simp [Lib.compareBytes]
  | x :: a, y :: b => by
    have ih := cmp_lt a b
    simp only [Lib.compareBytes, List.cons_lt_cons_iff]
    by_cases h1 : x < y
    · simp [h1]
    · by_cases h2 : y < x
      · have hne : x ≠ y := fun e => by subst e; exact h1 h2
        simp [h1, h2, hne]
      · have he : x = y := by
          apply UInt8.toNat.inj
          rw [UInt8.lt_iff_toNat_lt] at h1 h2
          omega
        subst he
        simp only [h1, if_false, false_or, true_and]
        exact ih
def cmpS (x y : Sum32) : Int := cmpSum x.1 y.1
theorem ltOf_cmpS (x y : Sum32) : ltOf cmpS x y = decide (x.1 < y.1) := by
  unfold ltOf cmpS cmpSum
  rw [decide_eq_decide]
  exact cmp_lt x.1 y.1
theorem swoSum : Sort.SWO (ltOf cmpS) where
  irrefl x := by rw [ltOf_cmpS]; exact decide_eq_false (klt_irrefl _)
  trans x y z h1 h2 := by rw [ltOf_cmpS] at *; exact decide_eq_true (klt_trans (of_decide_eq_true h1) (of_decide_eq_true h2))
  ntrans x y z h1 h2 := by
    rw [ltOf_cmpS] at *
    refine decide_eq_false fun h => ?_
    have h1 := of_decide_eq_false h1
    have h2 := of_decide_eq_false h2
    rcases klt_tri x.1 y.1 with k | k | k
    · exact h1 k
    · exact h2 (k ▸ h)
    · exact h2 (klt_trans k h)
instance : Inhabited Sum32 := ⟨⟨List.replicate 32 0, by simp⟩⟩
def encS (k : Sum32) : List Value := k.1.map bv
theorem encS_len (k : Sum32) : (encS k).length = 32 := by have := k.2; simp [encS, this]
theorem encS_one (k : Sum32) : ∀ v ∈ encS k, v.oneCell' = true := by
  intro v hv
  simp only [encS, List.mem_map] at hv
  obtain ⟨u, _, rfl⟩ := hv
  rfl
theorem sumCells_eq (l : List Sum32) : sumCells l = l.flatMap encS := rfl
set_option maxRecDepth 10000 in
theorem SortSums_any (v : Value) (l : List Sum32) (w : World) (hR : Row w 53 32 v l.length (sumCells l)) (hl : l.length ≤ 1000000) (hnd : l.Nodup) :
    Calls Tryd.prog 60 #[v, .func (.func 57) #[] #[]] w fun e w' => ∃ xs : List Sum32, e = .returned (.tuple #[]) ∧ xs.Perm l ∧ xs.Pairwise (fun x y => x.1 < y.1) ∧ Row w' 53 32 v xs.length (sumCells xs) ∧ Chg (fun k => v.ownBlock = some k) w w' := by
  rcases Nat.eq_zero_or_pos l.length with h0 | h0
  · obtain rfl : l = [] := List.eq_nil_of_length_eq_zero h0
    obtain ⟨a, c, rfl, _, _⟩ := hR.shape
    refine (AnyF.slices_SortFunc_none sortLaysSum a c _ w).mono ?_
    rintro e w' ⟨rfl, rfl⟩
    exact ⟨[], rfl, .refl _, .nil, hR, Chg.refl _ _⟩
  · obtain ⟨g, o, c, rfl, hg⟩ := hR.reads.some_ h0
    have hcmp : CmpLays Tryd.prog 57 #[] encS 32 cmpS g o l.toArray.size w := fun m os dk hdk x y => by
      refine (Cmp_any x.1 y.1 x.2 y.2 _).mono ?_
      rintro e w' ⟨rfl, hG⟩
      exact ⟨rfl, hG⟩
    have hsz : l.toArray.size = l.length := by simp
    refine (AnyQ.slices_SortFunc (α := Sum32) sortLaysSum 32 (fun _ => by kernel_rfl) (fun _ => by kernel_rfl) encS encS_len encS_one cmpS swoSum 57 #[] g o c l.toArray w (enters_of Tryd.func57 (by kernel_rfl) rfl) hcmp (row_holds encS_len hR rfl) hg (by rw [hsz]; omega)).mono ?_
    rintro e w' ⟨rfl, d', n', os, hp, hs, hw⟩
    have hdz : d'.size = l.length := by rw [hp.1]; exact hsz
    have hperm : d'.toList.Perm l := by
      have h3 := hp.2.2
      rw [hsz] at h3
      have e1 : (d'.extract 0 l.length).toList = d'.toList := by simp [← hdz]
      have e2 : (l.toArray.extract 0 l.length).toList = l := by simp [List.extract_eq_take_drop]
      rw [e1, e2] at h3
      exact h3
    obtain ⟨hRow, hC⟩ := sort_row encS_len hR rfl hdz hw
    refine ⟨d'.toList, rfl, hperm, ?_, ?_, hC.mono (fun k _ hk => by subst hk; rfl)⟩
    · rw [List.pairwise_iff_getElem]
      intro i j hi hj hij
      have hi' : i < d'.size := by simpa using hi
      have hj' : j < d'.size := by simpa using hj
      have h4 := hs i j (Nat.zero_le _) hij (by rw [hsz, ← hdz]; exact hj')
      rw [ltOf_cmpS, getElem!_pos d' j hj', getElem!_pos d' i hi'] at h4
      have h5 := of_decide_eq_false h4
      simp only [Array.getElem_toList]
      rcases klt_tri d'[i].1 d'[j].1 with k | k | k
      · exact k
      · exfalso
        have hnd' : d'.toList.Nodup := hperm.nodup_iff.2 hnd
        have h6 : d'.toList[i] = d'.toList[j] := by simp only [Array.getElem_toList]; exact Subtype.ext k
        have h7 := (List.getElem_inj (xs := d'.toList) (h₀ := hi) (h₁ := hj) hnd').1 h6
        omega
      · exact absurd k h5
    · have e3 : d'.toList.length = l.length := by simpa using hdz
      rw [e3]
      exact hRow
theorem Keys_any (b : Nat) (w : World) :
    Calls Tryd.prog 56 #[.map (some b)] w fun e w' => ∃ gB, e = .returned (.func (.func 61) #[] #[.pointer (some ⟨gB, 0, none⟩)]) ∧ Blk w' gB 108 #[.map (some b)] ∧ Below w.heap.size w w' := by
  refine W_enter (args := [.map (some b)]) 4 Tryd.func56 rfl rfl rfl ?_
  refine W_sub [(0, .map (some b))] ?_ ⟨rfl, trivial⟩
  have hbw := Below.refl w.heap.size w
  refine W_rs ?_
  refine sbox rfl rfl rfl (fun g1 w1 hB1 hg1 hb hl1 => ?_)
  replace hbw := bthen hbw hb
  have hz_w1 := hb.size
  clear hb
  refine sa rfl rfl ?_
  refine Wn ?_
  refine tN ?_
  refine W_rs ?_
  refine st (w' := w1) (v := .func (.func 61) #[] #[.pointer (some ⟨g1, 0, none⟩)]) (fun ρ hρ => by unfold execOp; simp [hρ (.tmp 1) _ rfl, Instr.makeFunc]) rfl ?_
  refine sa rfl rfl ?_
  refine Wn ?_
  refine tN ?_
  refine W_ret ?_
  exact (rT rfl rfl ⟨g1, rfl, hB1, hbw⟩).1
theorem Collect_any {S Sp : List Sum32 → Prop} {N : Nat} (gf : Nat) (lb : Array Value) (w : World) (hseq : SeqStopsK Fence.wide 0 Tryd.prog gf lb (fun k : Sum32 => #[encSum k]) KeepsWalks S Sp N w) (hN : N ≤ 1000000) (eg : ∀ args w, (callFunc gf args).run Tryd.prog w = .ok (.enter gf args) w) :
    Calls Tryd.prog 59 #[.func (.func gf) #[] lb] w fun e w' => ∃ v xs, e = .returned v ∧ S xs ∧ Row w' 53 32 v xs.length (sumCells xs) ∧ (∀ k, v.ownBlock = some k → w.heap.size ≤ k) ∧ Below w.heap.size w w' := by
  refine W_enter (args := [.func (.func gf) #[] lb]) 5 Tryd.func59 rfl rfl rfl ?_
  refine W_sub [(0, .func (.func gf) #[] lb)] ?_ ⟨rfl, trivial⟩
  have hbw := Below.refl w.heap.size w
  refine W_rs ?_
  refine sa rfl rfl ?_
  refine Wn ?_
  refine tN ?_
  refine W_rs ?_
  refine sm rfl rfl ?_
  refine sc _ Tryd.func64 rfl (by kernel_rfl) rfl rfl ((AppendSeq_any gf lb _ hseq hN eg).mono ?_)
  rintro e_ w1 ⟨v, xs, rfl, hS, hR, hO, hb⟩
  refine cR ?_
  replace hbw := bthen hbw hb
  have hz_w1 := hb.size
  clear hb
  refine sa rfl rfl ?_
  refine Wn ?_
  refine tN ?_
  refine W_ret ?_
  exact (rT rfl rfl ⟨v, xs, rfl, hS, hR, hO, hbw⟩).1
theorem SortedKeys_any (gB b : Nat) (m : List (Sum32 × Int)) (w : World) (hB : Blk w gB 108 #[.map (some b)]) (hM : MapAt w b encSum encInt m) (hm : m.length ≤ 1000000) :
    Calls Tryd.prog 55 #[.func (.func 61) #[] #[.pointer (some ⟨gB, 0, none⟩)], .func (.func 57) #[] #[]] w fun e w' =>
      ∃ v, ∃ xs : List Sum32, e = .returned v ∧ xs.Perm (m.map (·.1)) ∧ xs.Pairwise (fun x y => x.1 < y.1) ∧ Row w' 53 32 v xs.length (sumCells xs) ∧ (∀ k, v.ownBlock = some k → w.heap.size ≤ k) ∧ Below w.heap.size w w' := by
  refine W_enter (args := [.func (.func 61) #[] #[.pointer (some ⟨gB, 0, none⟩)], .func (.func 57) #[] #[]]) 12 Tryd.func55 rfl rfl rfl ?_
  refine W_sub [(0, .func (.func 61) #[] #[.pointer (some ⟨gB, 0, none⟩)]), (1, .func (.func 57) #[] #[])] ?_ ⟨rfl, rfl, trivial⟩
  have hbw := Below.refl w.heap.size w
  refine W_rs ?_
  refine sa rfl rfl ?_
  refine Wn ?_
  refine tN ?_
  refine W_rs ?_
  refine sm rfl rfl ?_
  refine sc _ Tryd.func59 rfl (by kernel_rfl) rfl rfl ((Collect_any _ _ _ (keys_closure 0 _ gB b m (hB.bel hbw) (hM.bel hbw)) hm (enters_of Tryd.func61 (by kernel_rfl) rfl)).mono ?_)
  rintro e_ w1 ⟨v, ks, rfl, hS, hR, hO, hb⟩
  refine cR ?_
  replace hbw := bthen hbw hb
  have hz_w1 := hb.size
  clear hb
  have hnd : ks.Nodup := hS.nodup_iff.2 hM.nodup
  have hkl : ks.length = m.length := by rw [hS.length_eq, List.length_map]
  refine sa rfl rfl ?_
  refine Wn ?_
  refine tN ?_
  refine W_rs ?_
  refine sm rfl rfl ?_
  refine sm rfl rfl ?_
  refine sc _ Tryd.func60 rfl (by kernel_rfl) rfl rfl ((SortSums_any v ks _ hR (by omega) hnd).mono ?_)
  rintro e_ w2 ⟨xs, rfl, hp, hs, hR2, hC⟩
  refine cR ?_
  replace hbw := bapp hbw hC hO
  refine Wn ?_
  refine tN ?_
  refine W_rs ?_
  refine sm rfl rfl ?_
  refine sa rfl rfl ?_
  refine Wn ?_
  refine tN ?_
  refine W_ret ?_
  exact (rT rfl rfl ⟨v, xs, rfl, hp.trans hS, hs, hR2, hO, hbw⟩).1
end Go.Proofs.YtnagmpnpgekhfaaDoor
