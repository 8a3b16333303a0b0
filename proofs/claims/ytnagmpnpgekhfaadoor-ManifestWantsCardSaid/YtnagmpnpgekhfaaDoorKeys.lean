/- maps.Keys at maps with addresses as keys: the iterator's contract. -/
import Derived.Test.YtnagmpnpgekhfaaDoorSumKey
namespace Go.Proofs.YtnagmpnpgekhfaaDoor
open Go.RowKit
theorem encSum_size (k : Sum32) : (k.1.map bv).toArray.size = 32 := by have := k.2; simp [this]
theorem wideT : Wide Fence.wide := fun _ => trivial
set_option maxRecDepth 10000 in
theorem keys_closure (n : Nat) (w : World) (gB b : Nat) (m : List (Sum32 × Int)) (hB : Blk w gB 108 #[.map (some b)]) (hM : MapAt w b encSum encInt m) :
    SeqStopsK Fence.wide n Tryd.prog 61 #[.pointer (some ⟨gB, 0, none⟩)] (fun k : Sum32 => #[encSum k]) KeepsWalks (fun xs => xs.Perm (m.map (·.1))) (fun _ => True) m.length w := by
  intro lp J Jx W hW hJ hJx hY h0
  replace hB : Blk W gB 108 #[.map (some b)] := hB.bel hW
  replace hM : MapAt W b encSum encInt m := hM.bel hW
  have hgB := hB.lt
  refine callsIn_wide.2 ?_
  refine W_enter (args := [.func (.yield lp) #[] #[], .pointer (some ⟨gB, 0, none⟩)]) 14 Tryd.func61 rfl rfl rfl ?_
  refine W_sub [(0, .func (.yield lp) #[] #[]), (1, .pointer (some ⟨gB, 0, none⟩))] ?_ ⟨rfl, rfl, trivial⟩
  refine W_rs ?_
  refine st (X.ldL rfl hB Tryd.underlying108 rfl rfl) rfl ?_
  obtain ⟨w1, hr1, hI1, hb1⟩ := hM.iter (P := Tryd.prog) 108 Tryd.underlying108
  refine st (w' := w1) (v := .pointer (some ⟨W.heap.size, 0, none⟩)) (fun ρ hρ => by unfold execOp; simp only [hρ (.tmp 4) _ rfl, Sem.run_bind, hr1, Result.andThen_ok, Sem.run_pure]) rfl ?_
  refine Wn (tN ?_)
  have hJ1 : J [] w1 := hJ [] W w1 none h0 (grown_of_bel hb1) (fun r e => by cases e)
  refine W_block ?_
  have hz := hb1.size
  clear h0 hB hM hr1
  refine W_lp (fun n' l' w' => ∃ pre : List Sum32, n' = m.length - pre.length ∧ l' = ([(0, .func (.yield lp) #[] #[]), (5, .pointer (some ⟨W.heap.size, 0, none⟩))] : Env) ∧ IterAt w' W.heap.size b encSum encInt m pre ∧ J pre w') _ ⟨_, ⟨[], rfl, rfl, hI1, hJ1⟩, ⟨rfl, rfl, trivial⟩⟩ ?_
  clear hI1 hJ1 hb1 hz w1
  rintro n' l' w1 ⟨pre, rfl, rfl, hI, hJ1⟩
  refine W_rs ?_
  rcases hI.next (P := Tryd.prog) 0 with ⟨hperm, hr⟩ | ⟨k, v, w2, hk, hkv, hr, hent, hI2, hC⟩
  · refine st (w' := w1) (v := .tuple #[.bool false]) (fun ρ hρ => by unfold execOp; simp only [hρ (.tmp 5) _ rfl, Sem.run_bind, hr, Result.andThen_ok, Sem.run_pure]) rfl ?_
    refine st (X.ext rfl rfl) rfl ?_
    refine Wn (tN ?_)
    refine W_seq ?_
    refine W_no rfl rfl ?_
    refine W_exit (tE (tE (bH ?_)))
    exact (r0 rfl ⟨⟨_, rfl⟩, .inl ⟨pre, hperm, hJ1⟩⟩).2
  · refine st (w' := w2) (v := .tuple #[.bool true, encSum k, encInt v]) (fun ρ hρ => by unfold execOp; simp only [hρ (.tmp 5) _ rfl, Sem.run_bind, hr, Result.andThen_ok, Sem.run_pure]) rfl ?_
    refine st (X.ext rfl rfl) rfl ?_
    refine Wn (tN ?_)
    refine W_seq ?_
    refine W_yes rfl rfl ?_
    refine W_skip (tN ?_)
    refine W_block ?_
    refine W_seq ?_
    refine W_reg ?_
    have hJ2 : J pre w2 := hJ pre w1 w2 (some W.heap.size) hJ1 (grown_of_chg hC) (fun r e => by cases e; exact ⟨Nat.le_refl _, hI.walk⟩)
    refine st (w' := w2) (v := .tuple #[encSum k, encInt v]) (fun ρ hρ => by unfold execOp; simp only [hρ (.tmp 5) _ rfl, Sem.run_bind, hent, Result.andThen_ok, Sem.run_pure]) rfl ?_
    refine st (X.ext rfl rfl) rfl ?_
    refine salA inf53 rfl (fun g3 w3 hB3 hg3 hb hl3 => ?_)
    refine ssBN rfl rfl hB3 (by rw [encSum_size k]; exact siz53) (by rw [encSum_size k]; rfl) (by simp [bv, Value.oneCell']) (fun w4 hB4 hc => ?_)
    have hb4 : Below w2.heap.size w2 w4 := bset hb hc (by omega)
    have hI4 := hI2.bel hb4
    have hJ4 : J pre w4 := hJ pre w2 w4 none hJ2 (grown_of_bel hb4) (fun r e => by cases e)
    refine Wn (tN ?_)
    refine W_seq ?_
    refine W_regI (n := n) ?_
    refine stI wideT (fun c h => by cases h) (X.move rfl) rfl ?_
    refine stI wideT (fun c h => by cases h) (X.ldBN rfl hB4 Tryd.underlying53 rfl (by rw [encSum_size k]; exact siz53)) rfl ?_
    refine syield [encSum k] wideT rfl rfl rfl rfl ?_
    obtain ⟨fn, tmps, assign, body, hy, hR⟩ := hY pre k w4 hJ4 hI2.more
    refine ⟨fn, tmps, assign, body, hy, RoundIn.mono hR (fun e w5 h => ?_)⟩
    rcases h with ⟨rfl, hJ5, hk5⟩ | ⟨rfl, hJx5⟩
    · refine stI wideT (fun c h => by cases h) (X.not rfl) rfl ?_
      refine WIn (tN ?_)
      refine W_no rfl rfl ?_
      refine W_skip (bN ?_)
      refine tN ⟨_, _, ?_, ⟨pre ++ [k], rfl, rfl, hI4.of_walks hk5, hJ5⟩, ⟨rfl, rfl, trivial⟩⟩
      have := hI2.more
      rw [List.length_append, List.length_singleton]
      omega
    · refine stI wideT (fun c h => by cases h) (X.not rfl) rfl ?_
      refine WIn (tN ?_)
      refine W_yes rfl rfl ?_
      refine W_ret (bR (tR (bR ?_)))
      exact (r0 rfl ⟨⟨_, rfl⟩, .inr ⟨_, trivial, hJx5⟩⟩).1
end Go.Proofs.YtnagmpnpgekhfaaDoor
