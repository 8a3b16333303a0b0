/- armariumref17: Unpack, Decode. -/
import Derived.Test.YtnagmpnpgekhfaaRefsDec
namespace Go.Proofs.Ytnagmpnpgekhfaa
open Go.RowKit
section
variable {P : Program} {l : Env} {w : World} {ty t : TypeId} {x : Operand} {k k' : IntKind} {m n : Int}
theorem X.cutSe {s u : List UInt8} {x1 x2 : Operand} {i j : Nat} (he : (s.take j).drop i = u) (hx : ev l x = some (str s)) (h1 : ev l x1 = some (.int k m)) (h2 : ev l x2 = some (.int k' n)) (hu : P.underlying t = some .string) (hm : m = (i : Int)) (hn : n = (j : Int)) (hi : i ≤ j) (hj : j ≤ s.length) : X P l (.slice t x (some x1) (some x2) none) ty w (str u) w := he ▸ X.cutS hx h1 h2 hu hm hn hi hj
end
def RUnp (w : World) (r : Except Int (List Chk)) (e : Ending) (w' : World) : Prop := ∃ v, e = .returned (.tuple #[v, .int .i64 (errO r)]) ∧ RAt w' v (okOf [] r) ∧ Below w.heap.size w w'
theorem RAt.nil (w : World) : RAt w (.slice none 0 0) [] := ⟨rfl, none, 0, rfl, Nat.le_refl _, by simp [maxLen], fun h => absurd h (by simp)⟩
theorem runp_err {w w' : World} {r : Except Int (List Chk)} {k : Int} (h : r = .error k) (hb : Below w.heap.size w w') : RUnp w r (.returned (.tuple #[.slice none 0 0, .int .i64 k])) w' := by
  subst h
  exact ⟨_, rfl, RAt.nil _, hb⟩
theorem runp_ok {w w' : World} {r : Except Int (List Chk)} {v : Value} {l : List Chk} (h : r = .ok l) (hR : RAt w' v l) (hb : Below w.heap.size w w') : RUnp w r (.returned (.tuple #[v, .int .i64 0])) w' := by
  subst h
  exact ⟨_, rfl, hR, hb⟩
theorem any_take {α : Type} (p : α → Bool) {l : List α} {j : Nat} {x : α} (h : l[j]? = some x) : (l.take (j + 1)).any p = ((l.take j).any p || p x) := by
  rw [take_next' h, List.any_append]; simp
theorem formN_num (a : List UInt8) (N : Nat) (hN : N < 4294967296) : formN ⟨a, sgn N⟩ = decide (N = 0 ∨ N = 2147483648) := by
  unfold formN sgn
  rw [decide_eq_decide]
  show (if N < 2147483648 then (N : Int) else (N : Int) - 4294967296) = 0 ∨ (if N < 2147483648 then (N : Int) else (N : Int) - 4294967296) < -2147483647 ↔ _
  split <;> omega
set_option maxRecDepth 10000 in
set_option maxHeartbeats 1000000 in
theorem RUnpack_any (s : List UInt8) (w : World) (hs : s.length < 1000000) : Calls Try.prog 41 #[str s] w (RUnp w (unpackM s)) := by
  obtain ⟨n, hn⟩ : ∃ n : Nat, num s = n := ⟨_, rfl⟩
  have hnl := num_lt s
  refine W_enter (args := [str s]) 84 Try.func41 rfl rfl rfl ?_
  refine W_sub [(0, str s)] ?_ ⟨rfl, trivial⟩
  have hbw := Below.refl w.heap.size w
  refine W_rs ?_
  refine sa rfl rfl ?_
  refine sa rfl rfl ?_
  refine Wn ?_
  refine tN ?_
  refine W_seq ?_
  refine W_rs ?_
  refine sm rfl rfl ?_
  refine st (X.lenS rfl rfl Try.underlying9) rfl ?_
  refine st (X.lss rfl rfl) rfl ?_
  refine Wn ?_
  refine tN ?_
  refine W_if rfl (fun h11 => ?_) (fun h11 => ?_)
  · first | replace h11 := of_decide_eq_true h11 | replace h11 := of_decide_eq_false (notT h11) | replace h11 := notT h11 | skip
    refine W_rs ?_
    refine sa rfl rfl ?_
    refine sa rfl rfl ?_
    refine Wn ?_
    refine tN ?_
    refine W_ret (tR ?_)
    exact (rTT rfl rfl rfl (runp_err (show unpackM s = .error 10 by unfold unpackM; rw [if_pos (by omega)]) hbw)).1
  · first | replace h11 := of_decide_eq_false h11 | replace h11 := of_decide_eq_true (notF h11) | replace h11 := notF h11 | skip
    refine W_skip ?_
    refine tN ?_
    refine W_rs ?_
    refine sm rfl rfl ?_
    refine sc _ Try.func73 rfl (by kernel_rfl) rfl rfl ((Of_any s 0 _ (by omega) hs).mono ?_)
    rintro e_ w1 ⟨rfl, hb⟩
    refine cR ?_
    replace hbw := bthen hbw hb
    have hz_w1 := hb.size
    clear hb
    rw [List.drop_zero, hn]
    refine sa rfl rfl ?_
    refine Wn ?_
    refine tN ?_
    refine W_seq ?_
    refine W_rs ?_
    refine sm rfl rfl ?_
    refine st (X.gtr rfl rfl) rfl ?_
    refine Wn ?_
    refine tN ?_
    refine W_if rfl (fun h15 => ?_) (fun h15 => ?_)
    · first | replace h15 := of_decide_eq_true h15 | replace h15 := of_decide_eq_false (notT h15) | replace h15 := notT h15 | skip
      refine W_rs ?_
      refine sa rfl rfl ?_
      refine sa rfl rfl ?_
      refine Wn ?_
      refine tN ?_
      refine W_ret (tR ?_)
      exact (rTT rfl rfl rfl (runp_err (show unpackM s = .error 31 by unfold unpackM; rw [if_neg (by omega), if_pos (by omega)]) hbw)).1
    · first | replace h15 := of_decide_eq_false h15 | replace h15 := of_decide_eq_true (notF h15) | replace h15 := notF h15 | skip
      refine W_skip ?_
      refine tN ?_
      refine W_seq ?_
      refine W_rs ?_
      refine sm rfl rfl ?_
      refine st (X.lenS rfl rfl Try.underlying9) rfl ?_
      refine sm rfl rfl ?_
      refine st (X.mul64 rfl rfl (by omega)) rfl ?_
      refine st (X.add64 rfl rfl (by omega)) rfl ?_
      refine st (X.lss rfl rfl) rfl ?_
      refine Wn ?_
      refine tN ?_
      refine W_if rfl (fun h21 => ?_) (fun h21 => ?_)
      · first | replace h21 := of_decide_eq_true h21 | replace h21 := of_decide_eq_false (notT h21) | replace h21 := notT h21 | skip
        refine W_rs ?_
        refine sa rfl rfl ?_
        refine sa rfl rfl ?_
        refine Wn ?_
        refine tN ?_
        refine W_ret (tR ?_)
        exact (rTT rfl rfl rfl (runp_err (show unpackM s = .error 10 by unfold unpackM; rw [if_neg (by omega), if_neg (by omega), if_pos (by omega)]) hbw)).1
      · first | replace h21 := of_decide_eq_false h21 | replace h21 := of_decide_eq_true (notF h21) | replace h21 := notF h21 | skip
        refine W_skip ?_
        refine tN ?_
        refine W_seq ?_
        refine W_rs ?_
        refine sm rfl rfl ?_
        refine st (X.lenS rfl rfl Try.underlying9) rfl ?_
        refine sm rfl rfl ?_
        refine st (X.mul64 rfl rfl (by omega)) rfl ?_
        refine st (X.add64 rfl rfl (by omega)) rfl ?_
        refine st (X.gtr rfl rfl) rfl ?_
        refine Wn ?_
        refine tN ?_
        refine W_if rfl (fun h27 => ?_) (fun h27 => ?_)
        · first | replace h27 := of_decide_eq_true h27 | replace h27 := of_decide_eq_false (notT h27) | replace h27 := notT h27 | skip
          refine W_rs ?_
          refine sa rfl rfl ?_
          refine sa rfl rfl ?_
          refine Wn ?_
          refine tN ?_
          refine W_ret (tR ?_)
          exact (rTT rfl rfl rfl (runp_err (show unpackM s = .error 11 by unfold unpackM; rw [if_neg (by omega), if_neg (by omega), if_neg (by omega), if_pos (by omega)]) hbw)).1
        · first | replace h27 := of_decide_eq_false h27 | replace h27 := of_decide_eq_true (notF h27) | replace h27 := notF h27 | skip
          have hu := unpack_no (s := s) (by omega) (by omega) (by omega) (by omega)
          rw [hn] at hu
          obtain ⟨L, hL⟩ : ∃ L, deltasOf n (s.drop 4) = L := ⟨_, rfl⟩
          have hLl : L.length = n := by rw [← hL, deltasOf_length]
          rw [hL] at hu
          refine W_skip ?_
          refine tN ?_
          refine W_rs ?_
          refine sa rfl rfl ?_
          refine Wn ?_
          refine tN ?_
          refine W_rs ?_
          refine sa rfl rfl ?_
          refine Wn ?_
          refine tN ?_
          refine W_seq ?_
          refine W_rs ?_
          refine sa rfl rfl ?_
          refine Wn ?_
          refine tN ?_
          refine W_block ?_
          refine W_lp (fun nw2_ lw2_ w2 => ∃ j : Nat, ∃ v5 : Value, nw2_ = n - j ∧ lw2_ = ([(0, str s), (4, .int .i64 n), (5, v5), (6, .bool ((L.take j).any formN)), (7, .int .i64 j)] : Env) ∧ (j ≤ n) ∧ (srtB (L.take j) = true) ∧ (Row w2 107 2 v5 j ((L.take j).flatMap rcells)) ∧ (∀ k, v5.ownBlock = some k → w.heap.size ≤ k) ∧ (Below w.heap.size w w2)) _ ⟨_, ⟨0, .slice none 0 0, rfl, rfl, by omega, rfl, Row.nil _ _ _, (fun k hk => by simp [Value.ownBlock] at hk), hbw⟩, ⟨rfl, rfl, rfl, rfl, rfl, trivial⟩⟩ ?_
          clear hbw
          rintro nw2_ lw2_ w2 ⟨j, v5, rfl, rfl, hj, hso, hR, hO, hbw⟩
          have hz_w2 := hbw.size
          refine W_seq ?_
          refine W_rs ?_
          refine sm rfl rfl ?_
          refine sm rfl rfl ?_
          refine st (X.lss rfl rfl) rfl ?_
          refine Wn ?_
          refine tN ?_
          refine W_if rfl (fun h30 => ?_) (fun h30 => ?_)
          · first | replace h30 := of_decide_eq_true h30 | replace h30 := of_decide_eq_false (notT h30) | replace h30 := notT h30 | skip
            obtain ⟨a5, c5, rfl, hn5, hc5⟩ := hR.shape
            obtain ⟨x, hx⟩ : ∃ x, L[j]? = some x := ⟨_, List.getElem?_eq_getElem (by omega)⟩
            have hx' := deltasOf_at n (s.drop 4) j (by omega)
            rw [hL, hx] at hx'
            injection hx' with hx'
            have hxs := deltasOf_sum n (s.drop 4) (by rw [List.length_drop]; omega) x (by rw [hL]; exact List.mem_of_getElem? hx)
            rw [List.drop_drop, List.drop_drop] at hx'
            obtain ⟨N, hN⟩ : ∃ N, num (s.drop (4 + (36 * j + 32))) = N := ⟨_, rfl⟩
            have hNl : N < 4294967296 := by rw [← hN]; exact num_lt _
            have hx1 : x.sum = ((s.drop (4 + 36 * j)).take 32) := by rw [hx']
            have hx2 : x.len = sgn N := by rw [hx', ← hN]
            have hf2 : formN x = decide (N = 0 ∨ N = 2147483648) := by rw [← formN_num x.sum N hNl, ← hx2]
            have hxa := any_take formN hx
            rw [hf2] at hxa
            have hct : (s.take (36 + 36 * j)).drop (4 + 36 * j) = x.sum := by rw [List.drop_take, hx1]; congr 1; omega
            refine W_skip ?_
            refine tN ?_
            refine W_seq ?_
            refine W_block ?_
            refine W_trsN (fun _ => True) (.yes 0 (.yes 1 (.yes 2 (.yes 3 (.yes 4 (.yes 5 (.yes 6 (.yes 7 (.yes 8 (.yes 9 (.yes 10 (.yes 11 (.pick (.alt 12 (.yes 13 (.pick (.alt 14 (.pick (.alt 15 (.nil) (.no))) (.no)))) (.alt 14 (.pick (.alt 12 (.yes 13 (.pick (.alt 15 (.nil) (.no)))) (.no))) (.no)))))))))))))))) (by kernel_rfl) (by kernel_rfl) (trivial) ?_
            obtain ⟨w3, hw_⟩ : ∃ w3 : World, w3 = World.drew w2 := ⟨_, rfl⟩
            rw [← hw_]
            have hb : Below w2.heap.size w2 w3 := by rw [hw_]; exact bdrew (Below.refl _ _)
            clear hw_
            have hS : True := trivial
            have hpend := hb
            replace hbw := bthen hbw hb
            have hz_w3 := hb.size
            clear hb
            refine uY rfl (fun W_ hW_ => (X.move rfl)) rfl ?_
            refine uY rfl (fun W_ hW_ => (X.move rfl)) rfl ?_
            refine uY rfl (fun W_ hW_ => (X.mul64 rfl rfl (by omega))) rfl ?_
            refine uY rfl (fun W_ hW_ => (X.add64 rfl rfl (by omega))) rfl ?_
            refine uY rfl (fun W_ hW_ => (X.move rfl)) rfl ?_
            refine uY rfl (fun W_ hW_ => (X.mul64 rfl rfl (by omega))) rfl ?_
            refine uY rfl (fun W_ hW_ => (X.add64 rfl rfl (by omega))) rfl ?_
            refine uY rfl (fun W_ hW_ => (X.cutSe hct rfl rfl rfl Try.underlying9 (by omega) (by omega) (by omega) (by omega))) rfl ?_
            refine uY rfl (fun W_ hW_ => (X.move rfl)) rfl ?_
            refine uY rfl (fun W_ hW_ => (X.move rfl)) rfl ?_
            refine uY rfl (fun W_ hW_ => (X.mul64 rfl rfl (by omega))) rfl ?_
            refine uY rfl (fun W_ hW_ => (X.add rfl rfl (show IntKind.i64.wrap (36 + 36 * (j : Int)) = ((4 + (36 * j + 32) : Nat) : Int) by rw [w64 (by omega)]; omega))) rfl ?_
            refine uP (uA rfl (fun Q_ hQ_ hP_ => ?_) (uA rfl (fun Q_ hQ_ hP_ => ?_) u0))
            · refine sc _ Try.func73 rfl (by kernel_rfl) rfl rfl ((Of_any s (4 + (36 * j + 32)) _ (by omega) hs).mono ?_)
              rintro e_ w4 ⟨rfl, hb⟩
              refine cR ?_
              replace hpend := bthen hpend hb
              replace hbw := bthen hbw hb
              have hz_w4 := hb.size
              clear hb
              refine Wn (hQ_ _ _ trivial ?_)
              clear hQ_ hP_ Q_
              rw [hN]
              refine uY rfl (fun W_ hW_ => (X.bld rfl (brdel _ _ _))) rfl ?_
              refine uP (uA rfl (fun Q_ hQ_ hP_ => ?_) u0)
              refine salA inf107 rfl (fun g8 w5 hB8 hg8 hb hl8 => ?_)
              replace hpend := bthen hpend hb
              replace hbw := bthen hbw hb
              have hz_w5 := hb.size
              clear hb
              refine Wn (hQ_ _ _ trivial ?_)
              clear hQ_ hP_ Q_
              refine uP (uA rfl (fun Q_ hQ_ hP_ => ?_) u0)
              refine ssBN rfl rfl hB8 siz107 rfl rfl (fun w6 hB_ hc_ => ?_)
              replace hB8 := hB_
              clear hB_
              replace hpend := bset hpend hc_ (by omega)
              replace hbw := bset hbw hc_ (by omega)
              have hz_w6 := hc_.size
              clear hc_
              refine Wn (hQ_ _ _ trivial ?_)
              clear hQ_ hP_ Q_
              refine uN ?_
              refine nN ?_
              refine W_rs ?_
              replace hB8 : Blk w6 g8 107 #[str x.sum, .int .i64 N] := hB8
              refine sm rfl rfl ?_
              refine sb rfl rfl (fun h48 => ?_) (fun h48 => ?_)
              · first | replace h48 := of_decide_eq_true h48 | replace h48 := of_decide_eq_false (notT h48) | replace h48 := notT h48 | skip
                have hbd : (L.take (j + 1)).any formN = true := by rw [hxa, h48]; rfl
                refine gN (g := 48) rfl rfl rfl rfl ?_
                refine gN (g := 48) rfl rfl rfl rfl ?_
                refine gN (g := 48) rfl rfl rfl rfl ?_
                refine st (X.pickT rfl rfl) rfl ?_
                refine sm rfl rfl ?_
                refine gN (g := 53) rfl rfl rfl rfl ?_
                refine gN (g := 53) rfl rfl rfl rfl ?_
                refine gN (g := 53) rfl rfl rfl rfl ?_
                refine st (X.pickT rfl rfl) rfl ?_
                refine sa rfl rfl ?_
                refine Wn ?_
                refine tN ?_
                refine W_seq ?_
                refine W_rs ?_
                refine st (X.fa fa107_1 rfl) rfl ?_
                refine st (X.ldL rfl hB8 Try.underlying3 rfl rfl) rfl ?_
                refine st (X.gtr rfl rfl) rfl ?_
                refine Wn ?_
                refine tN ?_
                refine W_if rfl (fun h60 => ?_) (fun h60 => ?_)
                · first | replace h60 := of_decide_eq_true h60 | replace h60 := of_decide_eq_false (notT h60) | replace h60 := notT h60 | skip
                  obtain ⟨z, hz⟩ : ∃ z, (N : Int) - 4294967296 = z := ⟨_, rfl⟩
                  have hz2 : z = x.len := by rw [hx2, ← hz]; unfold sgn; rw [if_neg (by omega)]
                  refine W_reg ?_
                  refine st (X.fa fa107_1 rfl) rfl ?_
                  refine st (X.ldL rfl hB8 Try.underlying3 rfl rfl) rfl ?_
                  refine st (X.sub rfl rfl (show IntKind.i64.wrap ((N : Int) - 4294967296) = z by rw [w64 (by omega), hz])) rfl ?_
                  refine st (X.fa fa107_1 rfl) rfl ?_
                  refine ssB rfl rfl hB8 siz3 rfl (by first | decide | simp) (fun w7 hB_ hc_ => ?_)
                  replace hB8 := hB_
                  clear hB_
                  replace hpend := bset hpend hc_ (by omega)
                  replace hbw := bset hbw hc_ (by omega)
                  have hz_w7 := hc_.size
                  clear hc_
                  refine Wn ?_
                  refine tN ?_
                  refine W_seq ?_
                  by_cases hsp_ : 0 < j
                  · replace hR := hR.bel hpend
                    clear hpend
                    replace hB8 : Blk w7 g8 107 #[str x.sum, .int .i64 x.len] := by rw [← hz2]; exact hB8
                    obtain ⟨y, hy⟩ : ∃ y, L[j - 1]? = some y := ⟨_, List.getElem?_eq_getElem (by omega)⟩
                    have hy' : L[j - 1 + 1]? = some x := by rw [show j - 1 + 1 = j by omega]; exact hx
                    have htl : (L.take j).length = j := by rw [List.length_take]; omega
                    have hRe : RAt w7 (.slice a5 (L.take j).length c5) (L.take j) := by unfold RAt; rw [htl]; exact hR.reads
                    obtain ⟨g1, o1, c', hv, hg1⟩ := hRe.some_ (by omega)
                    injection hv with e1 _ e3
                    subst e1 e3
                    have hyt : (L.take j)[j - 1]? = some y := by rw [List.getElem?_take_of_lt (by omega)]; exact hy
                    refine W_drsN (fun W_ => Blk W_ g8 107 #[str x.sum, .int .i64 x.len] ∧ W_.rangeAt g1 (o1 + (j - 1) * 2) (rcells y)) [0, 1, 2, 3, 4, 5, 6, 7, 8, 9, 10, 11, 12] [true, true, true, true, true, true, true, true, true, true, true, true, true] (by kernel_rfl) (by kernel_rfl) (⟨hB8.drew, RAt.range (hRe.bel (bdrew (Below.refl _ _))) hyt⟩) ?_
                    obtain ⟨w8, hw_⟩ : ∃ w8 : World, w8 = World.drew w7 := ⟨_, rfl⟩
                    rw [← hw_]
                    have hb : Below w7.heap.size w7 w8 := by rw [hw_]; exact bdrew (Below.refl _ _)
                    clear hw_
                    have hS := hb
                    have hpend := hb
                    replace hbw := bthen hbw hb
                    replace hB8 := hB8.bel hb
                    have hz_w8 := hb.size
                    clear hb
                    refine oY rfl (fun W_ hW_ => (X.move rfl)) rfl ?_
                    refine oY rfl (fun W_ hW_ => (X.gtr rfl rfl)) rfl ?_
                    refine oY rfl (fun W_ hW_ => (X.mvB (c := true) rfl (decide_eq_true (by omega)))) rfl ?_
                    refine oYg (g := 67) rfl rfl rfl rfl (fun W_ hW_ => (X.move rfl)) rfl ?_
                    refine oYg (g := 67) rfl rfl rfl rfl (fun W_ hW_ => (X.move rfl)) rfl ?_
                    refine oYg (g := 67) rfl rfl rfl rfl (fun W_ hW_ => (X.sub rfl rfl (show IntKind.i64.wrap ((j : Int) - 1) = ((j - 1 : Nat) : Int) by rw [w64 (by omega)]; omega))) rfl ?_
                    refine oYg (g := 67) rfl rfl rfl rfl (fun W_ hW_ => (X.idxA rfl rfl Try.underlying29 siz107 rfl (by omega))) rfl ?_
                    refine oYg (g := 67) rfl rfl rfl rfl (fun W_ hW_ => (X.fa fa107_0 rfl)) rfl ?_
                    refine oYg (g := 67) rfl rfl rfl rfl (fun W_ hW_ => (X.ld rfl Try.underlying9 rfl (hW_.2 0 _ rfl))) rfl ?_
                    refine oYg (g := 67) rfl rfl rfl rfl (fun W_ hW_ => (X.fa fa107_0 rfl)) rfl ?_
                    refine oYg (g := 67) rfl rfl rfl rfl (fun W_ hW_ => (X.ldL rfl hW_.1 Try.underlying9 rfl rfl)) rfl ?_
                    refine oYg (g := 67) rfl rfl rfl rfl (fun W_ hW_ => (X.geS rfl rfl)) rfl ?_
                    refine oY rfl (fun W_ hW_ => (X.pickT rfl rfl)) rfl ?_
                    refine oN ?_
                    refine nN ?_
                    refine W_if rfl (fun h77 => ?_) (fun h77 => ?_)
                    · first | replace h77 := of_decide_eq_true h77 | replace h77 := of_decide_eq_false (notT h77) | replace h77 := notT h77 | skip
                      refine W_rs ?_
                      refine sa rfl rfl ?_
                      refine sa rfl rfl ?_
                      refine Wn ?_
                      refine tN ?_
                      replace hR := hR.bel hpend
                      clear hpend
                      refine W_ret (tR (bR (tR (tR (bR (tR ?_))))))
                      have hnlt : ¬ y.sum < x.sum := fun hlt => by rw [bytesLess_eq] at h77; simp [hlt] at h77
                      exact (rTT rfl rfl rfl (runp_err (show unpackM s = .error 18 by rw [hu, if_pos (srtB_no hy hy' hnlt)]) hbw)).1
                    · first | replace h77 := of_decide_eq_false h77 | replace h77 := of_decide_eq_true (notF h77) | replace h77 := notF h77 | skip
                      refine W_skip ?_
                      refine tN ?_
                      refine W_reg ?_
                      have hlt' : y.sum < x.sum := Classical.byContradiction fun hn' => by rw [bytesLess_eq] at h77; simp [hn'] at h77
                      have hso' : srtB (L.take (j + 1)) = true := by
                        have := srtB_take (i := j - 1) (by rw [show j - 1 + 1 = j by omega]; exact hso) hy hy' hlt'
                        rwa [show j - 1 + 2 = j + 1 by omega] at this
                      refine sm rfl rfl ?_
                      refine st (X.ldBN rfl hB8 Try.underlying107 rfl siz107) rfl ?_
                      refine sbs1 rfl Try.underlying29 inf107 rfl rfl (by decide) (by decide) rfl (fun g80 w9 hR80 hg80 hb => ?_)
                      replace hpend := bthen hpend hb
                      replace hbw := bthen hbw hb
                      replace hB8 := hB8.bel hb
                      have hz_w9 := hb.size
                      clear hb
                      have hl80 := hR80.blt (by decide)
                      replace hR := hR.bel hpend
                      clear hpend
                      refine sapp rfl rfl Try.underlying29 inf107 rfl (by decide) hR (hR80.reads.src Try.underlying29 (rcells_one x)) (by simp only [maxLen]; omega) (by omega) rfl (fun v5' w10 hR' hC hv' => ?_)
                      replace hbw := bapp hbw hC hO
                      replace hO := own_next hv' hO (by omega)
                      clear hC hv'
                      refine sa rfl rfl ?_
                      refine Wn ?_
                      refine bN ?_
                      refine tN ?_
                      refine W_reg ?_
                      refine sm rfl rfl ?_
                      refine st (X.add64 rfl rfl (by omega)) rfl ?_
                      refine sa rfl rfl ?_
                      refine Wn ?_
                      refine tN ⟨_, _, ?_, ⟨j + 1, v5', rfl, rfl, by omega, hso', by rw [take_next' hx, List.flatMap_append]; exact hR', hO, hbw⟩, ⟨rfl, rfl, rfl, by rw [hbd]; rfl, rfl, trivial⟩⟩
                      omega
                  · replace hB8 : Blk w7 g8 107 #[str x.sum, .int .i64 x.len] := by rw [← hz2]; exact hB8
                    refine W_drsN (fun _ => True) [0, 1, 2, 3, 4, 5, 6, 7, 8, 9, 10, 11, 12] [true, true, true, true, true, true, true, true, true, true, true, true, true] (by kernel_rfl) (by kernel_rfl) (trivial) ?_
                    obtain ⟨w11, hw_⟩ : ∃ w11 : World, w11 = World.drew w7 := ⟨_, rfl⟩
                    rw [← hw_]
                    have hb : Below w7.heap.size w7 w11 := by rw [hw_]; exact bdrew (Below.refl _ _)
                    clear hw_
                    have hS : True := trivial
                    replace hpend := bthen hpend hb
                    replace hbw := bthen hbw hb
                    replace hB8 := hB8.bel hb
                    have hz_w11 := hb.size
                    clear hb
                    refine oY rfl (fun W_ hW_ => (X.move rfl)) rfl ?_
                    refine oY rfl (fun W_ hW_ => (X.gtr rfl rfl)) rfl ?_
                    refine oY rfl (fun W_ hW_ => (X.mvB (c := false) rfl (decide_eq_false (by omega)))) rfl ?_
                    refine oNg (g := 67) rfl rfl rfl rfl hS rfl ?_
                    refine oNg (g := 67) rfl rfl rfl rfl hS rfl ?_
                    refine oNg (g := 67) rfl rfl rfl rfl hS rfl ?_
                    refine oNg (g := 67) rfl rfl rfl rfl hS rfl ?_
                    refine oNg (g := 67) rfl rfl rfl rfl hS rfl ?_
                    refine oNg (g := 67) rfl rfl rfl rfl hS rfl ?_
                    refine oNg (g := 67) rfl rfl rfl rfl hS rfl ?_
                    refine oNg (g := 67) rfl rfl rfl rfl hS rfl ?_
                    refine oNg (g := 67) rfl rfl rfl rfl hS rfl ?_
                    refine oY rfl (fun W_ hW_ => (X.pickF rfl rfl)) rfl ?_
                    refine oN ?_
                    refine nN ?_
                    refine W_no rfl (rfl) ?_
                    refine W_skip ?_
                    refine tN ?_
                    refine W_reg ?_
                    have hso' : srtB (L.take (j + 1)) = true := by
                      obtain rfl : j = 0 := by omega
                      cases L with
                      | nil => rfl
                      | cons c L => rfl
                    refine sm rfl rfl ?_
                    refine st (X.ldBN rfl hB8 Try.underlying107 rfl siz107) rfl ?_
                    refine sbs1 rfl Try.underlying29 inf107 rfl rfl (by decide) (by decide) rfl (fun g80 w12 hR80 hg80 hb => ?_)
                    replace hpend := bthen hpend hb
                    replace hbw := bthen hbw hb
                    replace hB8 := hB8.bel hb
                    have hz_w12 := hb.size
                    clear hb
                    have hl80 := hR80.blt (by decide)
                    replace hR := hR.bel hpend
                    clear hpend
                    refine sapp rfl rfl Try.underlying29 inf107 rfl (by decide) hR (hR80.reads.src Try.underlying29 (rcells_one x)) (by simp only [maxLen]; omega) (by omega) rfl (fun v5' w13 hR' hC hv' => ?_)
                    replace hbw := bapp hbw hC hO
                    replace hO := own_next hv' hO (by omega)
                    clear hC hv'
                    refine sa rfl rfl ?_
                    refine Wn ?_
                    refine bN ?_
                    refine tN ?_
                    refine W_reg ?_
                    refine sm rfl rfl ?_
                    refine st (X.add64 rfl rfl (by omega)) rfl ?_
                    refine sa rfl rfl ?_
                    refine Wn ?_
                    refine tN ⟨_, _, ?_, ⟨j + 1, v5', rfl, rfl, by omega, hso', by rw [take_next' hx, List.flatMap_append]; exact hR', hO, hbw⟩, ⟨rfl, rfl, rfl, by rw [hbd]; rfl, rfl, trivial⟩⟩
                    omega
                · first | replace h60 := of_decide_eq_false h60 | replace h60 := of_decide_eq_true (notF h60) | replace h60 := notF h60 | skip
                  have hz2 : (N : Int) = x.len := by rw [hx2]; unfold sgn; rw [if_pos (by omega)]
                  refine W_skip ?_
                  refine tN ?_
                  refine W_seq ?_
                  by_cases hsp_ : 0 < j
                  · replace hR := hR.bel hpend
                    clear hpend
                    replace hB8 : Blk w6 g8 107 #[str x.sum, .int .i64 x.len] := by rw [← hz2]; exact hB8
                    obtain ⟨y, hy⟩ : ∃ y, L[j - 1]? = some y := ⟨_, List.getElem?_eq_getElem (by omega)⟩
                    have hy' : L[j - 1 + 1]? = some x := by rw [show j - 1 + 1 = j by omega]; exact hx
                    have htl : (L.take j).length = j := by rw [List.length_take]; omega
                    have hRe : RAt w6 (.slice a5 (L.take j).length c5) (L.take j) := by unfold RAt; rw [htl]; exact hR.reads
                    obtain ⟨g1, o1, c', hv, hg1⟩ := hRe.some_ (by omega)
                    injection hv with e1 _ e3
                    subst e1 e3
                    have hyt : (L.take j)[j - 1]? = some y := by rw [List.getElem?_take_of_lt (by omega)]; exact hy
                    refine W_drsN (fun W_ => Blk W_ g8 107 #[str x.sum, .int .i64 x.len] ∧ W_.rangeAt g1 (o1 + (j - 1) * 2) (rcells y)) [0, 1, 2, 3, 4, 5, 6, 7, 8, 9, 10, 11, 12] [true, true, true, true, true, true, true, true, true, true, true, true, true] (by kernel_rfl) (by kernel_rfl) (⟨hB8.drew, RAt.range (hRe.bel (bdrew (Below.refl _ _))) hyt⟩) ?_
                    obtain ⟨w14, hw_⟩ : ∃ w14 : World, w14 = World.drew w6 := ⟨_, rfl⟩
                    rw [← hw_]
                    have hb : Below w6.heap.size w6 w14 := by rw [hw_]; exact bdrew (Below.refl _ _)
                    clear hw_
                    have hS := hb
                    have hpend := hb
                    replace hbw := bthen hbw hb
                    replace hB8 := hB8.bel hb
                    have hz_w14 := hb.size
                    clear hb
                    refine oY rfl (fun W_ hW_ => (X.move rfl)) rfl ?_
                    refine oY rfl (fun W_ hW_ => (X.gtr rfl rfl)) rfl ?_
                    refine oY rfl (fun W_ hW_ => (X.mvB (c := true) rfl (decide_eq_true (by omega)))) rfl ?_
                    refine oYg (g := 67) rfl rfl rfl rfl (fun W_ hW_ => (X.move rfl)) rfl ?_
                    refine oYg (g := 67) rfl rfl rfl rfl (fun W_ hW_ => (X.move rfl)) rfl ?_
                    refine oYg (g := 67) rfl rfl rfl rfl (fun W_ hW_ => (X.sub rfl rfl (show IntKind.i64.wrap ((j : Int) - 1) = ((j - 1 : Nat) : Int) by rw [w64 (by omega)]; omega))) rfl ?_
                    refine oYg (g := 67) rfl rfl rfl rfl (fun W_ hW_ => (X.idxA rfl rfl Try.underlying29 siz107 rfl (by omega))) rfl ?_
                    refine oYg (g := 67) rfl rfl rfl rfl (fun W_ hW_ => (X.fa fa107_0 rfl)) rfl ?_
                    refine oYg (g := 67) rfl rfl rfl rfl (fun W_ hW_ => (X.ld rfl Try.underlying9 rfl (hW_.2 0 _ rfl))) rfl ?_
                    refine oYg (g := 67) rfl rfl rfl rfl (fun W_ hW_ => (X.fa fa107_0 rfl)) rfl ?_
                    refine oYg (g := 67) rfl rfl rfl rfl (fun W_ hW_ => (X.ldL rfl hW_.1 Try.underlying9 rfl rfl)) rfl ?_
                    refine oYg (g := 67) rfl rfl rfl rfl (fun W_ hW_ => (X.geS rfl rfl)) rfl ?_
                    refine oY rfl (fun W_ hW_ => (X.pickT rfl rfl)) rfl ?_
                    refine oN ?_
                    refine nN ?_
                    refine W_if rfl (fun h77 => ?_) (fun h77 => ?_)
                    · first | replace h77 := of_decide_eq_true h77 | replace h77 := of_decide_eq_false (notT h77) | replace h77 := notT h77 | skip
                      refine W_rs ?_
                      refine sa rfl rfl ?_
                      refine sa rfl rfl ?_
                      refine Wn ?_
                      refine tN ?_
                      replace hR := hR.bel hpend
                      clear hpend
                      refine W_ret (tR (bR (tR (tR (bR (tR ?_))))))
                      have hnlt : ¬ y.sum < x.sum := fun hlt => by rw [bytesLess_eq] at h77; simp [hlt] at h77
                      exact (rTT rfl rfl rfl (runp_err (show unpackM s = .error 18 by rw [hu, if_pos (srtB_no hy hy' hnlt)]) hbw)).1
                    · first | replace h77 := of_decide_eq_false h77 | replace h77 := of_decide_eq_true (notF h77) | replace h77 := notF h77 | skip
                      refine W_skip ?_
                      refine tN ?_
                      refine W_reg ?_
                      have hlt' : y.sum < x.sum := Classical.byContradiction fun hn' => by rw [bytesLess_eq] at h77; simp [hn'] at h77
                      have hso' : srtB (L.take (j + 1)) = true := by
                        have := srtB_take (i := j - 1) (by rw [show j - 1 + 1 = j by omega]; exact hso) hy hy' hlt'
                        rwa [show j - 1 + 2 = j + 1 by omega] at this
                      refine sm rfl rfl ?_
                      refine st (X.ldBN rfl hB8 Try.underlying107 rfl siz107) rfl ?_
                      refine sbs1 rfl Try.underlying29 inf107 rfl rfl (by decide) (by decide) rfl (fun g80 w15 hR80 hg80 hb => ?_)
                      replace hpend := bthen hpend hb
                      replace hbw := bthen hbw hb
                      replace hB8 := hB8.bel hb
                      have hz_w15 := hb.size
                      clear hb
                      have hl80 := hR80.blt (by decide)
                      replace hR := hR.bel hpend
                      clear hpend
                      refine sapp rfl rfl Try.underlying29 inf107 rfl (by decide) hR (hR80.reads.src Try.underlying29 (rcells_one x)) (by simp only [maxLen]; omega) (by omega) rfl (fun v5' w16 hR' hC hv' => ?_)
                      replace hbw := bapp hbw hC hO
                      replace hO := own_next hv' hO (by omega)
                      clear hC hv'
                      refine sa rfl rfl ?_
                      refine Wn ?_
                      refine bN ?_
                      refine tN ?_
                      refine W_reg ?_
                      refine sm rfl rfl ?_
                      refine st (X.add64 rfl rfl (by omega)) rfl ?_
                      refine sa rfl rfl ?_
                      refine Wn ?_
                      refine tN ⟨_, _, ?_, ⟨j + 1, v5', rfl, rfl, by omega, hso', by rw [take_next' hx, List.flatMap_append]; exact hR', hO, hbw⟩, ⟨rfl, rfl, rfl, by rw [hbd]; rfl, rfl, trivial⟩⟩
                      omega
                  · replace hB8 : Blk w6 g8 107 #[str x.sum, .int .i64 x.len] := by rw [← hz2]; exact hB8
                    refine W_drsN (fun _ => True) [0, 1, 2, 3, 4, 5, 6, 7, 8, 9, 10, 11, 12] [true, true, true, true, true, true, true, true, true, true, true, true, true] (by kernel_rfl) (by kernel_rfl) (trivial) ?_
                    obtain ⟨w17, hw_⟩ : ∃ w17 : World, w17 = World.drew w6 := ⟨_, rfl⟩
                    rw [← hw_]
                    have hb : Below w6.heap.size w6 w17 := by rw [hw_]; exact bdrew (Below.refl _ _)
                    clear hw_
                    have hS : True := trivial
                    replace hpend := bthen hpend hb
                    replace hbw := bthen hbw hb
                    replace hB8 := hB8.bel hb
                    have hz_w17 := hb.size
                    clear hb
                    refine oY rfl (fun W_ hW_ => (X.move rfl)) rfl ?_
                    refine oY rfl (fun W_ hW_ => (X.gtr rfl rfl)) rfl ?_
                    refine oY rfl (fun W_ hW_ => (X.mvB (c := false) rfl (decide_eq_false (by omega)))) rfl ?_
                    refine oNg (g := 67) rfl rfl rfl rfl hS rfl ?_
                    refine oNg (g := 67) rfl rfl rfl rfl hS rfl ?_
                    refine oNg (g := 67) rfl rfl rfl rfl hS rfl ?_
                    refine oNg (g := 67) rfl rfl rfl rfl hS rfl ?_
                    refine oNg (g := 67) rfl rfl rfl rfl hS rfl ?_
                    refine oNg (g := 67) rfl rfl rfl rfl hS rfl ?_
                    refine oNg (g := 67) rfl rfl rfl rfl hS rfl ?_
                    refine oNg (g := 67) rfl rfl rfl rfl hS rfl ?_
                    refine oNg (g := 67) rfl rfl rfl rfl hS rfl ?_
                    refine oY rfl (fun W_ hW_ => (X.pickF rfl rfl)) rfl ?_
                    refine oN ?_
                    refine nN ?_
                    refine W_no rfl (rfl) ?_
                    refine W_skip ?_
                    refine tN ?_
                    refine W_reg ?_
                    have hso' : srtB (L.take (j + 1)) = true := by
                      obtain rfl : j = 0 := by omega
                      cases L with
                      | nil => rfl
                      | cons c L => rfl
                    refine sm rfl rfl ?_
                    refine st (X.ldBN rfl hB8 Try.underlying107 rfl siz107) rfl ?_
                    refine sbs1 rfl Try.underlying29 inf107 rfl rfl (by decide) (by decide) rfl (fun g80 w18 hR80 hg80 hb => ?_)
                    replace hpend := bthen hpend hb
                    replace hbw := bthen hbw hb
                    replace hB8 := hB8.bel hb
                    have hz_w18 := hb.size
                    clear hb
                    have hl80 := hR80.blt (by decide)
                    replace hR := hR.bel hpend
                    clear hpend
                    refine sapp rfl rfl Try.underlying29 inf107 rfl (by decide) hR (hR80.reads.src Try.underlying29 (rcells_one x)) (by simp only [maxLen]; omega) (by omega) rfl (fun v5' w19 hR' hC hv' => ?_)
                    replace hbw := bapp hbw hC hO
                    replace hO := own_next hv' hO (by omega)
                    clear hC hv'
                    refine sa rfl rfl ?_
                    refine Wn ?_
                    refine bN ?_
                    refine tN ?_
                    refine W_reg ?_
                    refine sm rfl rfl ?_
                    refine st (X.add64 rfl rfl (by omega)) rfl ?_
                    refine sa rfl rfl ?_
                    refine Wn ?_
                    refine tN ⟨_, _, ?_, ⟨j + 1, v5', rfl, rfl, by omega, hso', by rw [take_next' hx, List.flatMap_append]; exact hR', hO, hbw⟩, ⟨rfl, rfl, rfl, by rw [hbd]; rfl, rfl, trivial⟩⟩
                    omega
              · first | replace h48 := of_decide_eq_false h48 | replace h48 := of_decide_eq_true (notF h48) | replace h48 := notF h48 | skip
                refine gY (g := 48) rfl rfl rfl ?_
                refine st (X.fa fa107_1 rfl) rfl ?_
                refine gY (g := 48) rfl rfl rfl ?_
                refine st (X.ldL rfl hB8 Try.underlying3 rfl rfl) rfl ?_
                refine gY (g := 48) rfl rfl rfl ?_
                refine st (X.eql rfl rfl) rfl ?_
                refine st (X.pickF rfl rfl) rfl ?_
                refine sb rfl rfl (fun h53 => ?_) (fun h53 => ?_)
                · first | replace h53 := of_decide_eq_true h53 | replace h53 := of_decide_eq_false (notT h53) | replace h53 := notT h53 | skip
                  have hbd : (L.take (j + 1)).any formN = true := by rw [hxa, show N = 0 by omega]; simp
                  refine gN (g := 53) rfl rfl rfl rfl ?_
                  refine gN (g := 53) rfl rfl rfl rfl ?_
                  refine gN (g := 53) rfl rfl rfl rfl ?_
                  refine st (X.pickT rfl rfl) rfl ?_
                  refine sa rfl rfl ?_
                  refine Wn ?_
                  refine tN ?_
                  refine W_seq ?_
                  refine W_rs ?_
                  refine st (X.fa fa107_1 rfl) rfl ?_
                  refine st (X.ldL rfl hB8 Try.underlying3 rfl rfl) rfl ?_
                  refine st (X.gtr rfl rfl) rfl ?_
                  refine Wn ?_
                  refine tN ?_
                  refine W_if rfl (fun h60 => ?_) (fun h60 => ?_)
                  · first | replace h60 := of_decide_eq_true h60 | replace h60 := of_decide_eq_false (notT h60) | replace h60 := notT h60 | skip
                    obtain ⟨z, hz⟩ : ∃ z, (N : Int) - 4294967296 = z := ⟨_, rfl⟩
                    have hz2 : z = x.len := by rw [hx2, ← hz]; unfold sgn; rw [if_neg (by omega)]
                    refine W_reg ?_
                    refine st (X.fa fa107_1 rfl) rfl ?_
                    refine st (X.ldL rfl hB8 Try.underlying3 rfl rfl) rfl ?_
                    refine st (X.sub rfl rfl (show IntKind.i64.wrap ((N : Int) - 4294967296) = z by rw [w64 (by omega), hz])) rfl ?_
                    refine st (X.fa fa107_1 rfl) rfl ?_
                    refine ssB rfl rfl hB8 siz3 rfl (by first | decide | simp) (fun w20 hB_ hc_ => ?_)
                    replace hB8 := hB_
                    clear hB_
                    replace hpend := bset hpend hc_ (by omega)
                    replace hbw := bset hbw hc_ (by omega)
                    have hz_w20 := hc_.size
                    clear hc_
                    refine Wn ?_
                    refine tN ?_
                    refine W_seq ?_
                    by_cases hsp_ : 0 < j
                    · replace hR := hR.bel hpend
                      clear hpend
                      replace hB8 : Blk w20 g8 107 #[str x.sum, .int .i64 x.len] := by rw [← hz2]; exact hB8
                      obtain ⟨y, hy⟩ : ∃ y, L[j - 1]? = some y := ⟨_, List.getElem?_eq_getElem (by omega)⟩
                      have hy' : L[j - 1 + 1]? = some x := by rw [show j - 1 + 1 = j by omega]; exact hx
                      have htl : (L.take j).length = j := by rw [List.length_take]; omega
                      have hRe : RAt w20 (.slice a5 (L.take j).length c5) (L.take j) := by unfold RAt; rw [htl]; exact hR.reads
                      obtain ⟨g1, o1, c', hv, hg1⟩ := hRe.some_ (by omega)
                      injection hv with e1 _ e3
                      subst e1 e3
                      have hyt : (L.take j)[j - 1]? = some y := by rw [List.getElem?_take_of_lt (by omega)]; exact hy
                      refine W_drsN (fun W_ => Blk W_ g8 107 #[str x.sum, .int .i64 x.len] ∧ W_.rangeAt g1 (o1 + (j - 1) * 2) (rcells y)) [0, 1, 2, 3, 4, 5, 6, 7, 8, 9, 10, 11, 12] [true, true, true, true, true, true, true, true, true, true, true, true, true] (by kernel_rfl) (by kernel_rfl) (⟨hB8.drew, RAt.range (hRe.bel (bdrew (Below.refl _ _))) hyt⟩) ?_
                      obtain ⟨w21, hw_⟩ : ∃ w21 : World, w21 = World.drew w20 := ⟨_, rfl⟩
                      rw [← hw_]
                      have hb : Below w20.heap.size w20 w21 := by rw [hw_]; exact bdrew (Below.refl _ _)
                      clear hw_
                      have hS := hb
                      have hpend := hb
                      replace hbw := bthen hbw hb
                      replace hB8 := hB8.bel hb
                      have hz_w21 := hb.size
                      clear hb
                      refine oY rfl (fun W_ hW_ => (X.move rfl)) rfl ?_
                      refine oY rfl (fun W_ hW_ => (X.gtr rfl rfl)) rfl ?_
                      refine oY rfl (fun W_ hW_ => (X.mvB (c := true) rfl (decide_eq_true (by omega)))) rfl ?_
                      refine oYg (g := 67) rfl rfl rfl rfl (fun W_ hW_ => (X.move rfl)) rfl ?_
                      refine oYg (g := 67) rfl rfl rfl rfl (fun W_ hW_ => (X.move rfl)) rfl ?_
                      refine oYg (g := 67) rfl rfl rfl rfl (fun W_ hW_ => (X.sub rfl rfl (show IntKind.i64.wrap ((j : Int) - 1) = ((j - 1 : Nat) : Int) by rw [w64 (by omega)]; omega))) rfl ?_
                      refine oYg (g := 67) rfl rfl rfl rfl (fun W_ hW_ => (X.idxA rfl rfl Try.underlying29 siz107 rfl (by omega))) rfl ?_
                      refine oYg (g := 67) rfl rfl rfl rfl (fun W_ hW_ => (X.fa fa107_0 rfl)) rfl ?_
                      refine oYg (g := 67) rfl rfl rfl rfl (fun W_ hW_ => (X.ld rfl Try.underlying9 rfl (hW_.2 0 _ rfl))) rfl ?_
                      refine oYg (g := 67) rfl rfl rfl rfl (fun W_ hW_ => (X.fa fa107_0 rfl)) rfl ?_
                      refine oYg (g := 67) rfl rfl rfl rfl (fun W_ hW_ => (X.ldL rfl hW_.1 Try.underlying9 rfl rfl)) rfl ?_
                      refine oYg (g := 67) rfl rfl rfl rfl (fun W_ hW_ => (X.geS rfl rfl)) rfl ?_
                      refine oY rfl (fun W_ hW_ => (X.pickT rfl rfl)) rfl ?_
                      refine oN ?_
                      refine nN ?_
                      refine W_if rfl (fun h77 => ?_) (fun h77 => ?_)
                      · first | replace h77 := of_decide_eq_true h77 | replace h77 := of_decide_eq_false (notT h77) | replace h77 := notT h77 | skip
                        refine W_rs ?_
                        refine sa rfl rfl ?_
                        refine sa rfl rfl ?_
                        refine Wn ?_
                        refine tN ?_
                        replace hR := hR.bel hpend
                        clear hpend
                        refine W_ret (tR (bR (tR (tR (bR (tR ?_))))))
                        have hnlt : ¬ y.sum < x.sum := fun hlt => by rw [bytesLess_eq] at h77; simp [hlt] at h77
                        exact (rTT rfl rfl rfl (runp_err (show unpackM s = .error 18 by rw [hu, if_pos (srtB_no hy hy' hnlt)]) hbw)).1
                      · first | replace h77 := of_decide_eq_false h77 | replace h77 := of_decide_eq_true (notF h77) | replace h77 := notF h77 | skip
                        refine W_skip ?_
                        refine tN ?_
                        refine W_reg ?_
                        have hlt' : y.sum < x.sum := Classical.byContradiction fun hn' => by rw [bytesLess_eq] at h77; simp [hn'] at h77
                        have hso' : srtB (L.take (j + 1)) = true := by
                          have := srtB_take (i := j - 1) (by rw [show j - 1 + 1 = j by omega]; exact hso) hy hy' hlt'
                          rwa [show j - 1 + 2 = j + 1 by omega] at this
                        refine sm rfl rfl ?_
                        refine st (X.ldBN rfl hB8 Try.underlying107 rfl siz107) rfl ?_
                        refine sbs1 rfl Try.underlying29 inf107 rfl rfl (by decide) (by decide) rfl (fun g80 w22 hR80 hg80 hb => ?_)
                        replace hpend := bthen hpend hb
                        replace hbw := bthen hbw hb
                        replace hB8 := hB8.bel hb
                        have hz_w22 := hb.size
                        clear hb
                        have hl80 := hR80.blt (by decide)
                        replace hR := hR.bel hpend
                        clear hpend
                        refine sapp rfl rfl Try.underlying29 inf107 rfl (by decide) hR (hR80.reads.src Try.underlying29 (rcells_one x)) (by simp only [maxLen]; omega) (by omega) rfl (fun v5' w23 hR' hC hv' => ?_)
                        replace hbw := bapp hbw hC hO
                        replace hO := own_next hv' hO (by omega)
                        clear hC hv'
                        refine sa rfl rfl ?_
                        refine Wn ?_
                        refine bN ?_
                        refine tN ?_
                        refine W_reg ?_
                        refine sm rfl rfl ?_
                        refine st (X.add64 rfl rfl (by omega)) rfl ?_
                        refine sa rfl rfl ?_
                        refine Wn ?_
                        refine tN ⟨_, _, ?_, ⟨j + 1, v5', rfl, rfl, by omega, hso', by rw [take_next' hx, List.flatMap_append]; exact hR', hO, hbw⟩, ⟨rfl, rfl, rfl, by rw [hbd]; rfl, rfl, trivial⟩⟩
                        omega
                    · replace hB8 : Blk w20 g8 107 #[str x.sum, .int .i64 x.len] := by rw [← hz2]; exact hB8
                      refine W_drsN (fun _ => True) [0, 1, 2, 3, 4, 5, 6, 7, 8, 9, 10, 11, 12] [true, true, true, true, true, true, true, true, true, true, true, true, true] (by kernel_rfl) (by kernel_rfl) (trivial) ?_
                      obtain ⟨w24, hw_⟩ : ∃ w24 : World, w24 = World.drew w20 := ⟨_, rfl⟩
                      rw [← hw_]
                      have hb : Below w20.heap.size w20 w24 := by rw [hw_]; exact bdrew (Below.refl _ _)
                      clear hw_
                      have hS : True := trivial
                      replace hpend := bthen hpend hb
                      replace hbw := bthen hbw hb
                      replace hB8 := hB8.bel hb
                      have hz_w24 := hb.size
                      clear hb
                      refine oY rfl (fun W_ hW_ => (X.move rfl)) rfl ?_
                      refine oY rfl (fun W_ hW_ => (X.gtr rfl rfl)) rfl ?_
                      refine oY rfl (fun W_ hW_ => (X.mvB (c := false) rfl (decide_eq_false (by omega)))) rfl ?_
                      refine oNg (g := 67) rfl rfl rfl rfl hS rfl ?_
                      refine oNg (g := 67) rfl rfl rfl rfl hS rfl ?_
                      refine oNg (g := 67) rfl rfl rfl rfl hS rfl ?_
                      refine oNg (g := 67) rfl rfl rfl rfl hS rfl ?_
                      refine oNg (g := 67) rfl rfl rfl rfl hS rfl ?_
                      refine oNg (g := 67) rfl rfl rfl rfl hS rfl ?_
                      refine oNg (g := 67) rfl rfl rfl rfl hS rfl ?_
                      refine oNg (g := 67) rfl rfl rfl rfl hS rfl ?_
                      refine oNg (g := 67) rfl rfl rfl rfl hS rfl ?_
                      refine oY rfl (fun W_ hW_ => (X.pickF rfl rfl)) rfl ?_
                      refine oN ?_
                      refine nN ?_
                      refine W_no rfl (rfl) ?_
                      refine W_skip ?_
                      refine tN ?_
                      refine W_reg ?_
                      have hso' : srtB (L.take (j + 1)) = true := by
                        obtain rfl : j = 0 := by omega
                        cases L with
                        | nil => rfl
                        | cons c L => rfl
                      refine sm rfl rfl ?_
                      refine st (X.ldBN rfl hB8 Try.underlying107 rfl siz107) rfl ?_
                      refine sbs1 rfl Try.underlying29 inf107 rfl rfl (by decide) (by decide) rfl (fun g80 w25 hR80 hg80 hb => ?_)
                      replace hpend := bthen hpend hb
                      replace hbw := bthen hbw hb
                      replace hB8 := hB8.bel hb
                      have hz_w25 := hb.size
                      clear hb
                      have hl80 := hR80.blt (by decide)
                      replace hR := hR.bel hpend
                      clear hpend
                      refine sapp rfl rfl Try.underlying29 inf107 rfl (by decide) hR (hR80.reads.src Try.underlying29 (rcells_one x)) (by simp only [maxLen]; omega) (by omega) rfl (fun v5' w26 hR' hC hv' => ?_)
                      replace hbw := bapp hbw hC hO
                      replace hO := own_next hv' hO (by omega)
                      clear hC hv'
                      refine sa rfl rfl ?_
                      refine Wn ?_
                      refine bN ?_
                      refine tN ?_
                      refine W_reg ?_
                      refine sm rfl rfl ?_
                      refine st (X.add64 rfl rfl (by omega)) rfl ?_
                      refine sa rfl rfl ?_
                      refine Wn ?_
                      refine tN ⟨_, _, ?_, ⟨j + 1, v5', rfl, rfl, by omega, hso', by rw [take_next' hx, List.flatMap_append]; exact hR', hO, hbw⟩, ⟨rfl, rfl, rfl, by rw [hbd]; rfl, rfl, trivial⟩⟩
                      omega
                  · first | replace h60 := of_decide_eq_false h60 | replace h60 := of_decide_eq_true (notF h60) | replace h60 := notF h60 | skip
                    have hz2 : (N : Int) = x.len := by rw [hx2]; unfold sgn; rw [if_pos (by omega)]
                    refine W_skip ?_
                    refine tN ?_
                    refine W_seq ?_
                    by_cases hsp_ : 0 < j
                    · replace hR := hR.bel hpend
                      clear hpend
                      replace hB8 : Blk w6 g8 107 #[str x.sum, .int .i64 x.len] := by rw [← hz2]; exact hB8
                      obtain ⟨y, hy⟩ : ∃ y, L[j - 1]? = some y := ⟨_, List.getElem?_eq_getElem (by omega)⟩
                      have hy' : L[j - 1 + 1]? = some x := by rw [show j - 1 + 1 = j by omega]; exact hx
                      have htl : (L.take j).length = j := by rw [List.length_take]; omega
                      have hRe : RAt w6 (.slice a5 (L.take j).length c5) (L.take j) := by unfold RAt; rw [htl]; exact hR.reads
                      obtain ⟨g1, o1, c', hv, hg1⟩ := hRe.some_ (by omega)
                      injection hv with e1 _ e3
                      subst e1 e3
                      have hyt : (L.take j)[j - 1]? = some y := by rw [List.getElem?_take_of_lt (by omega)]; exact hy
                      refine W_drsN (fun W_ => Blk W_ g8 107 #[str x.sum, .int .i64 x.len] ∧ W_.rangeAt g1 (o1 + (j - 1) * 2) (rcells y)) [0, 1, 2, 3, 4, 5, 6, 7, 8, 9, 10, 11, 12] [true, true, true, true, true, true, true, true, true, true, true, true, true] (by kernel_rfl) (by kernel_rfl) (⟨hB8.drew, RAt.range (hRe.bel (bdrew (Below.refl _ _))) hyt⟩) ?_
                      obtain ⟨w27, hw_⟩ : ∃ w27 : World, w27 = World.drew w6 := ⟨_, rfl⟩
                      rw [← hw_]
                      have hb : Below w6.heap.size w6 w27 := by rw [hw_]; exact bdrew (Below.refl _ _)
                      clear hw_
                      have hS := hb
                      have hpend := hb
                      replace hbw := bthen hbw hb
                      replace hB8 := hB8.bel hb
                      have hz_w27 := hb.size
                      clear hb
                      refine oY rfl (fun W_ hW_ => (X.move rfl)) rfl ?_
                      refine oY rfl (fun W_ hW_ => (X.gtr rfl rfl)) rfl ?_
                      refine oY rfl (fun W_ hW_ => (X.mvB (c := true) rfl (decide_eq_true (by omega)))) rfl ?_
                      refine oYg (g := 67) rfl rfl rfl rfl (fun W_ hW_ => (X.move rfl)) rfl ?_
                      refine oYg (g := 67) rfl rfl rfl rfl (fun W_ hW_ => (X.move rfl)) rfl ?_
                      refine oYg (g := 67) rfl rfl rfl rfl (fun W_ hW_ => (X.sub rfl rfl (show IntKind.i64.wrap ((j : Int) - 1) = ((j - 1 : Nat) : Int) by rw [w64 (by omega)]; omega))) rfl ?_
                      refine oYg (g := 67) rfl rfl rfl rfl (fun W_ hW_ => (X.idxA rfl rfl Try.underlying29 siz107 rfl (by omega))) rfl ?_
                      refine oYg (g := 67) rfl rfl rfl rfl (fun W_ hW_ => (X.fa fa107_0 rfl)) rfl ?_
                      refine oYg (g := 67) rfl rfl rfl rfl (fun W_ hW_ => (X.ld rfl Try.underlying9 rfl (hW_.2 0 _ rfl))) rfl ?_
                      refine oYg (g := 67) rfl rfl rfl rfl (fun W_ hW_ => (X.fa fa107_0 rfl)) rfl ?_
                      refine oYg (g := 67) rfl rfl rfl rfl (fun W_ hW_ => (X.ldL rfl hW_.1 Try.underlying9 rfl rfl)) rfl ?_
                      refine oYg (g := 67) rfl rfl rfl rfl (fun W_ hW_ => (X.geS rfl rfl)) rfl ?_
                      refine oY rfl (fun W_ hW_ => (X.pickT rfl rfl)) rfl ?_
                      refine oN ?_
                      refine nN ?_
                      refine W_if rfl (fun h77 => ?_) (fun h77 => ?_)
                      · first | replace h77 := of_decide_eq_true h77 | replace h77 := of_decide_eq_false (notT h77) | replace h77 := notT h77 | skip
                        refine W_rs ?_
                        refine sa rfl rfl ?_
                        refine sa rfl rfl ?_
                        refine Wn ?_
                        refine tN ?_
                        replace hR := hR.bel hpend
                        clear hpend
                        refine W_ret (tR (bR (tR (tR (bR (tR ?_))))))
                        have hnlt : ¬ y.sum < x.sum := fun hlt => by rw [bytesLess_eq] at h77; simp [hlt] at h77
                        exact (rTT rfl rfl rfl (runp_err (show unpackM s = .error 18 by rw [hu, if_pos (srtB_no hy hy' hnlt)]) hbw)).1
                      · first | replace h77 := of_decide_eq_false h77 | replace h77 := of_decide_eq_true (notF h77) | replace h77 := notF h77 | skip
                        refine W_skip ?_
                        refine tN ?_
                        refine W_reg ?_
                        have hlt' : y.sum < x.sum := Classical.byContradiction fun hn' => by rw [bytesLess_eq] at h77; simp [hn'] at h77
                        have hso' : srtB (L.take (j + 1)) = true := by
                          have := srtB_take (i := j - 1) (by rw [show j - 1 + 1 = j by omega]; exact hso) hy hy' hlt'
                          rwa [show j - 1 + 2 = j + 1 by omega] at this
                        refine sm rfl rfl ?_
                        refine st (X.ldBN rfl hB8 Try.underlying107 rfl siz107) rfl ?_
                        refine sbs1 rfl Try.underlying29 inf107 rfl rfl (by decide) (by decide) rfl (fun g80 w28 hR80 hg80 hb => ?_)
                        replace hpend := bthen hpend hb
                        replace hbw := bthen hbw hb
                        replace hB8 := hB8.bel hb
                        have hz_w28 := hb.size
                        clear hb
                        have hl80 := hR80.blt (by decide)
                        replace hR := hR.bel hpend
                        clear hpend
                        refine sapp rfl rfl Try.underlying29 inf107 rfl (by decide) hR (hR80.reads.src Try.underlying29 (rcells_one x)) (by simp only [maxLen]; omega) (by omega) rfl (fun v5' w29 hR' hC hv' => ?_)
                        replace hbw := bapp hbw hC hO
                        replace hO := own_next hv' hO (by omega)
                        clear hC hv'
                        refine sa rfl rfl ?_
                        refine Wn ?_
                        refine bN ?_
                        refine tN ?_
                        refine W_reg ?_
                        refine sm rfl rfl ?_
                        refine st (X.add64 rfl rfl (by omega)) rfl ?_
                        refine sa rfl rfl ?_
                        refine Wn ?_
                        refine tN ⟨_, _, ?_, ⟨j + 1, v5', rfl, rfl, by omega, hso', by rw [take_next' hx, List.flatMap_append]; exact hR', hO, hbw⟩, ⟨rfl, rfl, rfl, by rw [hbd]; rfl, rfl, trivial⟩⟩
                        omega
                    · replace hB8 : Blk w6 g8 107 #[str x.sum, .int .i64 x.len] := by rw [← hz2]; exact hB8
                      refine W_drsN (fun _ => True) [0, 1, 2, 3, 4, 5, 6, 7, 8, 9, 10, 11, 12] [true, true, true, true, true, true, true, true, true, true, true, true, true] (by kernel_rfl) (by kernel_rfl) (trivial) ?_
                      obtain ⟨w30, hw_⟩ : ∃ w30 : World, w30 = World.drew w6 := ⟨_, rfl⟩
                      rw [← hw_]
                      have hb : Below w6.heap.size w6 w30 := by rw [hw_]; exact bdrew (Below.refl _ _)
                      clear hw_
                      have hS : True := trivial
                      replace hpend := bthen hpend hb
                      replace hbw := bthen hbw hb
                      replace hB8 := hB8.bel hb
                      have hz_w30 := hb.size
                      clear hb
                      refine oY rfl (fun W_ hW_ => (X.move rfl)) rfl ?_
                      refine oY rfl (fun W_ hW_ => (X.gtr rfl rfl)) rfl ?_
                      refine oY rfl (fun W_ hW_ => (X.mvB (c := false) rfl (decide_eq_false (by omega)))) rfl ?_
                      refine oNg (g := 67) rfl rfl rfl rfl hS rfl ?_
                      refine oNg (g := 67) rfl rfl rfl rfl hS rfl ?_
                      refine oNg (g := 67) rfl rfl rfl rfl hS rfl ?_
                      refine oNg (g := 67) rfl rfl rfl rfl hS rfl ?_
                      refine oNg (g := 67) rfl rfl rfl rfl hS rfl ?_
                      refine oNg (g := 67) rfl rfl rfl rfl hS rfl ?_
                      refine oNg (g := 67) rfl rfl rfl rfl hS rfl ?_
                      refine oNg (g := 67) rfl rfl rfl rfl hS rfl ?_
                      refine oNg (g := 67) rfl rfl rfl rfl hS rfl ?_
                      refine oY rfl (fun W_ hW_ => (X.pickF rfl rfl)) rfl ?_
                      refine oN ?_
                      refine nN ?_
                      refine W_no rfl (rfl) ?_
                      refine W_skip ?_
                      refine tN ?_
                      refine W_reg ?_
                      have hso' : srtB (L.take (j + 1)) = true := by
                        obtain rfl : j = 0 := by omega
                        cases L with
                        | nil => rfl
                        | cons c L => rfl
                      refine sm rfl rfl ?_
                      refine st (X.ldBN rfl hB8 Try.underlying107 rfl siz107) rfl ?_
                      refine sbs1 rfl Try.underlying29 inf107 rfl rfl (by decide) (by decide) rfl (fun g80 w31 hR80 hg80 hb => ?_)
                      replace hpend := bthen hpend hb
                      replace hbw := bthen hbw hb
                      replace hB8 := hB8.bel hb
                      have hz_w31 := hb.size
                      clear hb
                      have hl80 := hR80.blt (by decide)
                      replace hR := hR.bel hpend
                      clear hpend
                      refine sapp rfl rfl Try.underlying29 inf107 rfl (by decide) hR (hR80.reads.src Try.underlying29 (rcells_one x)) (by simp only [maxLen]; omega) (by omega) rfl (fun v5' w32 hR' hC hv' => ?_)
                      replace hbw := bapp hbw hC hO
                      replace hO := own_next hv' hO (by omega)
                      clear hC hv'
                      refine sa rfl rfl ?_
                      refine Wn ?_
                      refine bN ?_
                      refine tN ?_
                      refine W_reg ?_
                      refine sm rfl rfl ?_
                      refine st (X.add64 rfl rfl (by omega)) rfl ?_
                      refine sa rfl rfl ?_
                      refine Wn ?_
                      refine tN ⟨_, _, ?_, ⟨j + 1, v5', rfl, rfl, by omega, hso', by rw [take_next' hx, List.flatMap_append]; exact hR', hO, hbw⟩, ⟨rfl, rfl, rfl, by rw [hbd]; rfl, rfl, trivial⟩⟩
                      omega
                · first | replace h53 := of_decide_eq_false h53 | replace h53 := of_decide_eq_true (notF h53) | replace h53 := notF h53 | skip
                  have hbd : (L.take (j + 1)).any formN = decide ((N : Int) = 2147483648) := by
                    rw [hxa, h48, Bool.false_or, decide_eq_decide]
                    omega
                  refine gY (g := 53) rfl rfl rfl ?_
                  refine st (X.fa fa107_1 rfl) rfl ?_
                  refine gY (g := 53) rfl rfl rfl ?_
                  refine st (X.ldL rfl hB8 Try.underlying3 rfl rfl) rfl ?_
                  refine gY (g := 53) rfl rfl rfl ?_
                  refine st (X.eql rfl rfl) rfl ?_
                  refine st (X.pickF rfl rfl) rfl ?_
                  refine sa rfl rfl ?_
                  refine Wn ?_
                  refine tN ?_
                  refine W_seq ?_
                  refine W_rs ?_
                  refine st (X.fa fa107_1 rfl) rfl ?_
                  refine st (X.ldL rfl hB8 Try.underlying3 rfl rfl) rfl ?_
                  refine st (X.gtr rfl rfl) rfl ?_
                  refine Wn ?_
                  refine tN ?_
                  refine W_if rfl (fun h60 => ?_) (fun h60 => ?_)
                  · first | replace h60 := of_decide_eq_true h60 | replace h60 := of_decide_eq_false (notT h60) | replace h60 := notT h60 | skip
                    obtain ⟨z, hz⟩ : ∃ z, (N : Int) - 4294967296 = z := ⟨_, rfl⟩
                    have hz2 : z = x.len := by rw [hx2, ← hz]; unfold sgn; rw [if_neg (by omega)]
                    refine W_reg ?_
                    refine st (X.fa fa107_1 rfl) rfl ?_
                    refine st (X.ldL rfl hB8 Try.underlying3 rfl rfl) rfl ?_
                    refine st (X.sub rfl rfl (show IntKind.i64.wrap ((N : Int) - 4294967296) = z by rw [w64 (by omega), hz])) rfl ?_
                    refine st (X.fa fa107_1 rfl) rfl ?_
                    refine ssB rfl rfl hB8 siz3 rfl (by first | decide | simp) (fun w33 hB_ hc_ => ?_)
                    replace hB8 := hB_
                    clear hB_
                    replace hpend := bset hpend hc_ (by omega)
                    replace hbw := bset hbw hc_ (by omega)
                    have hz_w33 := hc_.size
                    clear hc_
                    refine Wn ?_
                    refine tN ?_
                    refine W_seq ?_
                    by_cases hsp_ : 0 < j
                    · replace hR := hR.bel hpend
                      clear hpend
                      replace hB8 : Blk w33 g8 107 #[str x.sum, .int .i64 x.len] := by rw [← hz2]; exact hB8
                      obtain ⟨y, hy⟩ : ∃ y, L[j - 1]? = some y := ⟨_, List.getElem?_eq_getElem (by omega)⟩
                      have hy' : L[j - 1 + 1]? = some x := by rw [show j - 1 + 1 = j by omega]; exact hx
                      have htl : (L.take j).length = j := by rw [List.length_take]; omega
                      have hRe : RAt w33 (.slice a5 (L.take j).length c5) (L.take j) := by unfold RAt; rw [htl]; exact hR.reads
                      obtain ⟨g1, o1, c', hv, hg1⟩ := hRe.some_ (by omega)
                      injection hv with e1 _ e3
                      subst e1 e3
                      have hyt : (L.take j)[j - 1]? = some y := by rw [List.getElem?_take_of_lt (by omega)]; exact hy
                      refine W_drsN (fun W_ => Blk W_ g8 107 #[str x.sum, .int .i64 x.len] ∧ W_.rangeAt g1 (o1 + (j - 1) * 2) (rcells y)) [0, 1, 2, 3, 4, 5, 6, 7, 8, 9, 10, 11, 12] [true, true, true, true, true, true, true, true, true, true, true, true, true] (by kernel_rfl) (by kernel_rfl) (⟨hB8.drew, RAt.range (hRe.bel (bdrew (Below.refl _ _))) hyt⟩) ?_
                      obtain ⟨w34, hw_⟩ : ∃ w34 : World, w34 = World.drew w33 := ⟨_, rfl⟩
                      rw [← hw_]
                      have hb : Below w33.heap.size w33 w34 := by rw [hw_]; exact bdrew (Below.refl _ _)
                      clear hw_
                      have hS := hb
                      have hpend := hb
                      replace hbw := bthen hbw hb
                      replace hB8 := hB8.bel hb
                      have hz_w34 := hb.size
                      clear hb
                      refine oY rfl (fun W_ hW_ => (X.move rfl)) rfl ?_
                      refine oY rfl (fun W_ hW_ => (X.gtr rfl rfl)) rfl ?_
                      refine oY rfl (fun W_ hW_ => (X.mvB (c := true) rfl (decide_eq_true (by omega)))) rfl ?_
                      refine oYg (g := 67) rfl rfl rfl rfl (fun W_ hW_ => (X.move rfl)) rfl ?_
                      refine oYg (g := 67) rfl rfl rfl rfl (fun W_ hW_ => (X.move rfl)) rfl ?_
                      refine oYg (g := 67) rfl rfl rfl rfl (fun W_ hW_ => (X.sub rfl rfl (show IntKind.i64.wrap ((j : Int) - 1) = ((j - 1 : Nat) : Int) by rw [w64 (by omega)]; omega))) rfl ?_
                      refine oYg (g := 67) rfl rfl rfl rfl (fun W_ hW_ => (X.idxA rfl rfl Try.underlying29 siz107 rfl (by omega))) rfl ?_
                      refine oYg (g := 67) rfl rfl rfl rfl (fun W_ hW_ => (X.fa fa107_0 rfl)) rfl ?_
                      refine oYg (g := 67) rfl rfl rfl rfl (fun W_ hW_ => (X.ld rfl Try.underlying9 rfl (hW_.2 0 _ rfl))) rfl ?_
                      refine oYg (g := 67) rfl rfl rfl rfl (fun W_ hW_ => (X.fa fa107_0 rfl)) rfl ?_
                      refine oYg (g := 67) rfl rfl rfl rfl (fun W_ hW_ => (X.ldL rfl hW_.1 Try.underlying9 rfl rfl)) rfl ?_
                      refine oYg (g := 67) rfl rfl rfl rfl (fun W_ hW_ => (X.geS rfl rfl)) rfl ?_
                      refine oY rfl (fun W_ hW_ => (X.pickT rfl rfl)) rfl ?_
                      refine oN ?_
                      refine nN ?_
                      refine W_if rfl (fun h77 => ?_) (fun h77 => ?_)
                      · first | replace h77 := of_decide_eq_true h77 | replace h77 := of_decide_eq_false (notT h77) | replace h77 := notT h77 | skip
                        refine W_rs ?_
                        refine sa rfl rfl ?_
                        refine sa rfl rfl ?_
                        refine Wn ?_
                        refine tN ?_
                        replace hR := hR.bel hpend
                        clear hpend
                        refine W_ret (tR (bR (tR (tR (bR (tR ?_))))))
                        have hnlt : ¬ y.sum < x.sum := fun hlt => by rw [bytesLess_eq] at h77; simp [hlt] at h77
                        exact (rTT rfl rfl rfl (runp_err (show unpackM s = .error 18 by rw [hu, if_pos (srtB_no hy hy' hnlt)]) hbw)).1
                      · first | replace h77 := of_decide_eq_false h77 | replace h77 := of_decide_eq_true (notF h77) | replace h77 := notF h77 | skip
                        refine W_skip ?_
                        refine tN ?_
                        refine W_reg ?_
                        have hlt' : y.sum < x.sum := Classical.byContradiction fun hn' => by rw [bytesLess_eq] at h77; simp [hn'] at h77
                        have hso' : srtB (L.take (j + 1)) = true := by
                          have := srtB_take (i := j - 1) (by rw [show j - 1 + 1 = j by omega]; exact hso) hy hy' hlt'
                          rwa [show j - 1 + 2 = j + 1 by omega] at this
                        refine sm rfl rfl ?_
                        refine st (X.ldBN rfl hB8 Try.underlying107 rfl siz107) rfl ?_
                        refine sbs1 rfl Try.underlying29 inf107 rfl rfl (by decide) (by decide) rfl (fun g80 w35 hR80 hg80 hb => ?_)
                        replace hpend := bthen hpend hb
                        replace hbw := bthen hbw hb
                        replace hB8 := hB8.bel hb
                        have hz_w35 := hb.size
                        clear hb
                        have hl80 := hR80.blt (by decide)
                        replace hR := hR.bel hpend
                        clear hpend
                        refine sapp rfl rfl Try.underlying29 inf107 rfl (by decide) hR (hR80.reads.src Try.underlying29 (rcells_one x)) (by simp only [maxLen]; omega) (by omega) rfl (fun v5' w36 hR' hC hv' => ?_)
                        replace hbw := bapp hbw hC hO
                        replace hO := own_next hv' hO (by omega)
                        clear hC hv'
                        refine sa rfl rfl ?_
                        refine Wn ?_
                        refine bN ?_
                        refine tN ?_
                        refine W_reg ?_
                        refine sm rfl rfl ?_
                        refine st (X.add64 rfl rfl (by omega)) rfl ?_
                        refine sa rfl rfl ?_
                        refine Wn ?_
                        refine tN ⟨_, _, ?_, ⟨j + 1, v5', rfl, rfl, by omega, hso', by rw [take_next' hx, List.flatMap_append]; exact hR', hO, hbw⟩, ⟨rfl, rfl, rfl, by rw [hbd]; rfl, rfl, trivial⟩⟩
                        omega
                    · replace hB8 : Blk w33 g8 107 #[str x.sum, .int .i64 x.len] := by rw [← hz2]; exact hB8
                      refine W_drsN (fun _ => True) [0, 1, 2, 3, 4, 5, 6, 7, 8, 9, 10, 11, 12] [true, true, true, true, true, true, true, true, true, true, true, true, true] (by kernel_rfl) (by kernel_rfl) (trivial) ?_
                      obtain ⟨w37, hw_⟩ : ∃ w37 : World, w37 = World.drew w33 := ⟨_, rfl⟩
                      rw [← hw_]
                      have hb : Below w33.heap.size w33 w37 := by rw [hw_]; exact bdrew (Below.refl _ _)
                      clear hw_
                      have hS : True := trivial
                      replace hpend := bthen hpend hb
                      replace hbw := bthen hbw hb
                      replace hB8 := hB8.bel hb
                      have hz_w37 := hb.size
                      clear hb
                      refine oY rfl (fun W_ hW_ => (X.move rfl)) rfl ?_
                      refine oY rfl (fun W_ hW_ => (X.gtr rfl rfl)) rfl ?_
                      refine oY rfl (fun W_ hW_ => (X.mvB (c := false) rfl (decide_eq_false (by omega)))) rfl ?_
                      refine oNg (g := 67) rfl rfl rfl rfl hS rfl ?_
                      refine oNg (g := 67) rfl rfl rfl rfl hS rfl ?_
                      refine oNg (g := 67) rfl rfl rfl rfl hS rfl ?_
                      refine oNg (g := 67) rfl rfl rfl rfl hS rfl ?_
                      refine oNg (g := 67) rfl rfl rfl rfl hS rfl ?_
                      refine oNg (g := 67) rfl rfl rfl rfl hS rfl ?_
                      refine oNg (g := 67) rfl rfl rfl rfl hS rfl ?_
                      refine oNg (g := 67) rfl rfl rfl rfl hS rfl ?_
                      refine oNg (g := 67) rfl rfl rfl rfl hS rfl ?_
                      refine oY rfl (fun W_ hW_ => (X.pickF rfl rfl)) rfl ?_
                      refine oN ?_
                      refine nN ?_
                      refine W_no rfl (rfl) ?_
                      refine W_skip ?_
                      refine tN ?_
                      refine W_reg ?_
                      have hso' : srtB (L.take (j + 1)) = true := by
                        obtain rfl : j = 0 := by omega
                        cases L with
                        | nil => rfl
                        | cons c L => rfl
                      refine sm rfl rfl ?_
                      refine st (X.ldBN rfl hB8 Try.underlying107 rfl siz107) rfl ?_
                      refine sbs1 rfl Try.underlying29 inf107 rfl rfl (by decide) (by decide) rfl (fun g80 w38 hR80 hg80 hb => ?_)
                      replace hpend := bthen hpend hb
                      replace hbw := bthen hbw hb
                      replace hB8 := hB8.bel hb
                      have hz_w38 := hb.size
                      clear hb
                      have hl80 := hR80.blt (by decide)
                      replace hR := hR.bel hpend
                      clear hpend
                      refine sapp rfl rfl Try.underlying29 inf107 rfl (by decide) hR (hR80.reads.src Try.underlying29 (rcells_one x)) (by simp only [maxLen]; omega) (by omega) rfl (fun v5' w39 hR' hC hv' => ?_)
                      replace hbw := bapp hbw hC hO
                      replace hO := own_next hv' hO (by omega)
                      clear hC hv'
                      refine sa rfl rfl ?_
                      refine Wn ?_
                      refine bN ?_
                      refine tN ?_
                      refine W_reg ?_
                      refine sm rfl rfl ?_
                      refine st (X.add64 rfl rfl (by omega)) rfl ?_
                      refine sa rfl rfl ?_
                      refine Wn ?_
                      refine tN ⟨_, _, ?_, ⟨j + 1, v5', rfl, rfl, by omega, hso', by rw [take_next' hx, List.flatMap_append]; exact hR', hO, hbw⟩, ⟨rfl, rfl, rfl, by rw [hbd]; rfl, rfl, trivial⟩⟩
                      omega
                  · first | replace h60 := of_decide_eq_false h60 | replace h60 := of_decide_eq_true (notF h60) | replace h60 := notF h60 | skip
                    have hz2 : (N : Int) = x.len := by rw [hx2]; unfold sgn; rw [if_pos (by omega)]
                    refine W_skip ?_
                    refine tN ?_
                    refine W_seq ?_
                    by_cases hsp_ : 0 < j
                    · replace hR := hR.bel hpend
                      clear hpend
                      replace hB8 : Blk w6 g8 107 #[str x.sum, .int .i64 x.len] := by rw [← hz2]; exact hB8
                      obtain ⟨y, hy⟩ : ∃ y, L[j - 1]? = some y := ⟨_, List.getElem?_eq_getElem (by omega)⟩
                      have hy' : L[j - 1 + 1]? = some x := by rw [show j - 1 + 1 = j by omega]; exact hx
                      have htl : (L.take j).length = j := by rw [List.length_take]; omega
                      have hRe : RAt w6 (.slice a5 (L.take j).length c5) (L.take j) := by unfold RAt; rw [htl]; exact hR.reads
                      obtain ⟨g1, o1, c', hv, hg1⟩ := hRe.some_ (by omega)
                      injection hv with e1 _ e3
                      subst e1 e3
                      have hyt : (L.take j)[j - 1]? = some y := by rw [List.getElem?_take_of_lt (by omega)]; exact hy
                      refine W_drsN (fun W_ => Blk W_ g8 107 #[str x.sum, .int .i64 x.len] ∧ W_.rangeAt g1 (o1 + (j - 1) * 2) (rcells y)) [0, 1, 2, 3, 4, 5, 6, 7, 8, 9, 10, 11, 12] [true, true, true, true, true, true, true, true, true, true, true, true, true] (by kernel_rfl) (by kernel_rfl) (⟨hB8.drew, RAt.range (hRe.bel (bdrew (Below.refl _ _))) hyt⟩) ?_
                      obtain ⟨w40, hw_⟩ : ∃ w40 : World, w40 = World.drew w6 := ⟨_, rfl⟩
                      rw [← hw_]
                      have hb : Below w6.heap.size w6 w40 := by rw [hw_]; exact bdrew (Below.refl _ _)
                      clear hw_
                      have hS := hb
                      have hpend := hb
                      replace hbw := bthen hbw hb
                      replace hB8 := hB8.bel hb
                      have hz_w40 := hb.size
                      clear hb
                      refine oY rfl (fun W_ hW_ => (X.move rfl)) rfl ?_
                      refine oY rfl (fun W_ hW_ => (X.gtr rfl rfl)) rfl ?_
                      refine oY rfl (fun W_ hW_ => (X.mvB (c := true) rfl (decide_eq_true (by omega)))) rfl ?_
                      refine oYg (g := 67) rfl rfl rfl rfl (fun W_ hW_ => (X.move rfl)) rfl ?_
                      refine oYg (g := 67) rfl rfl rfl rfl (fun W_ hW_ => (X.move rfl)) rfl ?_
                      refine oYg (g := 67) rfl rfl rfl rfl (fun W_ hW_ => (X.sub rfl rfl (show IntKind.i64.wrap ((j : Int) - 1) = ((j - 1 : Nat) : Int) by rw [w64 (by omega)]; omega))) rfl ?_
                      refine oYg (g := 67) rfl rfl rfl rfl (fun W_ hW_ => (X.idxA rfl rfl Try.underlying29 siz107 rfl (by omega))) rfl ?_
                      refine oYg (g := 67) rfl rfl rfl rfl (fun W_ hW_ => (X.fa fa107_0 rfl)) rfl ?_
                      refine oYg (g := 67) rfl rfl rfl rfl (fun W_ hW_ => (X.ld rfl Try.underlying9 rfl (hW_.2 0 _ rfl))) rfl ?_
                      refine oYg (g := 67) rfl rfl rfl rfl (fun W_ hW_ => (X.fa fa107_0 rfl)) rfl ?_
                      refine oYg (g := 67) rfl rfl rfl rfl (fun W_ hW_ => (X.ldL rfl hW_.1 Try.underlying9 rfl rfl)) rfl ?_
                      refine oYg (g := 67) rfl rfl rfl rfl (fun W_ hW_ => (X.geS rfl rfl)) rfl ?_
                      refine oY rfl (fun W_ hW_ => (X.pickT rfl rfl)) rfl ?_
                      refine oN ?_
                      refine nN ?_
                      refine W_if rfl (fun h77 => ?_) (fun h77 => ?_)
                      · first | replace h77 := of_decide_eq_true h77 | replace h77 := of_decide_eq_false (notT h77) | replace h77 := notT h77 | skip
                        refine W_rs ?_
                        refine sa rfl rfl ?_
                        refine sa rfl rfl ?_
                        refine Wn ?_
                        refine tN ?_
                        replace hR := hR.bel hpend
                        clear hpend
                        refine W_ret (tR (bR (tR (tR (bR (tR ?_))))))
                        have hnlt : ¬ y.sum < x.sum := fun hlt => by rw [bytesLess_eq] at h77; simp [hlt] at h77
                        exact (rTT rfl rfl rfl (runp_err (show unpackM s = .error 18 by rw [hu, if_pos (srtB_no hy hy' hnlt)]) hbw)).1
                      · first | replace h77 := of_decide_eq_false h77 | replace h77 := of_decide_eq_true (notF h77) | replace h77 := notF h77 | skip
                        refine W_skip ?_
                        refine tN ?_
                        refine W_reg ?_
                        have hlt' : y.sum < x.sum := Classical.byContradiction fun hn' => by rw [bytesLess_eq] at h77; simp [hn'] at h77
                        have hso' : srtB (L.take (j + 1)) = true := by
                          have := srtB_take (i := j - 1) (by rw [show j - 1 + 1 = j by omega]; exact hso) hy hy' hlt'
                          rwa [show j - 1 + 2 = j + 1 by omega] at this
                        refine sm rfl rfl ?_
                        refine st (X.ldBN rfl hB8 Try.underlying107 rfl siz107) rfl ?_
                        refine sbs1 rfl Try.underlying29 inf107 rfl rfl (by decide) (by decide) rfl (fun g80 w41 hR80 hg80 hb => ?_)
                        replace hpend := bthen hpend hb
                        replace hbw := bthen hbw hb
                        replace hB8 := hB8.bel hb
                        have hz_w41 := hb.size
                        clear hb
                        have hl80 := hR80.blt (by decide)
                        replace hR := hR.bel hpend
                        clear hpend
                        refine sapp rfl rfl Try.underlying29 inf107 rfl (by decide) hR (hR80.reads.src Try.underlying29 (rcells_one x)) (by simp only [maxLen]; omega) (by omega) rfl (fun v5' w42 hR' hC hv' => ?_)
                        replace hbw := bapp hbw hC hO
                        replace hO := own_next hv' hO (by omega)
                        clear hC hv'
                        refine sa rfl rfl ?_
                        refine Wn ?_
                        refine bN ?_
                        refine tN ?_
                        refine W_reg ?_
                        refine sm rfl rfl ?_
                        refine st (X.add64 rfl rfl (by omega)) rfl ?_
                        refine sa rfl rfl ?_
                        refine Wn ?_
                        refine tN ⟨_, _, ?_, ⟨j + 1, v5', rfl, rfl, by omega, hso', by rw [take_next' hx, List.flatMap_append]; exact hR', hO, hbw⟩, ⟨rfl, rfl, rfl, by rw [hbd]; rfl, rfl, trivial⟩⟩
                        omega
                    · replace hB8 : Blk w6 g8 107 #[str x.sum, .int .i64 x.len] := by rw [← hz2]; exact hB8
                      refine W_drsN (fun _ => True) [0, 1, 2, 3, 4, 5, 6, 7, 8, 9, 10, 11, 12] [true, true, true, true, true, true, true, true, true, true, true, true, true] (by kernel_rfl) (by kernel_rfl) (trivial) ?_
                      obtain ⟨w43, hw_⟩ : ∃ w43 : World, w43 = World.drew w6 := ⟨_, rfl⟩
                      rw [← hw_]
                      have hb : Below w6.heap.size w6 w43 := by rw [hw_]; exact bdrew (Below.refl _ _)
                      clear hw_
                      have hS : True := trivial
                      replace hpend := bthen hpend hb
                      replace hbw := bthen hbw hb
                      replace hB8 := hB8.bel hb
                      have hz_w43 := hb.size
                      clear hb
                      refine oY rfl (fun W_ hW_ => (X.move rfl)) rfl ?_
                      refine oY rfl (fun W_ hW_ => (X.gtr rfl rfl)) rfl ?_
                      refine oY rfl (fun W_ hW_ => (X.mvB (c := false) rfl (decide_eq_false (by omega)))) rfl ?_
                      refine oNg (g := 67) rfl rfl rfl rfl hS rfl ?_
                      refine oNg (g := 67) rfl rfl rfl rfl hS rfl ?_
                      refine oNg (g := 67) rfl rfl rfl rfl hS rfl ?_
                      refine oNg (g := 67) rfl rfl rfl rfl hS rfl ?_
                      refine oNg (g := 67) rfl rfl rfl rfl hS rfl ?_
                      refine oNg (g := 67) rfl rfl rfl rfl hS rfl ?_
                      refine oNg (g := 67) rfl rfl rfl rfl hS rfl ?_
                      refine oNg (g := 67) rfl rfl rfl rfl hS rfl ?_
                      refine oNg (g := 67) rfl rfl rfl rfl hS rfl ?_
                      refine oY rfl (fun W_ hW_ => (X.pickF rfl rfl)) rfl ?_
                      refine oN ?_
                      refine nN ?_
                      refine W_no rfl (rfl) ?_
                      refine W_skip ?_
                      refine tN ?_
                      refine W_reg ?_
                      have hso' : srtB (L.take (j + 1)) = true := by
                        obtain rfl : j = 0 := by omega
                        cases L with
                        | nil => rfl
                        | cons c L => rfl
                      refine sm rfl rfl ?_
                      refine st (X.ldBN rfl hB8 Try.underlying107 rfl siz107) rfl ?_
                      refine sbs1 rfl Try.underlying29 inf107 rfl rfl (by decide) (by decide) rfl (fun g80 w44 hR80 hg80 hb => ?_)
                      replace hpend := bthen hpend hb
                      replace hbw := bthen hbw hb
                      replace hB8 := hB8.bel hb
                      have hz_w44 := hb.size
                      clear hb
                      have hl80 := hR80.blt (by decide)
                      replace hR := hR.bel hpend
                      clear hpend
                      refine sapp rfl rfl Try.underlying29 inf107 rfl (by decide) hR (hR80.reads.src Try.underlying29 (rcells_one x)) (by simp only [maxLen]; omega) (by omega) rfl (fun v5' w45 hR' hC hv' => ?_)
                      replace hbw := bapp hbw hC hO
                      replace hO := own_next hv' hO (by omega)
                      clear hC hv'
                      refine sa rfl rfl ?_
                      refine Wn ?_
                      refine bN ?_
                      refine tN ?_
                      refine W_reg ?_
                      refine sm rfl rfl ?_
                      refine st (X.add64 rfl rfl (by omega)) rfl ?_
                      refine sa rfl rfl ?_
                      refine Wn ?_
                      refine tN ⟨_, _, ?_, ⟨j + 1, v5', rfl, rfl, by omega, hso', by rw [take_next' hx, List.flatMap_append]; exact hR', hO, hbw⟩, ⟨rfl, rfl, rfl, by rw [hbd]; rfl, rfl, trivial⟩⟩
                      omega
            · refine salA inf107 rfl (fun g8 w46 hB8 hg8 hb hl8 => ?_)
              replace hpend := bthen hpend hb
              replace hbw := bthen hbw hb
              have hz_w46 := hb.size
              clear hb
              refine Wn (hQ_ _ _ trivial ?_)
              clear hQ_ hP_ Q_
              refine uP (uA rfl (fun Q_ hQ_ hP_ => ?_) u0)
              refine sc _ Try.func73 rfl (by kernel_rfl) rfl rfl ((Of_any s (4 + (36 * j + 32)) _ (by omega) hs).mono ?_)
              rintro e_ w47 ⟨rfl, hb⟩
              refine cR ?_
              replace hpend := bthen hpend hb
              replace hbw := bthen hbw hb
              replace hB8 := hB8.bel hb
              have hz_w47 := hb.size
              clear hb
              refine Wn (hQ_ _ _ trivial ?_)
              clear hQ_ hP_ Q_
              rw [hN]
              refine uY rfl (fun W_ hW_ => (X.bld rfl (brdel _ _ _))) rfl ?_
              refine uP (uA rfl (fun Q_ hQ_ hP_ => ?_) u0)
              refine ssBN rfl rfl hB8 siz107 rfl rfl (fun w48 hB_ hc_ => ?_)
              replace hB8 := hB_
              clear hB_
              replace hpend := bset hpend hc_ (by omega)
              replace hbw := bset hbw hc_ (by omega)
              have hz_w48 := hc_.size
              clear hc_
              refine Wn (hQ_ _ _ trivial ?_)
              clear hQ_ hP_ Q_
              refine uN ?_
              refine nN ?_
              refine W_rs ?_
              replace hB8 : Blk w48 g8 107 #[str x.sum, .int .i64 N] := hB8
              refine sm rfl rfl ?_
              refine sb rfl rfl (fun h48 => ?_) (fun h48 => ?_)
              · first | replace h48 := of_decide_eq_true h48 | replace h48 := of_decide_eq_false (notT h48) | replace h48 := notT h48 | skip
                have hbd : (L.take (j + 1)).any formN = true := by rw [hxa, h48]; rfl
                refine gN (g := 48) rfl rfl rfl rfl ?_
                refine gN (g := 48) rfl rfl rfl rfl ?_
                refine gN (g := 48) rfl rfl rfl rfl ?_
                refine st (X.pickT rfl rfl) rfl ?_
                refine sm rfl rfl ?_
                refine gN (g := 53) rfl rfl rfl rfl ?_
                refine gN (g := 53) rfl rfl rfl rfl ?_
                refine gN (g := 53) rfl rfl rfl rfl ?_
                refine st (X.pickT rfl rfl) rfl ?_
                refine sa rfl rfl ?_
                refine Wn ?_
                refine tN ?_
                refine W_seq ?_
                refine W_rs ?_
                refine st (X.fa fa107_1 rfl) rfl ?_
                refine st (X.ldL rfl hB8 Try.underlying3 rfl rfl) rfl ?_
                refine st (X.gtr rfl rfl) rfl ?_
                refine Wn ?_
                refine tN ?_
                refine W_if rfl (fun h60 => ?_) (fun h60 => ?_)
                · first | replace h60 := of_decide_eq_true h60 | replace h60 := of_decide_eq_false (notT h60) | replace h60 := notT h60 | skip
                  obtain ⟨z, hz⟩ : ∃ z, (N : Int) - 4294967296 = z := ⟨_, rfl⟩
                  have hz2 : z = x.len := by rw [hx2, ← hz]; unfold sgn; rw [if_neg (by omega)]
                  refine W_reg ?_
                  refine st (X.fa fa107_1 rfl) rfl ?_
                  refine st (X.ldL rfl hB8 Try.underlying3 rfl rfl) rfl ?_
                  refine st (X.sub rfl rfl (show IntKind.i64.wrap ((N : Int) - 4294967296) = z by rw [w64 (by omega), hz])) rfl ?_
                  refine st (X.fa fa107_1 rfl) rfl ?_
                  refine ssB rfl rfl hB8 siz3 rfl (by first | decide | simp) (fun w49 hB_ hc_ => ?_)
                  replace hB8 := hB_
                  clear hB_
                  replace hpend := bset hpend hc_ (by omega)
                  replace hbw := bset hbw hc_ (by omega)
                  have hz_w49 := hc_.size
                  clear hc_
                  refine Wn ?_
                  refine tN ?_
                  refine W_seq ?_
                  by_cases hsp_ : 0 < j
                  · replace hR := hR.bel hpend
                    clear hpend
                    replace hB8 : Blk w49 g8 107 #[str x.sum, .int .i64 x.len] := by rw [← hz2]; exact hB8
                    obtain ⟨y, hy⟩ : ∃ y, L[j - 1]? = some y := ⟨_, List.getElem?_eq_getElem (by omega)⟩
                    have hy' : L[j - 1 + 1]? = some x := by rw [show j - 1 + 1 = j by omega]; exact hx
                    have htl : (L.take j).length = j := by rw [List.length_take]; omega
                    have hRe : RAt w49 (.slice a5 (L.take j).length c5) (L.take j) := by unfold RAt; rw [htl]; exact hR.reads
                    obtain ⟨g1, o1, c', hv, hg1⟩ := hRe.some_ (by omega)
                    injection hv with e1 _ e3
                    subst e1 e3
                    have hyt : (L.take j)[j - 1]? = some y := by rw [List.getElem?_take_of_lt (by omega)]; exact hy
                    refine W_drsN (fun W_ => Blk W_ g8 107 #[str x.sum, .int .i64 x.len] ∧ W_.rangeAt g1 (o1 + (j - 1) * 2) (rcells y)) [0, 1, 2, 3, 4, 5, 6, 7, 8, 9, 10, 11, 12] [true, true, true, true, true, true, true, true, true, true, true, true, true] (by kernel_rfl) (by kernel_rfl) (⟨hB8.drew, RAt.range (hRe.bel (bdrew (Below.refl _ _))) hyt⟩) ?_
                    obtain ⟨w50, hw_⟩ : ∃ w50 : World, w50 = World.drew w49 := ⟨_, rfl⟩
                    rw [← hw_]
                    have hb : Below w49.heap.size w49 w50 := by rw [hw_]; exact bdrew (Below.refl _ _)
                    clear hw_
                    have hS := hb
                    have hpend := hb
                    replace hbw := bthen hbw hb
                    replace hB8 := hB8.bel hb
                    have hz_w50 := hb.size
                    clear hb
                    refine oY rfl (fun W_ hW_ => (X.move rfl)) rfl ?_
                    refine oY rfl (fun W_ hW_ => (X.gtr rfl rfl)) rfl ?_
                    refine oY rfl (fun W_ hW_ => (X.mvB (c := true) rfl (decide_eq_true (by omega)))) rfl ?_
                    refine oYg (g := 67) rfl rfl rfl rfl (fun W_ hW_ => (X.move rfl)) rfl ?_
                    refine oYg (g := 67) rfl rfl rfl rfl (fun W_ hW_ => (X.move rfl)) rfl ?_
                    refine oYg (g := 67) rfl rfl rfl rfl (fun W_ hW_ => (X.sub rfl rfl (show IntKind.i64.wrap ((j : Int) - 1) = ((j - 1 : Nat) : Int) by rw [w64 (by omega)]; omega))) rfl ?_
                    refine oYg (g := 67) rfl rfl rfl rfl (fun W_ hW_ => (X.idxA rfl rfl Try.underlying29 siz107 rfl (by omega))) rfl ?_
                    refine oYg (g := 67) rfl rfl rfl rfl (fun W_ hW_ => (X.fa fa107_0 rfl)) rfl ?_
                    refine oYg (g := 67) rfl rfl rfl rfl (fun W_ hW_ => (X.ld rfl Try.underlying9 rfl (hW_.2 0 _ rfl))) rfl ?_
                    refine oYg (g := 67) rfl rfl rfl rfl (fun W_ hW_ => (X.fa fa107_0 rfl)) rfl ?_
                    refine oYg (g := 67) rfl rfl rfl rfl (fun W_ hW_ => (X.ldL rfl hW_.1 Try.underlying9 rfl rfl)) rfl ?_
                    refine oYg (g := 67) rfl rfl rfl rfl (fun W_ hW_ => (X.geS rfl rfl)) rfl ?_
                    refine oY rfl (fun W_ hW_ => (X.pickT rfl rfl)) rfl ?_
                    refine oN ?_
                    refine nN ?_
                    refine W_if rfl (fun h77 => ?_) (fun h77 => ?_)
                    · first | replace h77 := of_decide_eq_true h77 | replace h77 := of_decide_eq_false (notT h77) | replace h77 := notT h77 | skip
                      refine W_rs ?_
                      refine sa rfl rfl ?_
                      refine sa rfl rfl ?_
                      refine Wn ?_
                      refine tN ?_
                      replace hR := hR.bel hpend
                      clear hpend
                      refine W_ret (tR (bR (tR (tR (bR (tR ?_))))))
                      have hnlt : ¬ y.sum < x.sum := fun hlt => by rw [bytesLess_eq] at h77; simp [hlt] at h77
                      exact (rTT rfl rfl rfl (runp_err (show unpackM s = .error 18 by rw [hu, if_pos (srtB_no hy hy' hnlt)]) hbw)).1
                    · first | replace h77 := of_decide_eq_false h77 | replace h77 := of_decide_eq_true (notF h77) | replace h77 := notF h77 | skip
                      refine W_skip ?_
                      refine tN ?_
                      refine W_reg ?_
                      have hlt' : y.sum < x.sum := Classical.byContradiction fun hn' => by rw [bytesLess_eq] at h77; simp [hn'] at h77
                      have hso' : srtB (L.take (j + 1)) = true := by
                        have := srtB_take (i := j - 1) (by rw [show j - 1 + 1 = j by omega]; exact hso) hy hy' hlt'
                        rwa [show j - 1 + 2 = j + 1 by omega] at this
                      refine sm rfl rfl ?_
                      refine st (X.ldBN rfl hB8 Try.underlying107 rfl siz107) rfl ?_
                      refine sbs1 rfl Try.underlying29 inf107 rfl rfl (by decide) (by decide) rfl (fun g80 w51 hR80 hg80 hb => ?_)
                      replace hpend := bthen hpend hb
                      replace hbw := bthen hbw hb
                      replace hB8 := hB8.bel hb
                      have hz_w51 := hb.size
                      clear hb
                      have hl80 := hR80.blt (by decide)
                      replace hR := hR.bel hpend
                      clear hpend
                      refine sapp rfl rfl Try.underlying29 inf107 rfl (by decide) hR (hR80.reads.src Try.underlying29 (rcells_one x)) (by simp only [maxLen]; omega) (by omega) rfl (fun v5' w52 hR' hC hv' => ?_)
                      replace hbw := bapp hbw hC hO
                      replace hO := own_next hv' hO (by omega)
                      clear hC hv'
                      refine sa rfl rfl ?_
                      refine Wn ?_
                      refine bN ?_
                      refine tN ?_
                      refine W_reg ?_
                      refine sm rfl rfl ?_
                      refine st (X.add64 rfl rfl (by omega)) rfl ?_
                      refine sa rfl rfl ?_
                      refine Wn ?_
                      refine tN ⟨_, _, ?_, ⟨j + 1, v5', rfl, rfl, by omega, hso', by rw [take_next' hx, List.flatMap_append]; exact hR', hO, hbw⟩, ⟨rfl, rfl, rfl, by rw [hbd]; rfl, rfl, trivial⟩⟩
                      omega
                  · replace hB8 : Blk w49 g8 107 #[str x.sum, .int .i64 x.len] := by rw [← hz2]; exact hB8
                    refine W_drsN (fun _ => True) [0, 1, 2, 3, 4, 5, 6, 7, 8, 9, 10, 11, 12] [true, true, true, true, true, true, true, true, true, true, true, true, true] (by kernel_rfl) (by kernel_rfl) (trivial) ?_
                    obtain ⟨w53, hw_⟩ : ∃ w53 : World, w53 = World.drew w49 := ⟨_, rfl⟩
                    rw [← hw_]
                    have hb : Below w49.heap.size w49 w53 := by rw [hw_]; exact bdrew (Below.refl _ _)
                    clear hw_
                    have hS : True := trivial
                    replace hpend := bthen hpend hb
                    replace hbw := bthen hbw hb
                    replace hB8 := hB8.bel hb
                    have hz_w53 := hb.size
                    clear hb
                    refine oY rfl (fun W_ hW_ => (X.move rfl)) rfl ?_
                    refine oY rfl (fun W_ hW_ => (X.gtr rfl rfl)) rfl ?_
                    refine oY rfl (fun W_ hW_ => (X.mvB (c := false) rfl (decide_eq_false (by omega)))) rfl ?_
                    refine oNg (g := 67) rfl rfl rfl rfl hS rfl ?_
                    refine oNg (g := 67) rfl rfl rfl rfl hS rfl ?_
                    refine oNg (g := 67) rfl rfl rfl rfl hS rfl ?_
                    refine oNg (g := 67) rfl rfl rfl rfl hS rfl ?_
                    refine oNg (g := 67) rfl rfl rfl rfl hS rfl ?_
                    refine oNg (g := 67) rfl rfl rfl rfl hS rfl ?_
                    refine oNg (g := 67) rfl rfl rfl rfl hS rfl ?_
                    refine oNg (g := 67) rfl rfl rfl rfl hS rfl ?_
                    refine oNg (g := 67) rfl rfl rfl rfl hS rfl ?_
                    refine oY rfl (fun W_ hW_ => (X.pickF rfl rfl)) rfl ?_
                    refine oN ?_
                    refine nN ?_
                    refine W_no rfl (rfl) ?_
                    refine W_skip ?_
                    refine tN ?_
                    refine W_reg ?_
                    have hso' : srtB (L.take (j + 1)) = true := by
                      obtain rfl : j = 0 := by omega
                      cases L with
                      | nil => rfl
                      | cons c L => rfl
                    refine sm rfl rfl ?_
                    refine st (X.ldBN rfl hB8 Try.underlying107 rfl siz107) rfl ?_
                    refine sbs1 rfl Try.underlying29 inf107 rfl rfl (by decide) (by decide) rfl (fun g80 w54 hR80 hg80 hb => ?_)
                    replace hpend := bthen hpend hb
                    replace hbw := bthen hbw hb
                    replace hB8 := hB8.bel hb
                    have hz_w54 := hb.size
                    clear hb
                    have hl80 := hR80.blt (by decide)
                    replace hR := hR.bel hpend
                    clear hpend
                    refine sapp rfl rfl Try.underlying29 inf107 rfl (by decide) hR (hR80.reads.src Try.underlying29 (rcells_one x)) (by simp only [maxLen]; omega) (by omega) rfl (fun v5' w55 hR' hC hv' => ?_)
                    replace hbw := bapp hbw hC hO
                    replace hO := own_next hv' hO (by omega)
                    clear hC hv'
                    refine sa rfl rfl ?_
                    refine Wn ?_
                    refine bN ?_
                    refine tN ?_
                    refine W_reg ?_
                    refine sm rfl rfl ?_
                    refine st (X.add64 rfl rfl (by omega)) rfl ?_
                    refine sa rfl rfl ?_
                    refine Wn ?_
                    refine tN ⟨_, _, ?_, ⟨j + 1, v5', rfl, rfl, by omega, hso', by rw [take_next' hx, List.flatMap_append]; exact hR', hO, hbw⟩, ⟨rfl, rfl, rfl, by rw [hbd]; rfl, rfl, trivial⟩⟩
                    omega
                · first | replace h60 := of_decide_eq_false h60 | replace h60 := of_decide_eq_true (notF h60) | replace h60 := notF h60 | skip
                  have hz2 : (N : Int) = x.len := by rw [hx2]; unfold sgn; rw [if_pos (by omega)]
                  refine W_skip ?_
                  refine tN ?_
                  refine W_seq ?_
                  by_cases hsp_ : 0 < j
                  · replace hR := hR.bel hpend
                    clear hpend
                    replace hB8 : Blk w48 g8 107 #[str x.sum, .int .i64 x.len] := by rw [← hz2]; exact hB8
                    obtain ⟨y, hy⟩ : ∃ y, L[j - 1]? = some y := ⟨_, List.getElem?_eq_getElem (by omega)⟩
                    have hy' : L[j - 1 + 1]? = some x := by rw [show j - 1 + 1 = j by omega]; exact hx
                    have htl : (L.take j).length = j := by rw [List.length_take]; omega
                    have hRe : RAt w48 (.slice a5 (L.take j).length c5) (L.take j) := by unfold RAt; rw [htl]; exact hR.reads
                    obtain ⟨g1, o1, c', hv, hg1⟩ := hRe.some_ (by omega)
                    injection hv with e1 _ e3
                    subst e1 e3
                    have hyt : (L.take j)[j - 1]? = some y := by rw [List.getElem?_take_of_lt (by omega)]; exact hy
                    refine W_drsN (fun W_ => Blk W_ g8 107 #[str x.sum, .int .i64 x.len] ∧ W_.rangeAt g1 (o1 + (j - 1) * 2) (rcells y)) [0, 1, 2, 3, 4, 5, 6, 7, 8, 9, 10, 11, 12] [true, true, true, true, true, true, true, true, true, true, true, true, true] (by kernel_rfl) (by kernel_rfl) (⟨hB8.drew, RAt.range (hRe.bel (bdrew (Below.refl _ _))) hyt⟩) ?_
                    obtain ⟨w56, hw_⟩ : ∃ w56 : World, w56 = World.drew w48 := ⟨_, rfl⟩
                    rw [← hw_]
                    have hb : Below w48.heap.size w48 w56 := by rw [hw_]; exact bdrew (Below.refl _ _)
                    clear hw_
                    have hS := hb
                    have hpend := hb
                    replace hbw := bthen hbw hb
                    replace hB8 := hB8.bel hb
                    have hz_w56 := hb.size
                    clear hb
                    refine oY rfl (fun W_ hW_ => (X.move rfl)) rfl ?_
                    refine oY rfl (fun W_ hW_ => (X.gtr rfl rfl)) rfl ?_
                    refine oY rfl (fun W_ hW_ => (X.mvB (c := true) rfl (decide_eq_true (by omega)))) rfl ?_
                    refine oYg (g := 67) rfl rfl rfl rfl (fun W_ hW_ => (X.move rfl)) rfl ?_
                    refine oYg (g := 67) rfl rfl rfl rfl (fun W_ hW_ => (X.move rfl)) rfl ?_
                    refine oYg (g := 67) rfl rfl rfl rfl (fun W_ hW_ => (X.sub rfl rfl (show IntKind.i64.wrap ((j : Int) - 1) = ((j - 1 : Nat) : Int) by rw [w64 (by omega)]; omega))) rfl ?_
                    refine oYg (g := 67) rfl rfl rfl rfl (fun W_ hW_ => (X.idxA rfl rfl Try.underlying29 siz107 rfl (by omega))) rfl ?_
                    refine oYg (g := 67) rfl rfl rfl rfl (fun W_ hW_ => (X.fa fa107_0 rfl)) rfl ?_
                    refine oYg (g := 67) rfl rfl rfl rfl (fun W_ hW_ => (X.ld rfl Try.underlying9 rfl (hW_.2 0 _ rfl))) rfl ?_
                    refine oYg (g := 67) rfl rfl rfl rfl (fun W_ hW_ => (X.fa fa107_0 rfl)) rfl ?_
                    refine oYg (g := 67) rfl rfl rfl rfl (fun W_ hW_ => (X.ldL rfl hW_.1 Try.underlying9 rfl rfl)) rfl ?_
                    refine oYg (g := 67) rfl rfl rfl rfl (fun W_ hW_ => (X.geS rfl rfl)) rfl ?_
                    refine oY rfl (fun W_ hW_ => (X.pickT rfl rfl)) rfl ?_
                    refine oN ?_
                    refine nN ?_
                    refine W_if rfl (fun h77 => ?_) (fun h77 => ?_)
                    · first | replace h77 := of_decide_eq_true h77 | replace h77 := of_decide_eq_false (notT h77) | replace h77 := notT h77 | skip
                      refine W_rs ?_
                      refine sa rfl rfl ?_
                      refine sa rfl rfl ?_
                      refine Wn ?_
                      refine tN ?_
                      replace hR := hR.bel hpend
                      clear hpend
                      refine W_ret (tR (bR (tR (tR (bR (tR ?_))))))
                      have hnlt : ¬ y.sum < x.sum := fun hlt => by rw [bytesLess_eq] at h77; simp [hlt] at h77
                      exact (rTT rfl rfl rfl (runp_err (show unpackM s = .error 18 by rw [hu, if_pos (srtB_no hy hy' hnlt)]) hbw)).1
                    · first | replace h77 := of_decide_eq_false h77 | replace h77 := of_decide_eq_true (notF h77) | replace h77 := notF h77 | skip
                      refine W_skip ?_
                      refine tN ?_
                      refine W_reg ?_
                      have hlt' : y.sum < x.sum := Classical.byContradiction fun hn' => by rw [bytesLess_eq] at h77; simp [hn'] at h77
                      have hso' : srtB (L.take (j + 1)) = true := by
                        have := srtB_take (i := j - 1) (by rw [show j - 1 + 1 = j by omega]; exact hso) hy hy' hlt'
                        rwa [show j - 1 + 2 = j + 1 by omega] at this
                      refine sm rfl rfl ?_
                      refine st (X.ldBN rfl hB8 Try.underlying107 rfl siz107) rfl ?_
                      refine sbs1 rfl Try.underlying29 inf107 rfl rfl (by decide) (by decide) rfl (fun g80 w57 hR80 hg80 hb => ?_)
                      replace hpend := bthen hpend hb
                      replace hbw := bthen hbw hb
                      replace hB8 := hB8.bel hb
                      have hz_w57 := hb.size
                      clear hb
                      have hl80 := hR80.blt (by decide)
                      replace hR := hR.bel hpend
                      clear hpend
                      refine sapp rfl rfl Try.underlying29 inf107 rfl (by decide) hR (hR80.reads.src Try.underlying29 (rcells_one x)) (by simp only [maxLen]; omega) (by omega) rfl (fun v5' w58 hR' hC hv' => ?_)
                      replace hbw := bapp hbw hC hO
                      replace hO := own_next hv' hO (by omega)
                      clear hC hv'
                      refine sa rfl rfl ?_
                      refine Wn ?_
                      refine bN ?_
                      refine tN ?_
                      refine W_reg ?_
                      refine sm rfl rfl ?_
                      refine st (X.add64 rfl rfl (by omega)) rfl ?_
                      refine sa rfl rfl ?_
                      refine Wn ?_
                      refine tN ⟨_, _, ?_, ⟨j + 1, v5', rfl, rfl, by omega, hso', by rw [take_next' hx, List.flatMap_append]; exact hR', hO, hbw⟩, ⟨rfl, rfl, rfl, by rw [hbd]; rfl, rfl, trivial⟩⟩
                      omega
                  · replace hB8 : Blk w48 g8 107 #[str x.sum, .int .i64 x.len] := by rw [← hz2]; exact hB8
                    refine W_drsN (fun _ => True) [0, 1, 2, 3, 4, 5, 6, 7, 8, 9, 10, 11, 12] [true, true, true, true, true, true, true, true, true, true, true, true, true] (by kernel_rfl) (by kernel_rfl) (trivial) ?_
                    obtain ⟨w59, hw_⟩ : ∃ w59 : World, w59 = World.drew w48 := ⟨_, rfl⟩
                    rw [← hw_]
                    have hb : Below w48.heap.size w48 w59 := by rw [hw_]; exact bdrew (Below.refl _ _)
                    clear hw_
                    have hS : True := trivial
                    replace hpend := bthen hpend hb
                    replace hbw := bthen hbw hb
                    replace hB8 := hB8.bel hb
                    have hz_w59 := hb.size
                    clear hb
                    refine oY rfl (fun W_ hW_ => (X.move rfl)) rfl ?_
                    refine oY rfl (fun W_ hW_ => (X.gtr rfl rfl)) rfl ?_
                    refine oY rfl (fun W_ hW_ => (X.mvB (c := false) rfl (decide_eq_false (by omega)))) rfl ?_
                    refine oNg (g := 67) rfl rfl rfl rfl hS rfl ?_
                    refine oNg (g := 67) rfl rfl rfl rfl hS rfl ?_
                    refine oNg (g := 67) rfl rfl rfl rfl hS rfl ?_
                    refine oNg (g := 67) rfl rfl rfl rfl hS rfl ?_
                    refine oNg (g := 67) rfl rfl rfl rfl hS rfl ?_
                    refine oNg (g := 67) rfl rfl rfl rfl hS rfl ?_
                    refine oNg (g := 67) rfl rfl rfl rfl hS rfl ?_
                    refine oNg (g := 67) rfl rfl rfl rfl hS rfl ?_
                    refine oNg (g := 67) rfl rfl rfl rfl hS rfl ?_
                    refine oY rfl (fun W_ hW_ => (X.pickF rfl rfl)) rfl ?_
                    refine oN ?_
                    refine nN ?_
                    refine W_no rfl (rfl) ?_
                    refine W_skip ?_
                    refine tN ?_
                    refine W_reg ?_
                    have hso' : srtB (L.take (j + 1)) = true := by
                      obtain rfl : j = 0 := by omega
                      cases L with
                      | nil => rfl
                      | cons c L => rfl
                    refine sm rfl rfl ?_
                    refine st (X.ldBN rfl hB8 Try.underlying107 rfl siz107) rfl ?_
                    refine sbs1 rfl Try.underlying29 inf107 rfl rfl (by decide) (by decide) rfl (fun g80 w60 hR80 hg80 hb => ?_)
                    replace hpend := bthen hpend hb
                    replace hbw := bthen hbw hb
                    replace hB8 := hB8.bel hb
                    have hz_w60 := hb.size
                    clear hb
                    have hl80 := hR80.blt (by decide)
                    replace hR := hR.bel hpend
                    clear hpend
                    refine sapp rfl rfl Try.underlying29 inf107 rfl (by decide) hR (hR80.reads.src Try.underlying29 (rcells_one x)) (by simp only [maxLen]; omega) (by omega) rfl (fun v5' w61 hR' hC hv' => ?_)
                    replace hbw := bapp hbw hC hO
                    replace hO := own_next hv' hO (by omega)
                    clear hC hv'
                    refine sa rfl rfl ?_
                    refine Wn ?_
                    refine bN ?_
                    refine tN ?_
                    refine W_reg ?_
                    refine sm rfl rfl ?_
                    refine st (X.add64 rfl rfl (by omega)) rfl ?_
                    refine sa rfl rfl ?_
                    refine Wn ?_
                    refine tN ⟨_, _, ?_, ⟨j + 1, v5', rfl, rfl, by omega, hso', by rw [take_next' hx, List.flatMap_append]; exact hR', hO, hbw⟩, ⟨rfl, rfl, rfl, by rw [hbd]; rfl, rfl, trivial⟩⟩
                    omega
              · first | replace h48 := of_decide_eq_false h48 | replace h48 := of_decide_eq_true (notF h48) | replace h48 := notF h48 | skip
                refine gY (g := 48) rfl rfl rfl ?_
                refine st (X.fa fa107_1 rfl) rfl ?_
                refine gY (g := 48) rfl rfl rfl ?_
                refine st (X.ldL rfl hB8 Try.underlying3 rfl rfl) rfl ?_
                refine gY (g := 48) rfl rfl rfl ?_
                refine st (X.eql rfl rfl) rfl ?_
                refine st (X.pickF rfl rfl) rfl ?_
                refine sb rfl rfl (fun h53 => ?_) (fun h53 => ?_)
                · first | replace h53 := of_decide_eq_true h53 | replace h53 := of_decide_eq_false (notT h53) | replace h53 := notT h53 | skip
                  have hbd : (L.take (j + 1)).any formN = true := by rw [hxa, show N = 0 by omega]; simp
                  refine gN (g := 53) rfl rfl rfl rfl ?_
                  refine gN (g := 53) rfl rfl rfl rfl ?_
                  refine gN (g := 53) rfl rfl rfl rfl ?_
                  refine st (X.pickT rfl rfl) rfl ?_
                  refine sa rfl rfl ?_
                  refine Wn ?_
                  refine tN ?_
                  refine W_seq ?_
                  refine W_rs ?_
                  refine st (X.fa fa107_1 rfl) rfl ?_
                  refine st (X.ldL rfl hB8 Try.underlying3 rfl rfl) rfl ?_
                  refine st (X.gtr rfl rfl) rfl ?_
                  refine Wn ?_
                  refine tN ?_
                  refine W_if rfl (fun h60 => ?_) (fun h60 => ?_)
                  · first | replace h60 := of_decide_eq_true h60 | replace h60 := of_decide_eq_false (notT h60) | replace h60 := notT h60 | skip
                    obtain ⟨z, hz⟩ : ∃ z, (N : Int) - 4294967296 = z := ⟨_, rfl⟩
                    have hz2 : z = x.len := by rw [hx2, ← hz]; unfold sgn; rw [if_neg (by omega)]
                    refine W_reg ?_
                    refine st (X.fa fa107_1 rfl) rfl ?_
                    refine st (X.ldL rfl hB8 Try.underlying3 rfl rfl) rfl ?_
                    refine st (X.sub rfl rfl (show IntKind.i64.wrap ((N : Int) - 4294967296) = z by rw [w64 (by omega), hz])) rfl ?_
                    refine st (X.fa fa107_1 rfl) rfl ?_
                    refine ssB rfl rfl hB8 siz3 rfl (by first | decide | simp) (fun w62 hB_ hc_ => ?_)
                    replace hB8 := hB_
                    clear hB_
                    replace hpend := bset hpend hc_ (by omega)
                    replace hbw := bset hbw hc_ (by omega)
                    have hz_w62 := hc_.size
                    clear hc_
                    refine Wn ?_
                    refine tN ?_
                    refine W_seq ?_
                    by_cases hsp_ : 0 < j
                    · replace hR := hR.bel hpend
                      clear hpend
                      replace hB8 : Blk w62 g8 107 #[str x.sum, .int .i64 x.len] := by rw [← hz2]; exact hB8
                      obtain ⟨y, hy⟩ : ∃ y, L[j - 1]? = some y := ⟨_, List.getElem?_eq_getElem (by omega)⟩
                      have hy' : L[j - 1 + 1]? = some x := by rw [show j - 1 + 1 = j by omega]; exact hx
                      have htl : (L.take j).length = j := by rw [List.length_take]; omega
                      have hRe : RAt w62 (.slice a5 (L.take j).length c5) (L.take j) := by unfold RAt; rw [htl]; exact hR.reads
                      obtain ⟨g1, o1, c', hv, hg1⟩ := hRe.some_ (by omega)
                      injection hv with e1 _ e3
                      subst e1 e3
                      have hyt : (L.take j)[j - 1]? = some y := by rw [List.getElem?_take_of_lt (by omega)]; exact hy
                      refine W_drsN (fun W_ => Blk W_ g8 107 #[str x.sum, .int .i64 x.len] ∧ W_.rangeAt g1 (o1 + (j - 1) * 2) (rcells y)) [0, 1, 2, 3, 4, 5, 6, 7, 8, 9, 10, 11, 12] [true, true, true, true, true, true, true, true, true, true, true, true, true] (by kernel_rfl) (by kernel_rfl) (⟨hB8.drew, RAt.range (hRe.bel (bdrew (Below.refl _ _))) hyt⟩) ?_
                      obtain ⟨w63, hw_⟩ : ∃ w63 : World, w63 = World.drew w62 := ⟨_, rfl⟩
                      rw [← hw_]
                      have hb : Below w62.heap.size w62 w63 := by rw [hw_]; exact bdrew (Below.refl _ _)
                      clear hw_
                      have hS := hb
                      have hpend := hb
                      replace hbw := bthen hbw hb
                      replace hB8 := hB8.bel hb
                      have hz_w63 := hb.size
                      clear hb
                      refine oY rfl (fun W_ hW_ => (X.move rfl)) rfl ?_
                      refine oY rfl (fun W_ hW_ => (X.gtr rfl rfl)) rfl ?_
                      refine oY rfl (fun W_ hW_ => (X.mvB (c := true) rfl (decide_eq_true (by omega)))) rfl ?_
                      refine oYg (g := 67) rfl rfl rfl rfl (fun W_ hW_ => (X.move rfl)) rfl ?_
                      refine oYg (g := 67) rfl rfl rfl rfl (fun W_ hW_ => (X.move rfl)) rfl ?_
                      refine oYg (g := 67) rfl rfl rfl rfl (fun W_ hW_ => (X.sub rfl rfl (show IntKind.i64.wrap ((j : Int) - 1) = ((j - 1 : Nat) : Int) by rw [w64 (by omega)]; omega))) rfl ?_
                      refine oYg (g := 67) rfl rfl rfl rfl (fun W_ hW_ => (X.idxA rfl rfl Try.underlying29 siz107 rfl (by omega))) rfl ?_
                      refine oYg (g := 67) rfl rfl rfl rfl (fun W_ hW_ => (X.fa fa107_0 rfl)) rfl ?_
                      refine oYg (g := 67) rfl rfl rfl rfl (fun W_ hW_ => (X.ld rfl Try.underlying9 rfl (hW_.2 0 _ rfl))) rfl ?_
                      refine oYg (g := 67) rfl rfl rfl rfl (fun W_ hW_ => (X.fa fa107_0 rfl)) rfl ?_
                      refine oYg (g := 67) rfl rfl rfl rfl (fun W_ hW_ => (X.ldL rfl hW_.1 Try.underlying9 rfl rfl)) rfl ?_
                      refine oYg (g := 67) rfl rfl rfl rfl (fun W_ hW_ => (X.geS rfl rfl)) rfl ?_
                      refine oY rfl (fun W_ hW_ => (X.pickT rfl rfl)) rfl ?_
                      refine oN ?_
                      refine nN ?_
                      refine W_if rfl (fun h77 => ?_) (fun h77 => ?_)
                      · first | replace h77 := of_decide_eq_true h77 | replace h77 := of_decide_eq_false (notT h77) | replace h77 := notT h77 | skip
                        refine W_rs ?_
                        refine sa rfl rfl ?_
                        refine sa rfl rfl ?_
                        refine Wn ?_
                        refine tN ?_
                        replace hR := hR.bel hpend
                        clear hpend
                        refine W_ret (tR (bR (tR (tR (bR (tR ?_))))))
                        have hnlt : ¬ y.sum < x.sum := fun hlt => by rw [bytesLess_eq] at h77; simp [hlt] at h77
                        exact (rTT rfl rfl rfl (runp_err (show unpackM s = .error 18 by rw [hu, if_pos (srtB_no hy hy' hnlt)]) hbw)).1
                      · first | replace h77 := of_decide_eq_false h77 | replace h77 := of_decide_eq_true (notF h77) | replace h77 := notF h77 | skip
                        refine W_skip ?_
                        refine tN ?_
                        refine W_reg ?_
                        have hlt' : y.sum < x.sum := Classical.byContradiction fun hn' => by rw [bytesLess_eq] at h77; simp [hn'] at h77
                        have hso' : srtB (L.take (j + 1)) = true := by
                          have := srtB_take (i := j - 1) (by rw [show j - 1 + 1 = j by omega]; exact hso) hy hy' hlt'
                          rwa [show j - 1 + 2 = j + 1 by omega] at this
                        refine sm rfl rfl ?_
                        refine st (X.ldBN rfl hB8 Try.underlying107 rfl siz107) rfl ?_
                        refine sbs1 rfl Try.underlying29 inf107 rfl rfl (by decide) (by decide) rfl (fun g80 w64 hR80 hg80 hb => ?_)
                        replace hpend := bthen hpend hb
                        replace hbw := bthen hbw hb
                        replace hB8 := hB8.bel hb
                        have hz_w64 := hb.size
                        clear hb
                        have hl80 := hR80.blt (by decide)
                        replace hR := hR.bel hpend
                        clear hpend
                        refine sapp rfl rfl Try.underlying29 inf107 rfl (by decide) hR (hR80.reads.src Try.underlying29 (rcells_one x)) (by simp only [maxLen]; omega) (by omega) rfl (fun v5' w65 hR' hC hv' => ?_)
                        replace hbw := bapp hbw hC hO
                        replace hO := own_next hv' hO (by omega)
                        clear hC hv'
                        refine sa rfl rfl ?_
                        refine Wn ?_
                        refine bN ?_
                        refine tN ?_
                        refine W_reg ?_
                        refine sm rfl rfl ?_
                        refine st (X.add64 rfl rfl (by omega)) rfl ?_
                        refine sa rfl rfl ?_
                        refine Wn ?_
                        refine tN ⟨_, _, ?_, ⟨j + 1, v5', rfl, rfl, by omega, hso', by rw [take_next' hx, List.flatMap_append]; exact hR', hO, hbw⟩, ⟨rfl, rfl, rfl, by rw [hbd]; rfl, rfl, trivial⟩⟩
                        omega
                    · replace hB8 : Blk w62 g8 107 #[str x.sum, .int .i64 x.len] := by rw [← hz2]; exact hB8
                      refine W_drsN (fun _ => True) [0, 1, 2, 3, 4, 5, 6, 7, 8, 9, 10, 11, 12] [true, true, true, true, true, true, true, true, true, true, true, true, true] (by kernel_rfl) (by kernel_rfl) (trivial) ?_
                      obtain ⟨w66, hw_⟩ : ∃ w66 : World, w66 = World.drew w62 := ⟨_, rfl⟩
                      rw [← hw_]
                      have hb : Below w62.heap.size w62 w66 := by rw [hw_]; exact bdrew (Below.refl _ _)
                      clear hw_
                      have hS : True := trivial
                      replace hpend := bthen hpend hb
                      replace hbw := bthen hbw hb
                      replace hB8 := hB8.bel hb
                      have hz_w66 := hb.size
                      clear hb
                      refine oY rfl (fun W_ hW_ => (X.move rfl)) rfl ?_
                      refine oY rfl (fun W_ hW_ => (X.gtr rfl rfl)) rfl ?_
                      refine oY rfl (fun W_ hW_ => (X.mvB (c := false) rfl (decide_eq_false (by omega)))) rfl ?_
                      refine oNg (g := 67) rfl rfl rfl rfl hS rfl ?_
                      refine oNg (g := 67) rfl rfl rfl rfl hS rfl ?_
                      refine oNg (g := 67) rfl rfl rfl rfl hS rfl ?_
                      refine oNg (g := 67) rfl rfl rfl rfl hS rfl ?_
                      refine oNg (g := 67) rfl rfl rfl rfl hS rfl ?_
                      refine oNg (g := 67) rfl rfl rfl rfl hS rfl ?_
                      refine oNg (g := 67) rfl rfl rfl rfl hS rfl ?_
                      refine oNg (g := 67) rfl rfl rfl rfl hS rfl ?_
                      refine oNg (g := 67) rfl rfl rfl rfl hS rfl ?_
                      refine oY rfl (fun W_ hW_ => (X.pickF rfl rfl)) rfl ?_
                      refine oN ?_
                      refine nN ?_
                      refine W_no rfl (rfl) ?_
                      refine W_skip ?_
                      refine tN ?_
                      refine W_reg ?_
                      have hso' : srtB (L.take (j + 1)) = true := by
                        obtain rfl : j = 0 := by omega
                        cases L with
                        | nil => rfl
                        | cons c L => rfl
                      refine sm rfl rfl ?_
                      refine st (X.ldBN rfl hB8 Try.underlying107 rfl siz107) rfl ?_
                      refine sbs1 rfl Try.underlying29 inf107 rfl rfl (by decide) (by decide) rfl (fun g80 w67 hR80 hg80 hb => ?_)
                      replace hpend := bthen hpend hb
                      replace hbw := bthen hbw hb
                      replace hB8 := hB8.bel hb
                      have hz_w67 := hb.size
                      clear hb
                      have hl80 := hR80.blt (by decide)
                      replace hR := hR.bel hpend
                      clear hpend
                      refine sapp rfl rfl Try.underlying29 inf107 rfl (by decide) hR (hR80.reads.src Try.underlying29 (rcells_one x)) (by simp only [maxLen]; omega) (by omega) rfl (fun v5' w68 hR' hC hv' => ?_)
                      replace hbw := bapp hbw hC hO
                      replace hO := own_next hv' hO (by omega)
                      clear hC hv'
                      refine sa rfl rfl ?_
                      refine Wn ?_
                      refine bN ?_
                      refine tN ?_
                      refine W_reg ?_
                      refine sm rfl rfl ?_
                      refine st (X.add64 rfl rfl (by omega)) rfl ?_
                      refine sa rfl rfl ?_
                      refine Wn ?_
                      refine tN ⟨_, _, ?_, ⟨j + 1, v5', rfl, rfl, by omega, hso', by rw [take_next' hx, List.flatMap_append]; exact hR', hO, hbw⟩, ⟨rfl, rfl, rfl, by rw [hbd]; rfl, rfl, trivial⟩⟩
                      omega
                  · first | replace h60 := of_decide_eq_false h60 | replace h60 := of_decide_eq_true (notF h60) | replace h60 := notF h60 | skip
                    have hz2 : (N : Int) = x.len := by rw [hx2]; unfold sgn; rw [if_pos (by omega)]
                    refine W_skip ?_
                    refine tN ?_
                    refine W_seq ?_
                    by_cases hsp_ : 0 < j
                    · replace hR := hR.bel hpend
                      clear hpend
                      replace hB8 : Blk w48 g8 107 #[str x.sum, .int .i64 x.len] := by rw [← hz2]; exact hB8
                      obtain ⟨y, hy⟩ : ∃ y, L[j - 1]? = some y := ⟨_, List.getElem?_eq_getElem (by omega)⟩
                      have hy' : L[j - 1 + 1]? = some x := by rw [show j - 1 + 1 = j by omega]; exact hx
                      have htl : (L.take j).length = j := by rw [List.length_take]; omega
                      have hRe : RAt w48 (.slice a5 (L.take j).length c5) (L.take j) := by unfold RAt; rw [htl]; exact hR.reads
                      obtain ⟨g1, o1, c', hv, hg1⟩ := hRe.some_ (by omega)
                      injection hv with e1 _ e3
                      subst e1 e3
                      have hyt : (L.take j)[j - 1]? = some y := by rw [List.getElem?_take_of_lt (by omega)]; exact hy
                      refine W_drsN (fun W_ => Blk W_ g8 107 #[str x.sum, .int .i64 x.len] ∧ W_.rangeAt g1 (o1 + (j - 1) * 2) (rcells y)) [0, 1, 2, 3, 4, 5, 6, 7, 8, 9, 10, 11, 12] [true, true, true, true, true, true, true, true, true, true, true, true, true] (by kernel_rfl) (by kernel_rfl) (⟨hB8.drew, RAt.range (hRe.bel (bdrew (Below.refl _ _))) hyt⟩) ?_
                      obtain ⟨w69, hw_⟩ : ∃ w69 : World, w69 = World.drew w48 := ⟨_, rfl⟩
                      rw [← hw_]
                      have hb : Below w48.heap.size w48 w69 := by rw [hw_]; exact bdrew (Below.refl _ _)
                      clear hw_
                      have hS := hb
                      have hpend := hb
                      replace hbw := bthen hbw hb
                      replace hB8 := hB8.bel hb
                      have hz_w69 := hb.size
                      clear hb
                      refine oY rfl (fun W_ hW_ => (X.move rfl)) rfl ?_
                      refine oY rfl (fun W_ hW_ => (X.gtr rfl rfl)) rfl ?_
                      refine oY rfl (fun W_ hW_ => (X.mvB (c := true) rfl (decide_eq_true (by omega)))) rfl ?_
                      refine oYg (g := 67) rfl rfl rfl rfl (fun W_ hW_ => (X.move rfl)) rfl ?_
                      refine oYg (g := 67) rfl rfl rfl rfl (fun W_ hW_ => (X.move rfl)) rfl ?_
                      refine oYg (g := 67) rfl rfl rfl rfl (fun W_ hW_ => (X.sub rfl rfl (show IntKind.i64.wrap ((j : Int) - 1) = ((j - 1 : Nat) : Int) by rw [w64 (by omega)]; omega))) rfl ?_
                      refine oYg (g := 67) rfl rfl rfl rfl (fun W_ hW_ => (X.idxA rfl rfl Try.underlying29 siz107 rfl (by omega))) rfl ?_
                      refine oYg (g := 67) rfl rfl rfl rfl (fun W_ hW_ => (X.fa fa107_0 rfl)) rfl ?_
                      refine oYg (g := 67) rfl rfl rfl rfl (fun W_ hW_ => (X.ld rfl Try.underlying9 rfl (hW_.2 0 _ rfl))) rfl ?_
                      refine oYg (g := 67) rfl rfl rfl rfl (fun W_ hW_ => (X.fa fa107_0 rfl)) rfl ?_
                      refine oYg (g := 67) rfl rfl rfl rfl (fun W_ hW_ => (X.ldL rfl hW_.1 Try.underlying9 rfl rfl)) rfl ?_
                      refine oYg (g := 67) rfl rfl rfl rfl (fun W_ hW_ => (X.geS rfl rfl)) rfl ?_
                      refine oY rfl (fun W_ hW_ => (X.pickT rfl rfl)) rfl ?_
                      refine oN ?_
                      refine nN ?_
                      refine W_if rfl (fun h77 => ?_) (fun h77 => ?_)
                      · first | replace h77 := of_decide_eq_true h77 | replace h77 := of_decide_eq_false (notT h77) | replace h77 := notT h77 | skip
                        refine W_rs ?_
                        refine sa rfl rfl ?_
                        refine sa rfl rfl ?_
                        refine Wn ?_
                        refine tN ?_
                        replace hR := hR.bel hpend
                        clear hpend
                        refine W_ret (tR (bR (tR (tR (bR (tR ?_))))))
                        have hnlt : ¬ y.sum < x.sum := fun hlt => by rw [bytesLess_eq] at h77; simp [hlt] at h77
                        exact (rTT rfl rfl rfl (runp_err (show unpackM s = .error 18 by rw [hu, if_pos (srtB_no hy hy' hnlt)]) hbw)).1
                      · first | replace h77 := of_decide_eq_false h77 | replace h77 := of_decide_eq_true (notF h77) | replace h77 := notF h77 | skip
                        refine W_skip ?_
                        refine tN ?_
                        refine W_reg ?_
                        have hlt' : y.sum < x.sum := Classical.byContradiction fun hn' => by rw [bytesLess_eq] at h77; simp [hn'] at h77
                        have hso' : srtB (L.take (j + 1)) = true := by
                          have := srtB_take (i := j - 1) (by rw [show j - 1 + 1 = j by omega]; exact hso) hy hy' hlt'
                          rwa [show j - 1 + 2 = j + 1 by omega] at this
                        refine sm rfl rfl ?_
                        refine st (X.ldBN rfl hB8 Try.underlying107 rfl siz107) rfl ?_
                        refine sbs1 rfl Try.underlying29 inf107 rfl rfl (by decide) (by decide) rfl (fun g80 w70 hR80 hg80 hb => ?_)
                        replace hpend := bthen hpend hb
                        replace hbw := bthen hbw hb
                        replace hB8 := hB8.bel hb
                        have hz_w70 := hb.size
                        clear hb
                        have hl80 := hR80.blt (by decide)
                        replace hR := hR.bel hpend
                        clear hpend
                        refine sapp rfl rfl Try.underlying29 inf107 rfl (by decide) hR (hR80.reads.src Try.underlying29 (rcells_one x)) (by simp only [maxLen]; omega) (by omega) rfl (fun v5' w71 hR' hC hv' => ?_)
                        replace hbw := bapp hbw hC hO
                        replace hO := own_next hv' hO (by omega)
                        clear hC hv'
                        refine sa rfl rfl ?_
                        refine Wn ?_
                        refine bN ?_
                        refine tN ?_
                        refine W_reg ?_
                        refine sm rfl rfl ?_
                        refine st (X.add64 rfl rfl (by omega)) rfl ?_
                        refine sa rfl rfl ?_
                        refine Wn ?_
                        refine tN ⟨_, _, ?_, ⟨j + 1, v5', rfl, rfl, by omega, hso', by rw [take_next' hx, List.flatMap_append]; exact hR', hO, hbw⟩, ⟨rfl, rfl, rfl, by rw [hbd]; rfl, rfl, trivial⟩⟩
                        omega
                    · replace hB8 : Blk w48 g8 107 #[str x.sum, .int .i64 x.len] := by rw [← hz2]; exact hB8
                      refine W_drsN (fun _ => True) [0, 1, 2, 3, 4, 5, 6, 7, 8, 9, 10, 11, 12] [true, true, true, true, true, true, true, true, true, true, true, true, true] (by kernel_rfl) (by kernel_rfl) (trivial) ?_
                      obtain ⟨w72, hw_⟩ : ∃ w72 : World, w72 = World.drew w48 := ⟨_, rfl⟩
                      rw [← hw_]
                      have hb : Below w48.heap.size w48 w72 := by rw [hw_]; exact bdrew (Below.refl _ _)
                      clear hw_
                      have hS : True := trivial
                      replace hpend := bthen hpend hb
                      replace hbw := bthen hbw hb
                      replace hB8 := hB8.bel hb
                      have hz_w72 := hb.size
                      clear hb
                      refine oY rfl (fun W_ hW_ => (X.move rfl)) rfl ?_
                      refine oY rfl (fun W_ hW_ => (X.gtr rfl rfl)) rfl ?_
                      refine oY rfl (fun W_ hW_ => (X.mvB (c := false) rfl (decide_eq_false (by omega)))) rfl ?_
                      refine oNg (g := 67) rfl rfl rfl rfl hS rfl ?_
                      refine oNg (g := 67) rfl rfl rfl rfl hS rfl ?_
                      refine oNg (g := 67) rfl rfl rfl rfl hS rfl ?_
                      refine oNg (g := 67) rfl rfl rfl rfl hS rfl ?_
                      refine oNg (g := 67) rfl rfl rfl rfl hS rfl ?_
                      refine oNg (g := 67) rfl rfl rfl rfl hS rfl ?_
                      refine oNg (g := 67) rfl rfl rfl rfl hS rfl ?_
                      refine oNg (g := 67) rfl rfl rfl rfl hS rfl ?_
                      refine oNg (g := 67) rfl rfl rfl rfl hS rfl ?_
                      refine oY rfl (fun W_ hW_ => (X.pickF rfl rfl)) rfl ?_
                      refine oN ?_
                      refine nN ?_
                      refine W_no rfl (rfl) ?_
                      refine W_skip ?_
                      refine tN ?_
                      refine W_reg ?_
                      have hso' : srtB (L.take (j + 1)) = true := by
                        obtain rfl : j = 0 := by omega
                        cases L with
                        | nil => rfl
                        | cons c L => rfl
                      refine sm rfl rfl ?_
                      refine st (X.ldBN rfl hB8 Try.underlying107 rfl siz107) rfl ?_
                      refine sbs1 rfl Try.underlying29 inf107 rfl rfl (by decide) (by decide) rfl (fun g80 w73 hR80 hg80 hb => ?_)
                      replace hpend := bthen hpend hb
                      replace hbw := bthen hbw hb
                      replace hB8 := hB8.bel hb
                      have hz_w73 := hb.size
                      clear hb
                      have hl80 := hR80.blt (by decide)
                      replace hR := hR.bel hpend
                      clear hpend
                      refine sapp rfl rfl Try.underlying29 inf107 rfl (by decide) hR (hR80.reads.src Try.underlying29 (rcells_one x)) (by simp only [maxLen]; omega) (by omega) rfl (fun v5' w74 hR' hC hv' => ?_)
                      replace hbw := bapp hbw hC hO
                      replace hO := own_next hv' hO (by omega)
                      clear hC hv'
                      refine sa rfl rfl ?_
                      refine Wn ?_
                      refine bN ?_
                      refine tN ?_
                      refine W_reg ?_
                      refine sm rfl rfl ?_
                      refine st (X.add64 rfl rfl (by omega)) rfl ?_
                      refine sa rfl rfl ?_
                      refine Wn ?_
                      refine tN ⟨_, _, ?_, ⟨j + 1, v5', rfl, rfl, by omega, hso', by rw [take_next' hx, List.flatMap_append]; exact hR', hO, hbw⟩, ⟨rfl, rfl, rfl, by rw [hbd]; rfl, rfl, trivial⟩⟩
                      omega
                · first | replace h53 := of_decide_eq_false h53 | replace h53 := of_decide_eq_true (notF h53) | replace h53 := notF h53 | skip
                  have hbd : (L.take (j + 1)).any formN = decide ((N : Int) = 2147483648) := by
                    rw [hxa, h48, Bool.false_or, decide_eq_decide]
                    omega
                  refine gY (g := 53) rfl rfl rfl ?_
                  refine st (X.fa fa107_1 rfl) rfl ?_
                  refine gY (g := 53) rfl rfl rfl ?_
                  refine st (X.ldL rfl hB8 Try.underlying3 rfl rfl) rfl ?_
                  refine gY (g := 53) rfl rfl rfl ?_
                  refine st (X.eql rfl rfl) rfl ?_
                  refine st (X.pickF rfl rfl) rfl ?_
                  refine sa rfl rfl ?_
                  refine Wn ?_
                  refine tN ?_
                  refine W_seq ?_
                  refine W_rs ?_
                  refine st (X.fa fa107_1 rfl) rfl ?_
                  refine st (X.ldL rfl hB8 Try.underlying3 rfl rfl) rfl ?_
                  refine st (X.gtr rfl rfl) rfl ?_
                  refine Wn ?_
                  refine tN ?_
                  refine W_if rfl (fun h60 => ?_) (fun h60 => ?_)
                  · first | replace h60 := of_decide_eq_true h60 | replace h60 := of_decide_eq_false (notT h60) | replace h60 := notT h60 | skip
                    obtain ⟨z, hz⟩ : ∃ z, (N : Int) - 4294967296 = z := ⟨_, rfl⟩
                    have hz2 : z = x.len := by rw [hx2, ← hz]; unfold sgn; rw [if_neg (by omega)]
                    refine W_reg ?_
                    refine st (X.fa fa107_1 rfl) rfl ?_
                    refine st (X.ldL rfl hB8 Try.underlying3 rfl rfl) rfl ?_
                    refine st (X.sub rfl rfl (show IntKind.i64.wrap ((N : Int) - 4294967296) = z by rw [w64 (by omega), hz])) rfl ?_
                    refine st (X.fa fa107_1 rfl) rfl ?_
                    refine ssB rfl rfl hB8 siz3 rfl (by first | decide | simp) (fun w75 hB_ hc_ => ?_)
                    replace hB8 := hB_
                    clear hB_
                    replace hpend := bset hpend hc_ (by omega)
                    replace hbw := bset hbw hc_ (by omega)
                    have hz_w75 := hc_.size
                    clear hc_
                    refine Wn ?_
                    refine tN ?_
                    refine W_seq ?_
                    by_cases hsp_ : 0 < j
                    · replace hR := hR.bel hpend
                      clear hpend
                      replace hB8 : Blk w75 g8 107 #[str x.sum, .int .i64 x.len] := by rw [← hz2]; exact hB8
                      obtain ⟨y, hy⟩ : ∃ y, L[j - 1]? = some y := ⟨_, List.getElem?_eq_getElem (by omega)⟩
                      have hy' : L[j - 1 + 1]? = some x := by rw [show j - 1 + 1 = j by omega]; exact hx
                      have htl : (L.take j).length = j := by rw [List.length_take]; omega
                      have hRe : RAt w75 (.slice a5 (L.take j).length c5) (L.take j) := by unfold RAt; rw [htl]; exact hR.reads
                      obtain ⟨g1, o1, c', hv, hg1⟩ := hRe.some_ (by omega)
                      injection hv with e1 _ e3
                      subst e1 e3
                      have hyt : (L.take j)[j - 1]? = some y := by rw [List.getElem?_take_of_lt (by omega)]; exact hy
                      refine W_drsN (fun W_ => Blk W_ g8 107 #[str x.sum, .int .i64 x.len] ∧ W_.rangeAt g1 (o1 + (j - 1) * 2) (rcells y)) [0, 1, 2, 3, 4, 5, 6, 7, 8, 9, 10, 11, 12] [true, true, true, true, true, true, true, true, true, true, true, true, true] (by kernel_rfl) (by kernel_rfl) (⟨hB8.drew, RAt.range (hRe.bel (bdrew (Below.refl _ _))) hyt⟩) ?_
                      obtain ⟨w76, hw_⟩ : ∃ w76 : World, w76 = World.drew w75 := ⟨_, rfl⟩
                      rw [← hw_]
                      have hb : Below w75.heap.size w75 w76 := by rw [hw_]; exact bdrew (Below.refl _ _)
                      clear hw_
                      have hS := hb
                      have hpend := hb
                      replace hbw := bthen hbw hb
                      replace hB8 := hB8.bel hb
                      have hz_w76 := hb.size
                      clear hb
                      refine oY rfl (fun W_ hW_ => (X.move rfl)) rfl ?_
                      refine oY rfl (fun W_ hW_ => (X.gtr rfl rfl)) rfl ?_
                      refine oY rfl (fun W_ hW_ => (X.mvB (c := true) rfl (decide_eq_true (by omega)))) rfl ?_
                      refine oYg (g := 67) rfl rfl rfl rfl (fun W_ hW_ => (X.move rfl)) rfl ?_
                      refine oYg (g := 67) rfl rfl rfl rfl (fun W_ hW_ => (X.move rfl)) rfl ?_
                      refine oYg (g := 67) rfl rfl rfl rfl (fun W_ hW_ => (X.sub rfl rfl (show IntKind.i64.wrap ((j : Int) - 1) = ((j - 1 : Nat) : Int) by rw [w64 (by omega)]; omega))) rfl ?_
                      refine oYg (g := 67) rfl rfl rfl rfl (fun W_ hW_ => (X.idxA rfl rfl Try.underlying29 siz107 rfl (by omega))) rfl ?_
                      refine oYg (g := 67) rfl rfl rfl rfl (fun W_ hW_ => (X.fa fa107_0 rfl)) rfl ?_
                      refine oYg (g := 67) rfl rfl rfl rfl (fun W_ hW_ => (X.ld rfl Try.underlying9 rfl (hW_.2 0 _ rfl))) rfl ?_
                      refine oYg (g := 67) rfl rfl rfl rfl (fun W_ hW_ => (X.fa fa107_0 rfl)) rfl ?_
                      refine oYg (g := 67) rfl rfl rfl rfl (fun W_ hW_ => (X.ldL rfl hW_.1 Try.underlying9 rfl rfl)) rfl ?_
                      refine oYg (g := 67) rfl rfl rfl rfl (fun W_ hW_ => (X.geS rfl rfl)) rfl ?_
                      refine oY rfl (fun W_ hW_ => (X.pickT rfl rfl)) rfl ?_
                      refine oN ?_
                      refine nN ?_
                      refine W_if rfl (fun h77 => ?_) (fun h77 => ?_)
                      · first | replace h77 := of_decide_eq_true h77 | replace h77 := of_decide_eq_false (notT h77) | replace h77 := notT h77 | skip
                        refine W_rs ?_
                        refine sa rfl rfl ?_
                        refine sa rfl rfl ?_
                        refine Wn ?_
                        refine tN ?_
                        replace hR := hR.bel hpend
                        clear hpend
                        refine W_ret (tR (bR (tR (tR (bR (tR ?_))))))
                        have hnlt : ¬ y.sum < x.sum := fun hlt => by rw [bytesLess_eq] at h77; simp [hlt] at h77
                        exact (rTT rfl rfl rfl (runp_err (show unpackM s = .error 18 by rw [hu, if_pos (srtB_no hy hy' hnlt)]) hbw)).1
                      · first | replace h77 := of_decide_eq_false h77 | replace h77 := of_decide_eq_true (notF h77) | replace h77 := notF h77 | skip
                        refine W_skip ?_
                        refine tN ?_
                        refine W_reg ?_
                        have hlt' : y.sum < x.sum := Classical.byContradiction fun hn' => by rw [bytesLess_eq] at h77; simp [hn'] at h77
                        have hso' : srtB (L.take (j + 1)) = true := by
                          have := srtB_take (i := j - 1) (by rw [show j - 1 + 1 = j by omega]; exact hso) hy hy' hlt'
                          rwa [show j - 1 + 2 = j + 1 by omega] at this
                        refine sm rfl rfl ?_
                        refine st (X.ldBN rfl hB8 Try.underlying107 rfl siz107) rfl ?_
                        refine sbs1 rfl Try.underlying29 inf107 rfl rfl (by decide) (by decide) rfl (fun g80 w77 hR80 hg80 hb => ?_)
                        replace hpend := bthen hpend hb
                        replace hbw := bthen hbw hb
                        replace hB8 := hB8.bel hb
                        have hz_w77 := hb.size
                        clear hb
                        have hl80 := hR80.blt (by decide)
                        replace hR := hR.bel hpend
                        clear hpend
                        refine sapp rfl rfl Try.underlying29 inf107 rfl (by decide) hR (hR80.reads.src Try.underlying29 (rcells_one x)) (by simp only [maxLen]; omega) (by omega) rfl (fun v5' w78 hR' hC hv' => ?_)
                        replace hbw := bapp hbw hC hO
                        replace hO := own_next hv' hO (by omega)
                        clear hC hv'
                        refine sa rfl rfl ?_
                        refine Wn ?_
                        refine bN ?_
                        refine tN ?_
                        refine W_reg ?_
                        refine sm rfl rfl ?_
                        refine st (X.add64 rfl rfl (by omega)) rfl ?_
                        refine sa rfl rfl ?_
                        refine Wn ?_
                        refine tN ⟨_, _, ?_, ⟨j + 1, v5', rfl, rfl, by omega, hso', by rw [take_next' hx, List.flatMap_append]; exact hR', hO, hbw⟩, ⟨rfl, rfl, rfl, by rw [hbd]; rfl, rfl, trivial⟩⟩
                        omega
                    · replace hB8 : Blk w75 g8 107 #[str x.sum, .int .i64 x.len] := by rw [← hz2]; exact hB8
                      refine W_drsN (fun _ => True) [0, 1, 2, 3, 4, 5, 6, 7, 8, 9, 10, 11, 12] [true, true, true, true, true, true, true, true, true, true, true, true, true] (by kernel_rfl) (by kernel_rfl) (trivial) ?_
                      obtain ⟨w79, hw_⟩ : ∃ w79 : World, w79 = World.drew w75 := ⟨_, rfl⟩
                      rw [← hw_]
                      have hb : Below w75.heap.size w75 w79 := by rw [hw_]; exact bdrew (Below.refl _ _)
                      clear hw_
                      have hS : True := trivial
                      replace hpend := bthen hpend hb
                      replace hbw := bthen hbw hb
                      replace hB8 := hB8.bel hb
                      have hz_w79 := hb.size
                      clear hb
                      refine oY rfl (fun W_ hW_ => (X.move rfl)) rfl ?_
                      refine oY rfl (fun W_ hW_ => (X.gtr rfl rfl)) rfl ?_
                      refine oY rfl (fun W_ hW_ => (X.mvB (c := false) rfl (decide_eq_false (by omega)))) rfl ?_
                      refine oNg (g := 67) rfl rfl rfl rfl hS rfl ?_
                      refine oNg (g := 67) rfl rfl rfl rfl hS rfl ?_
                      refine oNg (g := 67) rfl rfl rfl rfl hS rfl ?_
                      refine oNg (g := 67) rfl rfl rfl rfl hS rfl ?_
                      refine oNg (g := 67) rfl rfl rfl rfl hS rfl ?_
                      refine oNg (g := 67) rfl rfl rfl rfl hS rfl ?_
                      refine oNg (g := 67) rfl rfl rfl rfl hS rfl ?_
                      refine oNg (g := 67) rfl rfl rfl rfl hS rfl ?_
                      refine oNg (g := 67) rfl rfl rfl rfl hS rfl ?_
                      refine oY rfl (fun W_ hW_ => (X.pickF rfl rfl)) rfl ?_
                      refine oN ?_
                      refine nN ?_
                      refine W_no rfl (rfl) ?_
                      refine W_skip ?_
                      refine tN ?_
                      refine W_reg ?_
                      have hso' : srtB (L.take (j + 1)) = true := by
                        obtain rfl : j = 0 := by omega
                        cases L with
                        | nil => rfl
                        | cons c L => rfl
                      refine sm rfl rfl ?_
                      refine st (X.ldBN rfl hB8 Try.underlying107 rfl siz107) rfl ?_
                      refine sbs1 rfl Try.underlying29 inf107 rfl rfl (by decide) (by decide) rfl (fun g80 w80 hR80 hg80 hb => ?_)
                      replace hpend := bthen hpend hb
                      replace hbw := bthen hbw hb
                      replace hB8 := hB8.bel hb
                      have hz_w80 := hb.size
                      clear hb
                      have hl80 := hR80.blt (by decide)
                      replace hR := hR.bel hpend
                      clear hpend
                      refine sapp rfl rfl Try.underlying29 inf107 rfl (by decide) hR (hR80.reads.src Try.underlying29 (rcells_one x)) (by simp only [maxLen]; omega) (by omega) rfl (fun v5' w81 hR' hC hv' => ?_)
                      replace hbw := bapp hbw hC hO
                      replace hO := own_next hv' hO (by omega)
                      clear hC hv'
                      refine sa rfl rfl ?_
                      refine Wn ?_
                      refine bN ?_
                      refine tN ?_
                      refine W_reg ?_
                      refine sm rfl rfl ?_
                      refine st (X.add64 rfl rfl (by omega)) rfl ?_
                      refine sa rfl rfl ?_
                      refine Wn ?_
                      refine tN ⟨_, _, ?_, ⟨j + 1, v5', rfl, rfl, by omega, hso', by rw [take_next' hx, List.flatMap_append]; exact hR', hO, hbw⟩, ⟨rfl, rfl, rfl, by rw [hbd]; rfl, rfl, trivial⟩⟩
                      omega
                  · first | replace h60 := of_decide_eq_false h60 | replace h60 := of_decide_eq_true (notF h60) | replace h60 := notF h60 | skip
                    have hz2 : (N : Int) = x.len := by rw [hx2]; unfold sgn; rw [if_pos (by omega)]
                    refine W_skip ?_
                    refine tN ?_
                    refine W_seq ?_
                    by_cases hsp_ : 0 < j
                    · replace hR := hR.bel hpend
                      clear hpend
                      replace hB8 : Blk w48 g8 107 #[str x.sum, .int .i64 x.len] := by rw [← hz2]; exact hB8
                      obtain ⟨y, hy⟩ : ∃ y, L[j - 1]? = some y := ⟨_, List.getElem?_eq_getElem (by omega)⟩
                      have hy' : L[j - 1 + 1]? = some x := by rw [show j - 1 + 1 = j by omega]; exact hx
                      have htl : (L.take j).length = j := by rw [List.length_take]; omega
                      have hRe : RAt w48 (.slice a5 (L.take j).length c5) (L.take j) := by unfold RAt; rw [htl]; exact hR.reads
                      obtain ⟨g1, o1, c', hv, hg1⟩ := hRe.some_ (by omega)
                      injection hv with e1 _ e3
                      subst e1 e3
                      have hyt : (L.take j)[j - 1]? = some y := by rw [List.getElem?_take_of_lt (by omega)]; exact hy
                      refine W_drsN (fun W_ => Blk W_ g8 107 #[str x.sum, .int .i64 x.len] ∧ W_.rangeAt g1 (o1 + (j - 1) * 2) (rcells y)) [0, 1, 2, 3, 4, 5, 6, 7, 8, 9, 10, 11, 12] [true, true, true, true, true, true, true, true, true, true, true, true, true] (by kernel_rfl) (by kernel_rfl) (⟨hB8.drew, RAt.range (hRe.bel (bdrew (Below.refl _ _))) hyt⟩) ?_
                      obtain ⟨w82, hw_⟩ : ∃ w82 : World, w82 = World.drew w48 := ⟨_, rfl⟩
                      rw [← hw_]
                      have hb : Below w48.heap.size w48 w82 := by rw [hw_]; exact bdrew (Below.refl _ _)
                      clear hw_
                      have hS := hb
                      have hpend := hb
                      replace hbw := bthen hbw hb
                      replace hB8 := hB8.bel hb
                      have hz_w82 := hb.size
                      clear hb
                      refine oY rfl (fun W_ hW_ => (X.move rfl)) rfl ?_
                      refine oY rfl (fun W_ hW_ => (X.gtr rfl rfl)) rfl ?_
                      refine oY rfl (fun W_ hW_ => (X.mvB (c := true) rfl (decide_eq_true (by omega)))) rfl ?_
                      refine oYg (g := 67) rfl rfl rfl rfl (fun W_ hW_ => (X.move rfl)) rfl ?_
                      refine oYg (g := 67) rfl rfl rfl rfl (fun W_ hW_ => (X.move rfl)) rfl ?_
                      refine oYg (g := 67) rfl rfl rfl rfl (fun W_ hW_ => (X.sub rfl rfl (show IntKind.i64.wrap ((j : Int) - 1) = ((j - 1 : Nat) : Int) by rw [w64 (by omega)]; omega))) rfl ?_
                      refine oYg (g := 67) rfl rfl rfl rfl (fun W_ hW_ => (X.idxA rfl rfl Try.underlying29 siz107 rfl (by omega))) rfl ?_
                      refine oYg (g := 67) rfl rfl rfl rfl (fun W_ hW_ => (X.fa fa107_0 rfl)) rfl ?_
                      refine oYg (g := 67) rfl rfl rfl rfl (fun W_ hW_ => (X.ld rfl Try.underlying9 rfl (hW_.2 0 _ rfl))) rfl ?_
                      refine oYg (g := 67) rfl rfl rfl rfl (fun W_ hW_ => (X.fa fa107_0 rfl)) rfl ?_
                      refine oYg (g := 67) rfl rfl rfl rfl (fun W_ hW_ => (X.ldL rfl hW_.1 Try.underlying9 rfl rfl)) rfl ?_
                      refine oYg (g := 67) rfl rfl rfl rfl (fun W_ hW_ => (X.geS rfl rfl)) rfl ?_
                      refine oY rfl (fun W_ hW_ => (X.pickT rfl rfl)) rfl ?_
                      refine oN ?_
                      refine nN ?_
                      refine W_if rfl (fun h77 => ?_) (fun h77 => ?_)
                      · first | replace h77 := of_decide_eq_true h77 | replace h77 := of_decide_eq_false (notT h77) | replace h77 := notT h77 | skip
                        refine W_rs ?_
                        refine sa rfl rfl ?_
                        refine sa rfl rfl ?_
                        refine Wn ?_
                        refine tN ?_
                        replace hR := hR.bel hpend
                        clear hpend
                        refine W_ret (tR (bR (tR (tR (bR (tR ?_))))))
                        have hnlt : ¬ y.sum < x.sum := fun hlt => by rw [bytesLess_eq] at h77; simp [hlt] at h77
                        exact (rTT rfl rfl rfl (runp_err (show unpackM s = .error 18 by rw [hu, if_pos (srtB_no hy hy' hnlt)]) hbw)).1
                      · first | replace h77 := of_decide_eq_false h77 | replace h77 := of_decide_eq_true (notF h77) | replace h77 := notF h77 | skip
                        refine W_skip ?_
                        refine tN ?_
                        refine W_reg ?_
                        have hlt' : y.sum < x.sum := Classical.byContradiction fun hn' => by rw [bytesLess_eq] at h77; simp [hn'] at h77
                        have hso' : srtB (L.take (j + 1)) = true := by
                          have := srtB_take (i := j - 1) (by rw [show j - 1 + 1 = j by omega]; exact hso) hy hy' hlt'
                          rwa [show j - 1 + 2 = j + 1 by omega] at this
                        refine sm rfl rfl ?_
                        refine st (X.ldBN rfl hB8 Try.underlying107 rfl siz107) rfl ?_
                        refine sbs1 rfl Try.underlying29 inf107 rfl rfl (by decide) (by decide) rfl (fun g80 w83 hR80 hg80 hb => ?_)
                        replace hpend := bthen hpend hb
                        replace hbw := bthen hbw hb
                        replace hB8 := hB8.bel hb
                        have hz_w83 := hb.size
                        clear hb
                        have hl80 := hR80.blt (by decide)
                        replace hR := hR.bel hpend
                        clear hpend
                        refine sapp rfl rfl Try.underlying29 inf107 rfl (by decide) hR (hR80.reads.src Try.underlying29 (rcells_one x)) (by simp only [maxLen]; omega) (by omega) rfl (fun v5' w84 hR' hC hv' => ?_)
                        replace hbw := bapp hbw hC hO
                        replace hO := own_next hv' hO (by omega)
                        clear hC hv'
                        refine sa rfl rfl ?_
                        refine Wn ?_
                        refine bN ?_
                        refine tN ?_
                        refine W_reg ?_
                        refine sm rfl rfl ?_
                        refine st (X.add64 rfl rfl (by omega)) rfl ?_
                        refine sa rfl rfl ?_
                        refine Wn ?_
                        refine tN ⟨_, _, ?_, ⟨j + 1, v5', rfl, rfl, by omega, hso', by rw [take_next' hx, List.flatMap_append]; exact hR', hO, hbw⟩, ⟨rfl, rfl, rfl, by rw [hbd]; rfl, rfl, trivial⟩⟩
                        omega
                    · replace hB8 : Blk w48 g8 107 #[str x.sum, .int .i64 x.len] := by rw [← hz2]; exact hB8
                      refine W_drsN (fun _ => True) [0, 1, 2, 3, 4, 5, 6, 7, 8, 9, 10, 11, 12] [true, true, true, true, true, true, true, true, true, true, true, true, true] (by kernel_rfl) (by kernel_rfl) (trivial) ?_
                      obtain ⟨w85, hw_⟩ : ∃ w85 : World, w85 = World.drew w48 := ⟨_, rfl⟩
                      rw [← hw_]
                      have hb : Below w48.heap.size w48 w85 := by rw [hw_]; exact bdrew (Below.refl _ _)
                      clear hw_
                      have hS : True := trivial
                      replace hpend := bthen hpend hb
                      replace hbw := bthen hbw hb
                      replace hB8 := hB8.bel hb
                      have hz_w85 := hb.size
                      clear hb
                      refine oY rfl (fun W_ hW_ => (X.move rfl)) rfl ?_
                      refine oY rfl (fun W_ hW_ => (X.gtr rfl rfl)) rfl ?_
                      refine oY rfl (fun W_ hW_ => (X.mvB (c := false) rfl (decide_eq_false (by omega)))) rfl ?_
                      refine oNg (g := 67) rfl rfl rfl rfl hS rfl ?_
                      refine oNg (g := 67) rfl rfl rfl rfl hS rfl ?_
                      refine oNg (g := 67) rfl rfl rfl rfl hS rfl ?_
                      refine oNg (g := 67) rfl rfl rfl rfl hS rfl ?_
                      refine oNg (g := 67) rfl rfl rfl rfl hS rfl ?_
                      refine oNg (g := 67) rfl rfl rfl rfl hS rfl ?_
                      refine oNg (g := 67) rfl rfl rfl rfl hS rfl ?_
                      refine oNg (g := 67) rfl rfl rfl rfl hS rfl ?_
                      refine oNg (g := 67) rfl rfl rfl rfl hS rfl ?_
                      refine oY rfl (fun W_ hW_ => (X.pickF rfl rfl)) rfl ?_
                      refine oN ?_
                      refine nN ?_
                      refine W_no rfl (rfl) ?_
                      refine W_skip ?_
                      refine tN ?_
                      refine W_reg ?_
                      have hso' : srtB (L.take (j + 1)) = true := by
                        obtain rfl : j = 0 := by omega
                        cases L with
                        | nil => rfl
                        | cons c L => rfl
                      refine sm rfl rfl ?_
                      refine st (X.ldBN rfl hB8 Try.underlying107 rfl siz107) rfl ?_
                      refine sbs1 rfl Try.underlying29 inf107 rfl rfl (by decide) (by decide) rfl (fun g80 w86 hR80 hg80 hb => ?_)
                      replace hpend := bthen hpend hb
                      replace hbw := bthen hbw hb
                      replace hB8 := hB8.bel hb
                      have hz_w86 := hb.size
                      clear hb
                      have hl80 := hR80.blt (by decide)
                      replace hR := hR.bel hpend
                      clear hpend
                      refine sapp rfl rfl Try.underlying29 inf107 rfl (by decide) hR (hR80.reads.src Try.underlying29 (rcells_one x)) (by simp only [maxLen]; omega) (by omega) rfl (fun v5' w87 hR' hC hv' => ?_)
                      replace hbw := bapp hbw hC hO
                      replace hO := own_next hv' hO (by omega)
                      clear hC hv'
                      refine sa rfl rfl ?_
                      refine Wn ?_
                      refine bN ?_
                      refine tN ?_
                      refine W_reg ?_
                      refine sm rfl rfl ?_
                      refine st (X.add64 rfl rfl (by omega)) rfl ?_
                      refine sa rfl rfl ?_
                      refine Wn ?_
                      refine tN ⟨_, _, ?_, ⟨j + 1, v5', rfl, rfl, by omega, hso', by rw [take_next' hx, List.flatMap_append]; exact hR', hO, hbw⟩, ⟨rfl, rfl, rfl, by rw [hbd]; rfl, rfl, trivial⟩⟩
                      omega
          · first | replace h30 := of_decide_eq_false h30 | replace h30 := of_decide_eq_true (notF h30) | replace h30 := notF h30 | skip
            obtain rfl : n = j := by omega
            rw [List.take_of_length_le (by omega)] at hso hR
            rw [if_neg (by rw [hso]; simp)] at hu
            refine W_exit (tE (tE (bH ?_)))
            refine tN ?_
            refine W_seq ?_
            refine W_rs ?_
            refine sm rfl rfl ?_
            refine Wn ?_
            refine tN ?_
            refine W_if rfl (fun h82 => ?_) (fun h82 => ?_)
            · first | replace h82 := of_decide_eq_true h82 | replace h82 := of_decide_eq_false (notT h82) | replace h82 := notT h82 | skip
              refine W_rs ?_
              refine sa rfl rfl ?_
              refine sa rfl rfl ?_
              refine Wn ?_
              refine tN ?_
              refine W_ret (tR ?_)
              rw [List.take_of_length_le (by omega)] at h82
              exact (rTT rfl rfl rfl (runp_err (show unpackM s = .error 12 by rw [hu, if_pos h82]) hbw)).1
            · first | replace h82 := of_decide_eq_false h82 | replace h82 := of_decide_eq_true (notF h82) | replace h82 := notF h82 | skip
              refine W_skip ?_
              refine tN ?_
              refine W_rs ?_
              refine sm rfl rfl ?_
              refine sa rfl rfl ?_
              refine sa rfl rfl ?_
              refine Wn ?_
              refine tN ?_
              refine W_ret ?_
              rw [List.take_of_length_le (by omega)] at h82
              exact (rTT rfl rfl rfl (runp_ok (show unpackM s = .ok L by rw [hu, if_neg (by rw [h82]; simp)]) (show RAt _ _ L from by unfold RAt; rw [hLl]; exact hR.reads) hbw)).1
theorem RDecode_any (s : List UInt8) (w : World) (hs : s.length < 1000000) : Calls Try.prog 43 #[str s] w (RUnp w (decodeC s)) := by
  refine W_enter (args := [str s]) 26 Try.func43 rfl rfl rfl ?_
  refine W_sub [(0, str s)] ?_ ⟨rfl, trivial⟩
  have hbw := Below.refl w.heap.size w
  refine W_rs ?_
  refine sa rfl rfl ?_
  refine sa rfl rfl ?_
  refine Wn ?_
  refine tN ?_
  refine W_rs ?_
  refine sm rfl rfl ?_
  refine sc _ Try.func41 rfl (by kernel_rfl) rfl rfl ((RUnpack_any s _ hs).mono ?_)
  rintro e_ w1 ⟨v, rfl, hR, hb⟩
  refine cR ?_
  replace hbw := bthen hbw hb
  have hz_w1 := hb.size
  clear hb
  obtain ⟨a, cp, rfl, hnn, hcp⟩ := hR.shape
  obtain ⟨L, hL⟩ : ∃ L, okOf [] (unpackM s) = L := ⟨_, rfl⟩
  rw [hL] at hR hnn
  rw [hL]
  refine sm rfl rfl ?_
  refine st (X.ext rfl rfl) rfl ?_
  refine st (X.ext rfl rfl) rfl ?_
  refine sa rfl rfl ?_
  refine sa rfl rfl ?_
  refine Wn ?_
  refine tN ?_
  refine W_seq ?_
  refine W_rs ?_
  refine sa rfl rfl ?_
  refine Wn ?_
  refine tN ?_
  refine W_block ?_
  refine W_lp (fun nw2_ lw2_ w2 => ∃ j : Nat, nw2_ = L.length - j ∧ lw2_ = ([(4, .slice a L.length cp), (5, .int .i64 (errO (unpackM s))), (6, .int .i64 j)] : Env) ∧ (j ≤ L.length) ∧ (L.any negN = (L.drop j).any negN) ∧ (RAt w2 (.slice a L.length cp) L) ∧ (Below w.heap.size w w2)) _ ⟨_, ⟨0, rfl, rfl, by omega, rfl, hR, hbw⟩, ⟨rfl, rfl, rfl, trivial⟩⟩ ?_
  clear hR hbw
  rintro nw2_ lw2_ w2 ⟨j, rfl, rfl, hj, hq, hR, hbw⟩
  have hz_w2 := hbw.size
  refine W_seq ?_
  refine W_rs ?_
  refine sm rfl rfl ?_
  refine sm rfl rfl ?_
  refine st (X.lenL rfl rfl Try.underlying29) rfl ?_
  refine st (X.lss rfl rfl) rfl ?_
  refine Wn ?_
  refine tN ?_
  refine W_if rfl (fun h15 => ?_) (fun h15 => ?_)
  · first | replace h15 := of_decide_eq_true h15 | replace h15 := of_decide_eq_false (notT h15) | replace h15 := notT h15 | skip
    obtain ⟨d, hd⟩ : ∃ d, L[j]? = some d := ⟨_, List.getElem?_eq_getElem (by omega)⟩
    obtain ⟨g1, o1, c', hv, hg1⟩ := hR.some_ (by omega)
    injection hv with e1 _ e3
    subst e1 e3
    refine W_skip ?_
    refine tN ?_
    refine W_seq ?_
    refine W_block ?_
    refine W_rs ?_
    refine sm rfl rfl ?_
    refine sm rfl rfl ?_
    refine st (X.idxA rfl rfl Try.underlying29 siz107 rfl (by omega)) rfl ?_
    refine st (X.fa fa107_1 rfl) rfl ?_
    refine st (X.ld rfl Try.underlying3 rfl ((RAt.range hR hd) 1 _ rfl)) rfl ?_
    refine st (X.lss rfl rfl) rfl ?_
    refine Wn ?_
    refine tN ?_
    refine W_if rfl (fun h23 => ?_) (fun h23 => ?_)
    · first | replace h23 := of_decide_eq_true h23 | replace h23 := of_decide_eq_false (notT h23) | replace h23 := notT h23 | skip
      refine W_rs ?_
      refine sa rfl rfl ?_
      refine sa rfl rfl ?_
      refine Wn ?_
      refine tN ?_
      refine W_ret (bR (tR (tR (bR (tR ?_)))))
      have hu : unpackM s = .ok L := by
        cases hu : unpackM s with
        | error e => rw [hu] at hL; subst hL; simp [okOf] at hd
        | ok l => rw [hu] at hL; exact congrArg _ hL
      exact (rTT rfl rfl rfl (runp_err (decode_neg hu (by rw [hq, any_drop _ hd, show negN d = true from decide_eq_true h23]; rfl)) hbw)).1
    · first | replace h23 := of_decide_eq_false h23 | replace h23 := of_decide_eq_true (notF h23) | replace h23 := notF h23 | skip
      have hno : negN d = false := decide_eq_false (by omega)
      refine W_skip ?_
      refine bN ?_
      refine tN ?_
      refine W_reg ?_
      refine sm rfl rfl ?_
      refine st (X.add64 rfl rfl (by omega)) rfl ?_
      refine sa rfl rfl ?_
      refine Wn ?_
      refine tN ⟨_, _, ?_, ⟨j + 1, rfl, rfl, by omega, by rw [hq, any_drop _ hd, hno]; rfl, hR, hbw⟩, ⟨rfl, rfl, rfl, trivial⟩⟩
      omega
  · first | replace h15 := of_decide_eq_false h15 | replace h15 := of_decide_eq_true (notF h15) | replace h15 := notF h15 | skip
    obtain rfl : j = L.length := by omega
    rw [List.drop_length] at hq
    have hdec : decodeC s = unpackM s := by
      cases hu : unpackM s with
      | error e => unfold decodeC; rw [hu]
      | ok l => rw [hu] at hL; exact decode_pos hu (by rw [show l = L from hL]; exact hq)
    refine W_exit (tE (tE (bH ?_)))
    refine tN ?_
    refine W_rs ?_
    refine sm rfl rfl ?_
    refine sm rfl rfl ?_
    refine sa rfl rfl ?_
    refine sa rfl rfl ?_
    refine Wn ?_
    refine tN ?_
    refine W_ret ?_
    exact (rTT rfl rfl rfl ⟨_, by rw [hdec], by rw [hdec, hL]; exact hR, hbw⟩).1
end Go.Proofs.Ytnagmpnpgekhfaa
