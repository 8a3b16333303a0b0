/- CdcWhole: the chunks together are the stream. -/
import Derived.Test.YtljaekmdeojceaaCdcAwake
import Derived.Laws.DeepStrings4
import Derived.IntWalk
namespace Go.Proofs.Ytljaekmdeojceaa
open Go.RowKit Cdc
theorem chunk_sizes (l : List UInt8) : ∀ c ∈ chunks l, 1 ≤ c.length ∧ c.length ≤ 1024 := by
  intro c hc
  unfold chunks at hc
  have h := feed_sizes [] l (by simp)
  rcases List.mem_append.1 hc with h1 | h1
  · have := h.1 c h1; omega
  · unfold rest at h1
    split at h1
    · simp at h1
    · rename_i hn
      simp at h1
      subst h1
      have h2 : 0 < (feed [] l).2.length := List.length_pos_iff.2 hn
      omega
theorem chunk_min (l : List UInt8) (i : Nat) (c : List UInt8) (hi : i + 1 < (chunks l).length) (hc : (chunks l)[i]? = some c) : 64 ≤ c.length := by
  have h := feed_sizes [] l (by simp)
  unfold chunks at hi hc
  have hr : (rest (feed [] l).2).length ≤ 1 := rest_length _
  rw [List.length_append] at hi
  rw [List.getElem?_append_left (by omega)] at hc
  exact (h.1 c (List.mem_of_getElem? hc)).1
theorem flat_split (cs : List (List UInt8)) (i : Nat) (c : List UInt8) (h : cs[i]? = some c) : cs.flatten = (cs.take i).flatten ++ (c ++ (cs.drop (i + 1)).flatten) := by
  obtain ⟨hi, rfl⟩ := List.getElem?_eq_some_iff.1 h
  have h1 := List.take_append_drop i cs
  rw [List.drop_eq_getElem_cons hi] at h1
  have h2 := congrArg List.flatten h1
  rw [List.flatten_append, List.flatten_cons] at h2
  exact h2.symm
theorem take_next (cs : List (List UInt8)) (i : Nat) (c : List UInt8) (h : cs[i]? = some c) : (cs.take (i + 1)).flatten.length = (cs.take i).flatten.length + c.length := by
  obtain ⟨hi, rfl⟩ := List.getElem?_eq_some_iff.1 h
  rw [List.take_succ_eq_append_getElem hi, List.flatten_append, List.length_append]
  simp only [List.flatten_cons, List.flatten_nil, List.append_nil]
/-- a piece of a string, by its bytes -/
theorem extract_eq (s : ByteArray) (a c b : List UInt8) (h : s.data.toList = a ++ (c ++ b)) : s.extract a.length (a.length + c.length) = ⟨c.toArray⟩ := by
  apply ByteArray.ext
  rw [ByteArray.data_extract]
  apply Array.ext'
  rw [Array.toList_extract, h]
  simp [List.extract]
set_option maxHeartbeats 1000000 in
set_option maxRecDepth 100000 in
theorem CdcWhole_walk (w : World) (s : ByteArray) (hs : s.size ≤ maxLen) :
    Calls Try.prog 4 #[.string s] w fun e w' => e = .returned (.bool true) ∧ Below w.heap.size w w' := by
  unfold maxLen at hs
  by_cases h : s.size ≤ 50000
  · have hd : decide ((50000 : Int) < (s.size : Int)) = false := by simp; omega
    have hsz := chunk_sizes s.data.toList
    have hmn := chunk_min s.data.toList
    have hjn := chunks_join s.data.toList
    have hCut := fun w => Cut_any s w (by omega)
    generalize chunks s.data.toList = cs at *
    have HCut := Lib.hid hCut; clear hCut
    have Hsz := Lib.hid hsz; clear hsz
    have Hmn := Lib.hid hmn; clear hmn
    have Hjn := Lib.hid hjn; clear hjn
    go_enter Try.func4, Try.ntmps4
    go_wp2_with (go_at_call 11; (with_reducible refine (HCut.out _).mono ?_); rintro e w1 ⟨v, rfl, hR, hn, hb1⟩; have HR := Lib.hid hR; obtain ⟨a, cap, rfl, hcap, hcap'⟩ := hR.shape; clear hR)
    go_loopg [4, 5] cs.length (fun k at_ i wr => ∃ j : Nat, j ≤ cs.length ∧ k = cs.length - j ∧ i = .int .i64 j ∧ at_ = .int .i64 ((cs.take j).flatten.length : Nat) ∧ Below w1.heap.size w1 wr)
    case atStart => exact ⟨0, by omega, rfl, rfl, by simp, Below.refl _ _⟩
    case round =>
      obtain ⟨j, hj, rfl, rfl, rfl, hbr⟩ := hrel
      by_cases hlt : j < cs.length
      · obtain ⟨c, hc⟩ : ∃ c, cs[j]? = some c := ⟨_, List.getElem?_eq_getElem hlt⟩
        have hR := HR.out.belowAll hbr
        obtain ⟨g, o, cap', hv, hob, hcp, hcp', hcl, hfr⟩ := hR.form (by omega)
        injection hv with ha _ hcc
        subst hcc
        subst ha
        have cc := hcl j (strv c) (by rw [List.getElem?_map, hc]; rfl)
        clear hob hcl hfr hR
        have h1 := (Hsz.out c (List.mem_of_getElem? hc))
        have h2 := fun hx => Hmn.out j c hx hc
        have hnl := HR.out.nle
        have h3 := flat_split cs j c hc
        rw [Hjn.out] at h3
        have h4 := take_next cs j c hc
        have h5 := extract_eq s _ _ _ h3
        have h6 : (cs.take j).flatten.length + c.length ≤ s.size := by
          have : s.data.toList.length = s.size := rfl
          rw [h3] at this
          simp at this ⊢
          omega
        clear h3
        obtain ⟨cb, hcb⟩ : ∃ cb : ByteArray, cb = ⟨c.toArray⟩ := ⟨_, rfl⟩
        have hcz : cb.size = c.length := by rw [hcb]; rfl
        have hst : strv c = .string cb := by rw [hcb]; rfl
        rw [← hcb] at h5
        rw [hst] at cc
        rw [← hcz] at h1 h4 h5 h6
        rw [← hcz] at h2
        clear hst hcb hcz hc
        have Hta : Hid ((cs.take (j + 1)).flatten.length = (cs.take j).flatten.length + cb.size) := h4
        clear h4
        generalize (cs.take j).flatten.length = at_ at *
        obtain ⟨h1a, h1b⟩ := h1
        have d1 : decide ((cb.size : Int) < 1) = false := by simp; omega
        have d2 : decide ((1024 : Int) < (cb.size : Int)) = false := by simp; omega
        have d4 : decide ((s.size : Int) < (at_ : Int) + (cb.size : Int)) = false := by simp; omega
        have n1 : IntKind.i64.wrap ((at_ : Int) + (cb.size : Int)) = (at_ : Int) + (cb.size : Int) := IntWalk.i64_in _ (by omega)
        have n2 : IntKind.i64.wrap ((j : Int) + 1) = (j : Int) + 1 := IntWalk.i64_in _ (by omega)
        have n3 : ((at_ : Int) + (cb.size : Int)).toNat = at_ + cb.size := by omega
        have n4 : (0 : Int) ≤ (at_ : Int) + (cb.size : Int) := by omega
        have n5 : (at_ : Int) + (cb.size : Int) ≤ (s.size : Int) := by omega
        have n6 : (at_ : Int) ≤ (at_ : Int) + (cb.size : Int) := by omega
        have jl : (j : Int) < (cs.length : Int) := by omega
        by_cases hsm : cb.size < 64
        · have d3 : decide ((cb.size : Int) < 64) = true := by simp; omega
          have d5 : decide ((j : Int) + 1 < (cs.length : Int)) = false := by
            simp
            rcases Nat.lt_or_ge (j + 1) cs.length with hx | hx
            · have := h2 hx; omega
            · omega
          clear h2
          go_wp2_with fail
          go_quiet (fail)
          clear n1 n2 n3 n4 n5 n6 d1 d2 d3 d4 d5
          go_wp2_with fail
          go_roundg (cs.length - (j + 1))
          case measure => omega
          case rel => exact ⟨j + 1, by omega, rfl, by go_num, by rw [Hta.out]; go_num, below_drewN hbr _⟩
        · have d3 : decide ((cb.size : Int) < 64) = false := by simp; omega
          have d5 : True := trivial
          clear h2
          go_wp2_with fail
          go_quiet (fail)
          clear n1 n2 n3 n4 n5 n6 d1 d2 d3 d4 d5
          go_wp2_with fail
          go_roundg (cs.length - (j + 1))
          case measure => omega
          case rel => exact ⟨j + 1, by omega, rfl, by go_num, by rw [Hta.out]; go_num, below_drewN hbr _⟩
      · obtain rfl : j = cs.length := by omega
        have e1 : (cs.take cs.length).flatten.length = s.size := by
          rw [List.take_length, Hjn.out]
          rfl
        rw [e1]
        clear e1
        have hdec : decide ((cs.length : Int) < (cs.length : Int)) = false := by simp
        go_wp2_with (go_at_call 9; (with_reducible refine (awake_any _).mono ?_); rintro e w3 ⟨rfl, hb3⟩)
        go_ret
        exact ⟨rfl, below_then (below_then hb1 hbr (Nat.le_refl _)) hb3 (Nat.le_refl _)⟩
  · have hd : decide ((50000 : Int) < (s.size : Int)) = true := by simp; omega
    go_enter Try.func4, Try.ntmps4
    go_wp2_with (go_at_call 9; (with_reducible refine (awake_any _).mono ?_); rintro e w1 ⟨rfl, hb⟩)
    go_ret
    exact ⟨rfl, hb⟩
end Go.Proofs.Ytljaekmdeojceaa
