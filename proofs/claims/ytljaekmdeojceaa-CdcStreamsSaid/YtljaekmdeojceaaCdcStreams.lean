/- CdcStreams: which chunks end with each piece, how many bytes wait, and what is left: as the document says. -/
import Derived.Test.YtljaekmdeojceaaCdcPieces
import Derived.Test.YtljaekmdeojceaaCdcRefCut
namespace Go.Proofs.Ytljaekmdeojceaa
open Go.RowKit Cdc
def total (l : List ByteArray) : Nat := (l.map (·.size)).sum
theorem total_take (l : List ByteArray) (j : Nat) (x : ByteArray) (h : l[j]? = some x) : total (l.take (j + 1)) = total (l.take j) + x.size := by
  obtain ⟨hl, hx⟩ := List.getElem?_eq_some_iff.1 h
  unfold total
  rw [List.take_succ_eq_append_getElem hl, hx]
  simp
theorem total_drop (l : List ByteArray) (j : Nat) (x : ByteArray) (h : l[j]? = some x) : total (l.drop j) = x.size + total (l.drop (j + 1)) := by
  obtain ⟨hl, hx⟩ := List.getElem?_eq_some_iff.1 h
  unfold total
  rw [List.drop_eq_getElem_cons hl, hx]
  simp
theorem total_le (l : List ByteArray) (h : ∀ x ∈ l, x.size ≤ 20000) : total l ≤ l.length * 20000 := by
  induction l with
  | nil => simp [total]
  | cons x l ih =>
    have h1 := h x (by simp)
    have h2 := ih (fun y hy => h y (by simp [hy]))
    unfold total at h2 ⊢
    simp only [List.map_cons, List.sum_cons, List.length_cons]
    omega
/-- what holds ahead of each piece -/
def StreamsInv (w : World) (b : Nat) (ss : List ByteArray) (j : Nat) (z : ByteArray) (vo : Value) (wr : World) : Prop :=
  z.size + total (ss.drop j) ≤ 20000 ∧ Row wr 9 1 vo (feed [] z.data.toList).1.length ((feed [] z.data.toList).1.map strv) ∧ (∀ k, vo.ownBlock = some k → w.heap.size ≤ k) ∧
    CutAt wr (fun k => w.heap.size ≤ k) b (feed [] z.data.toList).2 ∧ Below w.heap.size w wr
/-- the chunks that have ended, out of all chunks -/
theorem all_but {w : World} {v : Value} {s : List UInt8} (hR : Row w 9 1 v (chunks s).length ((chunks s).map strv)) :
    (leftN s = 0 → Row w 9 1 v (feed [] s).1.length ((feed [] s).1.map strv)) ∧
    (0 < leftN s → ∃ g o n cap, v = .slice (some ⟨g, o, none⟩) n cap ∧ 1 ≤ n ∧ n ≤ cap ∧ cap ≤ 9223372036854775807 ∧ n = (feed [] s).1.length + 1 ∧ Row w 9 1 (.slice (some ⟨g, o, none⟩) (n - 1) cap) (feed [] s).1.length ((feed [] s).1.map strv)) := by
  constructor
  · intro h
    have : (feed [] s).2 = [] := List.eq_nil_of_length_eq_zero h
    rw [chunks_full _ this] at hR
    exact hR
  · intro h
    have h2 : (feed [] s).2 ≠ [] := by
      intro e
      unfold leftN at h
      rw [e] at h
      simp at h
    rw [chunks_last _ h2] at hR
    have hl : ((feed [] s).1 ++ [(feed [] s).2]).length = (feed [] s).1.length + 1 := by simp
    rw [hl] at hR
    obtain ⟨g, o, cap, rfl, _, h3, h4, _, _⟩ := hR.form (by omega)
    refine ⟨g, o, _, cap, rfl, by omega, h3, by unfold maxLen at h4; omega, rfl, ?_⟩
    have := hR.cut rfl 0 (feed [] s).1.length (by omega) (by omega)
    unfold sliced at this
    by_cases hc : cap = 0
    · omega
    · rw [if_neg hc] at this
      simpa [Addr.add] using this
/-- the chunks of a piece are laid to the others -/
theorem streams_row {w wr w2 w5 : World} {vo v5 : Value} {b : Nat} {z x Z : List UInt8} (hfe : Hid (feed [] Z = ((feed [] z).1 ++ (feed (feed [] z).2 x).1, (feed (feed [] z).2 x).2)))
    (hR5 : Row w5 9 1 v5 ((feed [] z).1.length + (feed (feed [] z).2 x).1.length) ((feed [] z).1.map strv ++ (feed (feed [] z).2 x).1.map strv)) (hC5 : Chg (fun k => vo.ownBlock = some k) w2 w5)
    (hv5 : v5.ownBlock = vo.ownBlock ∨ v5.ownBlock = some w2.heap.size) {n : Nat} {xs : List Value} (HO2 : Hid (Row w2 9 1 vo n xs)) (hA2 : CutAt w2 (More (fun k => w.heap.size ≤ k) wr) b (feed (feed [] z).2 x).2)
    (hOn : ∀ k, vo.ownBlock = some k → w.heap.size ≤ k) (hbr : Below w.heap.size w wr) (hC2 : Chg (fun k => w.heap.size ≤ k) wr w2) :
    Hid (Row w5 9 1 v5 (feed [] Z).1.length ((feed [] Z).1.map strv)) ∧ Hid (CutAt w5 (fun k => w.heap.size ≤ k) b (feed [] Z).2) ∧ Hid (∀ k, v5.ownBlock = some k → w.heap.size ≤ k) ∧ Hid (Below w.heap.size w w5) := by
  have hsz := hbr.size
  have hsz2 := hC2.size
  refine ⟨?_, ?_, ?_, ?_⟩
  · show Row _ _ _ _ _ _
    rw [hfe.out, List.map_append, List.length_append]
    exact hR5
  · show CutAt _ _ _ _
    rw [hfe.out]
    exact (hA2.mono (fun k hk => by rcases hk with hk | hk <;> omega)).beside HO2.out hC5
  · show ∀ k, _
    intro k hk
    rcases hv5 with h | h
    · exact hOn k (h.symm.trans hk)
    · rw [h] at hk; injection hk with hk; omega
  · exact (((Chg.of_below hbr (fun k => w.heap.size ≤ k)).next hC2 (fun i h => .inr h)).next hC5 (fun i h => .inr (hOn i h))).below (Nat.le_refl _) (fun k h => h)
theorem streams_end {w3 : World} {v3 : Value} {z : List UInt8} (h : Row w3 9 1 v3 ((feed [] z).1.length + (rest (feed [] z).2).length) ((feed [] z).1.map strv ++ (rest (feed [] z).2).map strv)) : Row w3 9 1 v3 (chunks z).length ((chunks z).map strv) := by
  rw [chunks, List.map_append, List.length_append]
  exact h
set_option maxHeartbeats 4000000 in
set_option maxRecDepth 100000 in
theorem CdcStreams_walk (w : World) (v : Value) (n : Nat) (ss : List ByteArray) (hR : Reads w 1 v n (ss.map Value.string)) (hs : ∀ s ∈ ss, s.size ≤ maxLen) :
    Calls Try.prog 7 #[v] w fun e w' => e = .returned (.bool true) ∧ Below w.heap.size w w' := by
  obtain ⟨i1, hi1, hz3, hz4, hz5⟩ := info_parts info_str
  have HR := Lib.hid hR
  have hlen : ss.length = n := by have := hR.1; simpa using this
  subst hlen
  obtain ⟨_, a, cap, rfl, hcap, hcap', _⟩ := hR
  unfold maxLen at hcap'
  go_enter Try.func7, Try.ntmps7
  go_wp2_with (go_at_call 15; (with_reducible refine (New_any _).mono ?_); rintro e w1 ⟨b, rfl, hb, hA1, hb1⟩; have HA1 := Lib.hid hA1; clear hA1)
  have HR1 := Lib.hid (HR.out.belowAll hb1)
  go_loop [4, 5] (fun t i => ∃ (j : Nat) (m : Int), j ≤ ss.length ∧ i = .int .i64 j ∧ t = .int .i64 m ∧ (∀ x ∈ ss.take j, x.size ≤ 20000) ∧ (j ≤ 60 → m = (total (ss.take j) : Nat))) (fun _ i => ss.length - (intOf i).toNat)
  case atStart => exact ⟨0, 0, by omega, rfl, rfl, by simp, fun _ => by simp [total]⟩
  case round =>
    obtain ⟨j, m, hj, rfl, rfl, hall, hm⟩ := hrel
    by_cases hlt : j < ss.length
    · obtain ⟨x, hx⟩ : ∃ x, ss[j]? = some x := ⟨_, List.getElem?_eq_getElem hlt⟩
      have hxs := hs x (List.mem_of_getElem? hx)
      unfold maxLen at hxs
      obtain ⟨_, a1', c1', hva, _, _, ra⟩ := HR1.out
      injection hva with e1 _ e3
      subst e3
      subst e1
      obtain ⟨g, o, rfl, _, hcl⟩ := ra (by omega)
      have ca := hcl j (.string x) (by rw [List.getElem?_map, hx]; rfl)
      clear ra hcl
      have jl : (j : Int) < (ss.length : Int) := by omega
      have Hall := Lib.hid hall; clear hall
      have Hm := Lib.hid hm; clear hm
      by_cases h3 : x.size ≤ 20000
      · have d4 : decide ((20000 : Int) < (x.size : Int)) = false := by simp; omega
        obtain ⟨m', hm'⟩ : ∃ m', IntKind.i64.wrap (m + (x.size : Int)) = m' := ⟨_, rfl⟩
        have Hm' := Lib.hid hm'
        go_wp2_with fail
        go_round
        case rel =>
          refine ⟨j + 1, m', by omega, by go_num, rfl, ?_, fun h60 => ?_⟩
          · intro y hy
            obtain ⟨hl, hx'⟩ := List.getElem?_eq_some_iff.1 hx
            rw [List.take_succ_eq_append_getElem hl, hx'] at hy
            rcases List.mem_append.1 hy with hy | hy
            · exact Hall.out y hy
            · simp at hy; rw [hy]; exact h3
          · have h1 := Hm.out (by omega)
            rw [← Hm'.out, total_take _ _ _ hx, h1]
            have h2 := total_le (ss.take j) Hall.out
            have h4 : (ss.take j).length ≤ 60 := by simp; omega
            have h5 : total (ss.take j) ≤ 1200000 := by omega
            rw [IntWalk.i64_in _ (by omega)]
            omega
        case measure => simp [intOf]; omega
      · have d4 : decide ((20000 : Int) < (x.size : Int)) = true := by simp; omega
        go_wp2_with (go_at_call 9; (with_reducible refine (awake_any _).mono ?_); rintro e w3 ⟨rfl, hb3⟩)
        go_ret
        exact ⟨rfl, below_then hb1 hb3 (Nat.le_refl _)⟩
    · obtain rfl : j = ss.length := by omega
      rw [List.take_length] at hall hm
      have hdec : decide (ss.length < ss.length) = false := by simp
      by_cases h60 : ss.length ≤ 60
      · obtain rfl := hm h60
        have d1 : decide ((60 : Int) < (ss.length : Int)) = false := by simp; omega
        by_cases ht : total ss ≤ 20000
        · have d2 : decide ((20000 : Int) < (total ss : Int)) = false := by simp; omega
          go_wp2_with fail
          have hall' := Lib.hid hall
          clear hall hm d1 d2 hdec
          have hsz0 : 0 + total (ss.drop 0) ≤ 20000 := by simpa using ht
          go_loopg [6, 7, 8] ss.length (fun k zs vo i wr => ∃ (j : Nat) (z : ByteArray), j ≤ ss.length ∧ k = ss.length - j ∧ i = .int .i64 j ∧ zs = .string z ∧ StreamsInv w b ss j z vo wr)
          case atStart => exact ⟨0, ⟨#[]⟩, by omega, rfl, rfl, rfl, hsz0, Row.nil _ _ _, (fun k hk => by simp [Value.ownBlock] at hk), HA1.out, hb1⟩
          case round =>
            clear HA1 HR1
            obtain ⟨j, z, hj, rfl, rfl, rfl, hz, hO, hOn, hA, hbr⟩ := hrel
            have HO := Lib.hid hO; clear hO
            have HA := Lib.hid hA; clear hA
            by_cases hlt : j < ss.length
            · obtain ⟨x, hx⟩ : ∃ x, ss[j]? = some x := ⟨_, List.getElem?_eq_getElem hlt⟩
              have hxs := hall'.out x (List.mem_of_getElem? hx)
              have hra := HR.out.belowAll hbr
              obtain ⟨_, a1', c1', hva, _, _, ra⟩ := hra
              injection hva with e1 _ e3
              subst e3
              subst e1
              obtain ⟨g, o, rfl, _, hcl⟩ := ra (by omega)
              have ca := hcl j (.string x) (by rw [List.getElem?_map, hx]; rfl)
              clear ra hcl
              have jl : (j : Int) < (ss.length : Int) := by omega
              have htd := total_drop _ _ _ hx
              have hZ : (z ++ x).size + total (ss.drop (j + 1)) ≤ 20000 := by rw [app_size]; omega
              clear htd hx
              have hW := Write_any b (fun k => w.heap.size ≤ k) (feed [] z.data.toList).2 x wr (by omega) (feed_left _) HA.out
              have HW := Lib.hid hW; clear hW
              have hc1 : (feed [] z.data.toList).1.length ≤ 30000 := Nat.le_trans (feed_count [] z.data.toList) (by show z.size ≤ _; omega)
              have hc2 : (feed (feed [] z.data.toList).2 x.data.toList).1.length ≤ 30000 := Nat.le_trans (feed_count _ x.data.toList) (by show x.size ≤ _; omega)
              have hL := fun w => RefLeft_any (z ++ x) w (by omega)
              have hC := fun w => RefCut_any (z ++ x) w (by omega)
              have hfe : feed [] (z ++ x).data.toList = ((feed [] z.data.toList).1 ++ (feed (feed [] z.data.toList).2 x.data.toList).1, (feed (feed [] z.data.toList).2 x.data.toList).2) := by
                rw [app_toList, feed_append]
              have hcz : (feed [] (z ++ x).data.toList).1.length ≤ 20000 := Nat.le_trans (feed_count [] (z ++ x).data.toList) (by show (z ++ x).size ≤ _; omega)
              obtain ⟨Z, hZl⟩ : ∃ Z, (z ++ x).data.toList = Z := ⟨_, rfl⟩
              rw [hZl] at hL hC hfe hcz
              have HZl := Lib.hid hZl; clear hZl
              have hWt : ∀ w', CutAt w' (fun k => w.heap.size ≤ k) b (feed [] Z).2 → Calls Try.prog 19 #[.pointer (some ⟨b, 0, none⟩)] w' (WaitsIs w' (leftN Z)) := fun w' h => Waits_any b _ _ w' h
              have Hfe := Lib.hid hfe; clear hfe
              have h0' : Hid (leftN Z = leftN Z) := rfl
              clear h0'
              by_cases h0 : leftN Z = 0
              · have h0' := Lib.hid h0
                rw [h0] at hL hWt
                clear h0
                have HL := Lib.hid hL; clear hL
                have HC := Lib.hid hC; clear hC
                have HWt := Lib.hid hWt; clear hWt
                go_wp2_with (first
                  | (go_at_call 16; (with_reducible refine HW.out.mono ?_); rintro e w2 ⟨v2, rfl, hR2, hn2, hA2, hC2, hK2⟩; have HR2 := Lib.hid hR2; clear hR2; have HO2 := Lib.hid (HO.out.keeps hK2 (by decide) (by decide)))
                  | (at_builtin; (refine wpList_append_row _ rfl (.tmp 60) (.tmp 66) 24 24 rfl 9 i1 _ 1 16 Try.underlying24 hi1 hz3 hz4 hz5 rfl (by omega) _ (feed [] z.data.toList).1.length ((feed [] z.data.toList).1.map strv) rfl HO2.out v2 (feed (feed [] z.data.toList).2 x.data.toList).1.length ((feed (feed [] z.data.toList).2 x.data.toList).1.map strv) rfl (Row.src HR2.out Try.underlying24 (strv_one _)) (by simp only [maxLen]; omega) (by omega) ?_); intro v5 w5 hR5 hC5 hv5; obtain ⟨HR5, HA5, Hn5, Hb5⟩ := streams_row Hfe hR5 hC5 hv5 HO2 hA2 hOn hbr hC2; clear hR5 hA2)
                  | (go_at_call 18; (with_reducible refine (HL.out _).mono ?_); rintro e w6 ⟨rfl, hb6⟩)
                  | (go_at_call 12; (with_reducible refine (HC.out _).mono ?_); rintro e w7 ⟨v7, rfl, hR7, hn7, hb7⟩; have HR7 := Lib.hid ((all_but hR7).1 h0'.out); clear hR7; have HR5' := Lib.hid ((HR5.out.belowAll hb6).belowAll hb7); have HA7 := Lib.hid ((HA5.out.belowAll hb6).belowAll hb7))
                  | (go_at_call 10; (with_reducible refine (Same_eq v5 v7 (feed [] Z).1 _ HR5'.out.reads HR7.out.reads).mono ?_); rintro e w8 ⟨rfl, hb8⟩; have HA8 := Lib.hid (HA7.out.belowAll hb8))
                  | (go_at_call 19; (with_reducible refine (HWt.out _ HA8.out).mono ?_); rintro e w9 ⟨rfl, rfl⟩))
                go_roundg (ss.length - (j + 1))
                case measure => omega
                case rel =>
                  refine ⟨j + 1, z ++ x, by omega, rfl, by go_num, rfl, hZ, ?_, Hn5.out, ?_, ?_⟩
                  · rw [HZl.out]; exact HR5'.out.belowAll hb8
                  · rw [HZl.out]; exact HA8.out
                  · exact below_then (below_then (below_then Hb5.out hb6 (Nat.le_refl _)) hb7 (Nat.le_refl _)) hb8 (Nat.le_refl _)
              · have h0' : Hid (0 < leftN Z) := Nat.pos_of_ne_zero h0
                obtain ⟨L, hLe⟩ : ∃ L, leftN Z = L := ⟨_, rfl⟩
                rw [hLe] at hL hWt h0
                clear hLe
                have d3 : decide ((0 : Int) < (L : Int)) = true := by simp; omega
                have HL := Lib.hid hL; clear hL
                have HC := Lib.hid hC; clear hC
                have HWt := Lib.hid hWt; clear hWt
                go_wp2_with (first
                  | (go_at_call 16; (with_reducible refine HW.out.mono ?_); rintro e w2 ⟨v2, rfl, hR2, hn2, hA2, hC2, hK2⟩; have HR2 := Lib.hid hR2; clear hR2; have HO2 := Lib.hid (HO.out.keeps hK2 (by decide) (by decide)))
                  | (at_builtin; (refine wpList_append_row _ rfl (.tmp 60) (.tmp 66) 24 24 rfl 9 i1 _ 1 16 Try.underlying24 hi1 hz3 hz4 hz5 rfl (by omega) _ (feed [] z.data.toList).1.length ((feed [] z.data.toList).1.map strv) rfl HO2.out v2 (feed (feed [] z.data.toList).2 x.data.toList).1.length ((feed (feed [] z.data.toList).2 x.data.toList).1.map strv) rfl (Row.src HR2.out Try.underlying24 (strv_one _)) (by simp only [maxLen]; omega) (by omega) ?_); intro v5 w5 hR5 hC5 hv5; obtain ⟨HR5, HA5, Hn5, Hb5⟩ := streams_row Hfe hR5 hC5 hv5 HO2 hA2 hOn hbr hC2; clear hR5 hA2)
                  | (go_at_call 18; (with_reducible refine (HL.out _).mono ?_); rintro e w6 ⟨rfl, hb6⟩)
                  | (go_at_call 12; (with_reducible refine (HC.out _).mono ?_); rintro e w7 ⟨v7, rfl, hR7, hn7, hb7⟩; obtain ⟨g7, o7, n7, c7, rfl, q1, q2, q3, q4, hR8⟩ := (all_but hR7).2 h0'.out; have HR7 := Lib.hid hR8; clear hR7 hR8 q4 hn7; have HR5' := Lib.hid ((HR5.out.belowAll hb6).belowAll hb7); have HA7 := Lib.hid ((HA5.out.belowAll hb6).belowAll hb7); have p1 : (0 : Int) ≤ (n7 : Int) - 1 := (by omega); have p1' : (1 : Int) ≤ (n7 : Int) := (by omega); have p2 : (n7 : Int) - 1 ≤ (c7 : Int) := (by omega); have p3 : ((n7 : Int) - 1).toNat = n7 - 1 := (by omega))
                  | (go_at_call 10; (with_reducible refine (Same_eq v5 (.slice (some ⟨g7, o7, none⟩) (n7 - 1) c7) (feed [] Z).1 _ HR5'.out.reads HR7.out.reads).mono ?_); rintro e w8 ⟨rfl, hb8⟩; have HA8 := Lib.hid (HA7.out.belowAll hb8))
                  | (go_at_call 19; (with_reducible refine (HWt.out _ HA8.out).mono ?_); rintro e w9 ⟨rfl, rfl⟩))
                go_roundg (ss.length - (j + 1))
                case measure => omega
                case rel =>
                  refine ⟨j + 1, z ++ x, by omega, rfl, by go_num, rfl, hZ, ?_, Hn5.out, ?_, ?_⟩
                  · rw [HZl.out]; exact HR5'.out.belowAll hb8
                  · rw [HZl.out]; exact HA8.out
                  · exact below_then (below_then (below_then Hb5.out hb6 (Nat.le_refl _)) hb7 (Nat.le_refl _)) hb8 (Nat.le_refl _)
            · obtain rfl : j = ss.length := by omega
              have hdec : decide (ss.length < ss.length) = false := by simp
              have hzz : z.size ≤ 20000 := by omega
              have hc1 : (feed [] z.data.toList).1.length ≤ 30000 := Nat.le_trans (feed_count [] z.data.toList) (by show z.size ≤ _; omega)
              have hc2 := rest_length (feed [] z.data.toList).2
              have hl1 : (feed [] z.data.toList).2.length < 1025 := Nat.lt_succ_of_lt (feed_left _)
              have hl0 : ([] : List UInt8).length < 1025 := by simp
              have HC := Lib.hid (fun w => RefCut_any z w (by omega))
              go_wp2_with (first
                | (go_at_call 17; first
                    | ((with_reducible refine (Close_any b (fun k => w.heap.size ≤ k) (feed [] z.data.toList).2 _ hl1 HA.out).mono ?_); rintro e w2 ⟨v2, rfl, hR2, hn2, hA2, hC2, hK2⟩; have HR2 := Lib.hid hR2; clear hR2; have HO2 := Lib.hid (HO.out.keeps hK2 (by decide) (by decide)); have HA2 := Lib.hid (hA2.mono (T := fun k => w.heap.size ≤ k) (fun k hk => by have := hbr.size; rcases hk with hk | hk <;> omega)); clear hA2)
                    | ((with_reducible refine (Close_any b (fun k => w.heap.size ≤ k) [] _ hl0 HA5.out).mono ?_); rintro e w6 ⟨v6, rfl, hR6, hn6, hA6, hC6, hK6⟩; obtain ⟨a6, cap6, rfl, hcap6, hcap6'⟩ := hR6.shape; clear hR6))
                | (at_builtin; (refine wpList_append_row _ rfl (.tmp 89) (.tmp 91) 24 24 rfl 9 i1 _ 1 16 Try.underlying24 hi1 hz3 hz4 hz5 rfl (by omega) _ (feed [] z.data.toList).1.length ((feed [] z.data.toList).1.map strv) rfl HO2.out v2 (rest (feed [] z.data.toList).2).length ((rest (feed [] z.data.toList).2).map strv) rfl (Row.src HR2.out Try.underlying24 (strv_one _)) (by simp only [maxLen]; omega) (by omega) ?_); intro v3 w3 hR3 hC3 hv3; have HA3 := Lib.hid (HA2.out.beside HO2.out hC3); have HR3 := Lib.hid (streams_end hR3); clear hR3)
                | (go_at_call 12; (with_reducible refine (HC.out _).mono ?_); rintro e w4 ⟨v4, rfl, hR4, hn4, hb4⟩; have HR4 := Lib.hid hR4; clear hR4)
                | (go_at_call 10; (with_reducible refine (Same_eq v3 v4 _ _ (HR3.out.belowAll hb4).reads HR4.out.reads).mono ?_); rintro e w5 ⟨rfl, hb5⟩; have HA5 := Lib.hid ((HA3.out.belowAll hb4).belowAll hb5))
                | (go_at_call 19; (with_reducible refine (Waits_any b _ [] _ HA5.out).mono ?_); rintro e w9 ⟨rfl, rfl⟩)
                | (go_at_call 9; (with_reducible refine (awake_any _).mono ?_); rintro e w11 ⟨rfl, hb11⟩))
              go_ret
              refine ⟨rfl, ?_⟩
              have hsz := hbr.size
              have c2 := (Chg.of_below hbr (fun k => w.heap.size ≤ k)).next hC2 (fun i h => .inr h)
              have c3 := c2.next hC3 (fun i h => .inr (hOn i h))
              have b3 := c3.below (Nat.le_refl _) (fun k h => h)
              have b5 := below_then (below_then b3 hb4 (Nat.le_refl _)) hb5 (Nat.le_refl _)
              have c6 := (Chg.of_below b5 (fun k => w.heap.size ≤ k)).next hC6 (fun i h => .inr h)
              exact below_then (c6.below (Nat.le_refl _) (fun k h => h)) hb11 (Nat.le_refl _)
        · have d2 : decide ((20000 : Int) < (total ss : Int)) = true := by simp; omega
          clear hm hall
          go_wp2_with (go_at_call 9; (with_reducible refine (awake_any _).mono ?_); rintro e w3 ⟨rfl, hb3⟩)
          go_ret
          exact ⟨rfl, below_then hb1 hb3 (Nat.le_refl _)⟩
      · have d1 : decide ((60 : Int) < (ss.length : Int)) = true := by simp; omega
        clear hm hall
        go_wp2_with (go_at_call 9; (with_reducible refine (awake_any _).mono ?_); rintro e w3 ⟨rfl, hb3⟩)
        go_ret
        exact ⟨rfl, below_then hb1 hb3 (Nat.le_refl _)⟩
end Go.Proofs.Ytljaekmdeojceaa
