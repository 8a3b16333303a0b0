/- CdcPieces: it does not count in what pieces a stream is written. -/
import Derived.Test.YtljaekmdeojceaaCdcSame
import Derived.Test.YtljaekmdeojceaaStrsVal
namespace Go.Proofs.Ytljaekmdeojceaa
open Go.RowKit Cdc
theorem CutAt.mono {w : World} {S T : Nat → Prop} {b : Nat} {l : List UInt8} (h : CutAt w S b l) (hs : ∀ k, S k → T k) : CutAt w T b l := by
  obtain ⟨cs, v, h1, h2, h3, h4, h5, h6, h7⟩ := h
  exact ⟨cs, v, h1, h2, h3, h4, h5, hs _ h6, fun k hk => hs _ (h7 k hk)⟩
theorem CutAt.belowAll {w w' : World} {S : Nat → Prop} {b : Nat} {l : List UInt8} (h : CutAt w S b l) (hb : Below w.heap.size w w') : CutAt w' S b l := by
  obtain ⟨cs, v, h1, h2, h3, h4, h5, h6, h7⟩ := h
  exact ⟨cs, v, h1.belowAll hb, h2, h3, h4, h5.belowAll hb, h6, h7⟩
/-- a row of strings is appended to beside a cutter -/
theorem CutAt.beside {w w' : World} {S : Nat → Prop} {b : Nat} {l : List UInt8} {vo : Value} {n : Nat} {xs : List Value} (h : CutAt w S b l) (hr : Row w 9 1 vo n xs) (hc : Chg (fun k => vo.ownBlock = some k) w w') : CutAt w' S b l := by
  obtain ⟨cs, v, h1, h2, h3, h4, h5, h6, h7⟩ := h
  exact ⟨cs, v, h1.chg hc (hr.ne_ h1 (by decide)), h2, h3, h4, h5.chg hc (fun k hk => h5.apart hr (by decide) k hk), h6, h7⟩
theorem feed_left (l : List UInt8) : (feed [] l).2.length < 1024 := (feed_sizes [] l (by simp)).2
theorem pieces_rows {w3 w5 w6 : World} {v3 v4 v6 : Value} {x y x' y' : List (List UInt8)} {n : Nat} (h3 : Hid (Row w3 9 1 v3 (x.length + y.length) (x.map strv ++ y.map strv))) (h5 : Row w5 9 1 v3 (x.length + y.length) (x.map strv ++ y.map strv))
    (hC6 : Chg (fun k => v4.ownBlock = some k) w5 w6) (hn4 : ∀ k, v4.ownBlock = some k → w3.heap.size ≤ k) (h6 : Row w6 9 1 v6 n (x'.map strv ++ y'.map strv)) (hn : n = x'.length + y'.length) :
    Hid (Row w6 9 1 v3 (x ++ y).length ((x ++ y).map strv)) ∧ Hid (Row w6 9 1 v6 (x' ++ y').length ((x' ++ y').map strv)) := by
  subst hn
  constructor
  · have := h5.chg hC6 (fun k hk e => by have h1 := h3.out.lt k hk; have h2 := hn4 k e; omega)
    show Row _ _ _ _ _ _
    rw [List.map_append, List.length_append]
    exact this
  · show Row _ _ _ _ _ _
    rw [List.map_append, List.length_append]
    exact h6
/-- what holds ahead of each piece -/
def PiecesInv (w : World) (b : Nat) (z : ByteArray) (vo : Value) (wr : World) : Prop :=
  z.size ≤ 30000 ∧ Row wr 9 1 vo (feed [] z.data.toList).1.length ((feed [] z.data.toList).1.map strv) ∧ (∀ k, vo.ownBlock = some k → w.heap.size ≤ k) ∧
    CutAt wr (fun k => w.heap.size ≤ k) b (feed [] z.data.toList).2 ∧ Below w.heap.size w wr
set_option maxHeartbeats 2000000 in
set_option maxRecDepth 100000 in
theorem CdcPieces_walk (w : World) (v : Value) (n : Nat) (ss : List ByteArray) (hR : Reads w 1 v n (ss.map Value.string)) (hs : ∀ s ∈ ss, s.size ≤ maxLen) (again : ByteArray) (hag : again.size ≤ maxLen) :
    Calls Try.prog 5 #[v, .string again] w fun e w' => e = .returned (.bool true) ∧ Below w.heap.size w w' := by
  unfold maxLen at hag
  obtain ⟨i1, hi1, hz3, hz4, hz5⟩ := info_parts info_str
  have HR := Lib.hid hR
  have hlen : ss.length = n := by have := hR.1; simpa using this
  subst hlen
  obtain ⟨_, a, cap, rfl, hcap, hcap', _⟩ := hR
  unfold maxLen at hcap'
  by_cases h1 : ss.length ≤ 100
  · by_cases h2 : again.size ≤ 5000
    · have d1 : decide ((100 : Int) < (ss.length : Int)) = false := by simp; omega
      have d2 : decide ((5000 : Int) < (again.size : Int)) = false := by simp; omega
      go_enter Try.func5, Try.ntmps5
      go_wp2_with (go_at_call 15; (with_reducible refine (New_any _).mono ?_); rintro e w1 ⟨b, rfl, hb, hA1, hb1⟩; have HA1 := Lib.hid hA1; clear hA1)
      go_loopg [6, 7, 8] ss.length (fun k zs vo i wr => ∃ (j : Nat) (z : ByteArray), j ≤ ss.length ∧ k = ss.length - j ∧ i = .int .i64 j ∧ zs = .string z ∧ PiecesInv w b z vo wr)
      case atStart => exact ⟨0, ⟨#[]⟩, by omega, rfl, rfl, rfl, (by show 0 ≤ _; omega), Row.nil _ _ _, (fun k hk => by simp [Value.ownBlock] at hk), HA1.out, hb1⟩
      case round =>
        obtain ⟨j, z, hj, rfl, rfl, rfl, hz, hO, hOn, hA, hbr⟩ := hrel
        have HO := Lib.hid hO; clear hO
        have HA := Lib.hid hA; clear hA
        by_cases hlt : j < ss.length
        · obtain ⟨x, hx⟩ : ∃ x, ss[j]? = some x := ⟨_, List.getElem?_eq_getElem hlt⟩
          have hxs := hs x (List.mem_of_getElem? hx)
          unfold maxLen at hxs
          have hra := HR.out.belowAll hbr
          obtain ⟨_, a1', c1', hva, _, _, ra⟩ := hra
          injection hva with e1 _ e3
          subst e3
          subst e1
          obtain ⟨g, o, rfl, _, hcl⟩ := ra (by omega)
          have ca := hcl j (.string x) (by rw [List.getElem?_map, hx]; rfl)
          clear ra hcl
          have jl : (j : Int) < (ss.length : Int) := by omega
          by_cases h3 : x.size ≤ 30000
          · by_cases h4 : z.size + x.size ≤ 30000
            · have d3 : decide ((30000 : Int) < (z.size : Int) + (x.size : Int)) = false := by simp; omega
              have d4 : decide ((30000 : Int) < (x.size : Int)) = false := by simp; omega
              have hW := Write_any b (fun k => w.heap.size ≤ k) (feed [] z.data.toList).2 x wr (by omega) (feed_left _) HA.out
              have HW := Lib.hid hW; clear hW
              have hc1 : (feed [] z.data.toList).1.length ≤ 30000 := Nat.le_trans (feed_count [] z.data.toList) hz
              have hc2 : (feed (feed [] z.data.toList).2 x.data.toList).1.length ≤ 30000 := Nat.le_trans (feed_count _ x.data.toList) h3
              go_wp2_with (first
                | (go_at_call 16; (with_reducible refine HW.out.mono ?_); rintro e w2 ⟨v2, rfl, hR2, hn2, hA2, hC2, hK2⟩; have HR2 := Lib.hid hR2; clear hR2; have HO2 := Lib.hid (HO.out.keeps hK2 (by decide) (by decide)))
                | (at_builtin; (refine wpList_append_row _ rfl (.tmp 52) (.tmp 58) 24 24 rfl 9 i1 _ 1 16 Try.underlying24 hi1 hz3 hz4 hz5 rfl (by omega) _ (feed [] z.data.toList).1.length ((feed [] z.data.toList).1.map strv) rfl HO2.out v2 (feed (feed [] z.data.toList).2 x.data.toList).1.length ((feed (feed [] z.data.toList).2 x.data.toList).1.map strv) rfl (Row.src HR2.out Try.underlying24 (strv_one _)) (by simp only [maxLen]; omega) (by omega) ?_); intro v5 w5 hR5 hC5 hv5))
              go_roundg (ss.length - (j + 1))
              case measure => omega
              case rel =>
                have hsz := hbr.size
                have hsz2 := hC2.size
                refine ⟨j + 1, z ++ x, by omega, rfl, by go_num, rfl, ?_, ?_, fun k hk => ?_, ?_, ?_⟩
                · rw [app_size]; omega
                · rw [app_toList, feed_append, List.map_append, List.length_append]
                  exact hR5
                · rcases hv5 with h | h
                  · exact hOn k (h.symm.trans hk)
                  · rw [h] at hk; injection hk with hk; omega
                · rw [app_toList, feed_append]
                  exact (hA2.mono (fun k hk => by rcases hk with hk | hk <;> omega)).beside HO2.out hC5
                · exact (((Chg.of_below hbr (fun k => w.heap.size ≤ k)).next hC2 (fun i h => .inr h)).next hC5 (fun i h => .inr (hOn i h))).below (Nat.le_refl _) (fun k h => h)
            · have d3 : decide ((30000 : Int) < (z.size : Int) + (x.size : Int)) = true := by simp; omega
              go_wp2_with (go_at_call 9; (with_reducible refine (awake_any _).mono ?_); rintro e w3 ⟨rfl, hb3⟩)
              go_ret
              exact ⟨rfl, below_then hbr hb3 (Nat.le_refl _)⟩
          · have d4 : decide ((30000 : Int) < (x.size : Int)) = true := by simp; omega
            by_cases h5 : z.size + x.size < 9223372036854775808
            · have d3 : decide ((30000 : Int) < (z.size : Int) + (x.size : Int)) = true := by simp; omega
              go_wp2_with (go_at_call 9; (with_reducible refine (awake_any _).mono ?_); rintro e w3 ⟨rfl, hb3⟩)
              go_ret
              exact ⟨rfl, below_then hbr hb3 (Nat.le_refl _)⟩
            · have n1 : IntKind.i64.wrap ((z.size : Int) + (x.size : Int)) = (z.size : Int) + (x.size : Int) - 18446744073709551616 := by
                rw [IntKind.wrap_i64]; omega
              have d3 : decide ((30000 : Int) < (z.size : Int) + (x.size : Int) - 18446744073709551616) = false := by simp; omega
              go_wp2_with (go_at_call 9; (with_reducible refine (awake_any _).mono ?_); rintro e w3 ⟨rfl, hb3⟩)
              go_ret
              exact ⟨rfl, below_then hbr hb3 (Nat.le_refl _)⟩
        · have hdec : decide ((j : Int) < (ss.length : Int)) = false := by simp; omega
          have hc1 : (feed [] z.data.toList).1.length ≤ 30000 := Nat.le_trans (feed_count [] z.data.toList) hz
          have hc2 := rest_length (feed [] z.data.toList).2
          have hc3 : (feed [] again.data.toList).1.length ≤ 5000 := Nat.le_trans (feed_count [] again.data.toList) h2
          have hc4 := rest_length (feed [] again.data.toList).2
          have hl1 : (feed [] z.data.toList).2.length < 1025 := Nat.lt_succ_of_lt (feed_left _)
          have hl2 : (feed [] again.data.toList).2.length < 1025 := Nat.lt_succ_of_lt (feed_left _)
          have hl0 : ([] : List UInt8).length < 1024 := by simp
          have hag2 : again.size ≤ 1000000 := by omega
          have hz2 : z.size ≤ 1000000 := by omega
          go_wp2_with (first
            | (go_at_call 17; first
                | ((with_reducible refine (Close_any b (fun k => w.heap.size ≤ k) (feed [] z.data.toList).2 _ hl1 HA.out).mono ?_); rintro e w2 ⟨v2, rfl, hR2, hn2, hA2, hC2, hK2⟩; have HR2 := Lib.hid hR2; clear hR2; have HO2 := Lib.hid (HO.out.keeps hK2 (by decide) (by decide)); have HA2 := Lib.hid (hA2.mono (T := fun k => w.heap.size ≤ k) (fun k hk => by have := hbr.size; rcases hk with hk | hk <;> omega)); clear hA2)
                | ((with_reducible refine (Close_any b (fun k => w.heap.size ≤ k) (feed [] again.data.toList).2 _ hl2 HA4.out).mono ?_); rintro e w5 ⟨v5, rfl, hR5, hn5, hA5, hC5, hK5⟩; have HR5 := Lib.hid hR5; clear hR5; have HR3' := Lib.hid (HR3.out.keeps hK5 (by decide) (by decide)); have HR4' := Lib.hid (HR4.out.keeps hK5 (by decide) (by decide))))
            | (at_builtin; first
                | ((refine wpList_append_row _ rfl (.tmp 60) (.tmp 62) 24 24 rfl 9 i1 _ 1 16 Try.underlying24 hi1 hz3 hz4 hz5 rfl (by omega) _ (feed [] z.data.toList).1.length ((feed [] z.data.toList).1.map strv) rfl HO2.out v2 (rest (feed [] z.data.toList).2).length ((rest (feed [] z.data.toList).2).map strv) rfl (Row.src HR2.out Try.underlying24 (strv_one _)) (by simp only [maxLen]; omega) (by omega) ?_); intro v3 w3 hR3 hC3 hv3; have HA3 := Lib.hid (HA2.out.beside HO2.out hC3); have HR3 := Lib.hid hR3; clear hR3)
                | ((refine wpList_append_row _ rfl (.tmp 66) (.tmp 68) 24 24 rfl 9 i1 _ 1 16 Try.underlying24 hi1 hz3 hz4 hz5 rfl (by omega) v4 (feed [] again.data.toList).1.length ((feed [] again.data.toList).1.map strv) rfl HR4'.out v5 (rest (feed [] again.data.toList).2).length ((rest (feed [] again.data.toList).2).map strv) rfl (Row.src HR5.out Try.underlying24 (strv_one _)) (by simp only [maxLen]; omega) (by omega) ?_); intro v6 w6 hR6 hC6 hv6; obtain ⟨HR3z, HR6z⟩ := pieces_rows HR3a HR3'.out hC6 hn4 hR6 rfl; clear hR6))
            | (go_at_call 16; (with_reducible refine (Write_any b (fun k => w.heap.size ≤ k) [] again _ hag2 hl0 HA3.out).mono ?_); rintro e w4 ⟨v4, rfl, hR4, hn4, hA4, hC4, hK4⟩; have HR4 := Lib.hid hR4; clear hR4; have HR3a := HR3; have HR3 := Lib.hid (HR3a.out.keeps hK4 (by decide) (by decide)); have HA4 := Lib.hid (hA4.mono (T := fun k => w.heap.size ≤ k) (fun k hk => by have := hbr.size; have := hC2.size; have := hC3.size; rcases hk with hk | hk <;> omega)); clear hA4)
            | (go_at_call 11; first
                | ((with_reducible refine (Cut_any z _ hz2).mono ?_); rintro e w7 ⟨v7, rfl, hR7, hn7, hb7⟩; have HS1 := Lib.hid (And.intro (HR3z.out.belowAll hb7).reads hR7.reads); have HR6y := Lib.hid (HR6z.out.belowAll hb7); clear hR7)
                | ((with_reducible refine (Cut_any again _ hag2).mono ?_); rintro e w9 ⟨v9, rfl, hR9, hn9, hb9⟩; have HS2 := Lib.hid (And.intro (HR6x.out.belowAll hb9).reads hR9.reads); clear hR9))
            | (go_at_call 10; first
                | ((with_reducible refine (Same_eq v3 v7 (chunks z.data.toList) _ HS1.out.1 HS1.out.2).mono ?_); rintro e w8 ⟨rfl, hb8⟩; have HR6x := Lib.hid (HR6y.out.belowAll hb8))
                | ((with_reducible refine (Same_eq v6 v9 (chunks again.data.toList) _ HS2.out.1 HS2.out.2).mono ?_); rintro e w10 ⟨rfl, hb10⟩))
            | (go_at_call 9; (with_reducible refine (awake_any _).mono ?_); rintro e w11 ⟨rfl, hb11⟩))
          go_ret
          refine ⟨rfl, ?_⟩
          have hsz := hbr.size
          have hsz2 := hC2.size
          have hsz3 := hC3.size
          have c2 := (Chg.of_below hbr (fun k => w.heap.size ≤ k)).next hC2 (fun i h => .inr h)
          have c3 := c2.next hC3 (fun i h => .inr (hOn i h))
          have c4 := c3.next hC4 (fun i h => .inr h)
          have c5 := c4.next hC5 (fun i h => .inr h)
          have c6 := c5.next hC6 (fun i h => .inr (by have := hn4 i h; omega))
          have b6 := c6.below (Nat.le_refl _) (fun k h => h)
          exact below_then (below_then (below_then (below_then (below_then b6 hb7 (Nat.le_refl _)) hb8 (Nat.le_refl _)) hb9 (Nat.le_refl _)) hb10 (Nat.le_refl _)) hb11 (Nat.le_refl _)
    · have d1 : decide ((100 : Int) < (ss.length : Int)) = false := by simp; omega
      have d2 : decide ((5000 : Int) < (again.size : Int)) = true := by simp; omega
      go_enter Try.func5, Try.ntmps5
      go_wp2_with (go_at_call 9; (with_reducible refine (awake_any _).mono ?_); rintro e w1 ⟨rfl, hb⟩)
      go_ret
      exact ⟨rfl, hb⟩
  · have d1 : decide ((100 : Int) < (ss.length : Int)) = true := by simp; omega
    go_enter Try.func5, Try.ntmps5
    go_wp2_with (go_at_call 9; (with_reducible refine (awake_any _).mono ?_); rintro e w1 ⟨rfl, hb⟩)
    go_ret
    exact ⟨rfl, hb⟩
end Go.Proofs.Ytljaekmdeojceaa
