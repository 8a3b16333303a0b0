/- CdcBehind: the chunks behind the same end are the same. -/
import Derived.Test.YtljaekmdeojceaaCdcSame
import Derived.Test.YtljaekmdeojceaaCdcPieces
import Derived.Test.YtljaekmdeojceaaRegion
import Derived.Test.YtljaekmdeojceaaCdcBehindPlain
import Derived.Laws.DeepStrings4
import Derived.Deep.DeepCutAuto
namespace Go.Proofs.Ytljaekmdeojceaa
open Go.RowKit Cdc
theorem extract_toList (s : ByteArray) (n : Nat) : (s.extract 0 n).data.toList = s.data.toList.take n := by
  rw [ByteArray.data_extract, Array.toList_extract]
  simp [List.extract]
/-- what the calls on one stream answer, where its first chunk ends within it -/
structure Behind (a r : ByteArray) (n : Nat) : Prop where
  f1 : ∀ w, Calls Try.prog 13 #[.string (a.extract 0 n ++ r)] w (IntIs w n)
  f2 : ∀ w, Calls Try.prog 13 #[.string (a.extract 0 n)] w (IntIs w n)
  c1 : ∀ w, Calls Try.prog 11 #[.string (a.extract 0 n ++ r)] w (StrsIs w (a.data.toList.take n :: chunks r.data.toList))
theorem behind (a r : ByteArray) (ha : a.size ≤ 10000) (hr : r.size ≤ 10000) (h : first a.data.toList < a.size) : Behind a r (first a.data.toList) := by
  have h' : first a.data.toList < a.data.toList.length := h
  have e1 : (a.extract 0 (first a.data.toList) ++ r).data.toList = a.data.toList.take (first a.data.toList) ++ r.data.toList := by rw [app_toList, extract_toList]
  have z1 : (a.extract 0 (first a.data.toList)).size ≤ 10000 := by rw [ByteArray.size_extract]; omega
  have z2 : (a.extract 0 (first a.data.toList) ++ r).size ≤ 1000000 := by rw [app_size]; omega
  refine ⟨fun w => ?_, fun w => ?_, fun w => ?_⟩
  · have := First_any (a.extract 0 (first a.data.toList) ++ r) w z2
    rw [e1, first_behind _ _ h'] at this
    exact this
  · have := First_any (a.extract 0 (first a.data.toList)) w (by omega)
    have e2 := first_behind a.data.toList [] h'
    rw [List.append_nil] at e2
    rw [extract_toList, e2] at this
    exact this
  · have := Cut_any (a.extract 0 (first a.data.toList) ++ r) w z2
    rw [e1, chunks_behind _ _ h'] at this
    exact this
theorem drew_below {w w' : World} (h : Below w.drew.heap.size w.drew w') : Below w.heap.size w w' := ⟨h.os, h.tape, h.output, h.size, h.block⟩
theorem Reads.drew' {w : World} {size : Nat} {v : Value} {n : Nat} {xs : List Value} (h : Reads w size v n xs) : Reads w.drew size v n xs := h
/-- all but the first one of a row -/
theorem behind_tail {w4 : World} {v : Value} {c : List UInt8} {cs : List (List UInt8)} (h : Row w4 9 1 v (c :: cs).length ((c :: cs).map strv)) :
    ∃ g o n cap vS, v = .slice (some ⟨g, o, none⟩) n cap ∧ Hid (Row w4 9 1 vS cs.length (cs.map strv)) ∧
      (∀ w, (Instr.slice 24 (.slice (some ⟨g, o, none⟩) n cap) (some (.int .i64 1)) none none).run Try.prog w = .ok vS w) ∧ ((n : Int) == 0) = false := by
  have hl : (c :: cs).length = cs.length + 1 := rfl
  rw [hl] at h
  obtain ⟨g, o, cap, rfl, _, h3, h4, _, _⟩ := h.form (by omega)
  refine ⟨g, o, _, cap, sliced (some ⟨g, o, none⟩) 1 (cs.length + 1) cap 1, rfl, ?_, fun w => ?_, by simp; omega⟩
  · have := h.cut rfl 1 (cs.length + 1) (by omega) (Nat.le_refl _)
    show Row _ _ _ _ _ _
    simpa [List.take_of_length_le] using this
  · obtain ⟨i1, hi1, hz3, hz4, hz5⟩ := info_parts info_str
    rw [run_slice_l w 24 (some ⟨g, o, none⟩) (cs.length + 1) cap Try.underlying24 .i64 1 (by omega) (by omega)]
    show ((sizeOf 9).run Try.prog w).andThen _ = _
    simp [sizeOf, typeInfo, hi1, hz4]
set_option maxHeartbeats 4000000 in
set_option maxRecDepth 100000 in
theorem CdcBehind_walk (w : World) (a : ByteArray) (ha : a.size ≤ maxLen) (b : ByteArray) (hb : b.size ≤ maxLen) (r : ByteArray) (hr : r.size ≤ maxLen) :
    Calls Try.prog 6 #[.string a, .string b, .string r] w fun e w' => e = .returned (.bool true) ∧ Below w.heap.size w w' := by
  unfold maxLen at ha hb hr
  by_cases h1 : a.size ≤ 10000
  · by_cases h2 : b.size ≤ 10000
    · by_cases h3 : r.size ≤ 10000
      · have d1 : decide ((10000 : Int) < (a.size : Int)) = false := by simp; omega
        have d2 : decide ((10000 : Int) < (b.size : Int)) = false := by simp; omega
        have d3 : decide ((10000 : Int) < (r.size : Int)) = false := by simp; omega
        have hna : first a.data.toList ≤ a.size := first_le a.data.toList
        have hmb : first b.data.toList ≤ b.size := first_le b.data.toList
        have FA := Lib.hid (fun w => First_any a w (by omega))
        have FB := Lib.hid (fun w => First_any b w (by omega))
        have CR := Lib.hid (fun w => Cut_any r w (by omega))
        have hBA := behind a r h1 h3
        have hBB := behind b r h2 h3
        generalize first a.data.toList = n at *
        generalize first b.data.toList = m at *
        have e1 : decide ((n : Int) < 0) = false := by simp
        have e2 : decide ((a.size : Int) < (n : Int)) = false := by simp; omega
        have e3 : decide ((m : Int) < 0) = false := by simp
        have e4 : decide ((b.size : Int) < (m : Int)) = false := by simp; omega
        have en : ((n : Int) != (n : Int)) = false := by simp
        have na : (n : Int) ≤ (a.size : Int) := by omega
        have mb : (m : Int) ≤ (b.size : Int) := by omega
        by_cases hA : n < a.size
        · have dA : decide ((n : Int) < (a.size : Int)) = true := by simp; omega
          have BA := Lib.hid (hBA hA)
          clear hBA
          go_enter Try.func6, Try.ntmps6
          go_upto_region 10 with (first
            | (go_at_call 13; first
                | ((with_reducible refine (FA.out _).mono ?_); rintro e w1 ⟨rfl, hb1⟩)
                | ((with_reducible refine (BA.out.f1 _).mono ?_); rintro e w2 ⟨rfl, hb2⟩)
                | ((with_reducible refine (BA.out.f2 _).mono ?_); rintro e w3 ⟨rfl, hb3⟩))
            | (go_at_call 11; (with_reducible refine (BA.out.c1 _).mono ?_); rintro e w4 ⟨v4, rfl, hR4, hn4, hb4⟩))
          obtain ⟨g, o, N, cap, vS, rfl, HR4, hrun, d0⟩ := behind_tail hR4
          clear hR4
          refine wp_region_ord (fun w => Below w4.heap.size w4 w) [true, true, true, true, true, true, true, false, false, true, true] (by kernel_rfl) (by kernel_rfl) (fun c a d v w h => by cases d <;> exact h) (below_drewN (Below.refl _ _) 1) ?_
          refine wpOrd_yes ?_ rfl (fun W _ => ?_) ?_
          rotate_left
          · go_simp; with_reducible rfl
          simp only [Act.put, List.setIfInBounds_toArray, List.set_cons_zero, List.set_cons_succ]
          refine wpOrd_yes ?_ rfl (fun W _ => ?_) ?_
          rotate_left
          · go_simp; with_reducible rfl
          simp only [Act.put, List.setIfInBounds_toArray, List.set_cons_zero, List.set_cons_succ]
          refine wpOrd_yes ?_ rfl (fun W _ => ?_) ?_
          rotate_left
          · go_simp; with_reducible rfl
          simp only [Act.put, List.setIfInBounds_toArray, List.set_cons_zero, List.set_cons_succ]
          refine wpOrd_yes ?_ rfl (fun W _ => ?_) ?_
          rotate_left
          · go_simp; with_reducible rfl
          simp only [Act.put, List.setIfInBounds_toArray, List.set_cons_zero, List.set_cons_succ]
          refine wpOrd_yes ?_ rfl (fun W _ => ?_) ?_
          rotate_left
          · go_simp; with_reducible rfl
          simp only [Act.put, List.setIfInBounds_toArray, List.set_cons_zero, List.set_cons_succ]
          refine wpOrd_yes ?_ rfl (fun W _ => ?_) ?_
          rotate_left
          · go_simp; with_reducible rfl
          simp only [Act.put, List.setIfInBounds_toArray, List.set_cons_zero, List.set_cons_succ]
          refine wpOrd_yes ?_ rfl (fun W _ => ?_) ?_
          rotate_left
          · go_simp; with_reducible rfl
          simp only [Act.put, List.setIfInBounds_toArray, List.set_cons_zero, List.set_cons_succ]
          refine wpOrd_call 11 [.tmp 68] #[9] [.string r] rfl rfl Try.func11 rfl (by kernel_rfl) rfl ((CR.out _).mono ?_)
          rintro e w5 ⟨v5, rfl, hR5, hn5, hb5⟩
          refine ⟨_, rfl, drew_below hb5, ?_⟩
          simp only [Act.put, List.setIfInBounds_toArray, List.set_cons_zero, List.set_cons_succ]
          refine wpOrd_call 10 [.tmp 67, .tmp 69] #[24, 24] [vS, v5] rfl rfl Try.func10 rfl (by kernel_rfl) rfl ((Same_eq vS v5 (chunks r.data.toList) _ (Row.reads (HR4.out.belowAll (drew_below hb5))) (Row.reads hR5)).mono ?_)
          rintro e w6 ⟨rfl, hb6⟩
          refine ⟨_, rfl, below_then (drew_below hb5) hb6 (Nat.le_refl _), ?_⟩
          simp only [Act.put, List.setIfInBounds_toArray, List.set_cons_zero, List.set_cons_succ]
          refine wpOrd_yes ?_ rfl (fun W _ => ?_) ?_
          rotate_left
          · go_simp; with_reducible rfl
          simp only [Act.put, List.setIfInBounds_toArray, List.set_cons_zero, List.set_cons_succ]
          refine wpOrd_yes ?_ rfl (fun W _ => ?_) ?_
          rotate_left
          · go_simp; with_reducible rfl
          simp only [Act.put, List.setIfInBounds_toArray, List.set_cons_zero, List.set_cons_succ]
          refine wpOrd_nil ?_
          have hbc := below_then (drew_below hb5) hb6 (Nat.le_refl _)
          have hbw := below_then (below_then (below_then (below_then hb1 hb2 (Nat.le_refl _)) hb3 (Nat.le_refl _)) hb4 (Nat.le_refl _)) hbc (Nat.le_refl _)
          clear hb1 hb2 hb3 hb4 hbc hn4 HR4 hrun d0 hR5 hn5 hb5 hb6
          by_cases hB : m < b.size
          · have dB : decide ((m : Int) < (b.size : Int)) = true := by simp; omega
            have BB := Lib.hid (hBB hB)
            clear hBB
            go_upto_region 18 with (first
              | (go_at_call 13; (with_reducible refine (FB.out _).mono ?_); rintro e w7 ⟨rfl, hb7⟩)
              | (go_at_call 11; first
                  | ((with_reducible refine (BA.out.c1 _).mono ?_); rintro e w8 ⟨v8, rfl, hR8, hn8, hb8⟩)
                  | ((with_reducible refine (BB.out.c1 _).mono ?_); rintro e w9 ⟨v9, rfl, hR9, hn9, hb9⟩)))
            obtain ⟨g8, o8, N8, cap8, vS8, rfl, HR8, hrun8, d8⟩ := behind_tail hR8
            obtain ⟨g9, o9, N9, cap9, vS9, rfl, HR9, hrun9, d9⟩ := behind_tail hR9
            clear hR8 hR9 hn8 hn9
            clear BA BB FA FB CR e1 e2 e3 e4 en dA dB d1 d2 d3
            have q8 := fun (w : World) (h : Below w9.heap.size w9 w) => ((HR8.out.belowAll hb9).belowAll h)
            refine wp_region_ord (fun w => Below w9.heap.size w9 w) [true, true, true, true, true, true, true, true, true, true, true, true, true, false, true, true] (by kernel_rfl) (by kernel_rfl) (fun c a d v w h => by cases d <;> exact h) (below_drewN (Below.refl _ _) 1) ?_
            refine wpOrd_yes ?_ rfl (fun W _ => ?_) ?_
            rotate_left
            · go_simp; with_reducible rfl
            simp only [Act.put, List.setIfInBounds_toArray, List.set_cons_zero, List.set_cons_succ]
            refine wpOrd_yes ?_ rfl (fun W _ => ?_) ?_
            rotate_left
            · go_simp; with_reducible rfl
            simp only [Act.put, List.setIfInBounds_toArray, List.set_cons_zero, List.set_cons_succ]
            refine wpOrd_yes ?_ rfl (fun W _ => ?_) ?_
            rotate_left
            · go_simp; with_reducible rfl
            simp only [Act.put, List.setIfInBounds_toArray, List.set_cons_zero, List.set_cons_succ]
            refine wpOrd_yes ?_ rfl (fun W _ => ?_) ?_
            rotate_left
            · go_simp; with_reducible rfl
            simp only [Act.put, List.setIfInBounds_toArray, List.set_cons_zero, List.set_cons_succ]
            refine wpOrd_yes ?_ rfl (fun W _ => ?_) ?_
            rotate_left
            · go_simp; with_reducible rfl
            simp only [Act.put, List.setIfInBounds_toArray, List.set_cons_zero, List.set_cons_succ]
            refine wpOrd_yes ?_ rfl (fun W _ => ?_) ?_
            rotate_left
            · go_simp; with_reducible rfl
            simp only [Act.put, List.setIfInBounds_toArray, List.set_cons_zero, List.set_cons_succ]
            refine wpOrd_yes ?_ rfl (fun W _ => ?_) ?_
            rotate_left
            · go_simp; with_reducible rfl
            simp only [Act.put, List.setIfInBounds_toArray, List.set_cons_zero, List.set_cons_succ]
            refine wpOrd_yes ?_ rfl (fun W _ => ?_) ?_
            rotate_left
            · go_simp; with_reducible rfl
            simp only [Act.put, List.setIfInBounds_toArray, List.set_cons_zero, List.set_cons_succ]
            refine wpOrd_yes ?_ rfl (fun W _ => ?_) ?_
            rotate_left
            · go_simp; with_reducible rfl
            simp only [Act.put, List.setIfInBounds_toArray, List.set_cons_zero, List.set_cons_succ]
            refine wpOrd_yes ?_ rfl (fun W _ => ?_) ?_
            rotate_left
            · go_simp; with_reducible rfl
            simp only [Act.put, List.setIfInBounds_toArray, List.set_cons_zero, List.set_cons_succ]
            refine wpOrd_yes ?_ rfl (fun W _ => ?_) ?_
            rotate_left
            · go_simp; with_reducible rfl
            simp only [Act.put, List.setIfInBounds_toArray, List.set_cons_zero, List.set_cons_succ]
            refine wpOrd_yes ?_ rfl (fun W _ => ?_) ?_
            rotate_left
            · go_simp; with_reducible rfl
            simp only [Act.put, List.setIfInBounds_toArray, List.set_cons_zero, List.set_cons_succ]
            refine wpOrd_yes ?_ rfl (fun W _ => ?_) ?_
            rotate_left
            · go_simp; with_reducible rfl
            simp only [Act.put, List.setIfInBounds_toArray, List.set_cons_zero, List.set_cons_succ]
            refine wpOrd_call 10 [.tmp 115, .tmp 117] #[24, 24] [vS8, vS9] rfl rfl Try.func10 rfl (by kernel_rfl) rfl ((Same_eq vS8 vS9 (chunks r.data.toList) _ (HR8.out.belowAll hb9).reads.drew' HR9.out.reads.drew').mono ?_)
            rintro e w10 ⟨rfl, hb10⟩
            refine ⟨_, rfl, drew_below hb10, ?_⟩
            simp only [Act.put, List.setIfInBounds_toArray, List.set_cons_zero, List.set_cons_succ]
            refine wpOrd_yes ?_ rfl (fun W _ => ?_) ?_
            rotate_left
            · go_simp; with_reducible rfl
            simp only [Act.put, List.setIfInBounds_toArray, List.set_cons_zero, List.set_cons_succ]
            refine wpOrd_yes ?_ rfl (fun W _ => ?_) ?_
            rotate_left
            · go_simp; with_reducible rfl
            simp only [Act.put, List.setIfInBounds_toArray, List.set_cons_zero, List.set_cons_succ]
            refine wpOrd_nil ?_
            go_wp2_with (go_at_call 9; (with_reducible refine (awake_any _).mono ?_); rintro e w11 ⟨rfl, hb11⟩)
            go_ret
            exact ⟨rfl, below_then (below_then (below_then (below_then (below_then hbw hb7 (Nat.le_refl _)) hb8 (Nat.le_refl _)) hb9 (Nat.le_refl _)) (drew_below hb10) (Nat.le_refl _)) hb11 (Nat.le_refl _)⟩
          · have dB : decide ((m : Int) < (b.size : Int)) = false := by simp; omega
            go_wp2_with (first
              | (go_at_call 13; (with_reducible refine (FB.out _).mono ?_); rintro e w7 ⟨rfl, hb7⟩)
              | (go_at_call 9; (with_reducible refine (awake_any _).mono ?_); rintro e w11 ⟨rfl, hb11⟩))
            go_ret
            exact ⟨rfl, below_then (below_then hbw hb7 (Nat.le_refl _)) hb11 (Nat.le_refl _)⟩
        · have dA : decide ((n : Int) < (a.size : Int)) = false := by simp; omega
          clear hBA hBB
          go_enter Try.func6, Try.ntmps6
          go_wp2_with (first
            | (go_at_call 13; first
                | ((with_reducible refine (FA.out _).mono ?_); rintro e w1 ⟨rfl, hb1⟩)
                | ((with_reducible refine (FB.out _).mono ?_); rintro e w2 ⟨rfl, hb2⟩))
            | (go_at_call 9; (with_reducible refine (awake_any _).mono ?_); rintro e w11 ⟨rfl, hb11⟩))
          go_ret
          exact ⟨rfl, below_then (below_then hb1 hb2 (Nat.le_refl _)) hb11 (Nat.le_refl _)⟩
      · have d1 : decide ((10000 : Int) < (a.size : Int)) = false := by simp; omega
        have d2 : decide ((10000 : Int) < (b.size : Int)) = false := by simp; omega
        have d3 : decide ((10000 : Int) < (r.size : Int)) = true := by simp; omega
        go_enter Try.func6, Try.ntmps6
        go_wp2_with (go_at_call 9; (with_reducible refine (awake_any _).mono ?_); rintro e w1 ⟨rfl, hb⟩)
        go_ret
        exact ⟨rfl, hb⟩
    · have d1 : decide ((10000 : Int) < (a.size : Int)) = false := by simp; omega
      have d2 : decide ((10000 : Int) < (b.size : Int)) = true := by simp; omega
      go_enter Try.func6, Try.ntmps6
      go_wp2_with (go_at_call 9; (with_reducible refine (awake_any _).mono ?_); rintro e w1 ⟨rfl, hb⟩)
      go_ret
      exact ⟨rfl, hb⟩
  · have d1 : decide ((10000 : Int) < (a.size : Int)) = true := by simp; omega
    go_enter Try.func6, Try.ntmps6
    go_wp2_with (go_at_call 9; (with_reducible refine (awake_any _).mono ?_); rintro e w1 ⟨rfl, hb⟩)
    go_ret
    exact ⟨rfl, hb⟩
end Go.Proofs.Ytljaekmdeojceaa
