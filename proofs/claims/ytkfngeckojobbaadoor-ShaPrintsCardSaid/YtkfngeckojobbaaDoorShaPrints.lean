/- ShaPrints: the law's walk. -/
import Derived.Test.YtkfngeckojobbaaDoorShaAwake
import Derived.Test.YtkfngeckojobbaaDoorSumVal
import Derived.Test.YtkfngeckojobbaaDoorRef02Parse
import Derived.Test.YtkfngeckojobbaaDoorMem2
import Derived.Test.YtkfngeckojobbaaDoorQuiet
namespace Go.Proofs.YtkfngeckojobbaaDoor
open Go.RowKit Sha
theorem parse_length (s l : List UInt8) (h : parse s = some l) : l.length = 32 := by
  unfold parse at h
  split at h
  · exact parseTo_length _ _ _ h
  · cases h

set_option maxHeartbeats 2000000 in
theorem ShaPrints_walk (w : World) (l : List UInt8) (hl : l.length = 32) (s : ByteArray) (hs : s.size ≤ maxLen) (hT : ShaTabs w) :
    Calls Tryd.prog 7 #[.agg (l.map bv).toArray, .string s] w fun e w' => e = .returned (.bool true) ∧ Below w.heap.size w w' := by
  unfold maxLen at hs
  have HT := Lib.hid hT; clear hT
  have Hl := Lib.hid hl; clear hl
  have k0 := Blk.new w 24 (l.map bv).toArray
  have Hk := Lib.hid k0; clear k0
  by_cases hlen : s.size ≤ 200
  · have t1 : decide ((200 : Int) < s.size) = false := by simp; omega
    obtain ⟨r, hr⟩ : ∃ r, parse s.data.toList = r := ⟨_, rfl⟩
    obtain ⟨x, hx⟩ : ∃ x, r.getD (List.replicate 32 0) = x := ⟨_, rfl⟩
    have Hx : Hid (x.length = 32) := by
      show _ = _
      rw [← hx]
      cases r with
      | none => rfl
      | some l => exact parse_length _ _ hr
    have HP := Parse_any s
    have HQ := ref_Parse s
    rw [hr] at HP HQ
    unfold ParseIs at HP
    unfold RefParseIs at HQ
    rw [hx] at HP HQ
    clear hx hr
    rcases r with _ | r
    all_goals
     simp only [Option.isSome_none, Option.isSome_some, Bool.false_eq_true, if_true, if_false] at HP HQ
     have P1 := Lib.hid HP; clear HP
     have Q1 := Lib.hid HQ; clear HQ
     have Hi : Hid ((Tryd.prog.info? 24).map (·.size) = some (x.map bv).toArray.size) := by show _ = _; rw [sum_size Hx.out]; exact info_sum
     go_enter Tryd.func7, Tryd.ntmps7
     go_wp2_with fail
     ((with_reducible refine (P1.out _ hs).mono ?_); rintro e w1 ⟨rfl, hb1⟩)
     have N1 := Lib.hid (Blk.new w1 24 z32)
     have HA1 : Hid (Blk w1 w.heap.size 24 (l.map bv).toArray) := Hk.out.belowAll hb1
     go_wp2_with (refine wpList_store_blk rfl 24 (.tmp 5) (.tmp 16) rfl w1.heap.size (x.map bv).toArray rfl rfl N1.out Hi.out (by rw [sum_size Hx.out]; rfl) (bv_one x) ?_; intro w2 hB2 hC2)
     have HA2 : Hid (Blk w2 w.heap.size 24 (l.map bv).toArray) := (HA1.out.alloc _).chg hC2 (by have := HA1.out.lt; omega)
     have HB2 := Lib.hid hB2; clear hB2
     have hc2 : Chg (fun _ => False) w w2 := ((((Chg.refl (fun _ => False) w).alloc _).then_below hb1).alloc _).next hC2 (fun i h => .inr (by have := hb1.size; simp at *; omega))
     ((with_reducible refine (Q1.out _ hs).mono ?_); rintro e w3 ⟨rfl, hb3⟩)
     have N3 := Lib.hid (Blk.new w3 24 z32)
     have HA3 : Hid (Blk w3 w.heap.size 24 (l.map bv).toArray) := HA2.out.belowAll hb3
     have HB3 : Hid (Blk w3 w1.heap.size 24 (x.map bv).toArray) := HB2.out.belowAll hb3
     go_wp2_with (refine wpList_store_blk rfl 24 (.tmp 7) (.tmp 21) rfl w3.heap.size (x.map bv).toArray rfl rfl N3.out Hi.out (by rw [sum_size Hx.out]; rfl) (bv_one x) ?_; intro w4 hB4 hC4)
     have hA4 : Blk w4 w.heap.size 24 (l.map bv).toArray := (HA3.out.alloc _).chg hC4 (by have := HA3.out.lt; omega)
     have hX4 : Blk w4 w1.heap.size 24 (x.map bv).toArray := (HB3.out.alloc _).chg hC4 (by have := HB3.out.lt; omega)
     have hc4 : Chg (fun _ => False) w w4 := ((hc2.then_below hb3).alloc _).next hC4 (fun i h => .inr (by have := hc2.size; have := hb3.size; omega))
     have hY4 := hB4
     have hne := fun W => run_neq_sum x x Hx.out Hx.out W
     rw [show (x != x) = false from by simp] at hne
     have Hil : Hid ((Tryd.prog.info? 24).map (·.size) = some (l.map bv).toArray.size) := by show _ = _; rw [sum_size Hl.out]; exact info_sum
     refine wp_region_class (fun w' => Blk w' w.heap.size 24 (l.map bv).toArray ∧ Blk w' w1.heap.size 24 (x.map bv).toArray ∧ Blk w' w3.heap.size 24 (x.map bv).toArray ∧ Chg (fun _ => False) w w') (by kernel_rfl) (by kernel_rfl) ⟨hA4.drew, hX4.drew, hB4.drew, hc4.drew⟩ ?_
     refine wpQuiet_load_blk rfl 24 (.tmp 2) rfl w.heap.size rfl 24 (l.map bv).toArray (fun w h => h.1) Tryd.underlying24 rfl Hil.out ?_
     simp only [Act.put, List.setIfInBounds_toArray, List.set_cons_zero, List.set_cons_succ]
     refine wpQuiet_call rfl 19 [.tmp 23] #[24] rfl Tryd.func19 rfl (by kernel_rfl) [.agg (l.map bv).toArray] rfl (.string ⟨(hex l).toArray⟩) (fun w' h => (Print_any l Hl.out w').mono fun e w'' ⟨he, hb⟩ => ⟨he, h.1.belowAll hb, h.2.1.belowAll hb, h.2.2.1.belowAll hb, h.2.2.2.then_below hb⟩) ?_
     simp only [Act.put, List.setIfInBounds_toArray, List.set_cons_zero, List.set_cons_succ]
     refine wpQuiet_load_blk rfl 24 (.tmp 2) rfl w.heap.size rfl 24 (l.map bv).toArray (fun w h => h.1) Tryd.underlying24 rfl Hil.out ?_
     simp only [Act.put, List.setIfInBounds_toArray, List.set_cons_zero, List.set_cons_succ]
     refine wpQuiet_call rfl 20 [.tmp 25] #[24] rfl Tryd.func20 rfl (by kernel_rfl) [.agg (l.map bv).toArray] rfl (.string ⟨(hex l).toArray⟩) (fun w' h => (ref_Print l Hl.out w').mono fun e w'' ⟨he, hb⟩ => ⟨he, h.1.belowAll hb, h.2.1.belowAll hb, h.2.2.1.belowAll hb, h.2.2.2.then_below hb⟩) ?_
     simp only [Act.put, List.setIfInBounds_toArray, List.set_cons_zero, List.set_cons_succ]
     refine wpQuiet_pure rfl (.bool false) (fun W _ => by go_simp) ?_
     simp only [Act.put, List.setIfInBounds_toArray, List.set_cons_zero, List.set_cons_succ]
     refine wpQuiet_move rfl _ rfl (.bool false) rfl ?_
     simp only [Act.put, List.setIfInBounds_toArray, List.set_cons_zero, List.set_cons_succ]
     refine wpQuiet_load_blk rfl 24 (.tmp 5) rfl w1.heap.size rfl 24 (x.map bv).toArray (fun w h => h.2.1) Tryd.underlying24 rfl Hi.out ?_
     simp only [Act.put, List.setIfInBounds_toArray, List.set_cons_zero, List.set_cons_succ]
     refine wpQuiet_load_blk rfl 24 (.tmp 7) rfl w3.heap.size rfl 24 (x.map bv).toArray (fun w h => h.2.2.1) Tryd.underlying24 rfl Hi.out ?_
     simp only [Act.put, List.setIfInBounds_toArray, List.set_cons_zero, List.set_cons_succ]
     refine wpQuiet_pure rfl (.bool false) (fun W _ => by go_simp) ?_
     simp only [Act.put, List.setIfInBounds_toArray, List.set_cons_zero, List.set_cons_succ]
     refine wpQuiet_pure rfl (.bool false) (fun W _ => by go_simp) ?_
     simp only [Act.put, List.setIfInBounds_toArray, List.set_cons_zero, List.set_cons_succ]
     refine wpQuiet_nil ?_
     rintro w5 ⟨hA5, hX5, hY5, hc5⟩
     go_wp2_with fail
     ((with_reducible refine (awake_any _ (HT.out.chg hc5 noTab_none)).mono ?_); rintro e w6 ⟨rfl, hb6⟩)
     go_wp2_with fail
     go_ret
     exact ⟨rfl, (hc5.then_below hb6).belowAll⟩
  · have t1 : decide ((200 : Int) < s.size) = true := by simp; omega
    have HT1 := Lib.hid (HT.out.alloc (.cells (l.map bv).toArray 24))
    go_enter Tryd.func7, Tryd.ntmps7
    go_wp2_with fail
    ((with_reducible refine (awake_any _ HT1.out).mono ?_); rintro e w6 ⟨rfl, hb6⟩)
    go_wp2_with fail
    go_ret
    exact ⟨rfl, (((Chg.refl (fun _ => False) w).alloc _).then_below hb6).belowAll⟩
end Go.Proofs.YtkfngeckojobbaaDoor
