/- The document's sha: the walk of block. -/
import Derived.Test.YtkfngeckojobbaaDoorRef02Words
import Derived.Deep.DeepCutAuto
namespace Go.Proofs.YtkfngeckojobbaaDoor
open Go.RowKit Sha
def IntsAt (w0 w : World) (v : Value) (l : List UInt32) : Prop := Row w 3 1 v l.length (l.map iw) ∧ (∀ k, v.ownBlock = some k → w0.heap.size ≤ k) ∧ Below w0.heap.size w0 w
theorem wordsTo_length' (s : List UInt8) (t : Nat) : (wordsTo s t).length = t := by
  induction t with
  | zero => rfl
  | succ t ih => simp [wordsTo, ih]
theorem extTo_length' (l : List UInt32) (t : Nat) : (extTo l t).length = l.length + t := by
  induction t with
  | zero => rfl
  | succ t ih => simp [extTo, ih]; omega
theorem Reads.shape8 {w : World} {size n : Nat} {v : Value} {xs : List Value} (h : Reads w size v n xs) (hn : 0 < n) : ∃ g o cap, v = .slice (some ⟨g, o, none⟩) n cap ∧ n ≤ cap ∧ cap ≤ 9223372036854775807 := by
  obtain ⟨_, a, cap, rfl, h1, h2, h5⟩ := h
  obtain ⟨g, off, rfl, _, _⟩ := h5 hn
  unfold maxLen at h2
  exact ⟨g, off, cap, rfl, h1, by omega⟩
theorem words_add (h x : St) (k : Nat) (hk : k < 8) : (addSt h x).words.take (k + 1) = (addSt h x).words.take k ++ [h.words.getD k 0 + x.words.getD k 0] := by
  obtain rfl | rfl | rfl | rfl | rfl | rfl | rfl | rfl : k = 0 ∨ k = 1 ∨ k = 2 ∨ k = 3 ∨ k = 4 ∨ k = 5 ∨ k = 6 ∨ k = 7 := by omega
  all_goals rfl
theorem ints_more {w wr w5 : World} {vo v5 : Value} {l l' : List UInt32} {x : UInt32} (hn : ∀ k, vo.ownBlock = some k → w.heap.size ≤ k) (hbr : Below w.heap.size w wr)
    (hR5 : Row w5 3 1 v5 (l.length + 1) (l.map iw ++ [iw x])) (hC5 : Chg (fun k => vo.ownBlock = some k) (wr.alloc (.cells #[iw x] 3)).drew w5) (hv5 : v5.ownBlock = vo.ownBlock ∨ v5.ownBlock = some (wr.alloc (.cells #[iw x] 3)).drew.heap.size) (hl : l' = l ++ [x]) : IntsAt w w5 v5 l' := by
  subst hl
  have hsz := hbr.size
  refine ⟨?_, fun k hk => ?_, ?_⟩
  · rw [List.map_append, List.length_append]; exact hR5
  · rcases hv5 with h | h
    · exact hn k (h.symm.trans hk)
    · rw [h] at hk
      injection hk with hk
      simp at hk
      omega
  · exact (((Chg.of_below hbr (fun k => w.heap.size ≤ k)).alloc _).drew.next hC5 (fun i h => .inr (hn i h))).below (Nat.le_refl _) (fun k h => h)
set_option maxHeartbeats 4000000 in
set_option maxRecDepth 100000 in
theorem ref_block (vh vk : Value) (h : St) (s : ByteArray) (w : World) (hs : s.size = 64) (hh : Reads w 1 vh 8 (h.words.map iw)) (hk : Reads w 1 vk 64 (kTab.map iw)) :
    Calls Tryd.prog 22 #[vh, .string s, vk] w (IntsIs w (block h s.data.toList).words) := by
  obtain ⟨i1, hi1, hz3, hz4, hz5⟩ := info_parts info_int
  have Hs := Lib.hid hs; clear hs
  obtain ⟨gh, oh, caph, rfl, hch1, hch2⟩ := hh.shape8 (by omega)
  obtain ⟨gk, ok, capk, rfl, hck1, hck2⟩ := hk.shape8 (by omega)
  have Hh := Lib.hid hh; clear hh
  have Hk := Lib.hid hk; clear hk
  go_enter Tryd.func22, Tryd.ntmps22
  go_wp2
  go_loopg [7, 8] 16 (fun m vo i wr => ∃ k : Nat, k ≤ 16 ∧ m = 16 - k ∧ i = .int .i64 k ∧ IntsAt w wr vo (wordsTo s.data.toList k))
  case atStart => exact ⟨0, by omega, rfl, rfl, Row.nil _ _ _, (fun k hk => by simp [Value.ownBlock] at hk), Below.refl _ _⟩
  case round =>
    obtain ⟨k, hk, rfl, rfl, hR, hn, hbr⟩ := hrel
    have HR := Lib.hid hR; clear hR
    by_cases hlt : k < 16
    · have l0 : 4 * k < s.size := by rw [Hs.out]; omega
      have l1 : 4 * k + 1 < s.size := by rw [Hs.out]; omega
      have l2 : 4 * k + 2 < s.size := by rw [Hs.out]; omega
      have l3 : 4 * k + 3 < s.size := by rw [Hs.out]; omega
      obtain ⟨x0, e0⟩ : ∃ x, s[4 * k]'l0 = x := ⟨_, rfl⟩
      obtain ⟨x1, e1⟩ : ∃ x, s[4 * k + 1]'l1 = x := ⟨_, rfl⟩
      obtain ⟨x2, e2⟩ : ∃ x, s[4 * k + 2]'l2 = x := ⟨_, rfl⟩
      obtain ⟨x3, e3⟩ : ∃ x, s[4 * k + 3]'l3 = x := ⟨_, rfl⟩
      obtain ⟨A1, A2, A3, A4, A5, c0, c1, c2, c3, a1, a2, a3, a4, a5, a6⟩ := be_ints x0 x1 x2 x3
      have Hwd : Hid (wordAt s.data.toList k = be x0 x1 x2 x3) := by
        show _ = _
        unfold wordAt
        rw [getD_str s _ l0, getD_str s _ l1, getD_str s _ l2, getD_str s _ l3, e0, e1, e2, e3]
      obtain ⟨B, hB⟩ : ∃ B, be x0 x1 x2 x3 = B := ⟨_, rfl⟩
      rw [hB] at a6 Hwd
      clear hB
      have b0 : 4 * (k : Int) < (s.size : Int) := by omega
      have b1 : 4 * (k : Int) + 1 < (s.size : Int) := by omega
      have b2 : 4 * (k : Int) + 2 < (s.size : Int) := by omega
      have b3 : 4 * (k : Int) + 3 < (s.size : Int) := by omega
      have n0 : IntKind.i64.wrap (4 * (k : Int)) = 4 * (k : Int) := IntWalk.i64_in _ (by omega)
      have n1 : IntKind.i64.wrap (4 * (k : Int) + 1) = 4 * (k : Int) + 1 := IntWalk.i64_in _ (by omega)
      have n2 : IntKind.i64.wrap (4 * (k : Int) + 2) = 4 * (k : Int) + 2 := IntWalk.i64_in _ (by omega)
      have n3 : IntKind.i64.wrap (4 * (k : Int) + 3) = 4 * (k : Int) + 3 := IntWalk.i64_in _ (by omega)
      have m0 : (4 * (k : Int)).toNat = 4 * k := by omega
      have m1 : (4 * (k : Int) + 1).toNat = 4 * k + 1 := by omega
      have m2 : (4 * (k : Int) + 2).toNat = 4 * k + 2 := by omega
      have m3 : (4 * (k : Int) + 3).toNat = 4 * k + 3 := by omega
      have p0 : (0 : Int) ≤ 4 * (k : Int) := by omega
      have p1 : (0 : Int) ≤ 4 * (k : Int) + 1 := by omega
      have p2 : (0 : Int) ≤ 4 * (k : Int) + 2 := by omega
      have p3 : (0 : Int) ≤ 4 * (k : Int) + 3 := by omega
      go_wp2_with fail
      refine wp_region_ord (fun _ => True) [true, true, true, true, true, true, true, true, true, true, true, true, true, true, true, true, true, true, true, true, true, true, true, true, true, true, true, true, true, true, false, false, true] (by kernel_rfl) (by kernel_rfl) (fun c a d v w h => by cases d <;> exact h) trivial ?_
      refine wpOrd_yes ?_ rfl (fun W _ => ?_) ?_
      rotate_left
      · go_simp; with_reducible rfl
      simp only [Act.put, List.setIfInBounds_toArray, List.set_cons_zero, List.set_cons_succ]
      refine wpOrd_yes ?_ rfl (fun W _ => ?_) ?_
      rotate_left
      · go_simp; with_reducible rfl
      simp only [Act.put, List.setIfInBounds_toArray, List.set_cons_zero, List.set_cons_succ]
      refine wpOrd_yes ?_ rfl (fun W _ => ?_) ?_
      rotate_left
      · go_simp; with_reducible rfl
      simp only [Act.put, List.setIfInBounds_toArray, List.set_cons_zero, List.set_cons_succ]
      refine wpOrd_yes ?_ rfl (fun W _ => ?_) ?_
      rotate_left
      · go_simp; with_reducible rfl
      simp only [Act.put, List.setIfInBounds_toArray, List.set_cons_zero, List.set_cons_succ]
      refine wpOrd_yes ?_ rfl (fun W _ => ?_) ?_
      rotate_left
      · go_simp; with_reducible rfl
      simp only [Act.put, List.setIfInBounds_toArray, List.set_cons_zero, List.set_cons_succ]
      refine wpOrd_yes ?_ rfl (fun W _ => ?_) ?_
      rotate_left
      · go_simp; with_reducible rfl
      simp only [Act.put, List.setIfInBounds_toArray, List.set_cons_zero, List.set_cons_succ]
      refine wpOrd_yes ?_ rfl (fun W _ => ?_) ?_
      rotate_left
      · go_simp; with_reducible rfl
      simp only [Act.put, List.setIfInBounds_toArray, List.set_cons_zero, List.set_cons_succ]
      refine wpOrd_yes ?_ rfl (fun W _ => ?_) ?_
      rotate_left
      · go_simp; with_reducible rfl
      simp only [Act.put, List.setIfInBounds_toArray, List.set_cons_zero, List.set_cons_succ]
      refine wpOrd_yes ?_ rfl (fun W _ => ?_) ?_
      rotate_left
      · go_simp; with_reducible rfl
      simp only [Act.put, List.setIfInBounds_toArray, List.set_cons_zero, List.set_cons_succ]
      refine wpOrd_yes ?_ rfl (fun W _ => ?_) ?_
      rotate_left
      · go_simp; with_reducible rfl
      simp only [Act.put, List.setIfInBounds_toArray, List.set_cons_zero, List.set_cons_succ]
      refine wpOrd_yes ?_ rfl (fun W _ => ?_) ?_
      rotate_left
      · go_simp; with_reducible rfl
      simp only [Act.put, List.setIfInBounds_toArray, List.set_cons_zero, List.set_cons_succ]
      refine wpOrd_yes ?_ rfl (fun W _ => ?_) ?_
      rotate_left
      · go_simp; with_reducible rfl
      simp only [Act.put, List.setIfInBounds_toArray, List.set_cons_zero, List.set_cons_succ]
      refine wpOrd_yes ?_ rfl (fun W _ => ?_) ?_
      rotate_left
      · go_simp; with_reducible rfl
      simp only [Act.put, List.setIfInBounds_toArray, List.set_cons_zero, List.set_cons_succ]
      refine wpOrd_yes ?_ rfl (fun W _ => ?_) ?_
      rotate_left
      · go_simp; with_reducible rfl
      simp only [Act.put, List.setIfInBounds_toArray, List.set_cons_zero, List.set_cons_succ]
      refine wpOrd_yes ?_ rfl (fun W _ => ?_) ?_
      rotate_left
      · go_simp; with_reducible rfl
      simp only [Act.put, List.setIfInBounds_toArray, List.set_cons_zero, List.set_cons_succ]
      refine wpOrd_yes ?_ rfl (fun W _ => ?_) ?_
      rotate_left
      · go_simp; with_reducible rfl
      simp only [Act.put, List.setIfInBounds_toArray, List.set_cons_zero, List.set_cons_succ]
      refine wpOrd_yes ?_ rfl (fun W _ => ?_) ?_
      rotate_left
      · go_simp; with_reducible rfl
      simp only [Act.put, List.setIfInBounds_toArray, List.set_cons_zero, List.set_cons_succ]
      refine wpOrd_yes ?_ rfl (fun W _ => ?_) ?_
      rotate_left
      · go_simp; with_reducible rfl
      simp only [Act.put, List.setIfInBounds_toArray, List.set_cons_zero, List.set_cons_succ]
      refine wpOrd_yes ?_ rfl (fun W _ => ?_) ?_
      rotate_left
      · go_simp; with_reducible rfl
      simp only [Act.put, List.setIfInBounds_toArray, List.set_cons_zero, List.set_cons_succ]
      refine wpOrd_yes ?_ rfl (fun W _ => ?_) ?_
      rotate_left
      · go_simp; with_reducible rfl
      simp only [Act.put, List.setIfInBounds_toArray, List.set_cons_zero, List.set_cons_succ]
      refine wpOrd_yes ?_ rfl (fun W _ => ?_) ?_
      rotate_left
      · go_simp; with_reducible rfl
      simp only [Act.put, List.setIfInBounds_toArray, List.set_cons_zero, List.set_cons_succ]
      refine wpOrd_yes ?_ rfl (fun W _ => ?_) ?_
      rotate_left
      · go_simp; with_reducible rfl
      simp only [Act.put, List.setIfInBounds_toArray, List.set_cons_zero, List.set_cons_succ]
      refine wpOrd_yes ?_ rfl (fun W _ => ?_) ?_
      rotate_left
      · go_simp; with_reducible rfl
      simp only [Act.put, List.setIfInBounds_toArray, List.set_cons_zero, List.set_cons_succ]
      refine wpOrd_yes ?_ rfl (fun W _ => ?_) ?_
      rotate_left
      · go_simp; with_reducible rfl
      simp only [Act.put, List.setIfInBounds_toArray, List.set_cons_zero, List.set_cons_succ]
      refine wpOrd_yes ?_ rfl (fun W _ => ?_) ?_
      rotate_left
      · go_simp; with_reducible rfl
      simp only [Act.put, List.setIfInBounds_toArray, List.set_cons_zero, List.set_cons_succ]
      refine wpOrd_yes ?_ rfl (fun W _ => ?_) ?_
      rotate_left
      · go_simp; with_reducible rfl
      simp only [Act.put, List.setIfInBounds_toArray, List.set_cons_zero, List.set_cons_succ]
      refine wpOrd_yes ?_ rfl (fun W _ => ?_) ?_
      rotate_left
      · go_simp; with_reducible rfl
      simp only [Act.put, List.setIfInBounds_toArray, List.set_cons_zero, List.set_cons_succ]
      refine wpOrd_yes ?_ rfl (fun W _ => ?_) ?_
      rotate_left
      · go_simp; with_reducible rfl
      simp only [Act.put, List.setIfInBounds_toArray, List.set_cons_zero, List.set_cons_succ]
      refine wpOrd_yes ?_ rfl (fun W _ => ?_) ?_
      rotate_left
      · go_simp; with_reducible rfl
      simp only [Act.put, List.setIfInBounds_toArray, List.set_cons_zero, List.set_cons_succ]
      refine wpOrd_yes ?_ rfl (fun W _ => ?_) ?_
      rotate_left
      · go_simp; with_reducible rfl
      simp only [Act.put, List.setIfInBounds_toArray, List.set_cons_zero, List.set_cons_succ]
      clear e0 e1 e2 e3 l0 l1 l2 l3 b0 b1 b2 b3 n0 n1 n2 n3 m0 m1 m2 m3 p0 p1 p2 p3 c0 c1 c2 c3 a1 a2 a3 a4 a5 a6
      have hwl := wordsTo_length' s.data.toList k
      refine wpOrd_run _ _ rfl (by go_simp; exact ⟨rfl, rfl⟩) trivial ?_
      simp only [Act.put, List.setIfInBounds_toArray, List.set_cons_zero, List.set_cons_succ]
      refine wpOrd_alone rfl fun K hK => wp_append_row _ (.tmp 27) (.tmp 57) 45 45 rfl 3 i1 _ 1 8 Tryd.underlying45 hi1 hz3 hz4 hz5 rfl (by omega) _ (wordsTo s.data.toList k).length ((wordsTo s.data.toList k).map iw) rfl (HR.out.alloc _).drew (.slice (some ⟨wr.heap.size, 0, none⟩) 1 1) 1 [iw B] rfl (Row.src (Row.new wr 3 1 1 #[iw B] (by simp [maxLen]) rfl).drew Tryd.underlying45 (iw_one [B])) (by simp only [maxLen]; omega) (by omega) ?_
      intro v5 w5 hR5 hC5 hv5
      refine hK _ _ trivial ?_
      simp only [Act.put, List.setIfInBounds_toArray, List.set_cons_zero, List.set_cons_succ]
      refine wpOrd_yes ?_ rfl (fun W _ => ?_) ?_
      rotate_left
      · go_simp; with_reducible rfl
      simp only [Act.put, List.setIfInBounds_toArray, List.set_cons_zero, List.set_cons_succ]
      refine wpOrd_nil ?_
      go_wp2_with fail
      go_roundg (16 - (k + 1))
      case measure => omega
      case rel =>
        refine ⟨k + 1, by omega, rfl, by go_num, ?_⟩
        exact ints_more hn hbr hR5 hC5 hv5 (by rw [wordsTo, Hwd.out])
    · obtain rfl : k = 16 := by omega
      have hdec : decide ((16 : Int) < 16) = false := by simp
      go_wp2_with fail
      clear hdec
      go_loopg [7, 9] 48 (fun m vo i wr => ∃ (k T : Nat), k ≤ 48 ∧ T = 16 + k ∧ m = 48 - k ∧ i = .int .i64 T ∧ IntsAt w wr vo (extTo (wordsTo s.data.toList 16) k))
      case atStart => exact ⟨0, 16, by omega, rfl, rfl, rfl, HR.out, hn, hbr⟩
      case round =>
        clear HR hn hbr
        obtain ⟨k, T, hk, hT, rfl, rfl, hR, hn, hbr⟩ := hrel
        have hlen := extTo_length' (wordsTo s.data.toList 16) k
        rw [wordsTo_length', ← hT] at hlen
        by_cases hlt : k < 48
        · have Hx : Hid (extTo (wordsTo s.data.toList 16) (k + 1) = extTo (wordsTo s.data.toList 16) k ++ [ext (extTo (wordsTo s.data.toList 16) k) T]) := by
            show _ = _
            rw [extTo, hT]
          generalize extTo (wordsTo s.data.toList 16) k = L at *
          have HR := Lib.hid hR
          rw [hlen] at hR
          obtain ⟨g, o, cap, rfl, hob, hc1, hc2, hcl, hfr⟩ := hR.form (by omega)
          unfold maxLen at hc2
          have cell : ∀ j, j < T → wr.cell? ⟨g, o + j, none⟩ = some (.int .i64 (L.getD j 0).toNat) := fun j hj => hcl j _ (by rw [List.getElem?_map, List.getElem?_eq_getElem (by omega)]; simp [List.getD, List.getElem?_eq_getElem (show j < L.length by omega)]; rfl)
          have c15 := cell (T - 15) (by omega)
          have c2 := cell (T - 2) (by omega)
          have c7 := cell (T - 7) (by omega)
          have c16 := cell (T - 16) (by omega)
          have K7 := Lib.hid (iw_at L (T - 7) (by omega))
          have K16 := Lib.hid (iw_at L (T - 16) (by omega))
          have Hext : Hid (ext L T = s1 (L.getD (T - 2) 0) + L.getD (T - 7) 0 + s0 (L.getD (T - 15) 0) + L.getD (T - 16) 0) := rfl
          have hlL : L.length < 100 := by omega
          have HlL := Lib.hid hlen
          have HT := Lib.hid hT
          clear hcl hfr cell hob hR hlen hT
          generalize L.getD (T - 15) 0 = y15 at *
          generalize L.getD (T - 2) 0 = y2 at *
          generalize L.getD (T - 7) 0 = y7 at *
          generalize L.getD (T - 16) 0 = y16 at *
          -- LOOP2
          have t1 : 16 ≤ T := by rw [HT.out]; omega
          have t2 : T < 64 := by rw [HT.out]; omega
          have n15 : IntKind.i64.wrap ((T : Int) - 15) = (T : Int) - 15 := IntWalk.i64_in _ (by omega)
          have m15 : ((T : Int) - 15).toNat = T - 15 := by omega
          have p15 : (15 : Int) ≤ (T : Int) := by omega
          have q15 : (T : Int) - 15 < (T : Int) := by omega
          have n2 : IntKind.i64.wrap ((T : Int) - 2) = (T : Int) - 2 := IntWalk.i64_in _ (by omega)
          have m2 : ((T : Int) - 2).toNat = T - 2 := by omega
          have p2 : (2 : Int) ≤ (T : Int) := by omega
          have q2 : (T : Int) - 2 < (T : Int) := by omega
          have n7 : IntKind.i64.wrap ((T : Int) - 7) = (T : Int) - 7 := IntWalk.i64_in _ (by omega)
          have m7 : ((T : Int) - 7).toNat = T - 7 := by omega
          have p7 : (7 : Int) ≤ (T : Int) := by omega
          have q7 : (T : Int) - 7 < (T : Int) := by omega
          have n16 : IntKind.i64.wrap ((T : Int) - 16) = (T : Int) - 16 := IntWalk.i64_in _ (by omega)
          have m16 : ((T : Int) - 16).toNat = T - 16 := by omega
          have p16 : (16 : Int) ≤ (T : Int) := by omega
          have q16 : (T : Int) - 16 < (T : Int) := by omega
          obtain ⟨r7, Hr7⟩ : ∃ r, Hid (rotr y15 (UInt32.ofNat 7) = r) := ⟨_, rfl⟩
          obtain ⟨r18, Hr18⟩ : ∃ r, Hid (rotr y15 (UInt32.ofNat 18) = r) := ⟨_, rfl⟩
          obtain ⟨v3, Hv3⟩ : ∃ r, Hid (y15 >>> (UInt32.ofNat 3) = r) := ⟨_, rfl⟩
          obtain ⟨r17, Hr17⟩ : ∃ r, Hid (rotr y2 (UInt32.ofNat 17) = r) := ⟨_, rfl⟩
          obtain ⟨r19, Hr19⟩ : ∃ r, Hid (rotr y2 (UInt32.ofNat 19) = r) := ⟨_, rfl⟩
          obtain ⟨v10, Hv10⟩ : ∃ r, Hid (y2 >>> (UInt32.ofNat 10) = r) := ⟨_, rfl⟩
          have x1 := xor_i64 r7 r18
          obtain ⟨za, Hza⟩ : ∃ z, Hid (r7 ^^^ r18 = z) := ⟨_, rfl⟩
          rw [Hza.out] at x1
          have x2 := xor_i64 za v3
          have x3 := xor_i64 r17 r19
          obtain ⟨zb, Hzb⟩ : ∃ z, Hid (r17 ^^^ r19 = z) := ⟨_, rfl⟩
          rw [Hzb.out] at x3
          have x4 := xor_i64 zb v10
          have Hs0 : Hid (za ^^^ v3 = s0 y15) := by show _ = _; rw [← Hza.out, ← Hr7.out, ← Hr18.out, ← Hv3.out]; rfl
          have Hs1 : Hid (zb ^^^ v10 = s1 y2) := by show _ = _; rw [← Hzb.out, ← Hr17.out, ← Hr19.out, ← Hv10.out]; rfl
          rw [Hs0.out] at x2
          rw [Hs1.out] at x4
          clear Hs0 Hs1 Hza Hzb
          generalize s0 y15 = S0 at *
          generalize s1 y2 = S1 at *
          obtain ⟨D1, D2, D3, f1, f2, f3, f4⟩ := sum4 S1 y7 S0 y16
          obtain ⟨E, HE⟩ : ∃ E, Hid (S1 + y7 + S0 + y16 = E) := ⟨_, rfl⟩
          rw [HE.out] at f4 Hext
          clear HE
          go_wp2_with fail
          refine wp_region_perm (fun W => W = wr.drew) [0, 1, 2, 3, 4, 6, 7, 8, 9, 10, 13, 14, 15, 16, 17, 5, 11, 12, 18, 19, 20] [true, true, true, true, true, true, true, true, true, true, true, true, true, true, true, false, false, true, false, true, true] (by kernel_rfl) (by kernel_rfl) (fun c a d v w h => by cases d <;> exact h) rfl ?_
          simp only [permute, List.getD_cons_zero, List.getD_cons_succ]
          refine wpOrd_yes ?_ rfl (fun W hW => ?_) ?_
          rotate_left
          · subst hW; go_simp; with_reducible rfl
          simp only [Act.put, List.setIfInBounds_toArray, List.set_cons_zero, List.set_cons_succ]
          refine wpOrd_yes ?_ rfl (fun W hW => ?_) ?_
          rotate_left
          · subst hW; go_simp; with_reducible rfl
          simp only [Act.put, List.setIfInBounds_toArray, List.set_cons_zero, List.set_cons_succ]
          refine wpOrd_yes ?_ rfl (fun W hW => ?_) ?_
          rotate_left
          · subst hW; go_simp; with_reducible rfl
          simp only [Act.put, List.setIfInBounds_toArray, List.set_cons_zero, List.set_cons_succ]
          refine wpOrd_yes ?_ rfl (fun W hW => ?_) ?_
          rotate_left
          · subst hW; go_simp; with_reducible rfl
          simp only [Act.put, List.setIfInBounds_toArray, List.set_cons_zero, List.set_cons_succ]
          refine wpOrd_yes ?_ rfl (fun W hW => ?_) ?_
          rotate_left
          · subst hW; go_simp; with_reducible rfl
          simp only [Act.put, List.setIfInBounds_toArray, List.set_cons_zero, List.set_cons_succ]
          refine wpOrd_yes ?_ rfl (fun W hW => ?_) ?_
          rotate_left
          · subst hW; go_simp; with_reducible rfl
          simp only [Act.put, List.setIfInBounds_toArray, List.set_cons_zero, List.set_cons_succ]
          refine wpOrd_yes ?_ rfl (fun W hW => ?_) ?_
          rotate_left
          · subst hW; go_simp; with_reducible rfl
          simp only [Act.put, List.setIfInBounds_toArray, List.set_cons_zero, List.set_cons_succ]
          refine wpOrd_yes ?_ rfl (fun W hW => ?_) ?_
          rotate_left
          · subst hW; go_simp; with_reducible rfl
          simp only [Act.put, List.setIfInBounds_toArray, List.set_cons_zero, List.set_cons_succ]
          refine wpOrd_yes ?_ rfl (fun W hW => ?_) ?_
          rotate_left
          · subst hW; go_simp; with_reducible rfl
          simp only [Act.put, List.setIfInBounds_toArray, List.set_cons_zero, List.set_cons_succ]
          refine wpOrd_yes ?_ rfl (fun W hW => ?_) ?_
          rotate_left
          · subst hW; go_simp; with_reducible rfl
          simp only [Act.put, List.setIfInBounds_toArray, List.set_cons_zero, List.set_cons_succ]
          refine wpOrd_yes ?_ rfl (fun W hW => ?_) ?_
          rotate_left
          · subst hW; go_simp; with_reducible rfl
          simp only [Act.put, List.setIfInBounds_toArray, List.set_cons_zero, List.set_cons_succ]
          refine wpOrd_yes ?_ rfl (fun W hW => ?_) ?_
          rotate_left
          · subst hW; go_simp; with_reducible rfl
          simp only [Act.put, List.setIfInBounds_toArray, List.set_cons_zero, List.set_cons_succ]
          refine wpOrd_yes ?_ rfl (fun W hW => ?_) ?_
          rotate_left
          · subst hW; go_simp; with_reducible rfl
          simp only [Act.put, List.setIfInBounds_toArray, List.set_cons_zero, List.set_cons_succ]
          refine wpOrd_yes ?_ rfl (fun W hW => ?_) ?_
          rotate_left
          · subst hW; go_simp; with_reducible rfl
          simp only [Act.put, List.setIfInBounds_toArray, List.set_cons_zero, List.set_cons_succ]
          refine wpOrd_yes ?_ rfl (fun W hW => ?_) ?_
          rotate_left
          · subst hW; go_simp; with_reducible rfl
          simp only [Act.put, List.setIfInBounds_toArray, List.set_cons_zero, List.set_cons_succ]
          refine wpOrd_call 28 [.tmp 67, .const (.int .i64 7)] #[3, 3] [.int .i64 y15.toNat, .int .i64 7] rfl rfl Tryd.func28 rfl (by kernel_rfl) rfl ((ref_rot y15 7 7 r7 _ rfl (by omega) (by omega) Hr7.out).mono ?_)
          rintro e w' ⟨rfl, rfl⟩
          refine ⟨_, rfl, rfl, ?_⟩
          simp only [Act.put, List.setIfInBounds_toArray, List.set_cons_zero, List.set_cons_succ]
          refine wpOrd_call 28 [.tmp 73, .const (.int .i64 18)] #[3, 3] [.int .i64 y15.toNat, .int .i64 18] rfl rfl Tryd.func28 rfl (by kernel_rfl) rfl ((ref_rot y15 18 18 r18 _ rfl (by omega) (by omega) Hr18.out).mono ?_)
          rintro e w' ⟨rfl, rfl⟩
          refine ⟨_, rfl, rfl, ?_⟩
          simp only [Act.put, List.setIfInBounds_toArray, List.set_cons_zero, List.set_cons_succ]
          refine wpOrd_yes ?_ rfl (fun W hW => ?_) ?_
          rotate_left
          · subst hW; go_simp; with_reducible rfl
          simp only [Act.put, List.setIfInBounds_toArray, List.set_cons_zero, List.set_cons_succ]
          refine wpOrd_call 29 [.tmp 80, .const (.int .i64 3)] #[3, 3] [.int .i64 y15.toNat, .int .i64 3] rfl rfl Tryd.func29 rfl (by kernel_rfl) rfl ((ref_mov y15 3 3 v3 _ rfl (by omega) Hv3.out).mono ?_)
          rintro e w' ⟨rfl, rfl⟩
          refine ⟨_, rfl, rfl, ?_⟩
          simp only [Act.put, List.setIfInBounds_toArray, List.set_cons_zero, List.set_cons_succ]
          refine wpOrd_yes ?_ rfl (fun W hW => ?_) ?_
          rotate_left
          · subst hW; go_simp; with_reducible rfl
          simp only [Act.put, List.setIfInBounds_toArray, List.set_cons_zero, List.set_cons_succ]
          refine wpOrd_yes ?_ rfl (fun W hW => ?_) ?_
          rotate_left
          · subst hW; go_simp; with_reducible rfl
          simp only [Act.put, List.setIfInBounds_toArray, List.set_cons_zero, List.set_cons_succ]
          refine wpOrd_nil ?_
          clear Hr7 Hr18 Hv3 x1 x2 c15 n15 m15 p15 q15
          go_wp2_with fail
          refine wp_region_perm (fun W => W = wr.drew.drew) [0, 1, 2, 3, 4, 6, 7, 8, 9, 10, 13, 14, 15, 16, 17, 5, 11, 12, 18, 19, 20] [true, true, true, true, true, true, true, true, true, true, true, true, true, true, true, false, false, true, false, true, true] (by kernel_rfl) (by kernel_rfl) (fun c a d v w h => by cases d <;> exact h) rfl ?_
          simp only [permute, List.getD_cons_zero, List.getD_cons_succ]
          refine wpOrd_yes ?_ rfl (fun W hW => ?_) ?_
          rotate_left
          · subst hW; go_simp; with_reducible rfl
          simp only [Act.put, List.setIfInBounds_toArray, List.set_cons_zero, List.set_cons_succ]
          refine wpOrd_yes ?_ rfl (fun W hW => ?_) ?_
          rotate_left
          · subst hW; go_simp; with_reducible rfl
          simp only [Act.put, List.setIfInBounds_toArray, List.set_cons_zero, List.set_cons_succ]
          refine wpOrd_yes ?_ rfl (fun W hW => ?_) ?_
          rotate_left
          · subst hW; go_simp; with_reducible rfl
          simp only [Act.put, List.setIfInBounds_toArray, List.set_cons_zero, List.set_cons_succ]
          refine wpOrd_yes ?_ rfl (fun W hW => ?_) ?_
          rotate_left
          · subst hW; go_simp; with_reducible rfl
          simp only [Act.put, List.setIfInBounds_toArray, List.set_cons_zero, List.set_cons_succ]
          refine wpOrd_yes ?_ rfl (fun W hW => ?_) ?_
          rotate_left
          · subst hW; go_simp; with_reducible rfl
          simp only [Act.put, List.setIfInBounds_toArray, List.set_cons_zero, List.set_cons_succ]
          refine wpOrd_yes ?_ rfl (fun W hW => ?_) ?_
          rotate_left
          · subst hW; go_simp; with_reducible rfl
          simp only [Act.put, List.setIfInBounds_toArray, List.set_cons_zero, List.set_cons_succ]
          refine wpOrd_yes ?_ rfl (fun W hW => ?_) ?_
          rotate_left
          · subst hW; go_simp; with_reducible rfl
          simp only [Act.put, List.setIfInBounds_toArray, List.set_cons_zero, List.set_cons_succ]
          refine wpOrd_yes ?_ rfl (fun W hW => ?_) ?_
          rotate_left
          · subst hW; go_simp; with_reducible rfl
          simp only [Act.put, List.setIfInBounds_toArray, List.set_cons_zero, List.set_cons_succ]
          refine wpOrd_yes ?_ rfl (fun W hW => ?_) ?_
          rotate_left
          · subst hW; go_simp; with_reducible rfl
          simp only [Act.put, List.setIfInBounds_toArray, List.set_cons_zero, List.set_cons_succ]
          refine wpOrd_yes ?_ rfl (fun W hW => ?_) ?_
          rotate_left
          · subst hW; go_simp; with_reducible rfl
          simp only [Act.put, List.setIfInBounds_toArray, List.set_cons_zero, List.set_cons_succ]
          refine wpOrd_yes ?_ rfl (fun W hW => ?_) ?_
          rotate_left
          · subst hW; go_simp; with_reducible rfl
          simp only [Act.put, List.setIfInBounds_toArray, List.set_cons_zero, List.set_cons_succ]
          refine wpOrd_yes ?_ rfl (fun W hW => ?_) ?_
          rotate_left
          · subst hW; go_simp; with_reducible rfl
          simp only [Act.put, List.setIfInBounds_toArray, List.set_cons_zero, List.set_cons_succ]
          refine wpOrd_yes ?_ rfl (fun W hW => ?_) ?_
          rotate_left
          · subst hW; go_simp; with_reducible rfl
          simp only [Act.put, List.setIfInBounds_toArray, List.set_cons_zero, List.set_cons_succ]
          refine wpOrd_yes ?_ rfl (fun W hW => ?_) ?_
          rotate_left
          · subst hW; go_simp; with_reducible rfl
          simp only [Act.put, List.setIfInBounds_toArray, List.set_cons_zero, List.set_cons_succ]
          refine wpOrd_yes ?_ rfl (fun W hW => ?_) ?_
          rotate_left
          · subst hW; go_simp; with_reducible rfl
          simp only [Act.put, List.setIfInBounds_toArray, List.set_cons_zero, List.set_cons_succ]
          refine wpOrd_call 28 [.tmp 87, .const (.int .i64 17)] #[3, 3] [.int .i64 y2.toNat, .int .i64 17] rfl rfl Tryd.func28 rfl (by kernel_rfl) rfl ((ref_rot y2 17 17 r17 _ rfl (by omega) (by omega) Hr17.out).mono ?_)
          rintro e w' ⟨rfl, rfl⟩
          refine ⟨_, rfl, rfl, ?_⟩
          simp only [Act.put, List.setIfInBounds_toArray, List.set_cons_zero, List.set_cons_succ]
          refine wpOrd_call 28 [.tmp 93, .const (.int .i64 19)] #[3, 3] [.int .i64 y2.toNat, .int .i64 19] rfl rfl Tryd.func28 rfl (by kernel_rfl) rfl ((ref_rot y2 19 19 r19 _ rfl (by omega) (by omega) Hr19.out).mono ?_)
          rintro e w' ⟨rfl, rfl⟩
          refine ⟨_, rfl, rfl, ?_⟩
          simp only [Act.put, List.setIfInBounds_toArray, List.set_cons_zero, List.set_cons_succ]
          refine wpOrd_yes ?_ rfl (fun W hW => ?_) ?_
          rotate_left
          · subst hW; go_simp; with_reducible rfl
          simp only [Act.put, List.setIfInBounds_toArray, List.set_cons_zero, List.set_cons_succ]
          refine wpOrd_call 29 [.tmp 100, .const (.int .i64 10)] #[3, 3] [.int .i64 y2.toNat, .int .i64 10] rfl rfl Tryd.func29 rfl (by kernel_rfl) rfl ((ref_mov y2 10 10 v10 _ rfl (by omega) Hv10.out).mono ?_)
          rintro e w' ⟨rfl, rfl⟩
          refine ⟨_, rfl, rfl, ?_⟩
          simp only [Act.put, List.setIfInBounds_toArray, List.set_cons_zero, List.set_cons_succ]
          refine wpOrd_yes ?_ rfl (fun W hW => ?_) ?_
          rotate_left
          · subst hW; go_simp; with_reducible rfl
          simp only [Act.put, List.setIfInBounds_toArray, List.set_cons_zero, List.set_cons_succ]
          refine wpOrd_yes ?_ rfl (fun W hW => ?_) ?_
          rotate_left
          · subst hW; go_simp; with_reducible rfl
          simp only [Act.put, List.setIfInBounds_toArray, List.set_cons_zero, List.set_cons_succ]
          refine wpOrd_nil ?_
          clear Hr17 Hr19 Hv10 x3 x4 c2 n2 m2 p2 q2
          go_wp2_with fail
          have HR3 : Hid (Row wr.drew.drew 3 1 (.slice (some ⟨g, o, none⟩) T cap) T (L.map iw)) := by
            have := HR.out.drew.drew
            rw [HlL.out] at this
            exact this
          clear c7 c16
          generalize hw2 : wr.drew.drew = w2 at *
          refine wp_region_ord (fun W => Row W 3 1 (.slice (some ⟨g, o, none⟩) T cap) T (L.map iw)) [true, true, true, true, true, true, true, true, true, true, true, true, true, true, true, true, true, false, false, true] (by kernel_rfl) (by kernel_rfl) (fun c a d v w h => by cases d <;> exact h) HR3.out.drew ?_
          refine wpOrd_yes ?_ rfl (fun W _ => ?_) ?_
          rotate_left
          · go_simp; with_reducible rfl
          simp only [Act.put, List.setIfInBounds_toArray, List.set_cons_zero, List.set_cons_succ]
          refine wpOrd_yes ?_ rfl (fun W _ => ?_) ?_
          rotate_left
          · go_simp; with_reducible rfl
          simp only [Act.put, List.setIfInBounds_toArray, List.set_cons_zero, List.set_cons_succ]
          refine wpOrd_yes ?_ rfl (fun W _ => ?_) ?_
          rotate_left
          · go_simp; with_reducible rfl
          simp only [Act.put, List.setIfInBounds_toArray, List.set_cons_zero, List.set_cons_succ]
          refine wpOrd_yes ?_ rfl (fun W _ => ?_) ?_
          rotate_left
          · go_simp; with_reducible rfl
          simp only [Act.put, List.setIfInBounds_toArray, List.set_cons_zero, List.set_cons_succ]
          refine wpOrd_yes ?_ rfl (fun W _ => ?_) ?_
          rotate_left
          · go_simp; with_reducible rfl
          simp only [Act.put, List.setIfInBounds_toArray, List.set_cons_zero, List.set_cons_succ]
          refine wpOrd_yes ?_ rfl (fun W _ => ?_) ?_
          rotate_left
          · go_simp; with_reducible rfl
          simp only [Act.put, List.setIfInBounds_toArray, List.set_cons_zero, List.set_cons_succ]
          refine wpOrd_yes ?_ rfl (fun W hW => ?_) ?_
          rotate_left
          · have hc := hW.at_ K7.out
            go_simp; with_reducible rfl
          simp only [Act.put, List.setIfInBounds_toArray, List.set_cons_zero, List.set_cons_succ]
          refine wpOrd_yes ?_ rfl (fun W _ => ?_) ?_
          rotate_left
          · go_simp; with_reducible rfl
          simp only [Act.put, List.setIfInBounds_toArray, List.set_cons_zero, List.set_cons_succ]
          refine wpOrd_yes ?_ rfl (fun W _ => ?_) ?_
          rotate_left
          · go_simp; with_reducible rfl
          simp only [Act.put, List.setIfInBounds_toArray, List.set_cons_zero, List.set_cons_succ]
          refine wpOrd_yes ?_ rfl (fun W _ => ?_) ?_
          rotate_left
          · go_simp; with_reducible rfl
          simp only [Act.put, List.setIfInBounds_toArray, List.set_cons_zero, List.set_cons_succ]
          refine wpOrd_yes ?_ rfl (fun W _ => ?_) ?_
          rotate_left
          · go_simp; with_reducible rfl
          simp only [Act.put, List.setIfInBounds_toArray, List.set_cons_zero, List.set_cons_succ]
          refine wpOrd_yes ?_ rfl (fun W _ => ?_) ?_
          rotate_left
          · go_simp; with_reducible rfl
          simp only [Act.put, List.setIfInBounds_toArray, List.set_cons_zero, List.set_cons_succ]
          refine wpOrd_yes ?_ rfl (fun W _ => ?_) ?_
          rotate_left
          · go_simp; with_reducible rfl
          simp only [Act.put, List.setIfInBounds_toArray, List.set_cons_zero, List.set_cons_succ]
          refine wpOrd_yes ?_ rfl (fun W _ => ?_) ?_
          rotate_left
          · go_simp; with_reducible rfl
          simp only [Act.put, List.setIfInBounds_toArray, List.set_cons_zero, List.set_cons_succ]
          refine wpOrd_yes ?_ rfl (fun W hW => ?_) ?_
          rotate_left
          · have hc := hW.at_ K16.out
            go_simp; with_reducible rfl
          simp only [Act.put, List.setIfInBounds_toArray, List.set_cons_zero, List.set_cons_succ]
          refine wpOrd_yes ?_ rfl (fun W _ => ?_) ?_
          rotate_left
          · go_simp; with_reducible rfl
          simp only [Act.put, List.setIfInBounds_toArray, List.set_cons_zero, List.set_cons_succ]
          refine wpOrd_yes ?_ rfl (fun W _ => ?_) ?_
          rotate_left
          · go_simp; with_reducible rfl
          simp only [Act.put, List.setIfInBounds_toArray, List.set_cons_zero, List.set_cons_succ]
          refine wpOrd_run _ _ rfl (by go_simp; exact ⟨rfl, rfl⟩) (HR3.out.alloc _).drew ?_
          simp only [Act.put, List.setIfInBounds_toArray, List.set_cons_zero, List.set_cons_succ]
          refine wpOrd_alone rfl fun K hK => wp_append_row2 _ (.tmp 103) (.tmp 120) 45 45 rfl 3 i1 _ 1 8 Tryd.underlying45 hi1 hz3 hz4 hz5 rfl (by omega) _ T (L.map iw) rfl (HR3.out.alloc _).drew (.slice (some ⟨w2.heap.size, 0, none⟩) 1 1) 1 [iw E] rfl (Row.src (Row.new w2 3 1 1 #[iw E] (by simp [maxLen]) rfl).drew Tryd.underlying45 (iw_one [E])) (by simp only [maxLen]; omega) (by omega) ?_
          intro v5 w5 hR5 hC5 hv5 hR6
          refine hK _ _ hR6 ?_
          clear hR6
          simp only [Act.put, List.setIfInBounds_toArray, List.set_cons_zero, List.set_cons_succ]
          refine wpOrd_yes ?_ rfl (fun W _ => ?_) ?_
          rotate_left
          · go_simp; with_reducible rfl
          simp only [Act.put, List.setIfInBounds_toArray, List.set_cons_zero, List.set_cons_succ]
          refine wpOrd_nil ?_
          clear n7 m7 p7 q7 n16 m16 p16 q16 f1 f2 f3 f4
          go_wp2_with fail
          go_roundg (48 - (k + 1))
          case measure => omega
          case rel =>
            have hbr2 : Below w.heap.size w w2 := by rw [← hw2]; exact below_drewN hbr 2
            refine ⟨k + 1, T + 1, by omega, by rw [HT.out]; omega, rfl, by go_num, ?_⟩
            rw [← HlL.out] at hR5
            exact ints_more hn hbr2 hR5 hC5 hv5 (by rw [Hx.out, Hext.out])
          -- LOOP2
        -- EXIT2
        · obtain rfl : k = 48 := by omega
          obtain rfl : T = 64 := by omega
          have hdec : decide ((64 : Int) < 64) = false := by simp
          have HR := Lib.hid hR
          rw [hlen] at hR
          obtain ⟨g7, o7, cap7, rfl, hob, hc1, hc2, hcl, hfr⟩ := hR.form (by omega)
          unfold maxLen at hc2
          clear hob hcl hfr
          have HS7 : Hid (Row wr 3 1 (.slice (some ⟨g7, o7, none⟩) 64 cap7) 64 ((sched s.data.toList).map iw)) := hR
          have HlS : Hid ((sched s.data.toList).length = 64) := hlen
          have Hbl : Hid (block h s.data.toList = addSt h (roundsTo (sched s.data.toList) h 64)) := rfl
          clear hR HR hlen
          generalize sched s.data.toList = WS at *
          go_wp2_with (at_builtin; (refine wpList_append_row _ rfl (.tmp 122) (.tmp 123) 45 45 rfl 3 i1 _ 1 8 Tryd.underlying45 hi1 hz3 hz4 hz5 rfl (by omega) (.slice none 0 0) 0 [] rfl (Row.nil _ _ _) (.slice (some ⟨gh, oh, none⟩) 8 caph) 8 (h.words.map iw) rfl ((Hh.out.belowAll hbr).src (by omega) Tryd.underlying45 (iw_one _)) (by simp only [maxLen]; omega) (by omega) ?_); intro v12 w3 hR12 hC12 hv12)
          have hb3 : Below wr.heap.size wr w3 := hC12.below (Nat.le_refl _) (fun k h => by simp [Value.ownBlock] at h)
          have HS3 := Lib.hid (HS7.out.belowAll hb3)
          have Hh3 := Lib.hid ((Hh.out.belowAll hbr).belowAll hb3)
          have Hk3 := Lib.hid ((Hk.out.belowAll hbr).belowAll hb3)
          have hbw3 := below_then hbr hb3 (Nat.le_refl _)
          clear HS7 hC12 hv12 hb3 hbr hdec hn hk hlt
          go_loopg [12, 13] 64 (fun m vo i w4 => ∃ (k : Nat), k ≤ 64 ∧ m = 64 - k ∧ i = .int .i64 k ∧ Row w4 3 1 vo 8 ((roundsTo WS h k).words.map iw) ∧ Below w3.heap.size w3 w4)
          case atStart => exact ⟨0, by omega, rfl, rfl, (by have := hR12; simp only [Nat.zero_add, List.nil_append] at this; exact this), Below.refl _ _⟩
          case round =>
            clear hR12
            obtain ⟨k, hk, rfl, rfl, hR, hb4⟩ := hrel
            by_cases hlt : k < 64
            · -- LOOP3
              have Hx : Hid (roundsTo WS h (k + 1) = round (roundsTo WS h k) (kTab.getD k 0) (WS.getD k 0)) := rfl
              generalize roundsTo WS h k = x at *
              obtain ⟨xa, xb, xc, xd, xe, xf, xg, xh⟩ := x
              have HV := Lib.hid hR
              obtain ⟨gv, ov, capv, rfl, hob, hv1, hv2, hcl, hfr⟩ := hR.form (by omega)
              unfold maxLen at hv2
              clear hob hcl hfr hR
              have cv0 : wr.cell? ⟨gv, ov, none⟩ = some (.int .i64 xa.toNat) := HV.out.at_ (j := 0) rfl
              have cv1 : wr.cell? ⟨gv, ov + 1, none⟩ = some (.int .i64 xb.toNat) := HV.out.at_ (j := 1) rfl
              have cv2 : wr.cell? ⟨gv, ov + 2, none⟩ = some (.int .i64 xc.toNat) := HV.out.at_ (j := 2) rfl
              have cv4 : wr.cell? ⟨gv, ov + 4, none⟩ = some (.int .i64 xe.toNat) := HV.out.at_ (j := 4) rfl
              have cv5 : wr.cell? ⟨gv, ov + 5, none⟩ = some (.int .i64 xf.toNat) := HV.out.at_ (j := 5) rfl
              have cv6 : wr.cell? ⟨gv, ov + 6, none⟩ = some (.int .i64 xg.toNat) := HV.out.at_ (j := 6) rfl
              have cv7 : wr.cell? ⟨gv, ov + 7, none⟩ = some (.int .i64 xh.toNat) := HV.out.at_ (j := 7) rfl
              have ck := (Hk3.out.belowAll hb4).at_ (by omega) (iw_at kTab k (by show k < 64; omega))
              have cw := (HS3.out.belowAll hb4).at_ (iw_at WS k (by rw [HlS.out]; omega))
              generalize kTab.getD k 0 = kk at *
              generalize WS.getD k 0 = ww at *
              have jl : (k : Int) < 64 := by omega
              have e1 := and_i64 xe xf
              obtain ⟨u1, Hu1⟩ : ∃ r, Hid (xe &&& xf = r) := ⟨_, rfl⟩
              rw [Hu1.out] at e1
              have e2 : IntKind.i64.wrap (4294967295 - (xe.toNat : Int)) = ((~~~xe).toNat : Int) := by
                rw [not_i64]; exact wrapi _ (~~~xe).toNat_lt
              obtain ⟨ne, Hne⟩ : ∃ r, Hid (~~~xe = r) := ⟨_, rfl⟩
              rw [Hne.out] at e2
              have e3 := and_i64 ne xg
              obtain ⟨u2, Hu2⟩ : ∃ r, Hid (ne &&& xg = r) := ⟨_, rfl⟩
              rw [Hu2.out] at e3
              have e4 := xor_i64 u1 u2
              obtain ⟨ch, Hch⟩ : ∃ r, Hid (u1 ^^^ u2 = r) := ⟨_, rfl⟩
              rw [Hch.out] at e4
              obtain ⟨xer6, Hxer6⟩ : ∃ r, Hid (rotr xe (UInt32.ofNat 6) = r) := ⟨_, rfl⟩
              obtain ⟨xer11, Hxer11⟩ : ∃ r, Hid (rotr xe (UInt32.ofNat 11) = r) := ⟨_, rfl⟩
              obtain ⟨xer25, Hxer25⟩ : ∃ r, Hid (rotr xe (UInt32.ofNat 25) = r) := ⟨_, rfl⟩
              have e5 := xor_i64 xer6 xer11
              obtain ⟨z1, Hz1⟩ : ∃ r, Hid (xer6 ^^^ xer11 = r) := ⟨_, rfl⟩
              rw [Hz1.out] at e5
              have e6 := xor_i64 z1 xer25
              obtain ⟨z2, Hz2⟩ : ∃ r, Hid (z1 ^^^ xer25 = r) := ⟨_, rfl⟩
              rw [Hz2.out] at e6
              obtain ⟨D1, D2, D3, D4, f1, f2, f3, f4, f5⟩ := sum5 xh z2 ch kk ww
              obtain ⟨T1, HT1⟩ : ∃ r, Hid (xh + z2 + ch + kk + ww = r) := ⟨_, rfl⟩
              rw [HT1.out] at f5
              have e7 := and_i64 xa xb
              obtain ⟨p1, Hp1⟩ : ∃ r, Hid (xa &&& xb = r) := ⟨_, rfl⟩
              rw [Hp1.out] at e7
              have e8 := and_i64 xa xc
              obtain ⟨p2, Hp2⟩ : ∃ r, Hid (xa &&& xc = r) := ⟨_, rfl⟩
              rw [Hp2.out] at e8
              have e9 := xor_i64 p1 p2
              obtain ⟨p3, Hp3⟩ : ∃ r, Hid (p1 ^^^ p2 = r) := ⟨_, rfl⟩
              rw [Hp3.out] at e9
              have e10 := and_i64 xb xc
              obtain ⟨p4, Hp4⟩ : ∃ r, Hid (xb &&& xc = r) := ⟨_, rfl⟩
              rw [Hp4.out] at e10
              have e11 := xor_i64 p3 p4
              obtain ⟨mj, Hmj⟩ : ∃ r, Hid (p3 ^^^ p4 = r) := ⟨_, rfl⟩
              rw [Hmj.out] at e11
              obtain ⟨xar2, Hxar2⟩ : ∃ r, Hid (rotr xa (UInt32.ofNat 2) = r) := ⟨_, rfl⟩
              obtain ⟨xar13, Hxar13⟩ : ∃ r, Hid (rotr xa (UInt32.ofNat 13) = r) := ⟨_, rfl⟩
              obtain ⟨xar22, Hxar22⟩ : ∃ r, Hid (rotr xa (UInt32.ofNat 22) = r) := ⟨_, rfl⟩
              have e12 := xor_i64 xar2 xar13
              obtain ⟨z3, Hz3⟩ : ∃ r, Hid (xar2 ^^^ xar13 = r) := ⟨_, rfl⟩
              rw [Hz3.out] at e12
              have e13 := xor_i64 z3 xar22
              obtain ⟨z4, Hz4⟩ : ∃ r, Hid (z3 ^^^ xar22 = r) := ⟨_, rfl⟩
              rw [Hz4.out] at e13
              have HTe : Hid (t1 ⟨xa, xb, xc, xd, xe, xf, xg, xh⟩ kk ww = T1) := by
                show _ = _
                rw [← HT1.out, ← Hz2.out, ← Hz1.out, ← Hxer6.out, ← Hxer11.out, ← Hxer25.out, ← Hch.out, ← Hu1.out, ← Hu2.out, ← Hne.out]; rfl
              obtain ⟨G14, g14, e14⟩ := sum2 z4 mj
              obtain ⟨T2, HT2⟩ : ∃ r, Hid (z4 + mj = r) := ⟨_, rfl⟩
              rw [HT2.out] at e14
              have HTf : Hid (t2 ⟨xa, xb, xc, xd, xe, xf, xg, xh⟩ = T2) := by
                show _ = _
                rw [← HT2.out, ← Hz4.out, ← Hz3.out, ← Hxar2.out, ← Hxar13.out, ← Hxar22.out, ← Hmj.out, ← Hp3.out, ← Hp1.out, ← Hp2.out, ← Hp4.out]; rfl
              obtain ⟨G15, g15, e15⟩ := sum2 T1 T2
              obtain ⟨NA, HNA⟩ : ∃ r, Hid (T1 + T2 = r) := ⟨_, rfl⟩
              rw [HNA.out] at e15
              obtain ⟨G16, g16, e16⟩ := sum2 xd T1
              obtain ⟨NE, HNE⟩ : ∃ r, Hid (xd + T1 = r) := ⟨_, rfl⟩
              rw [HNE.out] at e16
              have Hrd : Hid (round ⟨xa, xb, xc, xd, xe, xf, xg, xh⟩ kk ww = ⟨NA, xa, xb, xc, NE, xe, xf, xg⟩) := by
                show _ = _
                unfold round
                rw [HTe.out, HTf.out, HNA.out, HNE.out]
              clear Hz1 Hz2 Hz3 Hz4 Hch Hu1 Hu2 Hne HT1 HT2 Hmj Hp1 Hp2 Hp3 Hp4 HTe HTf HNA HNE
              have E14 := Lib.hid (And.intro g14 e14); clear g14 e14
              have E15 := Lib.hid (And.intro g15 e15); clear g15 e15
              have E16 := Lib.hid (And.intro g16 e16); clear g16 e16
              go_wp2_with fail
              refine wp_region_perm (fun W => W = wr.drew) [0, 1, 2, 3, 4, 5, 6, 7, 8, 9, 10, 11, 12] [true, true, true, true, true, true, true, true, true, true, true, true, true] (by kernel_rfl) (by kernel_rfl) (fun c a d v w h => by cases d <;> exact h) rfl ?_
              simp only [permute, List.getD_cons_zero, List.getD_cons_succ]
              refine wpOrd_yes ?_ rfl (fun W hW => ?_) ?_
              rotate_left
              · subst hW; go_simp; with_reducible rfl
              simp only [Act.put, List.setIfInBounds_toArray, List.set_cons_zero, List.set_cons_succ]
              refine wpOrd_yes ?_ rfl (fun W hW => ?_) ?_
              rotate_left
              · subst hW; go_simp; with_reducible rfl
              simp only [Act.put, List.setIfInBounds_toArray, List.set_cons_zero, List.set_cons_succ]
              refine wpOrd_yes ?_ rfl (fun W hW => ?_) ?_
              rotate_left
              · subst hW; go_simp; with_reducible rfl
              simp only [Act.put, List.setIfInBounds_toArray, List.set_cons_zero, List.set_cons_succ]
              refine wpOrd_yes ?_ rfl (fun W hW => ?_) ?_
              rotate_left
              · subst hW; go_simp; with_reducible rfl
              simp only [Act.put, List.setIfInBounds_toArray, List.set_cons_zero, List.set_cons_succ]
              refine wpOrd_yes ?_ rfl (fun W hW => ?_) ?_
              rotate_left
              · subst hW; go_simp; with_reducible rfl
              simp only [Act.put, List.setIfInBounds_toArray, List.set_cons_zero, List.set_cons_succ]
              refine wpOrd_yes ?_ rfl (fun W hW => ?_) ?_
              rotate_left
              · subst hW; go_simp; with_reducible rfl
              simp only [Act.put, List.setIfInBounds_toArray, List.set_cons_zero, List.set_cons_succ]
              refine wpOrd_yes ?_ rfl (fun W hW => ?_) ?_
              rotate_left
              · subst hW; go_simp; with_reducible rfl
              simp only [Act.put, List.setIfInBounds_toArray, List.set_cons_zero, List.set_cons_succ]
              refine wpOrd_yes ?_ rfl (fun W hW => ?_) ?_
              rotate_left
              · subst hW; go_simp; with_reducible rfl
              simp only [Act.put, List.setIfInBounds_toArray, List.set_cons_zero, List.set_cons_succ]
              refine wpOrd_yes ?_ rfl (fun W hW => ?_) ?_
              rotate_left
              · subst hW; go_simp; with_reducible rfl
              simp only [Act.put, List.setIfInBounds_toArray, List.set_cons_zero, List.set_cons_succ]
              refine wpOrd_yes ?_ rfl (fun W hW => ?_) ?_
              rotate_left
              · subst hW; go_simp; with_reducible rfl
              simp only [Act.put, List.setIfInBounds_toArray, List.set_cons_zero, List.set_cons_succ]
              refine wpOrd_yes ?_ rfl (fun W hW => ?_) ?_
              rotate_left
              · subst hW; go_simp; with_reducible rfl
              simp only [Act.put, List.setIfInBounds_toArray, List.set_cons_zero, List.set_cons_succ]
              refine wpOrd_yes ?_ rfl (fun W hW => ?_) ?_
              rotate_left
              · subst hW; go_simp; with_reducible rfl
              simp only [Act.put, List.setIfInBounds_toArray, List.set_cons_zero, List.set_cons_succ]
              refine wpOrd_yes ?_ rfl (fun W hW => ?_) ?_
              rotate_left
              · subst hW; go_simp; with_reducible rfl
              simp only [Act.put, List.setIfInBounds_toArray, List.set_cons_zero, List.set_cons_succ]
              refine wpOrd_nil ?_
              clear e1 e2 e3 e4 cv5 cv6
              go_wp2_with fail
              refine wp_region_perm (fun W => W = wr.drew.drew) [0, 1, 2, 3, 5, 8, 12, 14, 15, 16, 17, 19, 20, 21, 22, 4, 6, 7, 9, 10, 11, 13, 18, 23, 24, 25] [true, true, true, true, true, true, true, true, true, true, true, true, true, true, true, false, false, true, false, true, true, true, true, true, true, true] (by kernel_rfl) (by kernel_rfl) (fun c a d v w h => by cases d <;> exact h) rfl ?_
              simp only [permute, List.getD_cons_zero, List.getD_cons_succ]
              refine wpOrd_yes ?_ rfl (fun W hW => ?_) ?_
              rotate_left
              · subst hW; go_simp; with_reducible rfl
              simp only [Act.put, List.setIfInBounds_toArray, List.set_cons_zero, List.set_cons_succ]
              refine wpOrd_yes ?_ rfl (fun W hW => ?_) ?_
              rotate_left
              · subst hW; go_simp; with_reducible rfl
              simp only [Act.put, List.setIfInBounds_toArray, List.set_cons_zero, List.set_cons_succ]
              refine wpOrd_yes ?_ rfl (fun W hW => ?_) ?_
              rotate_left
              · subst hW; go_simp; with_reducible rfl
              simp only [Act.put, List.setIfInBounds_toArray, List.set_cons_zero, List.set_cons_succ]
              refine wpOrd_yes ?_ rfl (fun W hW => ?_) ?_
              rotate_left
              · subst hW; go_simp; with_reducible rfl
              simp only [Act.put, List.setIfInBounds_toArray, List.set_cons_zero, List.set_cons_succ]
              refine wpOrd_yes ?_ rfl (fun W hW => ?_) ?_
              rotate_left
              · subst hW; go_simp; with_reducible rfl
              simp only [Act.put, List.setIfInBounds_toArray, List.set_cons_zero, List.set_cons_succ]
              refine wpOrd_yes ?_ rfl (fun W hW => ?_) ?_
              rotate_left
              · subst hW; go_simp; with_reducible rfl
              simp only [Act.put, List.setIfInBounds_toArray, List.set_cons_zero, List.set_cons_succ]
              refine wpOrd_yes ?_ rfl (fun W hW => ?_) ?_
              rotate_left
              · subst hW; go_simp; with_reducible rfl
              simp only [Act.put, List.setIfInBounds_toArray, List.set_cons_zero, List.set_cons_succ]
              refine wpOrd_yes ?_ rfl (fun W hW => ?_) ?_
              rotate_left
              · subst hW; go_simp; with_reducible rfl
              simp only [Act.put, List.setIfInBounds_toArray, List.set_cons_zero, List.set_cons_succ]
              refine wpOrd_yes ?_ rfl (fun W hW => ?_) ?_
              rotate_left
              · subst hW; go_simp; with_reducible rfl
              simp only [Act.put, List.setIfInBounds_toArray, List.set_cons_zero, List.set_cons_succ]
              refine wpOrd_yes ?_ rfl (fun W hW => ?_) ?_
              rotate_left
              · subst hW; go_simp; with_reducible rfl
              simp only [Act.put, List.setIfInBounds_toArray, List.set_cons_zero, List.set_cons_succ]
              refine wpOrd_yes ?_ rfl (fun W hW => ?_) ?_
              rotate_left
              · subst hW; go_simp; with_reducible rfl
              simp only [Act.put, List.setIfInBounds_toArray, List.set_cons_zero, List.set_cons_succ]
              refine wpOrd_yes ?_ rfl (fun W hW => ?_) ?_
              rotate_left
              · subst hW; go_simp; with_reducible rfl
              simp only [Act.put, List.setIfInBounds_toArray, List.set_cons_zero, List.set_cons_succ]
              refine wpOrd_yes ?_ rfl (fun W hW => ?_) ?_
              rotate_left
              · subst hW; go_simp; with_reducible rfl
              simp only [Act.put, List.setIfInBounds_toArray, List.set_cons_zero, List.set_cons_succ]
              refine wpOrd_yes ?_ rfl (fun W hW => ?_) ?_
              rotate_left
              · subst hW; go_simp; with_reducible rfl
              simp only [Act.put, List.setIfInBounds_toArray, List.set_cons_zero, List.set_cons_succ]
              refine wpOrd_yes ?_ rfl (fun W hW => ?_) ?_
              rotate_left
              · subst hW; go_simp; with_reducible rfl
              simp only [Act.put, List.setIfInBounds_toArray, List.set_cons_zero, List.set_cons_succ]
              refine wpOrd_call 28 [.tmp 150, .const (.int .i64 6)] #[3, 3] [.int .i64 xe.toNat, .int .i64 6] rfl rfl Tryd.func28 rfl (by kernel_rfl) rfl ((ref_rot xe 6 6 xer6 _ rfl (by omega) (by omega) Hxer6.out).mono ?_)
              rintro e w' ⟨rfl, rfl⟩
              refine ⟨_, rfl, rfl, ?_⟩
              simp only [Act.put, List.setIfInBounds_toArray, List.set_cons_zero, List.set_cons_succ]
              refine wpOrd_call 28 [.tmp 152, .const (.int .i64 11)] #[3, 3] [.int .i64 xe.toNat, .int .i64 11] rfl rfl Tryd.func28 rfl (by kernel_rfl) rfl ((ref_rot xe 11 11 xer11 _ rfl (by omega) (by omega) Hxer11.out).mono ?_)
              rintro e w' ⟨rfl, rfl⟩
              refine ⟨_, rfl, rfl, ?_⟩
              simp only [Act.put, List.setIfInBounds_toArray, List.set_cons_zero, List.set_cons_succ]
              refine wpOrd_yes ?_ rfl (fun W hW => ?_) ?_
              rotate_left
              · subst hW; go_simp; with_reducible rfl
              simp only [Act.put, List.setIfInBounds_toArray, List.set_cons_zero, List.set_cons_succ]
              refine wpOrd_call 28 [.tmp 155, .const (.int .i64 25)] #[3, 3] [.int .i64 xe.toNat, .int .i64 25] rfl rfl Tryd.func28 rfl (by kernel_rfl) rfl ((ref_rot xe 25 25 xer25 _ rfl (by omega) (by omega) Hxer25.out).mono ?_)
              rintro e w' ⟨rfl, rfl⟩
              refine ⟨_, rfl, rfl, ?_⟩
              simp only [Act.put, List.setIfInBounds_toArray, List.set_cons_zero, List.set_cons_succ]
              refine wpOrd_yes ?_ rfl (fun W hW => ?_) ?_
              rotate_left
              · subst hW; go_simp; with_reducible rfl
              simp only [Act.put, List.setIfInBounds_toArray, List.set_cons_zero, List.set_cons_succ]
              refine wpOrd_yes ?_ rfl (fun W hW => ?_) ?_
              rotate_left
              · subst hW; go_simp; with_reducible rfl
              simp only [Act.put, List.setIfInBounds_toArray, List.set_cons_zero, List.set_cons_succ]
              refine wpOrd_yes ?_ rfl (fun W hW => ?_) ?_
              rotate_left
              · subst hW; go_simp; with_reducible rfl
              simp only [Act.put, List.setIfInBounds_toArray, List.set_cons_zero, List.set_cons_succ]
              refine wpOrd_yes ?_ rfl (fun W hW => ?_) ?_
              rotate_left
              · subst hW; go_simp; with_reducible rfl
              simp only [Act.put, List.setIfInBounds_toArray, List.set_cons_zero, List.set_cons_succ]
              refine wpOrd_yes ?_ rfl (fun W hW => ?_) ?_
              rotate_left
              · subst hW; go_simp; with_reducible rfl
              simp only [Act.put, List.setIfInBounds_toArray, List.set_cons_zero, List.set_cons_succ]
              refine wpOrd_yes ?_ rfl (fun W hW => ?_) ?_
              rotate_left
              · subst hW; go_simp; with_reducible rfl
              simp only [Act.put, List.setIfInBounds_toArray, List.set_cons_zero, List.set_cons_succ]
              refine wpOrd_yes ?_ rfl (fun W hW => ?_) ?_
              rotate_left
              · subst hW; go_simp; with_reducible rfl
              simp only [Act.put, List.setIfInBounds_toArray, List.set_cons_zero, List.set_cons_succ]
              refine wpOrd_nil ?_
              clear e5 e6 f1 f2 f3 f4 f5 ck cw cv7
              go_wp2_with fail
              refine wp_region_perm (fun W => W = wr.drew.drew.drew) [0, 1, 2, 3, 4, 5, 6, 7, 8, 9, 10, 11, 12, 13, 14, 15, 16, 17, 18, 19] [true, true, true, true, true, true, true, true, true, true, true, true, true, true, true, true, true, true, true, true] (by kernel_rfl) (by kernel_rfl) (fun c a d v w h => by cases d <;> exact h) rfl ?_
              simp only [permute, List.getD_cons_zero, List.getD_cons_succ]
              refine wpOrd_yes ?_ rfl (fun W hW => ?_) ?_
              rotate_left
              · subst hW; go_simp; with_reducible rfl
              simp only [Act.put, List.setIfInBounds_toArray, List.set_cons_zero, List.set_cons_succ]
              refine wpOrd_yes ?_ rfl (fun W hW => ?_) ?_
              rotate_left
              · subst hW; go_simp; with_reducible rfl
              simp only [Act.put, List.setIfInBounds_toArray, List.set_cons_zero, List.set_cons_succ]
              refine wpOrd_yes ?_ rfl (fun W hW => ?_) ?_
              rotate_left
              · subst hW; go_simp; with_reducible rfl
              simp only [Act.put, List.setIfInBounds_toArray, List.set_cons_zero, List.set_cons_succ]
              refine wpOrd_yes ?_ rfl (fun W hW => ?_) ?_
              rotate_left
              · subst hW; go_simp; with_reducible rfl
              simp only [Act.put, List.setIfInBounds_toArray, List.set_cons_zero, List.set_cons_succ]
              refine wpOrd_yes ?_ rfl (fun W hW => ?_) ?_
              rotate_left
              · subst hW; go_simp; with_reducible rfl
              simp only [Act.put, List.setIfInBounds_toArray, List.set_cons_zero, List.set_cons_succ]
              refine wpOrd_yes ?_ rfl (fun W hW => ?_) ?_
              rotate_left
              · subst hW; go_simp; with_reducible rfl
              simp only [Act.put, List.setIfInBounds_toArray, List.set_cons_zero, List.set_cons_succ]
              refine wpOrd_yes ?_ rfl (fun W hW => ?_) ?_
              rotate_left
              · subst hW; go_simp; with_reducible rfl
              simp only [Act.put, List.setIfInBounds_toArray, List.set_cons_zero, List.set_cons_succ]
              refine wpOrd_yes ?_ rfl (fun W hW => ?_) ?_
              rotate_left
              · subst hW; go_simp; with_reducible rfl
              simp only [Act.put, List.setIfInBounds_toArray, List.set_cons_zero, List.set_cons_succ]
              refine wpOrd_yes ?_ rfl (fun W hW => ?_) ?_
              rotate_left
              · subst hW; go_simp; with_reducible rfl
              simp only [Act.put, List.setIfInBounds_toArray, List.set_cons_zero, List.set_cons_succ]
              refine wpOrd_yes ?_ rfl (fun W hW => ?_) ?_
              rotate_left
              · subst hW; go_simp; with_reducible rfl
              simp only [Act.put, List.setIfInBounds_toArray, List.set_cons_zero, List.set_cons_succ]
              refine wpOrd_yes ?_ rfl (fun W hW => ?_) ?_
              rotate_left
              · subst hW; go_simp; with_reducible rfl
              simp only [Act.put, List.setIfInBounds_toArray, List.set_cons_zero, List.set_cons_succ]
              refine wpOrd_yes ?_ rfl (fun W hW => ?_) ?_
              rotate_left
              · subst hW; go_simp; with_reducible rfl
              simp only [Act.put, List.setIfInBounds_toArray, List.set_cons_zero, List.set_cons_succ]
              refine wpOrd_yes ?_ rfl (fun W hW => ?_) ?_
              rotate_left
              · subst hW; go_simp; with_reducible rfl
              simp only [Act.put, List.setIfInBounds_toArray, List.set_cons_zero, List.set_cons_succ]
              refine wpOrd_yes ?_ rfl (fun W hW => ?_) ?_
              rotate_left
              · subst hW; go_simp; with_reducible rfl
              simp only [Act.put, List.setIfInBounds_toArray, List.set_cons_zero, List.set_cons_succ]
              refine wpOrd_yes ?_ rfl (fun W hW => ?_) ?_
              rotate_left
              · subst hW; go_simp; with_reducible rfl
              simp only [Act.put, List.setIfInBounds_toArray, List.set_cons_zero, List.set_cons_succ]
              refine wpOrd_yes ?_ rfl (fun W hW => ?_) ?_
              rotate_left
              · subst hW; go_simp; with_reducible rfl
              simp only [Act.put, List.setIfInBounds_toArray, List.set_cons_zero, List.set_cons_succ]
              refine wpOrd_yes ?_ rfl (fun W hW => ?_) ?_
              rotate_left
              · subst hW; go_simp; with_reducible rfl
              simp only [Act.put, List.setIfInBounds_toArray, List.set_cons_zero, List.set_cons_succ]
              refine wpOrd_yes ?_ rfl (fun W hW => ?_) ?_
              rotate_left
              · subst hW; go_simp; with_reducible rfl
              simp only [Act.put, List.setIfInBounds_toArray, List.set_cons_zero, List.set_cons_succ]
              refine wpOrd_yes ?_ rfl (fun W hW => ?_) ?_
              rotate_left
              · subst hW; go_simp; with_reducible rfl
              simp only [Act.put, List.setIfInBounds_toArray, List.set_cons_zero, List.set_cons_succ]
              refine wpOrd_yes ?_ rfl (fun W hW => ?_) ?_
              rotate_left
              · subst hW; go_simp; with_reducible rfl
              simp only [Act.put, List.setIfInBounds_toArray, List.set_cons_zero, List.set_cons_succ]
              refine wpOrd_nil ?_
              clear e7 e8 e9 e10 e11
              have HV5 := Lib.hid HV.out.drew.drew.drew
              have hb5 := below_drewN hb4 3
              change Below w3.heap.size w3 wr.drew.drew.drew at hb5
              clear HV cv0 cv1 cv2 cv4 hb4
              generalize wr.drew.drew.drew = w5 at *
              have e14 := E14.out.2
              have g14 := E14.out.1
              go_upto_region 23 with (go_at_call 28; first
                | ((with_reducible refine (ref_rot xa 2 2 xar2 _ rfl (by omega) (by omega) Hxar2.out).mono ?_); rintro e w' ⟨rfl, rfl⟩)
                | ((with_reducible refine (ref_rot xa 13 13 xar13 _ rfl (by omega) (by omega) Hxar13.out).mono ?_); rintro e w' ⟨rfl, rfl⟩)
                | ((with_reducible refine (ref_rot xa 22 22 xar22 _ rfl (by omega) (by omega) Hxar22.out).mono ?_); rintro e w' ⟨rfl, rfl⟩))
              clear e12 e13 e14 g14 E14 Hxar2 Hxar13 Hxar22
              have e15 := E15.out.2
              have g15 := E15.out.1
              go_upto_region 25 with (at_builtin; (refine wpList_append_row _ rfl (.tmp 202) (.tmp 207) 45 45 rfl 3 i1 _ 1 8 Tryd.underlying45 hi1 hz3 hz4 hz5 rfl (by omega) (.slice none 0 0) 0 [] rfl (Row.nil _ _ _) (.slice (some ⟨w5.heap.size, 0, none⟩) 1 1) 1 [iw NA] rfl (Row.src (Row.new w5 3 1 1 #[iw NA] (by simp [maxLen]) rfl) Tryd.underlying45 (iw_one [NA])) (by simp only [maxLen]; omega) (by omega) ?_); intro vn w6 hR6 hC6 hv6)
              clear e15 g15 E15
              have hn6 : ∀ k, vn.ownBlock = some k → w5.heap.size ≤ k := by
                intro k hk
                rcases hv6 with h | h
                · rw [h] at hk; simp [Value.ownBlock] at hk
                · rw [h] at hk; injection hk with hk; simp at hk; omega
              have hb6 : Below w5.heap.size w5 w6 := (((Chg.refl (fun _ => False) w5).alloc _).next hC6 (fun i h => by simp [Value.ownBlock] at h)).belowAll
              have HV6 := Lib.hid ((HV5.out.belowAll hb6).firsts (m := 7) (by omega) (by omega))
              have HN6 : Hid (Row w6 3 1 vn 1 [iw NA]) := hR6
              have q7 : (7 : Int) ≤ (capv : Int) := by omega
              clear hR6 hC6 hv6 HV5
              go_upto_region 26 with (at_builtin; (refine wpList_append_row _ rfl (.tmp 209) (.tmp 211) 45 45 rfl 3 i1 _ 1 8 Tryd.underlying45 hi1 hz3 hz4 hz5 rfl (by omega) vn 1 [iw NA] rfl HN6.out (.slice (some ⟨gv, ov, none⟩) 7 capv) 7 ([xa, xb, xc, xd, xe, xf, xg].map iw) rfl (Row.src HV6.out Tryd.underlying45 (iw_one [xa, xb, xc, xd, xe, xf, xg])) (by simp only [maxLen]; omega) (by omega) ?_); intro v7 w7 hR7 hC7 hv7)
              have HN7 : Hid (Row w7 3 1 v7 8 ([NA, xa, xb, xc, xd, xe, xf, xg].map iw)) := hR7
              clear hR7 HN6 HV6
              obtain ⟨gn, on, capn, rfl, hobn, hn1, hn2, hcln, hfrn⟩ := HN7.out.form (by omega)
              have hgn : w5.heap.size ≤ gn := by
                have := hb6.size
                rcases hv7 with h | h
                · exact hn6 gn (h.symm.trans hobn)
                · rw [h] at hobn; injection hobn with hobn; omega
              have c4 : w7.cell? ⟨gn, on + 4, none⟩ = some (.int .i64 xd.toNat) := HN7.out.at_ (j := 4) rfl
              have f4 := hfrn 4 (by omega)
              unfold maxLen at hn2
              clear hcln hfrn hobn hv7
              have e16 := E16.out.2
              have g16 := E16.out.1
              go_wp2_with fail
              go_roundg (64 - (k + 1))
              case measure => omega
              case rel =>
                refine ⟨k + 1, by omega, rfl, by go_num, ?_, ?_⟩
                · rw [Hx.out, Hrd.out]
                  exact HN7.out.store 4 (by omega) (iw NE)
                · have hz := hb5.size
                  have k1 := (Chg.of_below (below_then hb5 hb6 (Nat.le_refl _)) (fun k => w3.heap.size ≤ k)).next hC7 (fun i h => .inr (by have := hn6 i h; omega))
                  exact (k1.setCell (p := ⟨gn, on + 4, none⟩) (.inr (by show _ ≤ gn; omega)) _).below (Nat.le_refl _) (fun k h => h)
            · obtain rfl : k = 64 := by omega
              have hdec : decide ((64 : Int) < 64) = false := by simp
              generalize roundsTo WS h 64 = x at *
              have hb4w := below_then hbw3 hb4 (Nat.le_refl _)
              have Hh4 := Lib.hid (Hh3.out.belowAll hb4)
              have HV4 := Lib.hid hR
              obtain ⟨gv, ov, capv, rfl, hob, hv1, hv2, hcl, hfr⟩ := hR.form (by omega)
              unfold maxLen at hv2
              clear hob hcl hfr hR hb4 HS3 Hk3 Hh3 hbw3 Hk Hh
              go_wp2_with fail
              clear hdec
              obtain ⟨w4, hw4⟩ : ∃ w4, w4 = wr := ⟨_, rfl⟩
              rw [← hw4] at Hh4 HV4 hb4w
              go_loopg [21, 22] 8 (fun m vo i wr2 => ∃ (k : Nat), k ≤ 8 ∧ m = 8 - k ∧ i = .int .i64 k ∧ IntsAt w4 wr2 vo ((addSt h x).words.take k))
              case atStart => exact ⟨0, by omega, rfl, rfl, Row.nil _ _ _, (fun k hk => by simp [Value.ownBlock] at hk), (by rw [hw4]; exact Below.refl _ _)⟩
              case round =>
                clear hw4
                obtain ⟨k, hk8, rfl, rfl, hR, hn, hbr⟩ := hrel
                have HR := Lib.hid hR; clear hR
                by_cases hlt : k < 8
                · have Kh := Lib.hid (iw_at h.words k (by show k < 8; omega))
                  have Kv := Lib.hid (iw_at x.words k (by show k < 8; omega))
                  have Hadd := Lib.hid (words_add h x k hlt)
                  have hln : ((addSt h x).words.take k).length ≤ 8 := by rw [List.length_take]; omega
                  generalize h.words.getD k 0 = yh at *
                  generalize x.words.getD k 0 = yv at *
                  obtain ⟨G1, g1, e1⟩ := sum2 yh yv
                  obtain ⟨E, HE⟩ : ∃ r, Hid (yh + yv = r) := ⟨_, rfl⟩
                  rw [HE.out] at e1
                  have jl : (k : Int) < 8 := by omega
                  go_wp2_with fail
                  refine wp_region_ord (fun W => Below w4.heap.size w4 W) [true, true, true, true, true, true, true, true, true, true, true, false, false, true] (by kernel_rfl) (by kernel_rfl) (fun c a d v w h => by cases d <;> exact h) (below_drewN hbr 1) ?_
                  refine wpOrd_yes ?_ rfl (fun W _ => ?_) ?_
                  rotate_left
                  · go_simp; with_reducible rfl
                  simp only [Act.put, List.setIfInBounds_toArray, List.set_cons_zero, List.set_cons_succ]
                  refine wpOrd_yes ?_ rfl (fun W _ => ?_) ?_
                  rotate_left
                  · go_simp; with_reducible rfl
                  simp only [Act.put, List.setIfInBounds_toArray, List.set_cons_zero, List.set_cons_succ]
                  refine wpOrd_yes ?_ rfl (fun W _ => ?_) ?_
                  rotate_left
                  · go_simp; with_reducible rfl
                  simp only [Act.put, List.setIfInBounds_toArray, List.set_cons_zero, List.set_cons_succ]
                  refine wpOrd_yes ?_ rfl (fun W _ => ?_) ?_
                  rotate_left
                  · go_simp; with_reducible rfl
                  simp only [Act.put, List.setIfInBounds_toArray, List.set_cons_zero, List.set_cons_succ]
                  refine wpOrd_yes ?_ rfl (fun W hW => ?_) ?_
                  rotate_left
                  · have hc := (Hh4.out.belowAll hW).at_ (by omega) Kh.out
                    go_simp; with_reducible rfl
                  simp only [Act.put, List.setIfInBounds_toArray, List.set_cons_zero, List.set_cons_succ]
                  refine wpOrd_yes ?_ rfl (fun W _ => ?_) ?_
                  rotate_left
                  · go_simp; with_reducible rfl
                  simp only [Act.put, List.setIfInBounds_toArray, List.set_cons_zero, List.set_cons_succ]
                  refine wpOrd_yes ?_ rfl (fun W _ => ?_) ?_
                  rotate_left
                  · go_simp; with_reducible rfl
                  simp only [Act.put, List.setIfInBounds_toArray, List.set_cons_zero, List.set_cons_succ]
                  refine wpOrd_yes ?_ rfl (fun W _ => ?_) ?_
                  rotate_left
                  · go_simp; with_reducible rfl
                  simp only [Act.put, List.setIfInBounds_toArray, List.set_cons_zero, List.set_cons_succ]
                  refine wpOrd_yes ?_ rfl (fun W hW => ?_) ?_
                  rotate_left
                  · have hc := (HV4.out.belowAll hW).at_ Kv.out
                    go_simp; with_reducible rfl
                  simp only [Act.put, List.setIfInBounds_toArray, List.set_cons_zero, List.set_cons_succ]
                  refine wpOrd_yes ?_ rfl (fun W _ => ?_) ?_
                  rotate_left
                  · go_simp; with_reducible rfl
                  simp only [Act.put, List.setIfInBounds_toArray, List.set_cons_zero, List.set_cons_succ]
                  refine wpOrd_yes ?_ rfl (fun W _ => ?_) ?_
                  rotate_left
                  · go_simp; with_reducible rfl
                  simp only [Act.put, List.setIfInBounds_toArray, List.set_cons_zero, List.set_cons_succ]
                  refine wpOrd_run _ _ rfl (by go_simp; exact ⟨rfl, rfl⟩) (below_drewN (hbr.alloc hbr.size _) 1) ?_
                  simp only [Act.put, List.setIfInBounds_toArray, List.set_cons_zero, List.set_cons_succ]
                  refine wpOrd_alone rfl fun K hK => wp_append_row _ (.tmp 226) (.tmp 237) 45 45 rfl 3 i1 _ 1 8 Tryd.underlying45 hi1 hz3 hz4 hz5 rfl (by omega) _ ((addSt h x).words.take k).length (((addSt h x).words.take k).map iw) rfl (HR.out.alloc _).drew (.slice (some ⟨wr.heap.size, 0, none⟩) 1 1) 1 [iw E] rfl (Row.src (Row.new wr 3 1 1 #[iw E] (by simp [maxLen]) rfl).drew Tryd.underlying45 (iw_one [E])) (by simp only [maxLen]; omega) (by omega) ?_
                  intro v5 w5 hR5 hC5 hv5
                  have IM := Lib.hid (ints_more (l' := (addSt h x).words.take (k + 1)) hn hbr hR5 hC5 hv5 (by rw [Hadd.out, HE.out]))
                  refine hK _ _ IM.out.2.2 ?_
                  clear hR5 hC5 hv5
                  simp only [Act.put, List.setIfInBounds_toArray, List.set_cons_zero, List.set_cons_succ]
                  refine wpOrd_yes ?_ rfl (fun W _ => ?_) ?_
                  rotate_left
                  · go_simp; with_reducible rfl
                  simp only [Act.put, List.setIfInBounds_toArray, List.set_cons_zero, List.set_cons_succ]
                  refine wpOrd_nil ?_
                  clear g1 e1
                  go_wp2_with fail
                  go_roundg (8 - (k + 1))
                  case measure => omega
                  case rel => exact ⟨k + 1, by omega, rfl, by go_num, IM.out⟩
                · obtain rfl : k = 8 := by omega
                  have hdec : decide ((8 : Int) < 8) = false := by simp
                  go_wp2_with fail
                  go_ret
                  rw [Hbl.out]
                  have hz := hb4w.size
                  exact ⟨_, rfl, HR.out, fun k hk => by have := hn k hk; omega, below_then hb4w hbr (Nat.le_refl _)⟩

        -- EXIT2
end Go.Proofs.YtkfngeckojobbaaDoor
