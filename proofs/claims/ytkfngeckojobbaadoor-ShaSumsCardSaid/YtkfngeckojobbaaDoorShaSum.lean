/- What sha's New, Len, Sum and Of do, and bytes.Clone: walks. -/
import Derived.Test.YtkfngeckojobbaaDoorShaHash
namespace Go.Proofs.YtkfngeckojobbaaDoor
open Go.RowKit Sha

/-- a new hash of no bytes, in new memory -/
def NewHash (w : World) (e : Ending) (w' : World) : Prop := ∃ b, e = .returned (.pointer (some ⟨b, 0, none⟩)) ∧ HashAt w' (fun k => w.heap.size ≤ k) b begin_ [] 0 ∧ Below w.heap.size w w'
theorem HashAt.new (w : World) (S : Nat → Prop) (h : S w.heap.size) : HashAt (w.alloc (.cells (hashCells begin_ (.slice none 0 0) (.int .i64 0)) 52)) S w.heap.size begin_ [] 0 :=
  ⟨_, Blk.new _ _ _, Row.nil _ _ _, h, fun k hk => by simp [Value.ownBlock] at hk⟩
theorem New_any (w : World) (hT : ShaTabs w) : Calls Tryd.prog 13 #[] w (NewHash w) := by
  have hb := hT.b
  unfold stCells at hb
  go_enter Tryd.func13, Tryd.ntmps13
  go_wp2
  go_ret
  exact ⟨w.heap.size, rfl, HashAt.new w _ (Nat.le_refl _), ((Chg.refl (fun _ => False) w).alloc _).belowAll⟩
theorem HashAt.mono {w : World} {S T : Nat → Prop} {b : Nat} {v : St} {rest : List UInt8} {n : Nat} (h : HashAt w S b v rest n) (hs : ∀ k, S k → T k) : HashAt w T b v rest n := by
  obtain ⟨rv, h1, h2, h3, h4⟩ := h
  exact ⟨rv, h1, h2, hs _ h3, fun k hk => hs _ (h4 k hk)⟩
theorem HashAt.chg {w w' : World} {S T : Nat → Prop} {b : Nat} {v : St} {rest : List UInt8} {n : Nat} (h : HashAt w S b v rest n) (hc : Chg T w w') (hn : ∀ k, S k → ¬ T k) : HashAt w' S b v rest n := by
  obtain ⟨rv, h1, h2, h3, h4⟩ := h
  exact ⟨rv, h1.chg hc (hn _ h3), h2.chg hc (fun k hk => hn _ (h4 k hk)), h3, h4⟩
theorem HashAt.belowAll {w w' : World} {S : Nat → Prop} {b : Nat} {v : St} {rest : List UInt8} {n : Nat} (h : HashAt w S b v rest n) (hb : Below w.heap.size w w') : HashAt w' S b v rest n := h.chg (Chg.of_below hb (fun _ => False)) (fun _ _ f => f)

theorem Len_any (w : World) (S : Nat → Prop) (b : Nat) (v : St) (rest : List UInt8) (n : Nat) (h : HashAt w S b v rest n) :
    Calls Tryd.prog 16 #[.pointer (some ⟨b, 0, none⟩)] w fun e w' => e = .returned (.int .i64 n) ∧ w = w' := by
  obtain ⟨rv, h1, h2, h3, h4⟩ := h
  have hc := h1.cell
  unfold hashCells at hc
  go_enter Tryd.func16, Tryd.ntmps16
  go_wp2
  go_ret
  exact ⟨rfl, rfl⟩

/-- a slice in new memory -/
def NewRow (w : World) (e : TypeId) (size n : Nat) (xs : List Value) (en : Ending) (w' : World) : Prop :=
  ∃ v, en = .returned v ∧ Row w' e size v n xs ∧ Below w.heap.size w w' ∧ ∀ k, v.ownBlock = some k → w.heap.size ≤ k

theorem Clone_any (w : World) (v : Value) (n : Nat) (l : List UInt8) (h : Row w 5 1 v n (l.map bv)) (hn : n ≤ 4294967296) :
    Calls Tryd.prog 25 #[v] w (NewRow w 5 1 n (l.map bv)) := by
  obtain ⟨i0, hi, hz0, hz1, hz2⟩ := info_parts info_u8
  obtain ⟨a, cap, rfl, h1, h2⟩ := h.shape
  have he : ∀ W : World, (binOp .eql 44 (.slice a n cap) (.slice none 0 0)).run Tryd.prog W = .ok (.bool a.isNone) W := fun W => Lib.run_eql_slice_nil W _ _ a n cap 0 0 Tryd.underlying44
  have HR := Lib.hid h; clear h
  cases a with
  | none =>
    have hd : Option.isNone (none : Option Addr) = true := rfl
    rw [hd] at he
    go_enter Tryd.func25, Tryd.ntmps25
    go_wp2_with fail
    go_ret
    have hn0 : n = 0 := by
      rcases HR.out.2 with ⟨_, h⟩ | ⟨_, _, _, _, _, h, _⟩
      · exact h
      · cases h
    subst hn0
    obtain rfl : l = [] := List.eq_nil_of_length_eq_zero (by have := HR.out.1; simpa using this)
    exact ⟨_, rfl, Row.nil _ _ _, Below.refl _ _, fun k hk => by simp [Value.ownBlock] at hk⟩
  | some a =>
    have hd : Option.isNone (some a) = false := rfl
    rw [hd] at he
    go_enter Tryd.func25, Tryd.ntmps25
    go_wp2_with (at_builtin; refine wpList_append_row _ rfl (.tmp 5) (.tmp 6) 44 44 rfl 5 i0 _ 1 1 Tryd.underlying44 hi hz0 hz1 hz2 rfl (by omega) (.slice (some ⟨w.heap.size, 0, none⟩) 0 0) 0 [] rfl (Row.new w 5 1 0 #[] (by simp [maxLen]) rfl) (.slice (some a) n cap) n (l.map bv) rfl ((HR.out.alloc _).src Tryd.underlying44 (bv_one l)) (by simp only [maxLen]; omega) (by omega) ?_; intro v1 w1 hR1 hC1 hv1)
    go_ret
    simp only [Nat.zero_add, List.nil_append] at hR1
    refine ⟨v1, rfl, hR1, ?_, ?_⟩
    · exact (((Chg.refl (fun _ => False) w).alloc _).next hC1 (fun k hk => .inr (by simp [Value.ownBlock] at hk; omega))).belowAll
    · intro k hk
      rcases hv1 with h | h <;> rw [h] at hk <;> simp [Value.ownBlock] at hk <;> omega

def z32 : Array Value := #[.int .u8 0, .int .u8 0, .int .u8 0, .int .u8 0, .int .u8 0, .int .u8 0, .int .u8 0, .int .u8 0, .int .u8 0, .int .u8 0, .int .u8 0, .int .u8 0, .int .u8 0, .int .u8 0, .int .u8 0, .int .u8 0, .int .u8 0, .int .u8 0, .int .u8 0, .int .u8 0, .int .u8 0, .int .u8 0, .int .u8 0, .int .u8 0, .int .u8 0, .int .u8 0, .int .u8 0, .int .u8 0, .int .u8 0, .int .u8 0, .int .u8 0, .int .u8 0]
/-- an address, nothing that was there turned -/
def SumIs (w : World) (l : List UInt8) (e : Ending) (w' : World) : Prop := e = .returned (.agg (l.map bv).toArray) ∧ Below w.heap.size w w'

theorem z32_eq : z32 = (List.replicate 32 (bv 0)).toArray := rfl
theorem z32_at (i : Nat) (hi : i < 32) : z32[i]? = some (bv 0) := by
  rw [z32_eq, List.getElem?_toArray, List.getElem?_replicate, if_pos hi]
theorem bytes_length (x : St) : x.bytes.length = 32 := rfl
theorem bytes_size (x : St) : (x.bytes.map bv).toArray.size = 32 := by rw [List.size_toArray, List.length_map, bytes_length]
theorem info_sum : (Tryd.prog.info? 24).map (·.size) = some 32 := by kernel_rfl
theorem bytes_at (x : St) (j : Nat) (hj : j < 8) : x.bytes.getD (4 * j) 0 = (x.words.getD j 0 >>> 24).toUInt8 ∧ x.bytes.getD (4 * j + 1) 0 = (x.words.getD j 0 >>> 16).toUInt8 ∧
    x.bytes.getD (4 * j + 2) 0 = (x.words.getD j 0 >>> 8).toUInt8 ∧ x.bytes.getD (4 * j + 3) 0 = (x.words.getD j 0).toUInt8 := by
  have h : j = 0 ∨ j = 1 ∨ j = 2 ∨ j = 3 ∨ j = 4 ∨ j = 5 ∨ j = 6 ∨ j = 7 := by omega
  clear hj
  rcases h with rfl | rfl | rfl | rfl | rfl | rfl | rfl | rfl <;> exact ⟨rfl, rfl, rfl, rfl⟩
theorem byte0_eq (y : UInt32) : Value.int IntKind.u8 ((y.toNat : Int) % 256) = bv y.toUInt8 := by unfold bv; rw [u32_to_u8]
theorem byte1_eq (y : UInt32) : Value.int IntKind.u8 ((y.toNat : Int) / 256 % 256) = bv (y >>> 8).toUInt8 := by
  have h : (y.toNat : Int) / (256 : Int) = ((y >>> 8).toNat : Int) := shr_u32 y 8 (by omega)
  unfold bv; rw [h, u32_to_u8]
theorem byte2_eq (y : UInt32) : Value.int IntKind.u8 ((y.toNat : Int) / 65536 % 256) = bv (y >>> 16).toUInt8 := by
  have h : (y.toNat : Int) / (65536 : Int) = ((y >>> 16).toNat : Int) := shr_u32 y 16 (by omega)
  unfold bv; rw [h, u32_to_u8]
theorem byte3_eq (y : UInt32) : Value.int IntKind.u8 ((y.toNat : Int) / 16777216 % 256) = bv (y >>> 24).toUInt8 := by
  have h : (y.toNat : Int) / (16777216 : Int) = ((y >>> 24).toNat : Int) := shr_u32 y 24 (by omega)
  unfold bv; rw [h, u32_to_u8]
theorem lenByte_eq (n i : Nat) : Value.int IntKind.u8 ((n : Int) * 8 / 2 ^ (8 * i) % 256) = bv (lenByte n i) := by
  unfold bv lenByte
  congr 1

set_option maxHeartbeats 1000000 in
theorem Sum_any (S : Nat → Prop) (b : Nat) (v : St) (rest : List UInt8) (n : Nat) (w : World) (hH : HashAt w S b v rest n) (hT : ShaTabs w)
    (hn : n ≤ 1152921504606846976) (hr : rest.length ≤ 4294960000) :
    Calls Tryd.prog 15 #[.pointer (some ⟨b, 0, none⟩)] w (SumIs w (sumOf v rest n)) := by
  obtain ⟨rv, hB, hR, hSb, hSr⟩ := hH
  obtain ⟨i0, hi, hz0, hz1, hz2⟩ := info_parts info_u8
  have hc := hB.cell
  unfold hashCells at hc
  have HB := Lib.hid hB; clear hB
  have HR := Lib.hid hR; clear hR
  have HT := Lib.hid hT; clear hT
  have hb := HB.out.lt
  have hb1 : b < w.heap.size + 1 := by omega
  have hb2 : b < w.heap.size + 1 + 1 := by omega
  obtain ⟨ra, rc, rfl, hrc, _⟩ := HR.out.shape
  go_enter Tryd.func15, Tryd.ntmps15
  go_wp2_with fail
  refine (Clone_any _ _ rest.length rest (((HR.out.alloc _).alloc _).alloc _) (by omega)).mono ?_
  rintro e w1 ⟨v1, rfl, hR1, hb1, hf1⟩
  go_wp2_with (at_builtin; refine wpList_append_row _ rfl (.tmp 21) (.tmp 22) 44 44 rfl 5 i0 _ 1 1 Tryd.underlying44 hi hz0 hz1 hz2 rfl (by omega) v1 rest.length (rest.map bv) rfl (hR1.alloc _) (.slice (some ⟨w1.heap.size, 0, none⟩) 1 1) 1 [bv 128] rfl (Row.src (Row.new w1 5 1 1 #[.int .u8 128] (by simp [maxLen]) rfl) Tryd.underlying44 (bv_one [128])) (by simp only [maxLen]; omega) (by omega) ?_; intro v2 w2 hR2 hC2 hv2)
  have hz : w.heap.size + 3 ≤ w1.heap.size := by have := hb1.size; simp at this; omega
  have k0 : Blk w1 w.heap.size 24 z32 := (((Blk.new w 24 z32).alloc _).alloc _).belowAll hb1
  have k1 : Blk w1 (w.heap.size + 1) 24 z32 := by
    have := ((Blk.new (w.alloc (.cells z32 24)) 24 z32).alloc _).belowAll hb1
    simpa using this
  have k2 : Blk w1 (w.heap.size + 1 + 1) 52 (hashCells v (.slice none 0 0) (.int .i64 0)) := by
    have := (Blk.new ((w.alloc (.cells z32 24)).alloc (.cells z32 24)) 52 (hashCells v (.slice none 0 0) (.int .i64 0))).belowAll hb1
    simpa using this
  have hw1 : Chg (fun _ => False) w w1 := (((Chg.refl _ w).alloc _).alloc _).alloc _ |>.then_below hb1
  have hcw2 : Chg (fun k => w.heap.size + 3 ≤ k) w1 w2 := ((Chg.refl _ w1).alloc _).next hC2 (fun k hk => .inl (by have := hf1 k hk; simp at this; omega))
  have hf2 : ∀ k, v2.ownBlock = some k → w.heap.size + 3 ≤ k := fun k hk => by
    rcases hv2 with h | h
    · have := hf1 k (h.symm.trans hk); simp at this; omega
    · rw [h] at hk; simp at hk; omega
  clear hv2 hC2 hR1 hf1 hb1
  have Hk : Hid (Blk w1 w.heap.size 24 z32 ∧ Blk w1 (w.heap.size + 1) 24 z32 ∧ Blk w1 (w.heap.size + 1 + 1) 52 (hashCells v (.slice none 0 0) (.int .i64 0))) := ⟨k0, k1, k2⟩
  clear k0 k1 k2 hc
  go_loopg [5] (zeros rest.length) (fun k sl wr => ∃ j, k = zeros rest.length - j ∧ j ≤ zeros rest.length ∧ Row wr 5 1 sl (rest.length + 1 + j) ((rest ++ 128 :: List.replicate j 0).map bv) ∧ Chg (fun k => w.heap.size + 3 ≤ k) w1 wr ∧ ∀ k, sl.ownBlock = some k → w.heap.size + 3 ≤ k)
  case atStart => exact ⟨0, by omega, by omega, by simpa using hR2, hcw2, hf2⟩
  case round =>
    obtain ⟨j, rfl, hj, hRj, hCj, hfj⟩ := hrel
    obtain ⟨aj, cj, rfl, hcj, hcj2⟩ := hRj.shape
    have HRj := Lib.hid hRj; clear hRj
    have hjz : zeros rest.length < 64 := by unfold zeros; omega
    by_cases hlt : j < zeros rest.length
    · have ht : (rest.length + 1 + j) % 64 ≠ 56 := by unfold zeros at hlt; omega
      have hmb : rest.length + 1 + j ≤ 4294967000 := by omega
      generalize hm : rest.length + 1 + j = m at *
      have Hm := Lib.hid hm; clear hm
      have htb : (((m : Int) % 64) != 56) = true := by rw [bne_iff_ne]; omega
      go_wp2_with (at_builtin; refine wpList_append_row _ rfl (.tmp 28) (.tmp 29) 44 44 rfl 5 i0 _ 1 1 Tryd.underlying44 hi hz0 hz1 hz2 rfl (by omega) (.slice aj m cj) m ((rest ++ 128 :: List.replicate j 0).map bv) rfl (HRj.out.alloc _) (.slice (some ⟨wr.heap.size, 0, none⟩) 1 1) 1 [bv 0] rfl (Row.src (Row.new wr 5 1 1 #[.int .u8 0] (by simp [maxLen]) rfl) Tryd.underlying44 (bv_one [0])) (by simp only [maxLen]; omega) (by omega) ?_; intro v3 w3 hR3 hC3 hv3)
      go_roundg (zeros rest.length - (j + 1))
      case measure => omega
      case rel =>
        refine ⟨j + 1, rfl, by omega, ?_, (hCj.alloc _).next hC3 (fun k hk => .inl (hfj k hk)), fun k hk => ?_⟩
        · rw [← Hm.out] at hR3
          rw [List.replicate_succ', ← List.cons_append, ← List.append_assoc, List.map_append]
          exact hR3
        · rcases hv3 with h | h
          · exact hfj k (h.symm.trans hk)
          · rw [h] at hk; have := hCj.size; simp at hk; omega
    · have ht : (rest.length + 1 + j) % 64 = 56 := by unfold zeros at hlt hj; omega
      have hmb : rest.length + 1 + j ≤ 4294967000 := by omega
      obtain rfl : j = zeros rest.length := by omega
      generalize hm : rest.length + 1 + zeros rest.length = m at *
      have Hm := Lib.hid hm; clear hm
      have htb : (((m : Int) % 64) != 56) = false := by rw [bne_eq_false_iff_eq]; omega
      have Ht := Lib.hid ht; clear ht
      have HC := Lib.hid hCj; clear hCj
      obtain ⟨w4, rfl⟩ : ∃ w4 : World, w4 = wr := ⟨_, rfl⟩
      go_wp2_with fail
      go_loopg [5, 6] 8 (fun k sl i wr => ∃ j : Nat, j ≤ 8 ∧ k = 8 - j ∧ i = .int .i64 (7 - (j : Int)) ∧ Row wr 5 1 sl (m + j) ((rest ++ 128 :: (List.replicate (zeros rest.length) 0 ++ lenTo n j)).map bv) ∧ Chg (fun k => w.heap.size + 3 ≤ k) w1 wr ∧ ∀ k, sl.ownBlock = some k → w.heap.size + 3 ≤ k)
      case atStart => exact ⟨0, by omega, rfl, rfl, by simpa [lenTo] using HRj.out, HC.out, hfj⟩
      case round =>
        obtain ⟨j, hj8, rfl, rfl, hR5, hC5, hf5⟩ := hrel
        obtain ⟨a5, c5, rfl, hc5, hc52⟩ := hR5.shape
        have HR5 := Lib.hid hR5; clear hR5
        have hcb : wr.cell? ⟨b, 9, none⟩ = some (.int .i64 n) := by
          rw [hC5.cell (p := ⟨b, 9, none⟩) (Nat.lt_of_lt_of_le hb hw1.size) (by show ¬ _ ≤ b; omega), hw1.cell (p := ⟨b, 9, none⟩) hb (fun f => f), HB.out.cell]; rfl
        by_cases hlt : j < 8
        · have hle : decide ((j : Int) ≤ 7) = true := by simp; omega
          have Hb : Hid (Value.int IntKind.u8 ((n : Int) * 8 / 2 ^ (8 * (7 - j)) % 256) = bv (lenByte n (7 - j))) := lenByte_eq n (7 - j)
          go_wp2_with (at_builtin; refine wpList_append_row _ rfl (.tmp 35) (.tmp 47) 44 44 rfl 5 i0 _ 1 1 Tryd.underlying44 hi hz0 hz1 hz2 rfl (by omega) (.slice a5 (m + j) c5) (m + j) _ rfl (HR5.out.alloc _) (.slice (some ⟨wr.heap.size, 0, none⟩) 1 1) 1 [Value.int IntKind.u8 ((n : Int) * 8 / 2 ^ (8 * (7 - j)) % 256)] rfl (Row.src (Row.new wr 5 1 1 #[Value.int IntKind.u8 ((n : Int) * 8 / 2 ^ (8 * (7 - j)) % 256)] (by simp [maxLen]) rfl) Tryd.underlying44 (fun u hu => by simp at hu; subst hu; rfl)) (by simp only [maxLen]; omega) (by omega) ?_; intro v6 w6 hR6 hC6 hv6)
          go_roundg (8 - (j + 1))
          case measure => omega
          case rel =>
            refine ⟨j + 1, by omega, rfl, by congr 1; omega, ?_, (hC5.alloc _).next hC6 (fun k hk => .inl (hf5 k hk)), fun k hk => ?_⟩
            · rw [Hb.out] at hR6
              have e1 : rest ++ 128 :: (List.replicate (zeros rest.length) 0 ++ lenTo n (j + 1)) = (rest ++ 128 :: (List.replicate (zeros rest.length) 0 ++ lenTo n j)) ++ [lenByte n (7 - j)] := by simp [lenTo]
              rw [e1, List.map_append]
              exact hR6
            · rcases hv6 with h | h
              · exact hf5 k (h.symm.trans hk)
              · rw [h] at hk; have := hC5.size; simp at hk; omega
        · obtain rfl : j = 8 := by omega
          have hle : decide ((8 : Int) ≤ 7) = false := by simp
          have hcv : ∀ W : World, W = wr → (convert 44 9 (.slice a5 (m + 8) c5)).run Tryd.prog W = .ok (.string ⟨(rest ++ pad rest.length n).toArray⟩) W := by
            rintro W rfl
            exact run_str_of_row W _ _ _ _ _ _ Tryd.underlying44 Tryd.underlying5 Tryd.underlying9 HR5.out
          have hcv' := hcv wr rfl
          clear hcv
          have Hlen : Hid ((rest ++ pad rest.length n).length = m + 8) := by
            show _ = _
            have := HR5.out.1; simpa [pad] using this
          obtain ⟨w7, rfl⟩ : ∃ w7 : World, w7 = wr := ⟨_, rfl⟩
          have hsz : (ByteArray.mk (rest ++ pad rest.length n).toArray).size = m + 8 := Hlen.out
          have hnt : NoTab (fun k => w.heap.size + 1 + 1 ≤ k) := noTab_from HT.out (by omega)
          have hT7 : ShaTabs w7 := (HT.out.chg hw1 ⟨fun f => f, fun f => f⟩).chg hC5 (noTab_from HT.out (by omega))
          have hX : HashAt w7 (fun k => w.heap.size + 1 + 1 ≤ k) (w.heap.size + 1 + 1) v [] 0 :=
            ⟨_, Hk.out.2.2.chg hC5 (by omega), Row.nil _ _ _, Nat.le_refl _, fun k hk => by simp [Value.ownBlock] at hk⟩
          have Hsz := Lib.hid hsz; clear hsz
          go_wp2_with fail
          refine (Write_any _ _ v [] 0 _ w7 hX hT7 hnt (by rw [Hsz.out]; omega) (by rw [Hsz.out]; simp; omega)).mono ?_
          rintro e w8 ⟨rfl, hX8, hC8⟩
          simp only [List.nil_append] at hX8
          obtain ⟨rv8, hB8, _, _, _⟩ := hX8
          have HF : Hid (sumOf v rest n = (absorb v (rest ++ pad rest.length n)).1.bytes) := rfl
          generalize (absorb v (rest ++ pad rest.length n)).1 = x at *
          have hc8 := hB8.cell
          unfold hashCells at hc8
          have HB8 := Lib.hid hB8; clear hB8
          clear hcv'
          have k0 : Blk w8 w.heap.size 24 z32 := (Hk.out.1.chg hC5 (by omega)).chg hC8 (by omega)
          have k1 : Blk w8 (w.heap.size + 1) 24 z32 := (Hk.out.2.1.chg hC5 (by omega)).chg hC8 (by omega)
          have Hk0 := Lib.hid k0; clear k0
          have Hk1 := Lib.hid k1; clear k1
          have hw8 : Chg (fun _ => False) w w8 := (hw1.next hC5 (fun i h => .inr (by omega))).next hC8 (fun i h => .inr (by omega))
          have hidx := fun (j : Nat) (W : World) (hj : j < 8) => index_st x j W hj
          have Hidx := Lib.hid hidx; clear hidx
          go_wp2_with fail
          clear hc8
          go_loopg [54] 8 (fun k i wr => ∃ j : Nat, j ≤ 8 ∧ k = 8 - j ∧ i = .int .i64 j ∧ wr.rowIs (w.heap.size + 1) 24 32 (fun k => bv (if k < 4 * j then x.bytes.getD k 0 else 0)) ∧ Chg (fun k => k = w.heap.size + 1) w8 wr)
          case atStart =>
            refine ⟨0, by omega, rfl, rfl, Hk1.out.row rfl (fun i hi => ?_), Chg.refl _ _⟩
            rw [if_neg (by omega)]
            exact z32_at i hi
          case round =>
            obtain ⟨j, hj8, rfl, rfl, hr9, hC9⟩ := hrel
            by_cases hlt : j < 8
            · have hix := fun W => Hidx.out j W hlt
              have c0 := hr9.cell (i := 4 * j) (by omega)
              have c1 := hr9.cell (i := 4 * j + 1) (by omega)
              have c2 := hr9.cell (i := 4 * j + 2) (by omega)
              have c3 := hr9.cell (i := 4 * j + 3) (by omega)
              have f0 := hr9.frozen
              generalize hy : x.words.getD j 0 = y at *
              have Hy := Lib.hid hy; clear hy
              go_wp2_with fail
              go_roundg (8 - (j + 1))
              case measure => omega
              case rel =>
                refine ⟨j + 1, by omega, rfl, by go_num, ?_, (((hC9.setCell (.inl rfl) _).setCell (.inl rfl) _).setCell (.inl rfl) _).setCell (.inl rfl) _⟩
                obtain ⟨y0, y1, y2, y3⟩ := bytes_at x j hlt
                rw [Hy.out] at y0 y1 y2 y3
                refine ((((hr9.set (4 * j) _).set (4 * j + 1) _).set (4 * j + 2) _).set (4 * j + 3) _).congr (fun k hk => ?_)
                show (if k = 4 * j + 3 then _ else if k = 4 * j + 2 then _ else if k = 4 * j + 1 then _ else if k = 4 * j then _ else _) = _
                by_cases e3 : k = 4 * j + 3
                · rw [if_pos e3, if_pos (by omega), e3, y3, byte0_eq]
                rw [if_neg e3]
                by_cases e2 : k = 4 * j + 2
                · rw [if_pos e2, if_pos (by omega), e2, y2, byte1_eq]
                rw [if_neg e2]
                by_cases e1 : k = 4 * j + 1
                · rw [if_pos e1, if_pos (by omega), e1, y1, byte2_eq]
                rw [if_neg e1]
                by_cases e0 : k = 4 * j
                · rw [if_pos e0, if_pos (by omega), e0, y0, byte3_eq]
                rw [if_neg e0]
                by_cases el : k < 4 * j
                · rw [if_pos el, if_pos (by omega)]
                · rw [if_neg el, if_neg (by omega)]
            · obtain rfl : j = 8 := by omega
              have hB9 : Blk wr (w.heap.size + 1) 24 (x.bytes.map bv).toArray := Blk.of_row hr9 (by simp [bytes_length]) (fun i hi => by
                simp only [List.getElem?_toArray, List.getElem?_map]
                rw [if_pos (by omega), List.getElem?_eq_getElem (by rw [bytes_length]; exact hi)]
                simp [List.getD, List.getElem?_eq_getElem (show i < x.bytes.length by rw [bytes_length]; exact hi)])
              have hB0 : Blk wr w.heap.size 24 z32 := Hk0.out.chg hC9 (by omega)
              have HB9 := Lib.hid hB9; clear hB9
              have HB0 := Lib.hid hB0; clear hB0
              have HR9 := Lib.hid hr9; clear hr9
              go_wp2_with (first
                | (refine wpList_load_blk rfl 24 (.tmp 3) rfl (w.heap.size + 1) rfl HB9.out Tryd.underlying24 rfl (by rw [bytes_size]; exact info_sum) ?_)
                | ((refine wpList_store_blk rfl 24 (.tmp 2) (.tmp 85) rfl w.heap.size (x.bytes.map bv).toArray rfl rfl HB0.out (by rw [bytes_size]; exact info_sum) (by rw [bytes_size]; rfl) (bv_one x.bytes) ?_); intro w10 hB10 hC10))
              refine bodyPost_ret (results_blk rfl _ _ w.heap.size rfl hB10 Tryd.underlying24 rfl (by rw [bytes_size]; exact info_sum)) rfl ?_
              exact ⟨by rw [HF.out], ((hw8.next hC9 (fun i h => .inr (by omega))).next hC10 (fun i h => .inr (by omega))).belowAll⟩
end Go.Proofs.YtkfngeckojobbaaDoor
