/- The document's cutting: walks of armariumref13.Cut and Left. -/
import Derived.Test.YtljaekmdeojceaaCdcRef
import Derived.Laws.DeepStrings4
namespace Go.Proofs.Ytljaekmdeojceaa
open Go.RowKit Cdc
theorem extract_take (s : ByteArray) (n : Nat) : (s.extract 0 n).data.toList = s.data.toList.take n := by
  rw [ByteArray.data_extract, Array.toList_extract]
  simp [List.extract]
theorem extract_drop (s : ByteArray) (n : Nat) : (s.extract n s.size).data.toList = s.data.toList.drop n := by
  rw [ByteArray.data_extract, Array.toList_extract]
  have : s.data.toList.length = s.size := rfl
  simp only [List.extract]
  rw [List.take_of_length_le (by rw [List.length_drop]; omega)]
theorem bytes_nil {r : ByteArray} (h : r.size = 0) : r = ⟨#[]⟩ := by
  cases r with
  | mk d => congr 1; exact Array.eq_empty_of_size_eq_zero h
theorem bytes_ne {r : ByteArray} (h : 0 < r.size) : r.toList.isEmpty = false := by
  rw [ByteArray.toList_eq]
  cases hl : r.data.toList with
  | nil =>
    have : r.data.toList.length = r.size := rfl
    rw [hl] at this
    simp at this
    omega
  | cons _ _ => rfl
theorem strv_bytes (c : ByteArray) (l : List UInt8) (h : c.data.toList = l) : Value.string c = strv l := by
  subst h
  rfl
set_option maxHeartbeats 1000000 in
set_option maxRecDepth 100000 in
theorem RefCut_any (s : ByteArray) (w : World) (hs : s.size ≤ 1000000) : Calls Try.prog 12 #[.string s] w (StrsIs w (chunks s.data.toList)) := by
  obtain ⟨i1, hi1, hz3, hz4, hz5⟩ := info_parts info_str
  go_enter Try.func12, Try.ntmps12
  go_wp2
  go_loopg [0, 3] s.size (fun k s0 vo wr => ∃ (r : ByteArray) (outs : List (List UInt8)), k = r.size ∧ s0 = .string r ∧ outs.length + r.size ≤ s.size ∧ chunks s.data.toList = outs ++ chunks r.data.toList ∧ Row wr 9 1 vo outs.length (outs.map strv) ∧ (∀ k, vo.ownBlock = some k → w.heap.size ≤ k) ∧ Below w.heap.size w wr)
  case atStart => exact ⟨s, [], rfl, rfl, by simp, rfl, Row.nil _ _ _, (fun k hk => by simp [Value.ownBlock] at hk), Below.refl _ _⟩
  case round =>
    obtain ⟨r, outs, rfl, rfl, hlen, hch, hR, hn, hbr⟩ := hrel
    by_cases hr : r.size = 0
    · obtain rfl := bytes_nil hr
      have e : chunks s.data.toList = outs := by rw [hch]; simp [chunks_nil]
      have He := Lib.hid e
      clear e hch
      go_wp2
      go_ret
      rw [He.out]
      exact ⟨_, rfl, hR, hn, hbr⟩
    · have hr' : 0 < r.size := by omega
      have hne : r.toList.isEmpty = false := bytes_ne hr'
      have h0 : r.data.toList ≠ [] := by
        intro h
        have : r.data.toList.length = r.size := rfl
        rw [h] at this
        simp at this
        omega
      have hnx := chunks_next _ h0
      have hps := first_pos _ h0
      have hle : first r.data.toList ≤ r.size := first_le r.data.toList
      have HF := Lib.hid (RefFirst_any r w (by omega))
      have HF' := Lib.hid (fun w => RefFirst_any r w (by omega))
      clear HF h0
      have Hnx := Lib.hid hnx; clear hnx
      have Hch := Lib.hid hch; clear hch
      have HR := Lib.hid hR; clear hR
      generalize first r.data.toList = n at *
      have hle' : (n : Int) ≤ (r.size : Int) := by omega
      go_wp2_with (first
        | (go_at_call 14; (with_reducible refine (HF'.out _).mono ?_); rintro e w1 ⟨rfl, rfl⟩)
        | (at_builtin; (refine wpList_append_row _ rfl (.tmp 9) (.tmp 13) 24 24 rfl 9 i1 _ 1 16 Try.underlying24 hi1 hz3 hz4 hz5 rfl (by omega) _ outs.length (outs.map strv) rfl (HR.out.alloc _) (.slice (some ⟨wr.heap.size, 0, none⟩) 1 1) 1 [.string (r.extract 0 n)] rfl (Row.src (Row.new wr 9 1 1 #[.string (r.extract 0 n)] (by simp [maxLen]) rfl) Try.underlying24 (by simp [Value.oneCell'])) (by simp only [maxLen]; omega) (by omega) ?_); intro v5 w5 hR5 hC5 hv5))
      have ez : (r.extract n r.size).size = r.size - n := by rw [ByteArray.size_extract]; omega
      go_roundg (r.size - n)
      case measure => omega
      case rel =>
        refine ⟨r.extract n r.size, outs ++ [r.data.toList.take n], ez.symm, rfl, ?_, ?_, ?_, fun k hk => ?_, ?_⟩
        · rw [ez, List.length_append]; simp; omega
        · rw [Hch.out, Hnx.out, extract_drop]; simp
        · rw [List.map_append, List.length_append]
          rw [strv_bytes _ _ (extract_take r n)] at hR5
          exact hR5
        · have := hbr.size
          rcases hv5 with h | h
          · exact hn k (h.symm.trans hk)
          · rw [h] at hk; injection hk with hk; simp at hk; omega
        · exact (((Chg.of_below hbr (fun k => w.heap.size ≤ k)).alloc _).next hC5 (fun i h => .inr (hn i h))).below (Nat.le_refl _) (fun k h => h)
theorem last_at (l : List (List UInt8)) (c : List UInt8) : ((l ++ [c]).map strv)[(l ++ [c]).length - 1]? = some (strv c) := by simp
set_option maxHeartbeats 1000000 in
set_option maxRecDepth 100000 in
theorem RefLeft_any (s : ByteArray) (w : World) (hs : s.size ≤ 900000) : Calls Try.prog 18 #[.string s] w (IntIs w (leftN s.data.toList)) := by
  have hcut := fun w => RefCut_any s w (by omega)
  by_cases h0 : s.data.toList = []
  · have e1 : leftN s.data.toList = 0 := by rw [h0]; simp [leftN, feed]
    rw [h0, chunks_nil] at hcut
    rw [e1]
    have HC := Lib.hid hcut; clear hcut
    go_enter Try.func18, Try.ntmps18
    go_wp2_with (go_at_call 12; (with_reducible refine (HC.out _).mono ?_); rintro e w1 ⟨v, rfl, hR, hn, hb1⟩; obtain ⟨a, cap, rfl, hcap, hcap'⟩ := hR.shape; clear hR)
    go_ret
    exact ⟨rfl, hb1⟩
  · obtain ⟨l, c, hlc, hc, hcase⟩ : ∃ l c, chunks s.data.toList = l ++ [c] ∧ c.length ≤ s.size ∧ ((leftN s.data.toList = c.length ∧ ∀ x, first (c ++ [x]) = c.length + 1) ∨ (leftN s.data.toList = 0 ∧ ∀ x, first (c ++ [x]) = c.length)) := by
      have hj := chunks_join s.data.toList
      have hlen : s.data.toList.length = s.size := rfl
      by_cases hl : (feed [] s.data.toList).2 = []
      · rw [chunks_full _ hl] at hj ⊢
        have hne : (feed [] s.data.toList).1 ≠ [] := by
          intro h
          rw [h] at hj
          simp at hj
          exact h0 (by simp [← hj])
        refine ⟨_, _, (List.dropLast_concat_getLast hne).symm, ?_, .inr ⟨by unfold leftN; rw [hl]; rfl, fun x => first_chunk _ _ x (List.getLast_mem hne)⟩⟩
        have := congrArg List.length hj
        rw [← List.dropLast_concat_getLast hne, List.flatten_append, List.length_append] at this
        simp at this
        omega
      · rw [chunks_last _ hl] at hj ⊢
        refine ⟨_, _, rfl, ?_, .inl ⟨rfl, fun x => first_left _ x⟩⟩
        have := congrArg List.length hj
        rw [List.flatten_append, List.length_append] at this
        simp at this
        omega
    rw [hlc] at hcut
    have HC := Lib.hid hcut; clear hcut
    obtain ⟨cb, hcb⟩ : ∃ cb : ByteArray, cb = ⟨c.toArray⟩ := ⟨_, rfl⟩
    have hcz : cb.size = c.length := by rw [hcb]; rfl
    have hcd : cb.data.toList = c := by rw [hcb]
    have hst : strv c = .string cb := by rw [hcb]; rfl
    have hF : ∀ (x : UInt8) (w : World), Calls Try.prog 14 #[.string (cb ++ ⟨#[x]⟩)] w fun e w' => e = .returned (.int .i64 (first (c ++ [x]))) ∧ w = w' := by
      intro x w
      have := RefFirst_any (cb ++ ⟨#[x]⟩) w (by rw [app_size, hcz]; show _ + 1 ≤ _; omega)
      rw [app_toList, hcd] at this
      exact this
    have hl1 : 0 < (l ++ [c]).length := by simp
    have hla := last_at l c
    rw [hst] at hla
    obtain ⟨N, hN⟩ : ∃ N, N = (l ++ [c]).length := ⟨_, rfl⟩
    have hNs : (StrsIs · (l ++ [c])) = (StrsIs · (l ++ [c])) := rfl
    clear hNs
    rw [← hcz] at hcase hc
    clear hlc h0 hcd hcb
    have HL : Hid (∀ (w w1 : World) (v : Value), Row w1 9 1 v (l ++ [c]).length ((l ++ [c]).map strv) → ∃ g o cap n, n = (l ++ [c]).length ∧ v = .slice (some ⟨g, o, none⟩) n cap ∧ 0 < n ∧ n ≤ 9223372036854775807 ∧ w1.cell? ⟨g, o + (n - 1), none⟩ = some (.string cb)) := by
      intro w w1 v hR
      obtain ⟨g, o, cap, rfl, _, h3, h4, hcl, _⟩ := hR.form hl1
      refine ⟨g, o, cap, _, rfl, rfl, hl1, ?_, hcl _ _ hla⟩
      unfold maxLen at h4
      omega
    clear hla
    rcases hcase with ⟨e1, e2⟩ | ⟨e1, e2⟩
    · have HF := Lib.hid (fun w => by have := hF 97 w; rw [e2] at this; exact this)
      rw [e1]
      clear e1 e2 hF hl1 hN hst hcz
      have hne : (((cb.size + 1 : Nat) : Int) == (cb.size : Int)) = false := by simp; omega
      have hne2 : (((cb.size : Int) + 1) == (cb.size : Int)) = false := by simp; omega
      go_enter Try.func18, Try.ntmps18
      go_wp2_with (first
        | (go_at_call 12; (with_reducible refine (HC.out _).mono ?_); rintro e w1 ⟨v, rfl, hR, hn, hb1⟩; obtain ⟨g, o, cap, n, hn1, rfl, hn2, hn3, hcl⟩ := HL.out w w1 v hR; clear hR hn1; have d1 : ((n : Int) == 0) = false := (by simp; omega); have d2 : (1 : Int) ≤ (n : Int) := (by omega); have d3 : (n : Int) - 1 < (n : Int) := (by omega); have d4 : ((n : Int) - 1).toNat = n - 1 := (by omega))
        | (go_at_call 14; (with_reducible refine (HF.out _).mono ?_); rintro e w2 ⟨rfl, rfl⟩))
      go_ret
      exact ⟨rfl, hb1⟩
    · have HF := Lib.hid (fun x w => by have := hF x w; rw [e2] at this; exact this)
      rw [e1]
      clear e1 e2 hF hl1 hN hst hcz
      have hne : (((cb.size : Nat) : Int) == (cb.size : Int)) = true := by simp
      go_enter Try.func18, Try.ntmps18
      go_wp2_with (first
        | (go_at_call 12; (with_reducible refine (HC.out _).mono ?_); rintro e w1 ⟨v, rfl, hR, hn, hb1⟩; obtain ⟨g, o, cap, n, hn1, rfl, hn2, hn3, hcl⟩ := HL.out w w1 v hR; clear hR hn1; have d1 : ((n : Int) == 0) = false := (by simp; omega); have d2 : (1 : Int) ≤ (n : Int) := (by omega); have d3 : (n : Int) - 1 < (n : Int) := (by omega); have d4 : ((n : Int) - 1).toNat = n - 1 := (by omega))
        | (go_at_call 14; (with_reducible refine (HF.out _ _).mono ?_); rintro e w2 ⟨rfl, rfl⟩))
      go_ret
      exact ⟨rfl, hb1⟩
end Go.Proofs.Ytljaekmdeojceaa
