/- The law RefsUnpacks. -/
import Derived.Test.YtnagmpnpgekhfaaRefUnp
namespace Go.Proofs.Ytnagmpnpgekhfaa
open Go.RowKit
theorem neNilP (w : World) (a : Addr) : (binOp .neq 37 (.pointer (some a)) (.pointer none)).run Try.prog w = .ok (.bool true) w := by kernel_rfl
theorem neNilN (w : World) : (binOp .neq 37 (.pointer none) (.pointer none)).run Try.prog w = .ok (.bool false) w := by kernel_rfl
theorem X.nenP {l : Env} {x : Operand} {w : World} {t' ty : TypeId} {a : Addr} (hx : ev l x = some (.pointer (some a))) : X Try.prog l (.binOp .neq 37 x (.const (.pointer none)) t') ty w (.bool true) w :=
  X.bin hx rfl guard_ptr (neNilP w a)
theorem X.nenN {l : Env} {x : Operand} {w : World} {t' ty : TypeId} (hx : ev l x = some (.pointer none)) : X Try.prog l (.binOp .neq 37 x (.const (.pointer none)) t') ty w (.bool false) w :=
  X.bin hx rfl guard_ptr (neNilN w)
theorem unp32 (s : List UInt8) : (∀ c ∈ okOf [] (unpackM s), c.sum.length = 32) ∧ (okOf [] (unpackM s)).length ≤ 16000 := by
  cases h : unpackM s with
  | error e => exact ⟨fun c hc => by simp [okOf] at hc, by simp [okOf]⟩
  | ok l => exact ⟨fun c hc => ((unpack_ok h).2.1 c hc).1, (unpack_ok h).2.2.1⟩
theorem Decode_no {s : List UInt8} {k : Int} (w : World) (hs : s.length < 1000000) (h : decodeC s = .error k) : Calls Try.prog 42 #[str s] w fun e w' => e = .returned (.tuple #[.pointer none, .int .i64 k]) ∧ Below w.heap.size w w' := by
  have := Decode_any s w hs
  rw [h] at this
  exact this
theorem Decode_yes {s : List UInt8} {l : List Chk} (w : World) (hs : s.length < 1000000) (h : decodeC s = .ok l) : Calls Try.prog 42 #[str s] w fun e w' => ∃ g b, e = .returned (.tuple #[.pointer (some ⟨g, 0, none⟩), .int .i64 0]) ∧ CountsAt w' g b l ∧ w.heap.size ≤ g ∧ w.heap.size ≤ b ∧ g ≠ b ∧ Below w.heap.size w w' := by
  have := Decode_any s w hs
  rw [h] at this
  exact this
theorem RDecode_no {s : List UInt8} {k : Int} (w : World) (hs : s.length < 1000000) (h : decodeC s = .error k) : Calls Try.prog 43 #[str s] w fun e w' => ∃ v, e = .returned (.tuple #[v, .int .i64 k]) ∧ RAt w' v [] ∧ Below w.heap.size w w' := by
  have := RDecode_any s w hs
  rw [h] at this
  exact this
theorem RDecode_yes {s : List UInt8} {l : List Chk} (w : World) (hs : s.length < 1000000) (h : decodeC s = .ok l) : Calls Try.prog 43 #[str s] w fun e w' => ∃ v, e = .returned (.tuple #[v, .int .i64 0]) ∧ RAt w' v l ∧ Below w.heap.size w w' := by
  have := RDecode_any s w hs
  rw [h] at this
  exact this
theorem ChksAt.nil (w : World) : ChksAt w (.slice none 0 0) [] := ⟨⟨rfl, none, 0, rfl, Nat.le_refl _, by simp [maxLen], fun h => absurd h (by simp)⟩, fun c hc => by simp at hc⟩
set_option maxRecDepth 10000 in
theorem RefsUnps_no {s : List UInt8} {k : Int} (w : World) (hs : s.length ≤ 9223372036854775807) (hd : decodeC s = .error k) : Calls Try.prog 8 #[str s] w fun e w' => e = .returned (.bool true) ∧ Below w.heap.size w w' := by
  have hk := decode_err hd
  refine W_enter (args := [str s]) 64 Try.func8 rfl rfl rfl ?_
  refine W_sub [(0, str s)] ?_ ⟨rfl, trivial⟩
  have hbw := Below.refl w.heap.size w
  refine W_rs ?_
  refine sa rfl rfl ?_
  refine Wn ?_
  refine tN ?_
  refine W_seq ?_
  refine W_rs ?_
  refine sm rfl rfl ?_
  refine st (X.lenS rfl rfl Try.underlying9) rfl ?_
  refine st (X.gtr rfl rfl) rfl ?_
  refine Wn ?_
  refine tN ?_
  refine W_if rfl (fun h13 => ?_) (fun h13 => ?_)
  · first | replace h13 := of_decide_eq_true h13 | replace h13 := of_decide_eq_false (notT h13) | replace h13 := notT h13 | skip
    refine W_rs ?_
    refine sc _ Try.func18 rfl (by kernel_rfl) rfl rfl ((awake_any _).mono ?_)
    rintro e_ w1 ⟨rfl, hb⟩
    refine cR ?_
    replace hbw := bthen hbw hb
    have hz_w1 := hb.size
    clear hb
    refine sa rfl rfl ?_
    refine Wn ?_
    refine tN ?_
    refine W_ret (tR ?_)
    exact (rT rfl rfl ⟨rfl, hbw⟩).1
  · first | replace h13 := of_decide_eq_false h13 | replace h13 := of_decide_eq_true (notF h13) | replace h13 := notF h13 | skip
    refine W_skip ?_
    refine tN ?_
    refine W_rs ?_
    refine sm rfl rfl ?_
    refine sc _ Try.func40 rfl (by kernel_rfl) rfl rfl ((Unpack_any s _ (by omega)).mono ?_)
    rintro e_ w2 ⟨v1, rfl, hR1, hO1, hb⟩
    refine cR ?_
    replace hbw := bthen hbw hb
    have hz_w2 := hb.size
    clear hb
    refine sm rfl rfl ?_
    refine st (X.ext rfl rfl) rfl ?_
    refine st (X.ext rfl rfl) rfl ?_
    refine sa rfl rfl ?_
    refine sa rfl rfl ?_
    refine Wn ?_
    refine tN ?_
    refine W_rs ?_
    refine sm rfl rfl ?_
    refine sc _ Try.func41 rfl (by kernel_rfl) rfl rfl ((RUnpack_any s _ (by omega)).mono ?_)
    rintro e_ w3 ⟨v2, rfl, hR2, hb⟩
    refine cR ?_
    have hpend := hb
    replace hbw := bthen hbw hb
    have hz_w3 := hb.size
    clear hb
    replace hR1 := hR1.bel hpend
    clear hpend
    refine sm rfl rfl ?_
    refine st (X.ext rfl rfl) rfl ?_
    refine st (X.ext rfl rfl) rfl ?_
    refine sa rfl rfl ?_
    refine sa rfl rfl ?_
    refine Wn ?_
    refine tN ?_
    refine W_rs ?_
    refine sm rfl rfl ?_
    refine sc _ Try.func42 rfl (by kernel_rfl) rfl rfl ((Decode_no _ (by omega) hd).mono ?_)
    rintro e_ w4 ⟨rfl, hb⟩
    refine cR ?_
    have hpend := hb
    replace hbw := bthen hbw hb
    have hz_w4 := hb.size
    clear hb
    refine sm rfl rfl ?_
    refine st (X.ext rfl rfl) rfl ?_
    refine st (X.ext rfl rfl) rfl ?_
    refine sa rfl rfl ?_
    refine sa rfl rfl ?_
    refine Wn ?_
    refine tN ?_
    refine W_rs ?_
    refine sm rfl rfl ?_
    refine sc _ Try.func43 rfl (by kernel_rfl) rfl rfl ((RDecode_no _ (by omega) hd).mono ?_)
    rintro e_ w5 ⟨v4, rfl, hR4, hb⟩
    refine cR ?_
    replace hpend := bthen hpend hb
    replace hbw := bthen hbw hb
    have hz_w5 := hb.size
    clear hb
    replace hR1 := hR1.bel hpend
    replace hR2 := hR2.bel hpend
    clear hpend
    refine sm rfl rfl ?_
    refine st (X.ext rfl rfl) rfl ?_
    refine st (X.ext rfl rfl) rfl ?_
    refine sa rfl rfl ?_
    refine sa rfl rfl ?_
    refine Wn ?_
    refine tN ?_
    refine W_rs ?_
    refine sm rfl rfl ?_
    refine sm rfl rfl ?_
    refine st (X.eql rfl rfl) rfl ?_
    refine sbY rfl (by simp) rfl ?_
    refine gY (g := 38) rfl rfl rfl ?_
    refine sm rfl rfl ?_
    refine gY (g := 38) rfl rfl rfl ?_
    refine sm rfl rfl ?_
    refine gY (g := 38) rfl rfl rfl ?_
    refine sc _ Try.func22 rfl (by kernel_rfl) rfl rfl ((Same_any v1 v2 _ _ _ ⟨hR1.reads, (unp32 s).1⟩ (by have := (unp32 s).2; omega) hR2).mono ?_)
    rintro e_ w6 ⟨rfl, hb⟩
    refine cR ?_
    have hpend := hb
    replace hbw := bthen hbw hb
    have hz_w6 := hb.size
    clear hb
    refine st (X.pickT rfl rfl) rfl ?_
    refine sbY rfl (by simp) rfl ?_
    refine gY (g := 43) rfl rfl rfl ?_
    refine sm rfl rfl ?_
    refine gY (g := 43) rfl rfl rfl ?_
    refine sm rfl rfl ?_
    refine gY (g := 43) rfl rfl rfl ?_
    refine st (X.eql rfl rfl) rfl ?_
    refine st (X.pickT rfl rfl) rfl ?_
    refine sbY rfl (by simp) rfl ?_
    refine gY (g := 48) rfl rfl rfl ?_
    refine sm rfl rfl ?_
    refine gY (g := 48) rfl rfl rfl ?_
    refine st (X.nenN rfl) rfl ?_
    refine gY (g := 48) rfl rfl rfl ?_
    refine sm rfl rfl ?_
    refine gY (g := 48) rfl rfl rfl ?_
    refine st (X.eql rfl rfl) rfl ?_
    refine gY (g := 48) rfl rfl rfl ?_
    refine st (X.beq (.inl ⟨rfl, rfl⟩) Try.underlying4 rfl rfl) rfl ?_
    refine st (X.pickT rfl rfl) rfl ?_
    refine sbY rfl (by simp [hk]) rfl ?_
    refine gY (g := 55) rfl rfl rfl ?_
    refine sm rfl rfl ?_
    refine gY (g := 55) rfl rfl rfl ?_
    refine sc _ Try.func28 rfl (by kernel_rfl) rfl rfl ((All_nil _).mono ?_)
    rintro e_ w7 ⟨rfl, hb⟩
    refine cR ?_
    replace hpend := bthen hpend hb
    replace hbw := bthen hbw hb
    have hz_w7 := hb.size
    clear hb
    refine gY (g := 55) rfl rfl rfl ?_
    refine sm rfl rfl ?_
    refine gY (g := 55) rfl rfl rfl ?_
    replace hR1 := hR1.bel hpend
    replace hR2 := hR2.bel hpend
    replace hR4 := hR4.bel hpend
    clear hpend
    refine sc _ Try.func22 rfl (by kernel_rfl) rfl rfl ((Same_any _ v4 [] [] _ (ChksAt.nil _) (by simp) hR4).mono ?_)
    rintro e_ w8 ⟨rfl, hb⟩
    refine cR ?_
    have hpend := hb
    replace hbw := bthen hbw hb
    have hz_w8 := hb.size
    clear hb
    refine st (X.pickT rfl rfl) rfl ?_
    refine sbY rfl (by simp) rfl ?_
    refine gY (g := 61) rfl rfl rfl ?_
    refine sc _ Try.func18 rfl (by kernel_rfl) rfl rfl ((awake_any _).mono ?_)
    rintro e_ w9 ⟨rfl, hb⟩
    refine cR ?_
    replace hpend := bthen hpend hb
    replace hbw := bthen hbw hb
    have hz_w9 := hb.size
    clear hb
    refine st (X.pickT rfl rfl) rfl ?_
    refine sa rfl rfl ?_
    refine Wn ?_
    refine tN ?_
    replace hR1 := hR1.bel hpend
    replace hR2 := hR2.bel hpend
    replace hR4 := hR4.bel hpend
    clear hpend
    refine W_ret ?_
    exact (rT rfl rfl ⟨rfl, hbw⟩).1
set_option maxRecDepth 10000 in
theorem RefsUnps_yes {s : List UInt8} {l : List Chk} (w : World) (hs : s.length ≤ 9223372036854775807) (hd : decodeC s = .ok l) : Calls Try.prog 8 #[str s] w fun e w' => e = .returned (.bool true) ∧ Below w.heap.size w w' := by
  have hcn := decode_cnts hd
  have hll := (unpack_ok (decode_ok hd).1).2.2.1
  refine W_enter (args := [str s]) 64 Try.func8 rfl rfl rfl ?_
  refine W_sub [(0, str s)] ?_ ⟨rfl, trivial⟩
  have hbw := Below.refl w.heap.size w
  refine W_rs ?_
  refine sa rfl rfl ?_
  refine Wn ?_
  refine tN ?_
  refine W_seq ?_
  refine W_rs ?_
  refine sm rfl rfl ?_
  refine st (X.lenS rfl rfl Try.underlying9) rfl ?_
  refine st (X.gtr rfl rfl) rfl ?_
  refine Wn ?_
  refine tN ?_
  refine W_if rfl (fun h13 => ?_) (fun h13 => ?_)
  · first | replace h13 := of_decide_eq_true h13 | replace h13 := of_decide_eq_false (notT h13) | replace h13 := notT h13 | skip
    refine W_rs ?_
    refine sc _ Try.func18 rfl (by kernel_rfl) rfl rfl ((awake_any _).mono ?_)
    rintro e_ w1 ⟨rfl, hb⟩
    refine cR ?_
    replace hbw := bthen hbw hb
    have hz_w1 := hb.size
    clear hb
    refine sa rfl rfl ?_
    refine Wn ?_
    refine tN ?_
    refine W_ret (tR ?_)
    exact (rT rfl rfl ⟨rfl, hbw⟩).1
  · first | replace h13 := of_decide_eq_false h13 | replace h13 := of_decide_eq_true (notF h13) | replace h13 := notF h13 | skip
    refine W_skip ?_
    refine tN ?_
    refine W_rs ?_
    refine sm rfl rfl ?_
    refine sc _ Try.func40 rfl (by kernel_rfl) rfl rfl ((Unpack_any s _ (by omega)).mono ?_)
    rintro e_ w2 ⟨v1, rfl, hR1, hO1, hb⟩
    refine cR ?_
    replace hbw := bthen hbw hb
    have hz_w2 := hb.size
    clear hb
    refine sm rfl rfl ?_
    refine st (X.ext rfl rfl) rfl ?_
    refine st (X.ext rfl rfl) rfl ?_
    refine sa rfl rfl ?_
    refine sa rfl rfl ?_
    refine Wn ?_
    refine tN ?_
    refine W_rs ?_
    refine sm rfl rfl ?_
    refine sc _ Try.func41 rfl (by kernel_rfl) rfl rfl ((RUnpack_any s _ (by omega)).mono ?_)
    rintro e_ w3 ⟨v2, rfl, hR2, hb⟩
    refine cR ?_
    have hpend := hb
    replace hbw := bthen hbw hb
    have hz_w3 := hb.size
    clear hb
    replace hR1 := hR1.bel hpend
    clear hpend
    refine sm rfl rfl ?_
    refine st (X.ext rfl rfl) rfl ?_
    refine st (X.ext rfl rfl) rfl ?_
    refine sa rfl rfl ?_
    refine sa rfl rfl ?_
    refine Wn ?_
    refine tN ?_
    refine W_rs ?_
    refine sm rfl rfl ?_
    refine sc _ Try.func42 rfl (by kernel_rfl) rfl rfl ((Decode_yes _ (by omega) hd).mono ?_)
    rintro e_ w4 ⟨g, b, rfl, hCn, hgl, hbl, hgb, hb⟩
    refine cR ?_
    have hpend := hb
    replace hbw := bthen hbw hb
    have hz_w4 := hb.size
    clear hb
    replace hR1 := hR1.bel hpend
    replace hR2 := hR2.bel hpend
    clear hpend
    refine sm rfl rfl ?_
    refine st (X.ext rfl rfl) rfl ?_
    refine st (X.ext rfl rfl) rfl ?_
    refine sa rfl rfl ?_
    refine sa rfl rfl ?_
    refine Wn ?_
    refine tN ?_
    refine W_rs ?_
    refine sm rfl rfl ?_
    refine sc _ Try.func43 rfl (by kernel_rfl) rfl rfl ((RDecode_yes _ (by omega) hd).mono ?_)
    rintro e_ w5 ⟨v4, rfl, hR4, hb⟩
    refine cR ?_
    have hpend := hb
    replace hbw := bthen hbw hb
    have hz_w5 := hb.size
    clear hb
    replace hR1 := hR1.bel hpend
    replace hR2 := hR2.bel hpend
    replace hCn := hCn.bel hpend
    clear hpend
    refine sm rfl rfl ?_
    refine st (X.ext rfl rfl) rfl ?_
    refine st (X.ext rfl rfl) rfl ?_
    refine sa rfl rfl ?_
    refine sa rfl rfl ?_
    refine Wn ?_
    refine tN ?_
    refine W_rs ?_
    refine sm rfl rfl ?_
    refine sm rfl rfl ?_
    refine st (X.eql rfl rfl) rfl ?_
    refine sbY rfl (by simp) rfl ?_
    refine gY (g := 38) rfl rfl rfl ?_
    refine sm rfl rfl ?_
    refine gY (g := 38) rfl rfl rfl ?_
    refine sm rfl rfl ?_
    refine gY (g := 38) rfl rfl rfl ?_
    refine sc _ Try.func22 rfl (by kernel_rfl) rfl rfl ((Same_any v1 v2 _ _ _ ⟨hR1.reads, (unp32 s).1⟩ (by have := (unp32 s).2; omega) hR2).mono ?_)
    rintro e_ w6 ⟨rfl, hb⟩
    refine cR ?_
    have hpend := hb
    replace hbw := bthen hbw hb
    have hz_w6 := hb.size
    clear hb
    refine st (X.pickT rfl rfl) rfl ?_
    refine sbY rfl (by simp) rfl ?_
    refine gY (g := 43) rfl rfl rfl ?_
    refine sm rfl rfl ?_
    refine gY (g := 43) rfl rfl rfl ?_
    refine sm rfl rfl ?_
    refine gY (g := 43) rfl rfl rfl ?_
    refine st (X.eql rfl rfl) rfl ?_
    refine st (X.pickT rfl rfl) rfl ?_
    refine sbY rfl (by simp) rfl ?_
    refine gY (g := 48) rfl rfl rfl ?_
    refine sm rfl rfl ?_
    refine gY (g := 48) rfl rfl rfl ?_
    refine st (X.nenP rfl) rfl ?_
    refine gY (g := 48) rfl rfl rfl ?_
    refine sm rfl rfl ?_
    refine gY (g := 48) rfl rfl rfl ?_
    refine st (X.eql rfl rfl) rfl ?_
    refine gY (g := 48) rfl rfl rfl ?_
    refine st (X.beq (.inl ⟨rfl, rfl⟩) Try.underlying4 rfl rfl) rfl ?_
    refine st (X.pickT rfl rfl) rfl ?_
    refine sbY rfl (by simp) rfl ?_
    refine gY (g := 55) rfl rfl rfl ?_
    refine sm rfl rfl ?_
    refine gY (g := 55) rfl rfl rfl ?_
    replace hR1 := hR1.bel hpend
    replace hR2 := hR2.bel hpend
    replace hCn := hCn.bel hpend
    replace hR4 := hR4.bel hpend
    clear hpend
    refine sc _ Try.func28 rfl (by kernel_rfl) rfl rfl ((All_any g b l _ hCn hcn.sum (by omega)).mono ?_)
    rintro e_ w7 ⟨v5, rfl, hR5, hO5, hb⟩
    refine cR ?_
    have hpend := hb
    replace hbw := bthen hbw hb
    have hz_w7 := hb.size
    clear hb
    rw [hcn.net] at hR5
    refine gY (g := 55) rfl rfl rfl ?_
    refine sm rfl rfl ?_
    refine gY (g := 55) rfl rfl rfl ?_
    replace hR1 := hR1.bel hpend
    replace hR2 := hR2.bel hpend
    replace hCn := hCn.bel hpend
    replace hR4 := hR4.bel hpend
    clear hpend
    refine sc _ Try.func22 rfl (by kernel_rfl) rfl rfl ((Same_any v5 v4 l l _ ⟨hR5.reads, hcn.sum⟩ (by omega) hR4).mono ?_)
    rintro e_ w8 ⟨rfl, hb⟩
    refine cR ?_
    have hpend := hb
    replace hbw := bthen hbw hb
    have hz_w8 := hb.size
    clear hb
    refine st (X.pickT rfl rfl) rfl ?_
    refine sbY rfl (by simp) rfl ?_
    refine gY (g := 61) rfl rfl rfl ?_
    refine sc _ Try.func18 rfl (by kernel_rfl) rfl rfl ((awake_any _).mono ?_)
    rintro e_ w9 ⟨rfl, hb⟩
    refine cR ?_
    replace hpend := bthen hpend hb
    replace hbw := bthen hbw hb
    have hz_w9 := hb.size
    clear hb
    refine st (X.pickT rfl rfl) rfl ?_
    refine sa rfl rfl ?_
    refine Wn ?_
    refine tN ?_
    replace hR1 := hR1.bel hpend
    replace hR2 := hR2.bel hpend
    replace hCn := hCn.bel hpend
    replace hR4 := hR4.bel hpend
    clear hpend
    refine W_ret ?_
    exact (rT rfl rfl ⟨rfl, hbw⟩).1
theorem RefsUnpacks_walk (w : World) (s : List UInt8) (hs : s.length ≤ 9223372036854775807) : Calls Try.prog 8 #[str s] w fun e w' => e = .returned (.bool true) ∧ Below w.heap.size w w' := by
  cases hd : decodeC s with
  | error k => exact RefsUnps_no w hs hd
  | ok l => exact RefsUnps_yes w hs hd
end Go.Proofs.Ytnagmpnpgekhfaa
