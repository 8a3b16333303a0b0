/- What PackNil needs, part 2. -/
import Derived.Scope
import Derived.Laws.IdiomStrings
import Derived.Below
import Derived.Lib.ItoaNum
import Derived.Test.YtnlabkogebnioaaGreatDoorChecked
import Derived.WalkKit
import Derived.Lib.Hide
import Derived.WalkLawsBesides
import Derived.WalkSpells
import Derived.BigQuiet
import Derived.Deep.QuietTactic
import Derived.Deep.LoopGhost
import Derived.Deep.DeepMust
import Derived.Shelf.Strconv.Itoa3
import Derived.Shelf.Lay
import Derived.Lib.SmallJoins
import Derived.Ground.NamesProg
import Derived.ChangeKeysEq
import Derived.WideKeyRuns
import Derived.Lib.Bytealg
import Derived.Sort.Grow
import Derived.Shelf.SlSortCmp.NoneTotal
import Derived.Lib.SlBytesConst
import Derived.OrdersIn
import Derived.Lib.LaidU8T
import Derived.Stop.LaidErr
import Derived.Test.YtnlabkogebnioaaGreatDoorCards
import Derived.Test.YtnlabkogebnioaaGreatDoorPackNilP1
namespace Go.Proofs.YtnlabkogebnioaaGreatDoor
open Go.RowKit
section
variable {P : Program} {N : Nat} {ds : List Deferred} {Q : Post} {l : Env} {w : World} {ops : Array Oper} {rest : List Oper} {x : Operand} {ty src dst e : TypeId} {pos : String} {aft : Array Edge} {d : Nat} {s : List UInt8}
theorem scb (hx : ev l x = some (str s)) (hs : P.underlying src = some .string) (hdd : P.underlying dst = some (.slice e)) (he : P.underlying e = some (.int .u8)) (hl : s.length ≤ 1099511627776) (hd : Nat.blt d N = true)
  (h : ∀ g c w', Reads w' 1 (.slice (some ⟨g, 0, none⟩) s.length c) s.length (s.map bv) → w.heap.size ≤ g → g < w'.heap.size → Below w.heap.size w w' → WL P N ds ops Q rest ((d, .slice (some ⟨g, 0, none⟩) s.length c) :: l) w') :
  WL P N ds ops Q (⟨some d, .convert src dst x, ty, pos, aft, none⟩ :: rest) l w := by
 have hr := run_bytes_of_string (P := P) w src dst e ⟨s.toArray⟩ hs hdd he
 have hz : (⟨s.toArray⟩ : ByteArray).size = s.length := by simp [ByteArray.size]
 rw [hz] at hr
 have hge := grownCap_ge w s.length 0 e
 have hle := grownCap_le_maxLen w s.length 0 e (by simp only [maxLen]; omega)
 obtain ⟨C, hC⟩ : ∃ C, bytesRow ⟨s.toArray⟩ (grownCap w s.length 0 e) = C := ⟨_, rfl⟩
 rw [hC] at hr
 have hb : Below w.heap.size w (w.drew.alloc (.cells C e (C.size, C.size + 1))) := (bdrew (Below.refl _ _)).alloc (Nat.le_refl _) _
 have hR : Reads (w.drew.alloc (.cells C e (C.size, C.size + 1))) 1 (.slice (some ⟨w.heap.size, 0, none⟩) s.length (grownCap w s.length 0 e)) s.length (s.map bv) := by
  refine ⟨by simp, _, _, rfl, hge, hle, fun _ => ⟨w.heap.size, 0, rfl, by simp [World.alloc], fun j u hu => ?_⟩⟩
  have h1 : (w.drew.alloc (.cells C e (C.size, C.size + 1))).heap[w.heap.size]? = some (.cells C e (C.size, C.size + 1)) := by show (w.heap.push _)[w.heap.size]? = _; simp
  simp only [World.cell?, h1, Nat.zero_add]
  rw [← hC]
  unfold bytesRow
  have hj := (List.getElem?_eq_some_iff.1 hu).1
  rw [List.length_map] at hj
  rw [Array.getElem?_append_left (by simpa using hj)]
  simp at hu ⊢
  exact hu
 refine st (fun ρ hρ => ?_) hd (h w.heap.size _ _ hR (Nat.le_refl _) (by simp [World.alloc]) hb)
 unfold execOp
 simp only [hρ _ _ hx, Sem.run_bind, str, hr, Result.andThen_ok, Sem.run_pure]
end
end Go.Proofs.YtnlabkogebnioaaGreatDoor
namespace Go.Proofs.YtnlabkogebnioaaGreatDoor
open Go.RowKit
def fixB : Nat → Nat → List UInt8
  | _, 0 => []
  | x, n + 1 => UInt8.ofNat (x % 256) :: fixB (x / 256) n
theorem fixB_length : ∀ (x n : Nat), (fixB x n).length = n
 | _, 0 => rfl
 | x, n + 1 => by rw [fixB, List.length_cons, fixB_length]
theorem fixB_snoc : ∀ (i x : Nat), fixB x i ++ [UInt8.ofNat (x / 256 ^ i % 256)] = fixB x (i + 1)
 | 0, x => by simp [fixB]
 | i + 1, x => by
  have := fixB_snoc i (x / 256)
  rw [Nat.div_div_eq_div_mul, ← Nat.pow_succ'] at this
  rw [fixB, List.cons_append, this]
  rfl
end Go.Proofs.YtnlabkogebnioaaGreatDoor
namespace Go.Proofs.YtnlabkogebnioaaGreatDoor
open Go.RowKit
def uvF : Nat → Nat → List UInt8
  | 0, _ => []
  | n + 1, x => if x < 128 then [UInt8.ofNat (x % 256)] else (UInt8.ofNat (x % 256) ||| 128) :: uvF n (x / 128)
def uvB (x : Nat) : List UInt8 := uvF 10 x
theorem uvF_lt {n x : Nat} (hn : 0 < n) (h : x < 128) : uvF n x = [UInt8.ofNat (x % 256)] := by
 obtain ⟨m, rfl⟩ : ∃ m, n = m + 1 := ⟨n - 1, by omega⟩
 rw [uvF, if_pos h]
theorem uvF_ge {n x : Nat} (hn : 0 < n) (h : ¬ x < 128) : uvF n x = [UInt8.ofNat (x % 256) ||| 128] ++ uvF (n - 1) (x / 128) := by
 obtain ⟨m, rfl⟩ : ∃ m, n = m + 1 := ⟨n - 1, by omega⟩
 rw [uvF, if_neg h]
 rfl
theorem uv_step {k x : Nat} (hk : k ≤ 9) (h : x < 2 ^ (64 - 7 * k)) (h8 : 128 ≤ x) : k + 1 ≤ 9 ∧ x / 128 < 2 ^ (64 - 7 * (k + 1)) := by
 have : k = 0 ∨ k = 1 ∨ k = 2 ∨ k = 3 ∨ k = 4 ∨ k = 5 ∨ k = 6 ∨ k = 7 ∨ k = 8 ∨ k = 9 := by omega
 rcases this with rfl | rfl | rfl | rfl | rfl | rfl | rfl | rfl | rfl | rfl
 all_goals (simp only [Nat.reduceMul, Nat.reduceSub, Nat.reducePow, Nat.reduceAdd] at h ⊢; omega)
section
variable {l : Env} {x : Operand} {p : Option Addr} {t' ty : TypeId} {w : World}
theorem wrNeP (w : World) (a : Addr) : (binOp .neq 217 (.pointer (some a)) (.pointer none)).run Tryz.prog w = .ok (.bool true) w := by kernel_rfl
theorem wrEqP (w : World) (a : Addr) : (binOp .eql 217 (.pointer (some a)) (.pointer none)).run Tryz.prog w = .ok (.bool false) w := by kernel_rfl
theorem X.wrNe {a : Addr} (hx : ev l x = some (.pointer (some a))) : X Tryz.prog l (.binOp .neq 217 x (.const (.pointer none)) t') ty w (.bool true) w :=
 X.bin hx rfl guard_ptr (wrNeP w a)
theorem X.wrEq {a : Addr} (hx : ev l x = some (.pointer (some a))) : X Tryz.prog l (.binOp .eql 217 x (.const (.pointer none)) t') ty w (.bool false) w :=
 X.bin hx rfl guard_ptr (wrEqP w a)
end
theorem uvB_length : ∀ (x : Nat), x < 100000000 → (uvB x).length ≤ 4 := by
 intro x hx
 unfold uvB
 rw [uvF]
 split
 ·simp
 rw [uvF]
 split
 ·simp
 rw [uvF]
 split
 ·simp
 rw [uvF]
 split
 ·simp
 ·omega
structure WrAt (w : World) (B g : Nat) (t : List UInt8) : Prop where
  ge : B ≤ g
  is : ∃ v, Blk w g 170 #[v] ∧ Row w 5 1 v t.length (t.map bv) ∧ ∀ k, v.ownBlock = some k → B ≤ k
theorem WrAt.bel {w w' : World} {B g : Nat} {t : List UInt8} (h : WrAt w B g t) (hb : Below w.heap.size w w') : WrAt w' B g t := by
 obtain ⟨h1, v, h2, h3, h4⟩ := h
 exact ⟨h1, v, h2.bel hb, h3.bel hb, h4⟩
theorem WrAt.lt {w : World} {B g : Nat} {t : List UInt8} (h : WrAt w B g t) : g < w.heap.size := by
 obtain ⟨h1, v, h2, h3, h4⟩ := h
 exact h2.lt
theorem wput_any (B g : Nat) (t m : List UInt8) (u : Value) (w : World) (h : WrAt w B g t) (hu : Reads w 1 u m.length (m.map bv)) (hl : t.length + m.length ≤ 4398046511104) :
  Calls Tryz.prog 141 #[.pointer (some ⟨g, 0, none⟩), u] w fun e w' => e = .returned (.tuple #[]) ∧ WrAt w' B g (t ++ m) ∧ Chg (fun k => B ≤ k) w w' := by
 obtain ⟨hge, v, hB, hR, hvo⟩ := h
 have hlt := hB.lt
 refine W_enter (args := [.pointer (some ⟨g, 0, none⟩), u]) 15 Tryz.func141 rfl rfl rfl (W_sub [(0, .pointer (some ⟨g, 0, none⟩)), (1, u)] ?_ ⟨rfl, rfl, trivial⟩)
 have hcw := Chg.refl (fun k => B ≤ k) w
 refine W_rs (sm rfl rfl (st (X.wrNe rfl) rfl (Wn (tN (W_yes rfl (rfl) (W_reg (sm rfl rfl (sm rfl rfl (st (X.nilChk rfl) rfl (st (X.fa fa170_0 rfl) rfl ?_))))))))))
 refine st (X.ldL rfl hB Tryz.underlying123 rfl rfl) rfl (sm rfl rfl (sapp rfl rfl Tryz.underlying123 inf5 rfl (by decide) hR (hu.src Tryz.underlying123 (bv_one m)) (by simp only [maxLen]; omega) (by omega) rfl (fun v' w1 hR2 hC2 hv => ?_)))
 obtain ⟨a', c', rfl, _, _⟩ := hR2.shape
 have hz_w1 := hC2.size
 replace hB := hB.chg hC2 (fun hk => hR.ne2 hB (by decide) _ hk rfl)
 have hne := hR2.ne2 hB (by decide)
 replace hcw := hcw.next hC2 (fun i hi => .inl (hvo i hi))
 replace hR := hR2
 clear hC2 hR2
 refine st (X.nilChk rfl) rfl (st (X.fa fa170_0 rfl) rfl (ssB rfl rfl hB siz123 rfl (by first | decide | simp) (fun w2 hB_ hc_ => ?_)))
 replace hB := hB_
 clear hB_
 replace hR := hR.chg hc_ (by first | (show ¬ _ = _; omega) | (intro k_ hk_; simp [Value.ownBlock] at hk_; subst hk_; show ¬ _ = _; omega) | assumption | trivial)
 replace hcw := hcw.next hc_ (fun i_ hi_ => by first | exact .inl hi_ | exact .inl (.inl hi_) | (right; subst hi_; omega) | (left; subst hi_; show _ ≤ _; omega) | (left; subst hi_; assumption))
 have hz_w2 := hc_.size
 clear hc_
 refine Wn ((r0 rfl ⟨rfl, ⟨hge, _, hB, ?_, ?_⟩, hcw⟩).2)
 ·rw [List.map_append, List.length_append]; exact hR
 ·intro k hk
  rcases hv with hv | hv
  ·exact hvo k (hv ▸ hk)
  ·rw [hv] at hk
   injection hk with hk
   omega
section
variable (B g : Nat) (t : List UInt8) (w : World) (h : WrAt w B g t)
include h
theorem WU8_any (x : UInt8) (hl : t.length ≤ 1099511627776) : Calls Tryz.prog 98 #[.pointer (some ⟨g, 0, none⟩), .int .u8 x.toNat] w fun e w' => e = .returned (.tuple #[]) ∧ WrAt w' B g (t ++ [x]) ∧ Chg (fun k => B ≤ k) w w' := by
 have hlt := h.lt
 have hge := h.ge
 refine W_enter (args := [.pointer (some ⟨g, 0, none⟩), .int .u8 x.toNat]) 8 Tryz.func98 rfl rfl rfl (W_sub [(0, .pointer (some ⟨g, 0, none⟩)), (1, .int .u8 x.toNat)] ?_ ⟨rfl, rfl, trivial⟩)
 have hcw := Chg.refl (fun k => B ≤ k) w
 refine W_reg (sm rfl rfl (sm rfl rfl (sbs1 rfl Tryz.underlying123 inf5 rfl rfl (by decide) (by decide) rfl (fun g6 w1 hR6 hg6 hb => ?_))))
 replace hcw := hcw.then_below hb
 replace h := h.bel hb
 have hz_w1 := hb.size
 clear hb
 have hl6 := hR6.blt (by decide)
 refine sc _ Tryz.func141 rfl (by kernel_rfl) rfl rfl ((wput_any B g t [x] _ _ h hR6.reads (by simp; omega)).mono ?_)
 clear h
 rintro e_ w2 ⟨rfl, h, hC⟩
 refine cR ?_
 replace hcw := hcw.next hC (fun i_ hi_ => by first | exact .inl hi_ | exact .inl (.inl hi_) | (right; subst hi_; omega) | (left; subst hi_; show _ ≤ _; omega) | (left; subst hi_; assumption))
 have hz_w2 := hC.size
 clear hC
 refine Wn ?_
 exact (r0 rfl ⟨rfl, h, hcw⟩).2
theorem WRaw_any (m : List UInt8) (hl : t.length ≤ 1099511627776) (hm : m.length ≤ 1099511627776) : Calls Tryz.prog 143 #[.pointer (some ⟨g, 0, none⟩), str m] w fun e w' => e = .returned (.tuple #[]) ∧ WrAt w' B g (t ++ m) ∧ Chg (fun k => B ≤ k) w w' := by
 have hlt := h.lt
 have hge := h.ge
 refine W_enter (args := [.pointer (some ⟨g, 0, none⟩), str m]) 8 Tryz.func143 rfl rfl rfl (W_sub [(0, .pointer (some ⟨g, 0, none⟩)), (1, str m)] ?_ ⟨rfl, rfl, trivial⟩)
 have hcw := Chg.refl (fun k => B ≤ k) w
 refine W_reg (sm rfl rfl (sm rfl rfl (scb (s := m) rfl Tryz.underlying9 Tryz.underlying123 Tryz.underlying5 (by omega) rfl (fun gv cv w1 hR hgv hgl hb => ?_))))
 replace h := h.bel hb
 replace hcw := hcw.then_below hb
 have hz_w1 := hb.size
 clear hb
 refine sc _ Tryz.func141 rfl (by kernel_rfl) rfl rfl ((wput_any B g t m _ _ h hR (by omega)).mono ?_)
 clear h
 rintro e_ w2 ⟨rfl, h, hC⟩
 refine cR ?_
 replace hcw := hcw.next hC (fun i_ hi_ => by first | exact .inl hi_ | exact .inl (.inl hi_) | (right; subst hi_; omega) | (left; subst hi_; show _ ≤ _; omega) | (left; subst hi_; assumption))
 have hz_w2 := hC.size
 clear hC
 refine Wn ?_
 exact (r0 rfl ⟨rfl, h, hcw⟩).2
theorem WUvar_any (x : Nat) (hl : t.length ≤ 1099511627776) (hx : x < 18446744073709551616) : Calls Tryz.prog 142 #[.pointer (some ⟨g, 0, none⟩), .int .u64 x] w fun e w' => e = .returned (.tuple #[]) ∧ WrAt w' B g (t ++ uvB x) ∧ Chg (fun k => B ≤ k) w w' := by
 have hlt := h.lt
 have hge := h.ge
 refine W_enter (args := [.pointer (some ⟨g, 0, none⟩), .int .u64 x]) 19 Tryz.func142 rfl rfl rfl (W_sub [(0, .pointer (some ⟨g, 0, none⟩)), (1, .int .u64 x)] ?_ ⟨rfl, rfl, trivial⟩)
 have hcw := Chg.refl (fun k => B ≤ k) w
 refine W_seq (W_block (W_lp (fun nw1_ lw1_ w1 => ∃ y : Nat, ∃ m : List UInt8, nw1_ = 0 + y ∧ lw1_ = ([(0, .pointer (some ⟨g, 0, none⟩)), (1, .int .u64 y)] : Env) ∧ (y < 2 ^ (64 - 7 * m.length)) ∧ (m.length ≤ 9) ∧ (uvB x = m ++ uvF (10 - m.length) y) ∧ (WrAt w1 B g (t ++ m)) ∧ (Chg (fun k => B ≤ k) w w1)) _ ⟨_, ⟨x, [], rfl, rfl, by simpa using hx, by simp, rfl, by rw [List.append_nil]; exact h, hcw⟩, ⟨rfl, rfl, trivial⟩⟩ ?_))
 clear hcw
 rintro nw1_ lw1_ w1 ⟨y, m, rfl, rfl, hy, hm9, hub, h, hcw⟩
 have hlt2 := h.lt
 have hz_w1 := hcw.size
 have hml : (t ++ m).length = t.length + m.length := List.length_append
 have hy64 : y < 18446744073709551616 := Nat.lt_of_lt_of_le hy (Nat.pow_le_pow_right (by decide) (show 64 - 7 * m.length ≤ 64 by omega))
 have hbt : (UInt8.ofNat (y % 256)).toNat = y % 256 := by simp
 refine W_seq (W_rs (sm rfl rfl (st (X.geq rfl rfl) rfl (Wn (tN (W_if rfl (fun h5 => ?_) (fun h5 => ?_)))))))
 ·first | replace h5 := of_decide_eq_true h5 | replace h5 := of_decide_eq_false (notT h5) | replace h5 := notT h5 | skip
  have hst := uv_step hm9 hy (by omega)
  refine W_skip (tN (W_seq (W_block (W_reg (sm rfl rfl (sm rfl rfl (st (X.convI (m := (y : Int)) (z := ((UInt8.ofNat (y % 256)).toNat : Int)) rfl Tryz.underlying165 Tryz.underlying5 (by rw [hbt, w8]; omega)) rfl ?_)))))))
  refine st (X.bits (by simp) rfl rfl (or_u8 _ 128)) rfl ?_
  refine sbs1 rfl Tryz.underlying123 inf5 rfl rfl (by decide) (by decide) rfl (fun g12 w2 hR12 hg12 hb => ?_)
  replace hcw := hcw.then_below hb
  replace h := h.bel hb
  have hz_w2 := hb.size
  clear hb
  have hl12 := hR12.blt (by decide)
  refine sc _ Tryz.func141 rfl (by kernel_rfl) rfl rfl ((wput_any B g (t ++ m) [UInt8.ofNat (y % 256) ||| 128] _ _ h hR12.reads (by simp; omega)).mono ?_)
  clear h
  rintro e_ w3 ⟨rfl, h, hC⟩
  refine cR ?_
  replace hcw := hcw.next hC (fun i_ hi_ => by first | exact .inl hi_ | exact .inl (.inl hi_) | (right; subst hi_; omega) | (left; subst hi_; show _ ≤ _; omega) | (left; subst hi_; assumption))
  have hz_w3 := hC.size
  clear hC
  refine Wn (bN (tN (W_reg (sm rfl rfl (st (X.shr (q := 128) rfl rfl (by decide) (by decide) rfl rfl) rfl (sa rfl rfl (Wn (tN ⟨_, _, ?_, ⟨y / 128, m ++ [UInt8.ofNat (y % 256) ||| 128], rfl, rfl, by rw [List.length_append]; exact hst.2, by rw [List.length_append]; exact hst.1, by rw [hub, uvF_ge (by omega) (by omega), List.append_assoc, List.length_append, Nat.sub_sub]; rfl, by rw [← List.append_assoc]; exact h, hcw⟩, ⟨rfl, rfl, trivial⟩⟩))))))))
  omega
 ·first | replace h5 := of_decide_eq_false h5 | replace h5 := of_decide_eq_true (notF h5) | replace h5 := notF h5 | skip
  refine W_exit (tE (tE (bH (tN (W_reg (sm rfl rfl (sm rfl rfl (st (X.convI (m := (y : Int)) (z := ((UInt8.ofNat (y % 256)).toNat : Int)) rfl Tryz.underlying165 Tryz.underlying5 (by rw [hbt, w8]; omega)) rfl ?_))))))))
  refine sbs1 rfl Tryz.underlying123 inf5 rfl rfl (by decide) (by decide) rfl (fun g17 w4 hR17 hg17 hb => ?_)
  replace hcw := hcw.then_below hb
  replace h := h.bel hb
  have hz_w4 := hb.size
  clear hb
  have hl17 := hR17.blt (by decide)
  refine sc _ Tryz.func141 rfl (by kernel_rfl) rfl rfl ((wput_any B g (t ++ m) [UInt8.ofNat (y % 256)] _ _ h hR17.reads (by simp; omega)).mono ?_)
  clear h
  rintro e_ w5 ⟨rfl, h, hC⟩
  refine cR ?_
  replace hcw := hcw.next hC (fun i_ hi_ => by first | exact .inl hi_ | exact .inl (.inl hi_) | (right; subst hi_; omega) | (left; subst hi_; show _ ≤ _; omega) | (left; subst hi_; assumption))
  have hz_w5 := hC.size
  clear hC
  refine Wn ?_
  have hub2 : uvB x = m ++ [UInt8.ofNat (y % 256)] := by rw [hub, uvF_lt (by omega) (by omega)]
  rw [List.append_assoc, ← hub2] at h
  exact (r0 rfl ⟨rfl, h, hcw⟩).2
theorem WText_any (m : List UInt8) (hl : t.length ≤ 1000000) (hm : m.length ≤ 10000000) : Calls Tryz.prog 99 #[.pointer (some ⟨g, 0, none⟩), str m] w fun e w' => e = .returned (.tuple #[]) ∧ WrAt w' B g (t ++ (uvB m.length ++ m)) ∧ Chg (fun k => B ≤ k) w w' := by
 have hlt := h.lt
 have hge := h.ge
 have hul := uvB_length m.length (by omega)
 refine W_enter (args := [.pointer (some ⟨g, 0, none⟩), str m]) 12 Tryz.func99 rfl rfl rfl (W_sub [(0, .pointer (some ⟨g, 0, none⟩)), (1, str m)] ?_ ⟨rfl, rfl, trivial⟩)
 have hcw := Chg.refl (fun k => B ≤ k) w
 refine W_rs (sm rfl rfl (sm rfl rfl (st (X.lenS rfl rfl Tryz.underlying9) rfl (st (X.convI (m := (m.length : Int)) (z := (m.length : Int)) rfl Tryz.underlying3 Tryz.underlying165 (IntWalk.u64_in _ (by omega))) rfl (sc _ Tryz.func142 rfl (by kernel_rfl) rfl rfl ((WUvar_any B g t _ h m.length (by omega) (by omega)).mono ?_))))))
 clear h
 rintro e_ w1 ⟨rfl, h, hC⟩
 refine cR ?_
 replace hcw := hcw.next hC (fun i_ hi_ => by first | exact .inl hi_ | exact .inl (.inl hi_) | (right; subst hi_; omega) | (left; subst hi_; show _ ≤ _; omega) | (left; subst hi_; assumption))
 have hz_w1 := hC.size
 clear hC
 refine Wn (tN (W_reg (sm rfl rfl (sm rfl rfl (sc _ Tryz.func143 rfl (by kernel_rfl) rfl rfl ((WRaw_any B g (t ++ uvB m.length) _ h m (by rw [List.length_append]; omega) (by omega)).mono ?_))))))
 clear h
 rintro e_ w2 ⟨rfl, h, hC⟩
 refine cR ?_
 replace hcw := hcw.next hC (fun i_ hi_ => by first | exact .inl hi_ | exact .inl (.inl hi_) | (right; subst hi_; omega) | (left; subst hi_; show _ ≤ _; omega) | (left; subst hi_; assumption))
 have hz_w2 := hC.size
 clear hC
 refine Wn ?_
 rw [List.append_assoc] at h
 exact (r0 rfl ⟨rfl, h, hcw⟩).2
theorem Wfixed_any (x n : Nat) (hl : t.length ≤ 1099511627776) (hn : n ≤ 8) (hx : x < 18446744073709551616) : Calls Tryz.prog 144 #[.pointer (some ⟨g, 0, none⟩), .int .u64 x, .int .i64 n] w fun e w' => e = .returned (.tuple #[]) ∧ WrAt w' B g (t ++ fixB x n) ∧ Chg (fun k => B ≤ k) w w' := by
 have hlt := h.lt
 have hge := h.ge
 refine W_enter (args := [.pointer (some ⟨g, 0, none⟩), .int .u64 x, .int .i64 n]) 17 Tryz.func144 rfl rfl rfl (W_sub [(0, .pointer (some ⟨g, 0, none⟩)), (1, .int .u64 x), (2, .int .i64 n)] ?_ ⟨rfl, rfl, rfl, trivial⟩)
 have hcw := Chg.refl (fun k => B ≤ k) w
 refine W_rs (sm rfl rfl (sm rfl rfl (Wn (tN (W_block (W_lp (fun nw1_ lw1_ w1 => ∃ i : Nat, nw1_ = n - i ∧ lw1_ = ([(0, .pointer (some ⟨g, 0, none⟩)), (1, .int .u64 (x / 256 ^ i : Nat)), (6, .int .i64 n), (7, .int .i64 i)] : Env) ∧ (i ≤ n) ∧ (WrAt w1 B g (t ++ fixB x i)) ∧ (Chg (fun k => B ≤ k) w w1)) _ ⟨_, ⟨0, rfl, rfl, by omega, by rw [fixB, List.append_nil]; exact h, hcw⟩, ⟨rfl, by rw [Nat.pow_zero, Nat.div_one]; rfl, rfl, rfl, trivial⟩⟩ ?_))))))
 clear hcw
 rintro nw1_ lw1_ w1 ⟨i, rfl, rfl, hi, h, hcw⟩
 have hlt2 := h.lt
 have hz_w1 := hcw.size
 have hml : (t ++ fixB x i).length = t.length + i := by rw [List.length_append, fixB_length]
 have hfl := fixB_length x i
 refine W_rs (st (X.lss rfl rfl) rfl (Wn (tN (W_seq (W_if rfl (fun h8 => ?_) (fun h8 => ?_))))))
 ·first | replace h8 := of_decide_eq_true h8 | replace h8 := of_decide_eq_false (notT h8) | replace h8 := notT h8 | skip
  obtain ⟨y, hy⟩ : ∃ y, x / 256 ^ i = y := ⟨_, rfl⟩
  have hxi : y < 18446744073709551616 := by have := Nat.div_le_self x (256 ^ i); omega
  rw [hy]
  have hbt : (UInt8.ofNat (y % 256)).toNat = y % 256 := by simp
  refine W_skip (tN (W_seq (W_block (W_rs (sm rfl rfl (sm rfl rfl (st (X.convI (m := (y : Int)) (z := ((UInt8.ofNat (y % 256)).toNat : Int)) rfl Tryz.underlying165 Tryz.underlying5 (by rw [hbt, w8]; omega)) rfl ?_)))))))
  refine sbs1 rfl Tryz.underlying123 inf5 rfl rfl (by decide) (by decide) rfl (fun g12 w2 hR12 hg12 hb => ?_)
  replace hcw := hcw.then_below hb
  replace h := h.bel hb
  have hz_w2 := hb.size
  clear hb
  have hl12 := hR12.blt (by decide)
  refine sc _ Tryz.func141 rfl (by kernel_rfl) rfl rfl ((wput_any B g (t ++ fixB x i) [UInt8.ofNat (y % 256)] _ _ h hR12.reads (by simp; omega)).mono ?_)
  clear h
  rintro e_ w3 ⟨rfl, h, hC⟩
  refine cR ?_
  replace hcw := hcw.next hC (fun i_ hi_ => by first | exact .inl hi_ | exact .inl (.inl hi_) | (right; subst hi_; omega) | (left; subst hi_; show _ ≤ _; omega) | (left; subst hi_; assumption))
  have hz_w3 := hC.size
  clear hC
  rw [← hy] at h ⊢
  refine Wn (tN (W_reg (sm rfl rfl (st (X.shr (q := 256) rfl rfl (by decide) (by decide) rfl rfl) rfl (sa rfl rfl (Wn (bN (tN (W_reg (st (X.add64 rfl rfl (by omega)) rfl ?_))))))))))
  refine sm rfl rfl (Wn (tN ⟨_, _, ?_, ⟨i + 1, rfl, rfl, by omega, by rw [← fixB_snoc, ← List.append_assoc]; exact h, hcw⟩, ⟨rfl, by rw [Nat.pow_succ, ← Nat.div_div_eq_div_mul]; rfl, rfl, rfl, trivial⟩⟩))
  omega
 ·first | replace h8 := of_decide_eq_false h8 | replace h8 := of_decide_eq_true (notF h8) | replace h8 := notF h8 | skip
  refine W_exit (tE (tE (bH ?_)))
  obtain rfl : i = n := by omega
  exact (r0 rfl ⟨rfl, h, hcw⟩).2
theorem WU32_any (x : Nat) (hl : t.length ≤ 1099511627776) (hx : x < 4294967296) : Calls Tryz.prog 100 #[.pointer (some ⟨g, 0, none⟩), .int .u32 x] w fun e w' => e = .returned (.tuple #[]) ∧ WrAt w' B g (t ++ fixB x 4) ∧ Chg (fun k => B ≤ k) w w' := by
 have hlt := h.lt
 have hge := h.ge
 refine W_enter (args := [.pointer (some ⟨g, 0, none⟩), .int .u32 x]) 8 Tryz.func100 rfl rfl rfl (W_sub [(0, .pointer (some ⟨g, 0, none⟩)), (1, .int .u32 x)] ?_ ⟨rfl, rfl, trivial⟩)
 have hcw := Chg.refl (fun k => B ≤ k) w
 refine W_reg (sm rfl rfl (sm rfl rfl (st (X.convI (m := (x : Int)) (z := (x : Int)) rfl Tryz.underlying145 Tryz.underlying165 (IntWalk.u64_in _ (by omega))) rfl (sc _ Tryz.func144 rfl (by kernel_rfl) rfl rfl ((Wfixed_any B g t _ h x 4 hl (by omega) (by omega)).mono ?_)))))
 clear h
 rintro e_ w1 ⟨rfl, h, hC⟩
 refine cR ?_
 replace hcw := hcw.next hC (fun i_ hi_ => by first | exact .inl hi_ | exact .inl (.inl hi_) | (right; subst hi_; omega) | (left; subst hi_; show _ ≤ _; omega) | (left; subst hi_; assumption))
 have hz_w1 := hC.size
 clear hC
 refine Wn ?_
 exact (r0 rfl ⟨rfl, h, hcw⟩).2
theorem WString_any : Calls Tryz.prog 101 #[.pointer (some ⟨g, 0, none⟩)] w fun e w' => e = .returned (str t) ∧ w = w' := by
 obtain ⟨hge, v, hB, hR, hvo⟩ := h
 refine W_enter (args := [.pointer (some ⟨g, 0, none⟩)]) 10 Tryz.func101 rfl rfl rfl (W_sub [(0, .pointer (some ⟨g, 0, none⟩))] ?_ ⟨rfl, trivial⟩)
 refine W_rs (sa rfl rfl (Wn (tN (W_seq (W_rs (sm rfl rfl (st (X.wrEq rfl) rfl (Wn (tN (W_no rfl (rfl) ?_))))))))))
 refine W_skip (tN (W_rs (sm rfl rfl (st (X.nilChk rfl) rfl (st (X.fa fa170_0 rfl) rfl (st (X.ldL rfl hB Tryz.underlying123 rfl rfl) rfl (st (X.strOf (s := t) rfl Tryz.underlying123 Tryz.underlying5 Tryz.underlying9 hR.reads) rfl (sa rfl rfl (Wn (tN ?_))))))))))
 refine W_ret ?_
 exact (rT rfl rfl ⟨rfl, rfl⟩).1
end
def sealM (k : UInt8) (b : List UInt8) : List UInt8 := if k = 0 ∨ 1048576 < b.length then [] else ([k] ++ (uvB b.length ++ b)) ++ fixB (Crc.crc ([k] ++ (uvB b.length ++ b))).toNat 4
theorem Seal_any (k : UInt8) (b : List UInt8) (w : World) (hl : b.length ≤ 1099511627776) : Calls Tryz.prog 52 #[.int .u8 k.toNat, str b] w fun e w' => e = .returned (str (sealM k b)) ∧ Below w.heap.size w w' := by
 unfold sealM
 refine W_enter (args := [.int .u8 k.toNat, str b]) 21 Tryz.func52 rfl rfl rfl (W_sub [(0, .int .u8 k.toNat), (1, str b)] ?_ ⟨rfl, rfl, trivial⟩)
 have hcw := Chg.refl (fun k => w.heap.size ≤ k) w
 refine W_rs (sa rfl rfl (Wn (tN (W_seq (W_rs (sm rfl rfl (st (X.eql rfl rfl) rfl (sb rfl rfl (fun h8 => ?_) (fun h8 => ?_)))))))))
 ·first | replace h8 := of_decide_eq_true h8 | replace h8 := of_decide_eq_false (notT h8) | replace h8 := notT h8 | skip
  rw [if_pos (.inl (by apply UInt8.toNat.inj; show k.toNat = 0; omega))]
  refine gN (g := 8) rfl rfl rfl rfl (gN (g := 8) rfl rfl rfl rfl (gN (g := 8) rfl rfl rfl rfl (st (X.pickT rfl rfl) rfl (Wn (tN (W_yes rfl (rfl) (W_rs (sa rfl rfl (Wn (tN ?_))))))))))
  refine W_ret (tR ?_)
  exact (rT rfl rfl ⟨rfl, hcw.below (Nat.le_refl _) (fun _ h => h)⟩).1
 ·first | replace h8 := of_decide_eq_false h8 | replace h8 := of_decide_eq_true (notF h8) | replace h8 := notF h8 | skip
  have hk0 : k ≠ 0 := fun e => h8 (by rw [e]; rfl)
  refine gY (g := 8) rfl rfl rfl (sm rfl rfl (gY (g := 8) rfl rfl rfl (st (X.lenS rfl rfl Tryz.underlying9) rfl (gY (g := 8) rfl rfl rfl (st (X.gtr rfl rfl) rfl (st (X.pickF rfl rfl) rfl (Wn (tN (W_if rfl (fun h12 => ?_) (fun h12 => ?_))))))))))
  ·first | replace h12 := of_decide_eq_true h12 | replace h12 := of_decide_eq_false (notT h12) | replace h12 := notT h12 | skip
   rw [if_pos (.inr (by omega))]
   refine W_rs (sa rfl rfl (Wn (tN (W_ret (tR ?_)))))
   exact (rT rfl rfl ⟨rfl, hcw.below (Nat.le_refl _) (fun _ h => h)⟩).1
  ·first | replace h12 := of_decide_eq_false h12 | replace h12 := of_decide_eq_true (notF h12) | replace h12 := notF h12 | skip
   rw [if_neg (fun e => by rcases e with e | e; exact hk0 e; omega)]
   refine W_skip (tN (W_rs (salA inf170 rfl (fun g5 w1 hB5 hg5 hb hl5 => ?_))))
   replace hcw := hcw.then_below hb
   have hz_w1 := hb.size
   clear hb
   refine Wn (tN (W_rs ?_))
   have h : WrAt w1 w.heap.size g5 [] := ⟨by omega, _, hB5, Row.nil _ _ _, by simp [Value.ownBlock]⟩
   have hul := uvB_length b.length (by omega)
   clear hB5
   refine sm rfl rfl (sc _ Tryz.func98 rfl (by kernel_rfl) rfl rfl ((WU8_any _ _ [] _ h k (by simp)).mono ?_))
   clear h
   rintro e_ w2 ⟨rfl, h, hC⟩
   refine cR ?_
   replace hcw := hcw.next hC (fun i_ hi_ => by first | exact .inl hi_ | exact .inl (.inl hi_) | (right; subst hi_; omega) | (left; subst hi_; show _ ≤ _; omega) | (left; subst hi_; assumption))
   have hz_w2 := hC.size
   clear hC
   refine Wn (tN (W_rs (sm rfl rfl (sc _ Tryz.func99 rfl (by kernel_rfl) rfl rfl ((WText_any _ _ ([] ++ [k]) _ h b (by simp) (by omega)).mono ?_)))))
   clear h
   rintro e_ w3 ⟨rfl, h, hC⟩
   refine cR ?_
   replace hcw := hcw.next hC (fun i_ hi_ => by first | exact .inl hi_ | exact .inl (.inl hi_) | (right; subst hi_; omega) | (left; subst hi_; show _ ≤ _; omega) | (left; subst hi_; assumption))
   have hz_w3 := hC.size
   clear hC
   obtain ⟨p, hp⟩ : ∃ p, [k] ++ (uvB b.length ++ b) = p := ⟨_, rfl⟩
   have hpl : p.length = 1 + ((uvB b.length).length + b.length) := by rw [← hp]; simp; omega
   rw [List.nil_append, hp] at h
   rw [hp]
   refine Wn (tN (W_rs (sc _ Tryz.func101 rfl (by kernel_rfl) rfl rfl ((WString_any _ _ _ _ h).mono ?_))))
   rintro e_ w_ ⟨rfl, rfl⟩
   refine cR (sc _ Tryz.func78 rfl (by kernel_rfl) rfl rfl ((Crc_any p _ (by omega)).mono ?_))
   rintro e_ w4 ⟨rfl, hb⟩
   refine cR ?_
   replace hcw := hcw.then_below hb
   replace h := h.bel hb
   have hz_w4 := hb.size
   clear hb
   have hcl := (Crc.crc p).toNat_lt
   refine sc _ Tryz.func100 rfl (by kernel_rfl) rfl rfl ((WU32_any _ _ p _ h (Crc.crc p).toNat (by omega) (by omega)).mono ?_)
   clear h
   rintro e_ w5 ⟨rfl, h, hC⟩
   refine cR ?_
   replace hcw := hcw.next hC (fun i_ hi_ => by first | exact .inl hi_ | exact .inl (.inl hi_) | (right; subst hi_; omega) | (left; subst hi_; show _ ≤ _; omega) | (left; subst hi_; assumption))
   have hz_w5 := hC.size
   clear hC
   refine Wn (tN (W_rs (sc _ Tryz.func101 rfl (by kernel_rfl) rfl rfl ((WString_any _ _ _ _ h).mono ?_))))
   rintro e_ w_ ⟨rfl, rfl⟩
   refine cR (sa rfl rfl (Wn (tN (W_ret ?_))))
   exact (rT rfl rfl ⟨rfl, hcw.below (Nat.le_refl _) (fun _ h => h)⟩).1
end Go.Proofs.YtnlabkogebnioaaGreatDoor
namespace Go.Proofs.YtnlabkogebnioaaGreatDoor.Sha
def rotr (x n : UInt32) : UInt32 := (x >>> n) ||| (x <<< (32 - n))
def s0 (x : UInt32) : UInt32 := rotr x 7 ^^^ rotr x 18 ^^^ (x >>> 3)
def s1 (x : UInt32) : UInt32 := rotr x 17 ^^^ rotr x 19 ^^^ (x >>> 10)
def be (a b c d : UInt8) : UInt32 := ((a.toUInt32 <<< 24 ||| b.toUInt32 <<< 16) ||| c.toUInt32 <<< 8) ||| d.toUInt32
def wordAt (s : List UInt8) (t : Nat) : UInt32 := be (s.getD (4 * t) 0) (s.getD (4 * t + 1) 0) (s.getD (4 * t + 2) 0) (s.getD (4 * t + 3) 0)
def wordsTo (s : List UInt8) : Nat → List UInt32
  | 0 => []
  | t + 1 => wordsTo s t ++ [wordAt s t]
def ext (l : List UInt32) (t : Nat) : UInt32 := s1 (l.getD (t - 2) 0) + l.getD (t - 7) 0 + s0 (l.getD (t - 15) 0) + l.getD (t - 16) 0
def extTo (l : List UInt32) : Nat → List UInt32
  | 0 => l
  | j + 1 => extTo l j ++ [ext (extTo l j) (16 + j)]
structure St where
  a : UInt32
  b : UInt32
  c : UInt32
  d : UInt32
  e : UInt32
  f : UInt32
  g : UInt32
  h : UInt32
def kTab : List UInt32 := [
  0x428a2f98, 0x71374491, 0xb5c0fbcf, 0xe9b5dba5, 0x3956c25b, 0x59f111f1, 0x923f82a4, 0xab1c5ed5,
  0xd807aa98, 0x12835b01, 0x243185be, 0x550c7dc3, 0x72be5d74, 0x80deb1fe, 0x9bdc06a7, 0xc19bf174,
  0xe49b69c1, 0xefbe4786, 0x0fc19dc6, 0x240ca1cc, 0x2de92c6f, 0x4a7484aa, 0x5cb0a9dc, 0x76f988da,
  0x983e5152, 0xa831c66d, 0xb00327c8, 0xbf597fc7, 0xc6e00bf3, 0xd5a79147, 0x06ca6351, 0x14292967,
  0x27b70a85, 0x2e1b2138, 0x4d2c6dfc, 0x53380d13, 0x650a7354, 0x766a0abb, 0x81c2c92e, 0x92722c85,
  0xa2bfe8a1, 0xa81a664b, 0xc24b8b70, 0xc76c51a3, 0xd192e819, 0xd6990624, 0xf40e3585, 0x106aa070,
  0x19a4c116, 0x1e376c08, 0x2748774c, 0x34b0bcb5, 0x391c0cb3, 0x4ed8aa4a, 0x5b9cca4f, 0x682e6ff3,
  0x748f82ee, 0x78a5636f, 0x84c87814, 0x8cc70208, 0x90befffa, 0xa4506ceb, 0xbef9a3f7, 0xc67178f2]
def begin_ : St := ⟨0x6a09e667, 0xbb67ae85, 0x3c6ef372, 0xa54ff53a, 0x510e527f, 0x9b05688c, 0x1f83d9ab, 0x5be0cd19⟩
def t1 (v : St) (k w : UInt32) : UInt32 := v.h + (rotr v.e 6 ^^^ rotr v.e 11 ^^^ rotr v.e 25) + ((v.e &&& v.f) ^^^ (~~~v.e &&& v.g)) + k + w
def t2 (v : St) : UInt32 := (rotr v.a 2 ^^^ rotr v.a 13 ^^^ rotr v.a 22) + ((v.a &&& v.b) ^^^ (v.a &&& v.c) ^^^ (v.b &&& v.c))
def round (v : St) (k w : UInt32) : St := ⟨t1 v k w + t2 v, v.a, v.b, v.c, v.d + t1 v k w, v.e, v.f, v.g⟩
def roundsTo (ws : List UInt32) (v : St) : Nat → St
  | 0 => v
  | t + 1 => round (roundsTo ws v t) (kTab.getD t 0) (ws.getD t 0)
def addSt (x y : St) : St := ⟨x.a + y.a, x.b + y.b, x.c + y.c, x.d + y.d, x.e + y.e, x.f + y.f, x.g + y.g, x.h + y.h⟩
def sched (s : List UInt8) : List UInt32 := extTo (wordsTo s 16) 48
def block (v : St) (s : List UInt8) : St := addSt v (roundsTo (sched s) v 64)
def absorbN : Nat → St → List UInt8 → St × List UInt8
  | 0, v, l => (v, l)
  | n + 1, v, l => absorbN n (block v (l.take 64)) (l.drop 64)
def absorb (v : St) (l : List UInt8) : St × List UInt8 := absorbN (l.length / 64) v l
def zeros (len : Nat) : Nat := (119 - len % 64) % 64
def lenByte (n i : Nat) : UInt8 := UInt8.ofNat (n * 8 / 2 ^ (8 * i))
def lenTo (n : Nat) : Nat → List UInt8
  | 0 => []
  | j + 1 => lenTo n j ++ [lenByte n (7 - j)]
def pad (len n : Nat) : List UInt8 := 128 :: (List.replicate (zeros len) 0 ++ lenTo n 8)
def wordBytes (x : UInt32) : List UInt8 := [(x >>> 24).toUInt8, (x >>> 16).toUInt8, (x >>> 8).toUInt8, x.toUInt8]
def St.words (v : St) : List UInt32 := [v.a, v.b, v.c, v.d, v.e, v.f, v.g, v.h]
def St.bytes (v : St) : List UInt8 := v.words.flatMap wordBytes
def sumOf (v : St) (rest : List UInt8) (n : Nat) : List UInt8 := (absorb v (rest ++ pad rest.length n)).1.bytes
def sha (m : List UInt8) : List UInt8 := sumOf (absorb begin_ m).1 (absorb begin_ m).2 m.length
theorem absorb_end (v : St) (l : List UInt8) (h : l.length < 64) : absorb v l = (v, l) := by
 unfold absorb
 rw [show l.length / 64 = 0 from by omega]
 rfl
theorem absorb_step (v : St) (l : List UInt8) (h : 64 ≤ l.length) : absorb v l = absorb (block v (l.take 64)) (l.drop 64) := by
 unfold absorb
 rw [show l.length / 64 = (l.drop 64).length / 64 + 1 from by rw [List.length_drop]; omega]
 rfl
theorem absorbN_length (n : Nat) : ∀ (v : St) (l : List UInt8), (absorbN n v l).2.length = l.length - 64 * n := by
 induction n with
 | zero => intro v l; rfl
 | succ n ih => intro v l; simp only [absorbN]; rw [ih, List.length_drop]; omega
theorem absorb_length (v : St) (l : List UInt8) : (absorb v l).2.length = l.length % 64 := by
 unfold absorb
 rw [absorbN_length]
 omega
end Go.Proofs.YtnlabkogebnioaaGreatDoor.Sha
namespace Go.Proofs.YtnlabkogebnioaaGreatDoor
open Go.RowKit Sha
def rightP (n : Int) : Bool := decide (0 ≤ n ∧ n ≤ 999999)
def d10 (n : Nat) : UInt8 := UInt8.ofNat (48 + n % 10)
def dig : Nat → Nat → List UInt8
  | 0, _ => []
  | k + 1, n => dig k (n / 10) ++ [d10 n]
theorem dig_length : ∀ k n, (dig k n).length = k
 | 0, _ => rfl
 | k + 1, n => by rw [dig, List.length_append, dig_length]; rfl
theorem dig_zero : ∀ k, dig k 0 = List.replicate k 48
 | 0 => rfl
 | k + 1 => by rw [dig, Nat.zero_div, dig_zero k, List.replicate_succ']; rfl
theorem dig_dec : ∀ k n, n < 10 ^ (k + 1) → (Lib.decDigits n).length ≤ k + 1 ∧ List.replicate (k + 1 - (Lib.decDigits n).length) 48 ++ Lib.decDigits n = dig (k + 1) n := by
 intro k
 induction k with
 | zero =>
  intro n h
  rw [Lib.decDigits_one (by simpa using h)]
  refine ⟨Nat.le_refl _, ?_⟩
  simp only [dig, d10, List.length_singleton, List.nil_append]
  rw [Nat.mod_eq_of_lt (by simpa using h)]
  rfl
 | succ k ih =>
  intro n h
  by_cases h1 : n < 10
  ·rw [Lib.decDigits_one h1]
   refine ⟨by simp, ?_⟩
   rw [dig, Nat.div_eq_of_lt h1, dig_zero]
   simp only [d10, List.length_singleton]
   rw [Nat.mod_eq_of_lt h1]
   rfl
  ·obtain ⟨h2, h3⟩ := ih (n / 10) (by rw [Nat.pow_succ] at h; omega)
   rw [Lib.decDigits, dif_neg h1]
   refine ⟨by simp; omega, ?_⟩
   rw [List.length_append, List.length_singleton, show k + 1 + 1 - ((Lib.decDigits (n / 10)).length + 1) = k + 1 - (Lib.decDigits (n / 10)).length by omega, ← List.append_assoc, h3]
   rfl
def six (n : Nat) : List UInt8 := dig 6 n
theorem six_dec {n : Nat} (h : n ≤ 999999) : (Lib.decDigits n).length ≤ 6 ∧ List.replicate (6 - (Lib.decDigits n).length) 48 ++ Lib.decDigits n = six n := dig_dec 5 n (by omega)
def namedP (kind : List UInt8) (n : Int) : List UInt8 := if rightP n = true then kind ++ six n.toNat else []
def packB : List UInt8 := [112, 97, 99, 107, 45]
def nameP (n : Int) : List UInt8 := namedP packB n
structure Scn where
  l : List Ent
  good : Nat
  whole : Bool
def hadM (l : List Ent) (a : List UInt8) : Bool := l.any fun e => decide (e.sum = a)
theorem hadM_false {l : List Ent} {a : List UInt8} (h : hadM l a = false) : ∀ e ∈ l, e.sum ≠ a := by
 unfold hadM at h
 rw [List.any_eq_false] at h
 exact fun e he => by simpa using h e he
end Go.Proofs.YtnlabkogebnioaaGreatDoor
namespace Go.Proofs.YtnlabkogebnioaaGreatDoor
open Go.RowKit Sha
theorem rotr_any (x : UInt32) (n : Int) (w : World) (h0 : 1 ≤ n) (h1 : n ≤ 31) :
  Calls Tryz.prog 151 #[.int .u32 x.toNat, .int .u64 n] w fun e w' => e = .returned (.int .u32 (rotr x (UInt32.ofNat n.toNat)).toNat) ∧ w = w' := by
 have hx := lt_u32 x
 have hx0 : (0 : Int) ≤ x.toNat := by omega
 go_enter Tryz.func151, Tryz.ntmps151
 go_wp2
 go_ret
 obtain ⟨m, rfl⟩ := Int.eq_ofNat_of_zero_le (by omega : 0 ≤ n)
 refine ⟨?_, rfl⟩
 have e1 : (32 - (m : Int)).toNat = 32 - m := by omega
 have key : bits BinOp.or IntKind.u32 ((x.toNat : Int) / 2 ^ m) ((x.toNat : Int) * 2 ^ (32 - m) % 4294967296) = ((rotr x (UInt32.ofNat m)).toNat : Int) := by
  rw [shr_u32 x m (by omega), shl_u32 x (32 - m) (by omega), or_u32]
  show ((x >>> UInt32.ofNat m ||| x <<< UInt32.ofNat (32 - m)).toNat : Int) = ((x >>> UInt32.ofNat m ||| x <<< (32 - UInt32.ofNat m)).toNat : Int)
  congr 4
  apply UInt32.toNat.inj
  rw [UInt32.toNat_sub_of_le, UInt32.toNat_ofNat_of_lt' (by simp [UInt32.size]; omega), UInt32.toNat_ofNat_of_lt' (by simp [UInt32.size]; omega)]
  ·rfl
  ·rw [UInt32.le_iff_toNat_le, UInt32.toNat_ofNat_of_lt' (by simp [UInt32.size]; omega)]; simp; omega
 simp only [Int.toNat_natCast, e1]
 rw [← key]
 rfl
theorem getD_snoc (l : List UInt32) (x : UInt32) (j t : Nat) (h : l.length = t) : (if j = t then x else l.getD j 0) = (l ++ [x]).getD j 0 := by
 subst h
 by_cases hj : j = l.length
 ·subst hj; simp
 ·rw [if_neg hj]
  rcases Nat.lt_or_ge j l.length with h1 | h1
  ·simp [List.getD, List.getElem?_append_left h1]
  ·simp [List.getD, List.getElem?_eq_none h1, List.getElem?_eq_none (l := l ++ [x]) (i := j) (by simp; omega)]
theorem be_eq (x0 x1 x2 x3 : UInt8) : bits BinOp.or IntKind.u32
           (bits BinOp.or IntKind.u32
            (bits BinOp.or IntKind.u32 ((x0.toNat : Int) % 4294967296 * 16777216 % 4294967296)
             ((x1.toNat : Int) % 4294967296 * 65536 % 4294967296))
            ((x2.toNat : Int) % 4294967296 * 256 % 4294967296))
           ((x3.toNat : Int) % 4294967296) = ((be x0 x1 x2 x3).toNat : Int) := by
 have a := shl_u32 x0.toUInt32 24 (by omega)
 have b := shl_u32 x1.toUInt32 16 (by omega)
 have c := shl_u32 x2.toUInt32 8 (by omega)
 simp only [u8_to_u32] at *
 rw [show (16777216 : Int) = 2 ^ 24 from rfl, show (65536 : Int) = 2 ^ 16 from rfl, show (256 : Int) = 2 ^ 8 from rfl, a, b, c, or_u32, or_u32, or_u32]
 rfl
theorem s0_eq (y : UInt32) : bits BinOp.xor IntKind.u32 (bits BinOp.xor IntKind.u32 ((rotr y 7).toNat : Int) ((rotr y 18).toNat : Int)) ((y.toNat : Int) / 8) = ((s0 y).toNat : Int) := by
 rw [show (8 : Int) = 2 ^ 3 from rfl, shr_u32 y 3 (by omega), xor_u32, xor_u32]; rfl
theorem s1_eq (y : UInt32) : bits BinOp.xor IntKind.u32 (bits BinOp.xor IntKind.u32 ((rotr y 17).toNat : Int) ((rotr y 19).toNat : Int)) ((y.toNat : Int) / 1024) = ((s1 y).toNat : Int) := by
 rw [show (1024 : Int) = 2 ^ 10 from rfl, shr_u32 y 10 (by omega), xor_u32, xor_u32]; rfl
theorem ext_eq (y2 y7 y15 y16 : UInt32) : (bits BinOp.xor IntKind.u32 (bits BinOp.xor IntKind.u32 ((rotr y2 17).toNat : Int) ((rotr y2 19).toNat : Int)) ((y2.toNat : Int) / 1024) + (y7.toNat : Int)
   + bits BinOp.xor IntKind.u32 (bits BinOp.xor IntKind.u32 ((rotr y15 7).toNat : Int) ((rotr y15 18).toNat : Int)) ((y15.toNat : Int) / 8) + (y16.toNat : Int)) % 4294967296 = ((s1 y2 + y7 + s0 y15 + y16).toNat : Int) := by
 rw [s0_eq, s1_eq]
 simp only [UInt32.toNat_add]
 omega
theorem not_u32 (x : UInt32) : bits BinOp.xor IntKind.u32 IntKind.u32.max (x.toNat : Int) = ((~~~x).toNat : Int) := by
 have h : IntKind.u32.max = ((4294967295 : UInt32).toNat : Int) := by decide
 rw [h, xor_u32]
 congr 2
theorem t1_eq (x : St) (kk ww : UInt32) : ∃ n : Nat, (x.h.toNat : Int) + bits BinOp.xor IntKind.u32 (bits BinOp.xor IntKind.u32 ((rotr x.e 6).toNat : Int) ((rotr x.e 11).toNat : Int)) ((rotr x.e 25).toNat : Int)
     + bits BinOp.xor IntKind.u32 (bits BinOp.and IntKind.u32 (x.e.toNat : Int) (x.f.toNat : Int)) (bits BinOp.and IntKind.u32 (bits BinOp.xor IntKind.u32 IntKind.u32.max (x.e.toNat : Int)) (x.g.toNat : Int))
     + (kk.toNat : Int) + (ww.toNat : Int) = (n : Int) ∧ n % 4294967296 = (t1 x kk ww).toNat := by
  refine ⟨x.h.toNat + (rotr x.e 6 ^^^ rotr x.e 11 ^^^ rotr x.e 25).toNat + ((x.e &&& x.f) ^^^ (~~~x.e &&& x.g)).toNat + kk.toNat + ww.toNat, ?_, ?_⟩
  · simp only [not_u32, xor_u32, and_u32]; omega
  · simp only [t1, UInt32.toNat_add]; omega
theorem t2_eq (x : St) : ∃ n : Nat, bits BinOp.xor IntKind.u32 (bits BinOp.xor IntKind.u32 ((rotr x.a 2).toNat : Int) ((rotr x.a 13).toNat : Int)) ((rotr x.a 22).toNat : Int)
     + bits BinOp.xor IntKind.u32 (bits BinOp.xor IntKind.u32 (bits BinOp.and IntKind.u32 (x.a.toNat : Int) (x.b.toNat : Int)) (bits BinOp.and IntKind.u32 (x.a.toNat : Int) (x.c.toNat : Int))) (bits BinOp.and IntKind.u32 (x.b.toNat : Int) (x.c.toNat : Int))
      = (n : Int) ∧ n % 4294967296 = (t2 x).toNat := by
  refine ⟨(rotr x.a 2 ^^^ rotr x.a 13 ^^^ rotr x.a 22).toNat + ((x.a &&& x.b) ^^^ (x.a &&& x.c) ^^^ (x.b &&& x.c)).toNat, ?_, ?_⟩
  · simp only [xor_u32, and_u32, Int.natCast_add]
  · simp only [t2, UInt32.toNat_add]
theorem wordsTo_length (s : List UInt8) (t : Nat) : (wordsTo s t).length = t := by
 induction t with
 | zero => rfl
 | succ t ih => simp [wordsTo, ih]
theorem extTo_length (l : List UInt32) (t : Nat) : (extTo l t).length = l.length + t := by
 induction t with
 | zero => rfl
 | succ t ih => simp [extTo, ih]; omega
def stCells (v : St) : Array Value := #[.int .u32 v.a.toNat, .int .u32 v.b.toNat, .int .u32 v.c.toNat, .int .u32 v.d.toNat, .int .u32 v.e.toNat, .int .u32 v.f.toNat, .int .u32 v.g.toNat, .int .u32 v.h.toNat]
theorem quiet_add_left {P : Program} {f : FuncId} {args : Array Value} {w : World} {a n : Nat} {v : Value}
  (h : Calls P f args (w.drewN (a + n)) fun e w' => e = .returned v ∧ w.drewN (a + n) = w') :
  Calls P f args (w.drewN (a + n)) fun e w'' => e = .returned v ∧ ∃ m, w'' = w.drewN (a + m) :=
 h.mono fun _ _ ⟨he, hm⟩ => ⟨he, n, hm.symm⟩
def hashF (v x : St) (rv nv : Value) (t j : Nat) : Value :=
  if j < 8 then .int .u32 (if j < t then v.words.getD j 0 + x.words.getD j 0 else v.words.getD j 0).toNat else if j = 8 then rv else nv
def hashCells (v : St) (rv nv : Value) : Array Value := #[.int .u32 v.a.toNat, .int .u32 v.b.toNat, .int .u32 v.c.toNat, .int .u32 v.d.toNat, .int .u32 v.e.toNat, .int .u32 v.f.toNat, .int .u32 v.g.toNat, .int .u32 v.h.toNat, rv, nv]
theorem hash_of_row {w : World} {b : Nat} {v x : St} {rv nv : Value} (h : w.rowIs b 181 10 (hashF v x rv nv 8)) : Blk w b 181 (hashCells (addSt v x) rv nv) := by
 obtain ⟨c, hc, hn, hi⟩ := h
 unfold Blk
 rw [hc]
 congr 2
 apply Array.ext_getElem?
 intro i
 by_cases h10 : i < 10
 ·rw [hi i h10]
  match i, h10 with
  | 0, _ | 1, _ | 2, _ | 3, _ | 4, _ | 5, _ | 6, _ | 7, _ | 8, _ | 9, _ => rfl
 ·rw [Array.getElem?_eq_none (by omega), Array.getElem?_eq_none (by simp [hashCells]; omega)]
theorem index_st (x : St) (j : Nat) (W : World) (hj : j < 8) : (Instr.index 179 (.agg #[Value.int IntKind.u32 ↑x.a.toNat, Value.int IntKind.u32 ↑x.b.toNat, Value.int IntKind.u32 ↑x.c.toNat, Value.int IntKind.u32 ↑x.d.toNat, Value.int IntKind.u32 ↑x.e.toNat, Value.int IntKind.u32 ↑x.f.toNat, Value.int IntKind.u32 ↑x.g.toNat, Value.int IntKind.u32 ↑x.h.toNat]) (.int .i64 (j : Int))).run Tryz.prog W = .ok (.int .u32 (x.words.getD j 0).toNat) W := by
 have h : j = 0 ∨ j = 1 ∨ j = 2 ∨ j = 3 ∨ j = 4 ∨ j = 5 ∨ j = 6 ∨ j = 7 := by omega
 clear hj
 rcases h with rfl | rfl | rfl | rfl | rfl | rfl | rfl | rfl <;> (show _ = _; kernel_rfl)
theorem copy_st (w : World) (g : Nat) (x : St) (h : Blk w g 179 (stCells x)) : ∃ w3 : World,
  (∀ k, (Builtin.copy_ #[228, 228] 3 #[.slice (some ⟨g, 1, none⟩) 7 7, .slice (some ⟨g, 0, none⟩) 7 8]).run Tryz.prog (w.drewN k) = .ok (.int .i64 7) (w3.drewN k)) ∧
  Blk w3 g 179 #[.int .u32 x.a.toNat, .int .u32 x.a.toNat, .int .u32 x.b.toNat, .int .u32 x.c.toNat, .int .u32 x.d.toNat, .int .u32 x.e.toNat, .int .u32 x.f.toNat, .int .u32 x.g.toNat] ∧ Chg (fun k => k = g) w w3 := by
 obtain ⟨i, hi, _, h1, _⟩ := info_parts (show (Tryz.prog.info? 145).map (fun i => (i.zero, i.size, i.bytes)) = some (some (.int .u32 0), 1, 4) by kernel_rfl)
 refine ⟨w.setRow g #[.int .u32 x.a.toNat, .int .u32 x.a.toNat, .int .u32 x.b.toNat, .int .u32 x.c.toNat, .int .u32 x.d.toNat, .int .u32 x.e.toNat, .int .u32 x.f.toNat, .int .u32 x.g.toNat], fun k => ?_, setRow_heap _ _ _ _ _ _ h, (Chg.refl (fun k => k = g) w).setRow (.inl rfl) _⟩
 exact run_copy_within (P := Tryz.prog) (w.drewN k) (h.drewN k) 228 3 145 i Tryz.underlying228 hi h1 1 0 7 7 7 8 (by omega) (by simp [stCells]) (by simp [stCells]) (fun u hu => by simp [stCells] at hu; rcases hu with h | h | h | h | h | h | h | h <;> (subst h; rfl))
set_option maxHeartbeats 1000000 in
set_option maxRecDepth 100000 in
theorem block_any (b g off cap : Nat) (v : St) (rv nv : Value) (s : List UInt8) (w : World) (hb : Blk w b 181 (hashCells v rv nv))
   (hg : g < w.heap.size) (_hcap : 64 ≤ cap) (_hcap2 : cap ≤ 9223372036854775807)
   (hs : ∀ j, j < 64 → w.cell? ⟨g, off + j, none⟩ = some (.int .u8 (s.getD j 0).toNat))
   (hk : ∀ j, j < 64 → w.cell? ⟨1, j, none⟩ = some (.int .u32 (kTab.getD j 0).toNat)) (hk1 : 1 < w.heap.size) :
    Calls Tryz.prog 110 #[.pointer (some ⟨b, 0, none⟩), .slice (some ⟨g, off, none⟩) 64 cap] w fun e w' => e = .returned (.tuple #[]) ∧ Blk w' b 181 (hashCells (block v s) rv nv) ∧ Chg (fun k => k = b) w w' := by
  have Hs := Lib.hid hs; clear hs
  have Hk := Lib.hid hk; clear hk
  have Hb := Lib.hid hb; clear hb
  go_enter Tryz.func110, Tryz.ntmps110
  go_wp2
  go_loopw [19] (fun i wr => ∃ t : Nat, t ≤ 16 ∧ i = .int .i64 t ∧ wr.rowIs w.heap.size 226 64 (fun j => .int .u32 ((wordsTo s t).getD j 0).toNat) ∧ Chg (fun _ => False) w wr) (fun i _ => 16 - (intOf i).toNat)
  case atStart =>
    refine ⟨0, by omega, rfl, ?_, (Chg.refl _ _).alloc _⟩
    exact World.rowIs_alloc _ _ _ _ (fun i hi => by
      simp only [List.size_toArray, List.length_cons, List.length_nil] at hi
      have : ∀ i, i < 64 → (List.replicate 64 (Value.int IntKind.u32 0)).toArray[i]? = some (Value.int IntKind.u32 0) := fun i hi => by rw [List.getElem?_toArray, List.getElem?_replicate, if_pos hi]
      exact this i hi)
  case round =>
    obtain ⟨t, ht, rfl, hr, hc⟩ := hrel
    by_cases hlt : t < 16
    · have hcell : ∀ j, j < 64 → wr.cell? ⟨g, off + j, none⟩ = some (.int .u8 (s.getD j 0).toNat) := fun j hj => (hc.cell (p := ⟨g, off + j, none⟩) hg (fun f => f)).trans (Hs.out j hj)
      have c0 := hcell (4 * t) (by omega)
      have c1 := hcell (4 * t + 1) (by omega)
      have c2 := hcell (4 * t + 2) (by omega)
      have c3 := hcell (4 * t + 3) (by omega)
      clear hcell
      have d0 := hr.cell (i := t) (by omega)
      have d1 := hr.frozen (i := t)
      have Hr := Lib.hid hr; clear hr
      have Hw : Hid (wordsTo s (t + 1) = wordsTo s t ++ [be (s.getD (4*t) 0) (s.getD (4*t+1) 0) (s.getD (4*t+2) 0) (s.getD (4*t+3) 0)]) := rfl
      generalize s.getD (4*t) 0 = x0 at *
      generalize s.getD (4*t+1) 0 = x1 at *
      generalize s.getD (4*t+2) 0 = x2 at *
      generalize s.getD (4*t+3) 0 = x3 at *
      go_wp2
      go_region
      go_wp2
      go_roundw
      case rel =>
        refine ⟨t + 1, by omega, by go_num, ?_, (hc.setCell (.inr (Nat.le_refl _)) _).drew⟩
        rw [be_eq]
        refine ((Hr.out.set t _).drew).congr (fun j hj => ?_)
        rw [Hw.out, ← getD_snoc _ _ j t (wordsTo_length s t)]
        split <;> rfl
      case measure => simp [intOf]; omega
    · have Hr : Hid (wr.rowIs w.heap.size 226 64 (fun j => .int .u32 ((wordsTo s 16).getD j 0).toNat)) := by
        obtain rfl : t = 16 := by omega
        exact hr
      clear hr
      have hdec : decide ((t : Int) < 16) = false := by simp; omega
      obtain ⟨w1, rfl⟩ : ∃ w1 : World, w1 = wr := ⟨_, rfl⟩
      go_wp2
      go_loopw [6] (fun i wr => ∃ t : Nat, 16 ≤ t ∧ t ≤ 64 ∧ i = .int .i64 t ∧ wr.rowIs w.heap.size 226 64 (fun j => .int .u32 ((extTo (wordsTo s 16) (t - 16)).getD j 0).toNat) ∧ Chg (fun _ => False) w wr) (fun i _ => 64 - (intOf i).toNat)
      case atStart => exact ⟨16, by omega, by omega, rfl, Hr.out, hc⟩
      case round =>
        obtain ⟨t, ht0, ht, rfl, hr, hc'⟩ := hrel
        by_cases hlt : t < 64
        · have c0 := hr.cell (i := t - 15) (by omega)
          have c1 := hr.cell (i := t - 2) (by omega)
          have c2 := hr.cell (i := t - 7) (by omega)
          have c3 := hr.cell (i := t - 16) (by omega)
          have d0 := hr.cell (i := t) (by omega)
          have d1 := hr.frozen (i := t)
          have Hr := Lib.hid hr; clear hr
          have He : Hid (extTo (wordsTo s 16) (t + 1 - 16) = extTo (wordsTo s 16) (t - 16) ++ [s1 ((extTo (wordsTo s 16) (t - 16)).getD (t - 2) 0) + (extTo (wordsTo s 16) (t - 16)).getD (t - 7) 0 + s0 ((extTo (wordsTo s 16) (t - 16)).getD (t - 15) 0) + (extTo (wordsTo s 16) (t - 16)).getD (t - 16) 0]) := by
            show extTo (wordsTo s 16) (t + 1 - 16) = _
            rw [show t + 1 - 16 = (t - 16) + 1 from by omega, extTo, ext, show 16 + (t - 16) = t from by omega]
          have Hl : Hid ((extTo (wordsTo s 16) (t - 16)).length = t) := by
            show (extTo (wordsTo s 16) (t - 16)).length = t
            rw [extTo_length, wordsTo_length]; omega
          generalize (extTo (wordsTo s 16) (t - 16)).getD (t - 15) 0 = y15 at *
          generalize (extTo (wordsTo s 16) (t - 16)).getD (t - 2) 0 = y2 at *
          generalize (extTo (wordsTo s 16) (t - 16)).getD (t - 7) 0 = y7 at *
          generalize (extTo (wordsTo s 16) (t - 16)).getD (t - 16) 0 = y16 at *
          go_wp2_with (go_at_call 151; refine (rotr_any _ _ _ (by omega) (by omega)).mono ?_; rintro e w' ⟨rfl, rfl⟩)
          go_region
          go_wp2_with (go_at_call 151; refine (rotr_any _ _ _ (by omega) (by omega)).mono ?_; rintro e w' ⟨rfl, rfl⟩)
          go_region
          go_wp2
          go_roundw
          case rel =>
            refine ⟨t + 1, by omega, by omega, by go_num, ?_, by
               exact (hc'.setCell (.inr (Nat.le_refl _)) _).drewN 2⟩
            refine ((Hr.out.set t _).drew).congr (fun j hj => ?_)
            rw [ext_eq, He.out, ← getD_snoc _ _ j t Hl.out]
            split <;> rfl
          case measure => simp [intOf]; omega
        · have hrow : Hid (wr.rowIs w.heap.size 226 64 (fun j => .int .u32 ((sched s).getD j 0).toNat)) := by
            obtain rfl : t = 64 := by omega
            exact hr
          clear hr
          have hbr : Blk wr b 181 _ := Hb.out.chg hc' (fun f => f)
          have hcb := hbr.cell
          unfold hashCells at hcb
          have hdec : decide ((t : Int) < 64) = false := by simp; omega
          obtain ⟨w2, rfl⟩ : ∃ w2 : World, w2 = wr := ⟨_, rfl⟩
          have hsz : w.heap.size < w2.heap.size := hrow.out.lt
          go_wp2
          clear hcb
          have Hbr := Lib.hid hbr; clear hbr
          go_loopw [105] (fun i wr => ∃ t : Nat, t ≤ 64 ∧ i = .int .i64 t ∧ Blk wr w2.heap.size 179 (stCells (roundsTo (sched s) v t)) ∧ Chg (fun _ => False) w2 wr) (fun i _ => 64 - (intOf i).toNat)
          case atStart => exact ⟨0, by omega, rfl, Blk.new _ _ _, (Chg.refl _ _).alloc _⟩
          case round =>
            obtain ⟨t, ht, rfl, hv, hc''⟩ := hrel
            by_cases hlt : t < 64
            · have hkc : wr.cell? ⟨1, t, none⟩ = some (.int .u32 (kTab.getD t 0).toNat) := (hc''.cell (p := ⟨1, t, none⟩) (by show 1 < _; omega) (fun f => f)).trans ((hc'.cell (p := ⟨1, t, none⟩) hk1 (fun f => f)).trans (Hk.out t hlt))
              have hwc : wr.cell? ⟨w.heap.size, t, none⟩ = some (.int .u32 ((sched s).getD t 0).toNat) := (hc''.cell (p := ⟨w.heap.size, t, none⟩) (by simpa using hsz) (fun f => f)).trans (hrow.out.cell hlt)
              have Hn : Hid (roundsTo (sched s) v (t + 1) = round (roundsTo (sched s) v t) (kTab.getD t 0) ((sched s).getD t 0)) := rfl
              generalize kTab.getD t 0 = kk at *
              generalize (sched s).getD t 0 = ww at *
              generalize roundsTo (sched s) v t = x at *
              have hcv := hv.cell
              have hfv := hv.frozen
              have Hv := Lib.hid hv; clear hv
              unfold stCells at hcv
              go_wp2
              go_quiet (fail)
              go_wp2
              go_quiet ((go_at_call 151; exact quiet_add_left (rotr_any _ _ _ (by omega) (by omega))))
              go_wp2
              go_quiet ((go_at_call 151; exact quiet_add_left (rotr_any _ _ _ (by omega) (by omega))))
              go_wp2
              obtain ⟨w3, hcp, hB3, hC3⟩ := copy_st wr w2.heap.size x Hv.out
              have hcv3 := hB3.cell
              have hfv3 := hB3.frozen
              clear hcv hfv
              go_region
              clear hcp
              go_wp2
              go_roundw
              case rel =>
                refine ⟨t + 1, by omega, by go_num, ?_, ?_⟩
                · obtain ⟨n1, e1, m1⟩ := t1_eq x kk ww
                  obtain ⟨n2, e2, m2⟩ := t2_eq x
                  rw [e1, e2, Hn.out]
                  have f1 : ((n1 : Int) + n2) % 4294967296 = ((t1 x kk ww + t2 x).toNat : Int) := by rw [UInt32.toNat_add]; omega
                  have f2 : ((x.d.toNat : Int) + n1) % 4294967296 = ((x.d + t1 x kk ww).toNat : Int) := by rw [UInt32.toNat_add]; omega
                  rw [f1, f2]
                  exact ((hB3.drewN _).set_ 0 _).set_ 4 _
                · have hz := hc''.trans hC3 (fun i hi h => by omega)
                  exact ((hz.drewN _).setCell (.inr (Nat.le_refl _)) _).setCell (.inr (Nat.le_refl _)) _
              case measure => simp [intOf]; omega
            · have hrow3 : Hid (Blk wr w2.heap.size 179 (stCells (roundsTo (sched s) v 64))) := by
                obtain rfl : t = 64 := by omega
                exact hv
              clear hv
              have hdec : decide ((t : Int) < 64) = false := by simp; omega
              have hcv := hrow3.out.cell
              have Hx : Hid (block v s = addSt v (roundsTo (sched s) v 64)) := rfl
              generalize roundsTo (sched s) v 64 = x at *
              unfold stCells at hcv
              obtain ⟨w4, rfl⟩ : ∃ w4 : World, w4 = wr := ⟨_, rfl⟩
              go_wp2
              clear hcv
              have hidx := fun (j : Nat) (W : World) (hj : j < 8) => index_st x j W hj
              have Hidx := Lib.hid hidx; clear hidx
              go_loopw [180] (fun i wr => ∃ t : Nat, t ≤ 8 ∧ i = .int .i64 t ∧ wr.rowIs b 181 10 (hashF v x rv nv t) ∧ Chg (fun k => k = b) w wr) (fun i _ => 8 - (intOf i).toNat)
              case atStart =>
                refine ⟨0, by omega, rfl, ?_, ?_⟩
                · exact ⟨_, Hbr.out.chg hc'' (fun f => f), rfl, fun i hi => by
                    match i, hi with
                    | 0, _ | 1, _ | 2, _ | 3, _ | 4, _ | 5, _ | 6, _ | 7, _ | 8, _ | 9, _ => rfl⟩
                · exact (hc'.trans hc'' (fun _ _ f => f)).mono (fun _ _ f => f.elim)
              case round =>
                obtain ⟨t, ht, rfl, hr, hcb⟩ := hrel
                by_cases hlt : t < 8
                · have hidx := fun W => Hidx.out t W hlt
                  have c0 := hr.cell (i := t) (by omega)
                  have c1 := hr.frozen (i := t)
                  have Hr := Lib.hid hr; clear hr
                  have Hf : Hid (hashF v x rv nv t t = .int .u32 ((v.words.getD t 0).toNat : Int)) := by
                    show hashF v x rv nv t t = _
                    simp [hashF, hlt]
                  rw [Hf.out] at c0
                  generalize hvv : v.words.getD t 0 = vv at *
                  have Hvv := Lib.hid hvv; clear hvv
                  generalize hxx : x.words.getD t 0 = xx at *
                  have Hxx := Lib.hid hxx; clear hxx
                  go_wp2
                  clear hidx
                  go_region
                  go_wp2
                  go_roundw
                  case rel =>
                    refine ⟨t + 1, by omega, by go_num, ?_, (hcb.setCell (.inl rfl) _).drew⟩
                    refine ((Hr.out.set t _).drew).congr (fun j hj => ?_)
                    by_cases hjt : j = t
                    · subst hjt
                      rw [if_pos rfl, add_u32]
                      simp only [hashF, hlt, if_true, Nat.lt_succ_self, Hvv.out, Hxx.out]
                    · rw [if_neg hjt]
                      unfold hashF
                      by_cases h8 : j < 8
                      · rw [if_pos h8, if_pos h8]
                        by_cases hjl : j < t
                        · rw [if_pos hjl, if_pos (by omega)]
                        · rw [if_neg hjl, if_neg (by omega)]
                      · rw [if_neg h8, if_neg h8]
                  case measure => simp [intOf]; omega
                · have Hr : Hid (Blk wr b 181 (hashCells (block v s) rv nv)) := by
                    obtain rfl : t = 8 := by omega
                    rw [Hx.out]
                    exact hash_of_row hr
                  clear hr
                  go_wp2
                  go_end0
                  exact ⟨rfl, Hr.out, hcb⟩
end Go.Proofs.YtnlabkogebnioaaGreatDoor
namespace Go.Proofs.YtnlabkogebnioaaGreatDoor
open Go.RowKit Sha
def HashAt (w : World) (S : Nat → Prop) (b : Nat) (v : St) (rest : List UInt8) (n : Nat) : Prop :=
  ∃ rv, Blk w b 181 (hashCells v rv (.int .i64 n)) ∧ Row w 5 1 rv rest.length (rest.map bv) ∧ S b ∧ ∀ k, rv.ownBlock = some k → S k
structure ShaTabs (w : World) : Prop where
  k : ∀ j, j < 64 → w.cell? ⟨1, j, none⟩ = some (.int .u32 (kTab.getD j 0).toNat)
  b : ∀ j, w.cell? ⟨0, j, none⟩ = (stCells begin_)[j]?
  kl : 1 < w.heap.size
  bl : 0 < w.heap.size
def NoTab (S : Nat → Prop) : Prop := ¬ S 1 ∧ ¬ S 0
theorem ShaTabs.chg {S : Nat → Prop} {w w' : World} (h : ShaTabs w) (hc : Chg S w w') (hn : NoTab S) : ShaTabs w' :=
 ⟨fun j hj => (hc.cell (p := ⟨1, j, none⟩) h.kl hn.1).trans (h.k j hj), fun j => (hc.cell (p := ⟨0, j, none⟩) h.bl hn.2).trans (h.b j), Nat.lt_of_lt_of_le h.kl hc.size, Nat.lt_of_lt_of_le h.bl hc.size⟩
theorem ShaTabs.belowAll {w w' : World} (h : ShaTabs w) (hb : Below w.heap.size w w') : ShaTabs w' := h.chg (Chg.of_below hb (fun _ => False)) ⟨fun f => f, fun f => f⟩
theorem ShaTabs.alloc {w : World} (h : ShaTabs w) (o : Obj) : ShaTabs (w.alloc o) := h.chg ((Chg.refl (fun _ => False) w).alloc o) ⟨fun f => f, fun f => f⟩
theorem noTab_from {w : World} (h : ShaTabs w) {B : Nat} (hB : w.heap.size ≤ B) : NoTab (fun k => B ≤ k) := ⟨by have := h.kl; omega, by have := h.bl; omega⟩
def WritePost (w : World) (S : Nat → Prop) (b : Nat) (v : St) (l : List UInt8) (n : Nat) (e : Ending) (w' : World) : Prop :=
  e = .returned (.tuple #[]) ∧ HashAt w' (More S w) b (absorb v l).1 (absorb v l).2 n ∧ Chg S w w'
theorem info_u8 : (Tryz.prog.info? 5).map (fun i => (i.zero, i.size, i.bytes)) = some (some (.int .u8 0), 1, 1) := by kernel_rfl
set_option maxRecDepth 20000 in
set_option maxHeartbeats 1000000 in
theorem HWrite_any (S : Nat → Prop) (b : Nat) (v : St) (rest : List UInt8) (n : Nat) (s : ByteArray) (w : World) (hH : HashAt w S b v rest n) (hK : ShaTabs w) (hS : NoTab S)
  (hn : n + s.size ≤ 4611686018427387904) (hr : rest.length + s.size ≤ 4294967296) :
  Calls Tryz.prog 64 #[.pointer (some ⟨b, 0, none⟩), .string s] w (WritePost w S b v (rest ++ s.data.toList) (n + s.size)) := by
 obtain ⟨rv, hB, hR, hSb, hSr⟩ := hH
 obtain ⟨i0, hi, hz0, hz1, hz2⟩ := info_parts info_u8
 have hc := hB.cell
 have hf := hB.frozen
 unfold hashCells at hc
 have HB := Lib.hid hB; clear hB
 have HR := Lib.hid hR; clear hR
 go_enter Tryz.func64, Tryz.ntmps64
 go_wp2_with (at_builtin; go_must (refine wpList_append_row _ rfl (.tmp 19) (.tmp 20) 123 9 rfl 5 i0 _ 1 1 Tryz.underlying123 hi hz0 hz1 hz2 rfl (by omega) rv rest.length (rest.map bv) rfl (HR.out.far (HR.out.ne_ HB.out (by decide)) _) (.string s) s.size (s.data.toList.map bv) rfl (Src.ofString _ Tryz.underlying9 s) (by simp only [maxLen]; omega) (by omega) ?_); intro v1 w1 hR1 hC1 hv1; obtain ⟨a1, cap1, rfl, hcap1, hcap1'⟩ := hR1.shape; have hB1 : Blk w1 b 181 #[.int .u32 v.a.toNat, .int .u32 v.b.toNat, .int .u32 v.c.toNat, .int .u32 v.d.toNat, .int .u32 v.e.toNat, .int .u32 v.f.toNat, .int .u32 v.g.toNat, .int .u32 v.h.toNat, rv, .int .i64 ((n : Int) + s.size)] := (HB.out.set_ 9 _).chg hC1 (HR.out.ne_ HB.out (by decide)); have hcc1 := hB1.cell; have hff1 := hB1.frozen; clear hc hf)
 have hnb : (Value.slice a1 (rest.length + s.size) cap1).ownBlock ≠ some b := hR1.ne_ hB1 (by decide)
 have hsz1 : w.heap.size ≤ w1.heap.size := by have := hC1.size; simpa [World.setCell] using this
 have hCh : Chg S w w1 := ((Chg.refl S w).setCell (.inl hSb) _).trans hC1 (fun k _ hk => hSr k hk)
 have hown1 : ∀ k, (Value.slice a1 (rest.length + s.size) cap1).ownBlock = some k → More S w k := fun k hk => by
  rcases hv1 with h | h
  ·exact .inl (hSr k (h.symm.trans hk))
  ·rw [h] at hk
   injection hk with hk
   subst hk
   exact .inr (by simp [World.setCell])
 go_loopg [] (rest.length + s.size) (fun k wr => ∃ v' rest', k = rest'.length ∧ HashAt wr (More S w) b v' rest' (n + s.size) ∧ absorb v' rest' = absorb v (rest ++ s.data.toList) ∧ Chg S w wr)
 case atStart =>
  refine ⟨v, rest ++ s.data.toList, by rw [List.length_append]; rfl, ⟨_, ?_, ?_, .inl hSb, hown1⟩, rfl, hCh.setCell (.inl hSb) _⟩
  ·exact hB1.set_ 8 _
  ·have := hR1.far (p := ⟨b, 8, none⟩) hnb (.slice a1 (rest.length + s.size) cap1)
   rw [List.map_append, List.length_append]
   exact this
 case round =>
  obtain ⟨v', rest', rfl, ⟨rv', hB', hR', _, hSr'⟩, habs, hcw⟩ := hrel
  have Habs := Lib.hid habs; clear habs
  clear hcc1 hff1
  have hc' := hB'.cell
  have hf' := hB'.frozen
  unfold hashCells at hc'
  by_cases hlen : 64 ≤ rest'.length
  ·obtain ⟨g, off, cap, rfl, hob, hcap2, hcap3, hcells, hfr⟩ := hR'.form (by omega)
   unfold maxLen at hcap3
   have HR' := Lib.hid hR'; clear hR'
   have HB' := Lib.hid hB'; clear hB'
   have Hcells := Lib.hid hcells; clear hcells
   have Hfr := Lib.hid hfr; clear hfr
   have hlenI : (64 : Int) ≤ (rest'.length : Int) := by omega
   have hl' : rest'.length ≤ 9223372036854775807 := by omega
   go_wp2_with fail
   have hgs : g < wr.heap.size := HR'.out.lt g hob
   have hkt : ShaTabs wr := hK.chg hcw hS
   refine (block_any b g off cap v' _ _ (rest'.take 64) wr HB'.out hgs (by omega) (by omega) (fun j hj => Hcells.out j _ (by rw [List.getElem?_map]; simp [List.getElem?_eq_getElem (show j < rest'.length by omega), hj, bv])) hkt.k hkt.kl).mono ?_
   rintro e w2 ⟨rfl, hB2, hC2⟩
   have hc2 := hB2.cell
   have hf2 := hB2.frozen
   unfold hashCells at hc2
   clear hc' hf'
   have hR2 := HR'.out.chg hC2 (fun k hk => by rintro rfl; exact HR'.out.ne_ HB'.out (by decide) hk)
   have hcut := hR2.cut rfl 64 rest'.length hlen (Nat.le_refl _)
   have HR2 := Lib.hid hR2; clear hR2
   have Hcut := Lib.hid hcut; clear hcut
   have HB2 := Lib.hid hB2; clear hB2
   go_wp2_with fail
   all_goals
    go_roundg (rest'.length - 64)
    case measure => omega
    case rel =>
     refine ⟨block v' (rest'.take 64), rest'.drop 64, by rw [List.length_drop], ⟨_, HB2.out.set_ 8 _, ?_, .inl hSb, ?_⟩, by rw [← Habs.out, absorb_step v' rest' hlen], (hcw.trans hC2 (fun i _ h => by rw [h]; exact hSb)).setCell (.inl hSb) _⟩
     ·have h1 := Hcut.out.far (p := ⟨b, 8, none⟩) (fun hk => HR2.out.ne_ HB2.out (by decide) (ownBlock_sliced hk)) (sliced (some ⟨g, off, none⟩) 64 rest'.length cap 1)
      simp only [Nat.mul_one, List.take_of_length_le (show (List.map bv rest').length ≤ rest'.length by simp), sliced] at h1
      simpa [*, Addr.add_lit] using h1
     ·intro k hk
      apply hSr' k
      simpa [Value.ownBlock] using hk
  ·obtain ⟨a', cap', rfl, hca, hcb⟩ := hR'.shape
   have HR' := Lib.hid hR'; clear hR'
   have HB' := Lib.hid hB'; clear hB'
   go_wp2_with fail
   go_end0
   rw [absorb_end v' rest' (by omega)] at Habs
   refine ⟨rfl, ?_, hcw⟩
   rw [← Habs.out]
   exact ⟨_, HB'.out, HR'.out, .inl hSb, hSr'⟩
end Go.Proofs.YtnlabkogebnioaaGreatDoor
namespace Go.Proofs.YtnlabkogebnioaaGreatDoor
open Go.RowKit Sha
def NewHash (w : World) (e : Ending) (w' : World) : Prop := ∃ b, e = .returned (.pointer (some ⟨b, 0, none⟩)) ∧ HashAt w' (fun k => w.heap.size ≤ k) b begin_ [] 0 ∧ Below w.heap.size w w'
theorem HashAt.new (w : World) (S : Nat → Prop) (h : S w.heap.size) : HashAt (w.alloc (.cells (hashCells begin_ (.slice none 0 0) (.int .i64 0)) 181)) S w.heap.size begin_ [] 0 :=
 ⟨_, Blk.new _ _ _, Row.nil _ _ _, h, fun k hk => by simp [Value.ownBlock] at hk⟩
theorem New_any (w : World) (hT : ShaTabs w) : Calls Tryz.prog 63 #[] w (NewHash w) := by
 have hb := hT.b
 unfold stCells at hb
 go_enter Tryz.func63, Tryz.ntmps63
 go_wp2
 go_ret
 exact ⟨w.heap.size, rfl, HashAt.new w _ (Nat.le_refl _), ((Chg.refl (fun _ => False) w).alloc _).belowAll⟩
theorem HashAt.mono {w : World} {S T : Nat → Prop} {b : Nat} {v : St} {rest : List UInt8} {n : Nat} (h : HashAt w S b v rest n) (hs : ∀ k, S k → T k) : HashAt w T b v rest n := by
 obtain ⟨rv, h1, h2, h3, h4⟩ := h
 exact ⟨rv, h1, h2, hs _ h3, fun k hk => hs _ (h4 k hk)⟩
def NewRow (w : World) (e : TypeId) (size n : Nat) (xs : List Value) (en : Ending) (w' : World) : Prop :=
  ∃ v, en = .returned v ∧ Row w' e size v n xs ∧ Below w.heap.size w w' ∧ ∀ k, v.ownBlock = some k → w.heap.size ≤ k
theorem Clone_any (w : World) (v : Value) (n : Nat) (l : List UInt8) (h : Row w 5 1 v n (l.map bv)) (hn : n ≤ 4294967296) :
  Calls Tryz.prog 111 #[v] w (NewRow w 5 1 n (l.map bv)) := by
 obtain ⟨i0, hi, hz0, hz1, hz2⟩ := info_parts info_u8
 obtain ⟨a, cap, rfl, h1, h2⟩ := h.shape
 have he : ∀ W : World, (binOp .eql 123 (.slice a n cap) (.slice none 0 0)).run Tryz.prog W = .ok (.bool a.isNone) W := fun W => Lib.run_eql_slice_nil W _ _ a n cap 0 0 Tryz.underlying123
 have HR := Lib.hid h; clear h
 cases a with
 | none =>
  have hd : Option.isNone (none : Option Addr) = true := rfl
  rw [hd] at he
  go_enter Tryz.func111, Tryz.ntmps111
  go_wp2_with fail
  go_ret
  have hn0 : n = 0 := by
   rcases HR.out.2 with ⟨_, h⟩ | ⟨_, _, _, _, _, h, _⟩
   ·exact h
   ·cases h
  subst hn0
  obtain rfl : l = [] := List.eq_nil_of_length_eq_zero (by have := HR.out.1; simpa using this)
  exact ⟨_, rfl, Row.nil _ _ _, Below.refl _ _, fun k hk => by simp [Value.ownBlock] at hk⟩
 | some a =>
  have hd : Option.isNone (some a) = false := rfl
  rw [hd] at he
  go_enter Tryz.func111, Tryz.ntmps111
  go_wp2_with (at_builtin; refine wpList_append_row _ rfl (.tmp 5) (.tmp 6) 123 123 rfl 5 i0 _ 1 1 Tryz.underlying123 hi hz0 hz1 hz2 rfl (by omega) (.slice (some ⟨w.heap.size, 0, none⟩) 0 0) 0 [] rfl (Row.new w 5 1 0 #[] (by simp [maxLen]) rfl) (.slice (some a) n cap) n (l.map bv) rfl ((HR.out.alloc _).src Tryz.underlying123 (bv_one l)) (by simp only [maxLen]; omega) (by omega) ?_; intro v1 w1 hR1 hC1 hv1)
  go_ret
  simp only [Nat.zero_add, List.nil_append] at hR1
  refine ⟨v1, rfl, hR1, ?_, ?_⟩
  ·exact (((Chg.refl (fun _ => False) w).alloc _).next hC1 (fun k hk => .inr (by simp [Value.ownBlock] at hk; omega))).belowAll
  ·intro k hk
   rcases hv1 with h | h <;> rw [h] at hk <;> simp [Value.ownBlock] at hk <;> omega
def z32 : Array Value := #[.int .u8 0, .int .u8 0, .int .u8 0, .int .u8 0, .int .u8 0, .int .u8 0, .int .u8 0, .int .u8 0, .int .u8 0, .int .u8 0, .int .u8 0, .int .u8 0, .int .u8 0, .int .u8 0, .int .u8 0, .int .u8 0, .int .u8 0, .int .u8 0, .int .u8 0, .int .u8 0, .int .u8 0, .int .u8 0, .int .u8 0, .int .u8 0, .int .u8 0, .int .u8 0, .int .u8 0, .int .u8 0, .int .u8 0, .int .u8 0, .int .u8 0, .int .u8 0]
def SumIs (w : World) (l : List UInt8) (e : Ending) (w' : World) : Prop := e = .returned (.agg (l.map bv).toArray) ∧ Below w.heap.size w w'
theorem z32_eq : z32 = (List.replicate 32 (bv 0)).toArray := rfl
theorem z32_at (i : Nat) (hi : i < 32) : z32[i]? = some (bv 0) := by
 rw [z32_eq, List.getElem?_toArray, List.getElem?_replicate, if_pos hi]
theorem bytes_length (x : St) : x.bytes.length = 32 := rfl
theorem bytes_size (x : St) : (x.bytes.map bv).toArray.size = 32 := by rw [List.size_toArray, List.length_map, bytes_length]
theorem info_sum : (Tryz.prog.info? 60).map (·.size) = some 32 := by kernel_rfl
theorem bytes_at (x : St) (j : Nat) (hj : j < 8) : x.bytes.getD (4 * j) 0 = (x.words.getD j 0 >>> 24).toUInt8 ∧ x.bytes.getD (4 * j + 1) 0 = (x.words.getD j 0 >>> 16).toUInt8 ∧
  x.bytes.getD (4 * j + 2) 0 = (x.words.getD j 0 >>> 8).toUInt8 ∧ x.bytes.getD (4 * j + 3) 0 = (x.words.getD j 0).toUInt8 := by
 have h : j = 0 ∨ j = 1 ∨ j = 2 ∨ j = 3 ∨ j = 4 ∨ j = 5 ∨ j = 6 ∨ j = 7 := by omega
 clear hj
 rcases h with rfl | rfl | rfl | rfl | rfl | rfl | rfl | rfl <;> exact ⟨rfl, rfl, rfl, rfl⟩
theorem byte0_eq (y : UInt32) : Value.int IntKind.u8 ((y.toNat : Int) % 256) = bv y.toUInt8 := by unfold bv; rw [u32_to_u8]
theorem byte1_eq (y : UInt32) : Value.int IntKind.u8 ((y.toNat : Int) / 256 % 256) = bv (y >>> 8).toUInt8 := by
 have h : (y.toNat : Int) / (256 : Int) = ((y >>> 8).toNat : Int) := shr_u32 y 8 (by omega)
 unfold bv; rw [h, u32_to_u8]
theorem byte2_eq (y : UInt32) : Value.int IntKind.u8 ((y.toNat : Int) / 65536 % 256) = bv (y >>> 16).toUInt8 := by
 have h : (y.toNat : Int) / (65536 : Int) = ((y >>> 16).toNat : Int) := shr_u32 y 16 (by omega)
 unfold bv; rw [h, u32_to_u8]
theorem byte3_eq (y : UInt32) : Value.int IntKind.u8 ((y.toNat : Int) / 16777216 % 256) = bv (y >>> 24).toUInt8 := by
 have h : (y.toNat : Int) / (16777216 : Int) = ((y >>> 24).toNat : Int) := shr_u32 y 24 (by omega)
 unfold bv; rw [h, u32_to_u8]
theorem lenByte_eq (n i : Nat) : Value.int IntKind.u8 ((n : Int) * 8 / 2 ^ (8 * i) % 256) = bv (lenByte n i) := by
 unfold bv lenByte
 congr 1
set_option maxRecDepth 20000 in
set_option maxHeartbeats 1000000 in
theorem Sum_any (S : Nat → Prop) (b : Nat) (v : St) (rest : List UInt8) (n : Nat) (w : World) (hH : HashAt w S b v rest n) (hT : ShaTabs w)
  (hn : n ≤ 1152921504606846976) (hr : rest.length ≤ 4294960000) :
  Calls Tryz.prog 65 #[.pointer (some ⟨b, 0, none⟩)] w (SumIs w (sumOf v rest n)) := by
 obtain ⟨rv, hB, hR, hSb, hSr⟩ := hH
 obtain ⟨i0, hi, hz0, hz1, hz2⟩ := info_parts info_u8
 have hc := hB.cell
 unfold hashCells at hc
 have HB := Lib.hid hB; clear hB
 have HR := Lib.hid hR; clear hR
 have HT := Lib.hid hT; clear hT
 have hb := HB.out.lt
 have hb1 : b < w.heap.size + 1 := by omega
 have hb2 : b < w.heap.size + 1 + 1 := by omega
 obtain ⟨ra, rc, rfl, hrc, _⟩ := HR.out.shape
 go_enter Tryz.func65, Tryz.ntmps65
 go_wp2_with fail
 refine (Clone_any _ _ rest.length rest (((HR.out.alloc _).alloc _).alloc _) (by omega)).mono ?_
 rintro e w1 ⟨v1, rfl, hR1, hb1, hf1⟩
 go_wp2_with (at_builtin; refine wpList_append_row _ rfl (.tmp 21) (.tmp 22) 123 123 rfl 5 i0 _ 1 1 Tryz.underlying123 hi hz0 hz1 hz2 rfl (by omega) v1 rest.length (rest.map bv) rfl (hR1.alloc _) (.slice (some ⟨w1.heap.size, 0, none⟩) 1 1) 1 [bv 128] rfl (Row.src (Row.new w1 5 1 1 #[.int .u8 128] (by simp [maxLen]) rfl) Tryz.underlying123 (bv_one [128])) (by simp only [maxLen]; omega) (by omega) ?_; intro v2 w2 hR2 hC2 hv2)
 have hz : w.heap.size + 3 ≤ w1.heap.size := by have := hb1.size; simp at this; omega
 have k0 : Blk w1 w.heap.size 60 z32 := (((Blk.new w 60 z32).alloc _).alloc _).belowAll hb1
 have k1 : Blk w1 (w.heap.size + 1) 60 z32 := by
  have := ((Blk.new (w.alloc (.cells z32 60)) 60 z32).alloc _).belowAll hb1
  simpa using this
 have k2 : Blk w1 (w.heap.size + 1 + 1) 181 (hashCells v (.slice none 0 0) (.int .i64 0)) := by
  have := (Blk.new ((w.alloc (.cells z32 60)).alloc (.cells z32 60)) 181 (hashCells v (.slice none 0 0) (.int .i64 0))).belowAll hb1
  simpa using this
 have hw1 : Chg (fun _ => False) w w1 := (((Chg.refl _ w).alloc _).alloc _).alloc _ |>.then_below hb1
 have hcw2 : Chg (fun k => w.heap.size + 3 ≤ k) w1 w2 := ((Chg.refl _ w1).alloc _).next hC2 (fun k hk => .inl (by have := hf1 k hk; simp at this; omega))
 have hf2 : ∀ k, v2.ownBlock = some k → w.heap.size + 3 ≤ k := fun k hk => by
  rcases hv2 with h | h
  ·have := hf1 k (h.symm.trans hk); simp at this; omega
  ·rw [h] at hk; simp at hk; omega
 clear hv2 hC2 hR1 hf1 hb1
 have Hk : Hid (Blk w1 w.heap.size 60 z32 ∧ Blk w1 (w.heap.size + 1) 60 z32 ∧ Blk w1 (w.heap.size + 1 + 1) 181 (hashCells v (.slice none 0 0) (.int .i64 0))) := ⟨k0, k1, k2⟩
 clear k0 k1 k2 hc
 go_loopg [5] (zeros rest.length) (fun k sl wr => ∃ j, k = zeros rest.length - j ∧ j ≤ zeros rest.length ∧ Row wr 5 1 sl (rest.length + 1 + j) ((rest ++ 128 :: List.replicate j 0).map bv) ∧ Chg (fun k => w.heap.size + 3 ≤ k) w1 wr ∧ ∀ k, sl.ownBlock = some k → w.heap.size + 3 ≤ k)
 case atStart => exact ⟨0, by omega, by omega, by simpa using hR2, hcw2, hf2⟩
 case round =>
  obtain ⟨j, rfl, hj, hRj, hCj, hfj⟩ := hrel
  obtain ⟨aj, cj, rfl, hcj, hcj2⟩ := hRj.shape
  have HRj := Lib.hid hRj; clear hRj
  have hjz : zeros rest.length < 64 := by unfold zeros; omega
  by_cases hlt : j < zeros rest.length
  ·have ht : (rest.length + 1 + j) % 64 ≠ 56 := by unfold zeros at hlt; omega
   have hmb : rest.length + 1 + j ≤ 4294967000 := by omega
   generalize hm : rest.length + 1 + j = m at *
   have Hm := Lib.hid hm; clear hm
   have htb : (((m : Int) % 64) != 56) = true := by rw [bne_iff_ne]; omega
   go_wp2_with (at_builtin; refine wpList_append_row _ rfl (.tmp 28) (.tmp 29) 123 123 rfl 5 i0 _ 1 1 Tryz.underlying123 hi hz0 hz1 hz2 rfl (by omega) (.slice aj m cj) m ((rest ++ 128 :: List.replicate j 0).map bv) rfl (HRj.out.alloc _) (.slice (some ⟨wr.heap.size, 0, none⟩) 1 1) 1 [bv 0] rfl (Row.src (Row.new wr 5 1 1 #[.int .u8 0] (by simp [maxLen]) rfl) Tryz.underlying123 (bv_one [0])) (by simp only [maxLen]; omega) (by omega) ?_; intro v3 w3 hR3 hC3 hv3)
   go_roundg (zeros rest.length - (j + 1))
   case measure => omega
   case rel =>
    refine ⟨j + 1, rfl, by omega, ?_, (hCj.alloc _).next hC3 (fun k hk => .inl (hfj k hk)), fun k hk => ?_⟩
    ·rw [← Hm.out] at hR3
     rw [List.replicate_succ', ← List.cons_append, ← List.append_assoc, List.map_append]
     exact hR3
    ·rcases hv3 with h | h
     ·exact hfj k (h.symm.trans hk)
     ·rw [h] at hk; have := hCj.size; simp at hk; omega
  ·have ht : (rest.length + 1 + j) % 64 = 56 := by unfold zeros at hlt hj; omega
   have hmb : rest.length + 1 + j ≤ 4294967000 := by omega
   obtain rfl : j = zeros rest.length := by omega
   generalize hm : rest.length + 1 + zeros rest.length = m at *
   have Hm := Lib.hid hm; clear hm
   have htb : (((m : Int) % 64) != 56) = false := by rw [bne_eq_false_iff_eq]; omega
   have Ht := Lib.hid ht; clear ht
   have HC := Lib.hid hCj; clear hCj
   obtain ⟨w4, rfl⟩ : ∃ w4 : World, w4 = wr := ⟨_, rfl⟩
   go_wp2_with fail
   go_loopg [5, 6] 8 (fun k sl i wr => ∃ j : Nat, j ≤ 8 ∧ k = 8 - j ∧ i = .int .i64 (7 - (j : Int)) ∧ Row wr 5 1 sl (m + j) ((rest ++ 128 :: (List.replicate (zeros rest.length) 0 ++ lenTo n j)).map bv) ∧ Chg (fun k => w.heap.size + 3 ≤ k) w1 wr ∧ ∀ k, sl.ownBlock = some k → w.heap.size + 3 ≤ k)
   case atStart => exact ⟨0, by omega, rfl, rfl, by simpa [lenTo] using HRj.out, HC.out, hfj⟩
   case round =>
    obtain ⟨j, hj8, rfl, rfl, hR5, hC5, hf5⟩ := hrel
    obtain ⟨a5, c5, rfl, hc5, hc52⟩ := hR5.shape
    have HR5 := Lib.hid hR5; clear hR5
    have hcb : wr.cell? ⟨b, 9, none⟩ = some (.int .i64 n) := by
     rw [hC5.cell (p := ⟨b, 9, none⟩) (Nat.lt_of_lt_of_le hb hw1.size) (by show ¬ _ ≤ b; omega), hw1.cell (p := ⟨b, 9, none⟩) hb (fun f => f), HB.out.cell]; rfl
    by_cases hlt : j < 8
    ·have hle : decide ((j : Int) ≤ 7) = true := by simp; omega
     have Hb : Hid (Value.int IntKind.u8 ((n : Int) * 8 / 2 ^ (8 * (7 - j)) % 256) = bv (lenByte n (7 - j))) := lenByte_eq n (7 - j)
     go_wp2_with (at_builtin; refine wpList_append_row _ rfl (.tmp 35) (.tmp 47) 123 123 rfl 5 i0 _ 1 1 Tryz.underlying123 hi hz0 hz1 hz2 rfl (by omega) (.slice a5 (m + j) c5) (m + j) _ rfl (HR5.out.alloc _) (.slice (some ⟨wr.heap.size, 0, none⟩) 1 1) 1 [Value.int IntKind.u8 ((n : Int) * 8 / 2 ^ (8 * (7 - j)) % 256)] rfl (Row.src (Row.new wr 5 1 1 #[Value.int IntKind.u8 ((n : Int) * 8 / 2 ^ (8 * (7 - j)) % 256)] (by simp [maxLen]) rfl) Tryz.underlying123 (fun u hu => by simp at hu; subst hu; rfl)) (by simp only [maxLen]; omega) (by omega) ?_; intro v6 w6 hR6 hC6 hv6)
     go_roundg (8 - (j + 1))
     case measure => omega
     case rel =>
      refine ⟨j + 1, by omega, rfl, by congr 1; omega, ?_, (hC5.alloc _).next hC6 (fun k hk => .inl (hf5 k hk)), fun k hk => ?_⟩
      ·rw [Hb.out] at hR6
       have e1 : rest ++ 128 :: (List.replicate (zeros rest.length) 0 ++ lenTo n (j + 1)) = (rest ++ 128 :: (List.replicate (zeros rest.length) 0 ++ lenTo n j)) ++ [lenByte n (7 - j)] := by simp [lenTo]
       rw [e1, List.map_append]
       exact hR6
      ·rcases hv6 with h | h
       ·exact hf5 k (h.symm.trans hk)
       ·rw [h] at hk; have := hC5.size; simp at hk; omega
    ·obtain rfl : j = 8 := by omega
     have hle : decide ((8 : Int) ≤ 7) = false := by simp
     have hcv : ∀ W : World, W = wr → (convert 123 9 (.slice a5 (m + 8) c5)).run Tryz.prog W = .ok (.string ⟨(rest ++ pad rest.length n).toArray⟩) W := by
      rintro W rfl
      exact run_str_of_row W _ _ _ _ _ _ Tryz.underlying123 Tryz.underlying5 Tryz.underlying9 HR5.out
     have hcv' := hcv wr rfl
     clear hcv
     have Hlen : Hid ((rest ++ pad rest.length n).length = m + 8) := by
      show _ = _
      have := HR5.out.1; simpa [pad] using this
     obtain ⟨w7, rfl⟩ : ∃ w7 : World, w7 = wr := ⟨_, rfl⟩
     have hsz : (ByteArray.mk (rest ++ pad rest.length n).toArray).size = m + 8 := Hlen.out
     have hnt : NoTab (fun k => w.heap.size + 1 + 1 ≤ k) := noTab_from HT.out (by omega)
     have hT7 : ShaTabs w7 := (HT.out.chg hw1 ⟨fun f => f, fun f => f⟩).chg hC5 (noTab_from HT.out (by omega))
     have hX : HashAt w7 (fun k => w.heap.size + 1 + 1 ≤ k) (w.heap.size + 1 + 1) v [] 0 :=
      ⟨_, Hk.out.2.2.chg hC5 (by omega), Row.nil _ _ _, Nat.le_refl _, fun k hk => by simp [Value.ownBlock] at hk⟩
     have Hsz := Lib.hid hsz; clear hsz
     go_wp2_with fail
     refine (HWrite_any _ _ v [] 0 _ w7 hX hT7 hnt (by rw [Hsz.out]; omega) (by rw [Hsz.out]; simp; omega)).mono ?_
     rintro e w8 ⟨rfl, hX8, hC8⟩
     simp only [List.nil_append] at hX8
     obtain ⟨rv8, hB8, _, _, _⟩ := hX8
     have HF : Hid (sumOf v rest n = (absorb v (rest ++ pad rest.length n)).1.bytes) := rfl
     generalize (absorb v (rest ++ pad rest.length n)).1 = x at *
     have hc8 := hB8.cell
     unfold hashCells at hc8
     have HB8 := Lib.hid hB8; clear hB8
     clear hcv'
     have k0 : Blk w8 w.heap.size 60 z32 := (Hk.out.1.chg hC5 (by omega)).chg hC8 (by omega)
     have k1 : Blk w8 (w.heap.size + 1) 60 z32 := (Hk.out.2.1.chg hC5 (by omega)).chg hC8 (by omega)
     have Hk0 := Lib.hid k0; clear k0
     have Hk1 := Lib.hid k1; clear k1
     have hw8 : Chg (fun _ => False) w w8 := (hw1.next hC5 (fun i h => .inr (by omega))).next hC8 (fun i h => .inr (by omega))
     have hidx := fun (j : Nat) (W : World) (hj : j < 8) => index_st x j W hj
     have Hidx := Lib.hid hidx; clear hidx
     go_wp2_with fail
     clear hc8
     go_loopg [54] 8 (fun k i wr => ∃ j : Nat, j ≤ 8 ∧ k = 8 - j ∧ i = .int .i64 j ∧ wr.rowIs (w.heap.size + 1) 60 32 (fun k => bv (if k < 4 * j then x.bytes.getD k 0 else 0)) ∧ Chg (fun k => k = w.heap.size + 1) w8 wr)
     case atStart =>
      refine ⟨0, by omega, rfl, rfl, Hk1.out.row rfl (fun i hi => ?_), Chg.refl _ _⟩
      rw [if_neg (by omega)]
      exact z32_at i hi
     case round =>
      obtain ⟨j, hj8, rfl, rfl, hr9, hC9⟩ := hrel
      by_cases hlt : j < 8
      ·have hix := fun W => Hidx.out j W hlt
       have c0 := hr9.cell (i := 4 * j) (by omega)
       have c1 := hr9.cell (i := 4 * j + 1) (by omega)
       have c2 := hr9.cell (i := 4 * j + 2) (by omega)
       have c3 := hr9.cell (i := 4 * j + 3) (by omega)
       have f0 := hr9.frozen
       generalize hy : x.words.getD j 0 = y at *
       have Hy := Lib.hid hy; clear hy
       go_wp2_with fail
       go_roundg (8 - (j + 1))
       case measure => omega
       case rel =>
        refine ⟨j + 1, by omega, rfl, by go_num, ?_, (((hC9.setCell (.inl rfl) _).setCell (.inl rfl) _).setCell (.inl rfl) _).setCell (.inl rfl) _⟩
        obtain ⟨y0, y1, y2, y3⟩ := bytes_at x j hlt
        rw [Hy.out] at y0 y1 y2 y3
        refine ((((hr9.set (4 * j) _).set (4 * j + 1) _).set (4 * j + 2) _).set (4 * j + 3) _).congr (fun k hk => ?_)
        show (if k = 4 * j + 3 then _ else if k = 4 * j + 2 then _ else if k = 4 * j + 1 then _ else if k = 4 * j then _ else _) = _
        by_cases e3 : k = 4 * j + 3
        ·rw [if_pos e3, if_pos (by omega), e3, y3, byte0_eq]
        rw [if_neg e3]
        by_cases e2 : k = 4 * j + 2
        ·rw [if_pos e2, if_pos (by omega), e2, y2, byte1_eq]
        rw [if_neg e2]
        by_cases e1 : k = 4 * j + 1
        ·rw [if_pos e1, if_pos (by omega), e1, y1, byte2_eq]
        rw [if_neg e1]
        by_cases e0 : k = 4 * j
        ·rw [if_pos e0, if_pos (by omega), e0, y0, byte3_eq]
        rw [if_neg e0]
        by_cases el : k < 4 * j
        ·rw [if_pos el, if_pos (by omega)]
        ·rw [if_neg el, if_neg (by omega)]
      ·obtain rfl : j = 8 := by omega
       have hB9 : Blk wr (w.heap.size + 1) 60 (x.bytes.map bv).toArray := Blk.of_row hr9 (by simp [bytes_length]) (fun i hi => by
        simp only [List.getElem?_toArray, List.getElem?_map]
        rw [if_pos (by omega), List.getElem?_eq_getElem (by rw [bytes_length]; exact hi)]
        simp [List.getD, List.getElem?_eq_getElem (show i < x.bytes.length by rw [bytes_length]; exact hi)])
       have hB0 : Blk wr w.heap.size 60 z32 := Hk0.out.chg hC9 (by omega)
       have HB9 := Lib.hid hB9; clear hB9
       have HB0 := Lib.hid hB0; clear hB0
       have HR9 := Lib.hid hr9; clear hr9
       go_wp2_with (first
        | (refine wpList_load_blk rfl 60 (.tmp 3) rfl (w.heap.size + 1) rfl HB9.out Tryz.underlying60 rfl (by rw [bytes_size]; exact info_sum) ?_)
        | ((refine wpList_store_blk rfl 60 (.tmp 2) (.tmp 85) rfl w.heap.size (x.bytes.map bv).toArray rfl rfl HB0.out (by rw [bytes_size]; exact info_sum) (by rw [bytes_size]; rfl) (bv_one x.bytes) ?_); intro w10 hB10 hC10))
       refine bodyPost_ret (results_blk rfl _ _ w.heap.size rfl hB10 Tryz.underlying60 rfl (by rw [bytes_size]; exact info_sum)) rfl ?_
       exact ⟨by rw [HF.out], ((hw8.next hC9 (fun i h => .inr (by omega))).next hC10 (fun i h => .inr (by omega))).belowAll⟩
end Go.Proofs.YtnlabkogebnioaaGreatDoor
namespace Go.Proofs.YtnlabkogebnioaaGreatDoor
open Go.RowKit Sha
theorem sha_length (m : List UInt8) : (sha m).length = 32 := rfl
theorem sum_size {l : List UInt8} (h : l.length = 32) : (l.map bv).toArray.size = 32 := by rw [List.size_toArray, List.length_map, h]
set_option maxRecDepth 20000 in
set_option maxHeartbeats 1000000 in
theorem ShaOf_any (s : ByteArray) (w : World) (hT : ShaTabs w) (hs : s.size ≤ 4294960000) :
  Calls Tryz.prog 24 #[.string s] w (SumIs w (sha s.data.toList)) := by
 have HT := Lib.hid hT; clear hT
 have k0 := Blk.new w 60 z32
 have Hk := Lib.hid k0; clear k0
 go_enter Tryz.func24, Tryz.ntmps24
 go_wp2_with fail
 ((with_reducible refine (New_any _ (HT.out.alloc _)).mono ?_); rintro e w1 ⟨b, rfl, hX1, hb1⟩)
 have hT1 : ShaTabs w1 := (HT.out.alloc _).belowAll hb1
 have hX1' := hX1.mono (T := fun k => w.heap.size + 1 ≤ k) (fun k hk => by simp at hk; omega)
 go_wp2_with fail
 ((with_reducible refine (HWrite_any (fun k => w.heap.size + 1 ≤ k) b begin_ [] 0 s w1 hX1' hT1 (noTab_from HT.out (by omega)) (by omega) (by simp; omega)).mono ?_); rintro e w2 ⟨rfl, hX2, hC2⟩)
 simp only [List.nil_append, Nat.zero_add] at hX2
 have hT2 : ShaTabs w2 := hT1.chg hC2 (noTab_from HT.out (by omega))
 go_wp2_with fail
 ((with_reducible refine (Sum_any _ _ _ _ _ w2 hX2 hT2 (by omega) (by rw [absorb_length]; omega)).mono ?_); rintro e w3 ⟨rfl, hb3⟩)
 have hc2 : Chg (fun _ => False) w w2 := (((Chg.refl _ w).alloc _).then_below hb1).next hC2 (fun i h => .inr (by omega))
 have hB3 : Blk w3 w.heap.size 60 z32 := ((Hk.out.belowAll hb1).chg hC2 (by omega)).belowAll hb3
 have HF : Hid (sumOf (absorb begin_ s.data.toList).1 (absorb begin_ s.data.toList).2 s.size = sha s.data.toList) := rfl
 have HB3 := Lib.hid hB3; clear hB3
 rw [HF.out]
 go_wp2_with (refine wpList_store_blk rfl 60 (.tmp 2) (.tmp 9) rfl w.heap.size ((sha s.data.toList).map bv).toArray rfl rfl HB3.out (by rw [sum_size (sha_length _)]; exact info_sum) (by rw [sum_size (sha_length _)]; rfl) (bv_one (sha s.data.toList)) ?_; intro w10 hB10 hC10)
 refine bodyPost_end (results_blk rfl _ _ w.heap.size rfl hB10 Tryz.underlying60 rfl (by rw [sum_size (sha_length _)]; exact info_sum)) rfl ?_
 exact ⟨rfl, ((hc2.then_below hb3).next hC10 (fun i h => .inr (by omega))).belowAll⟩
end Go.Proofs.YtnlabkogebnioaaGreatDoor
namespace Go.Proofs.YtnlabkogebnioaaGreatDoor
open Go.RowKit Go.Shelf
shelf_lay LaysM.n171 Nm 171 at Tryz as Tryz.lays171
def PowTab (w : World) : Prop := Lib.TabIs Tryz.prog w "internal/strconv.uint64pow10" .u64 Lib.pow10Tab
theorem Itoa_any (n : Nat) (w : World) (hT : PowTab w) (hn : n ≤ 9223372036854775807) : Calls Tryz.prog 102 #[.int .i64 n] w fun e w' => e = .returned (str (Lib.decDigits n)) ∧ Below w.heap.size w w' := by
 refine (Any.strconv_Itoa Tryz.lays171 (n : Int) (by omega) (by omega) w hT).mono ?_
 rintro e w' ⟨rfl, k, os, rfl⟩
 refine ⟨?_, ?_⟩
 ·rw [Lib.itoa_nonneg]
  rfl
 ·refine ⟨rfl, rfl, rfl, ?_, fun k hk => ?_⟩
  ·show w.heap.size ≤ (w.heap ++ os).size
   rw [Array.size_append]; omega
  ·show (w.heap ++ os)[k]? = _
   rw [Array.getElem?_append_left hk]
theorem PowTab.bel {w w' : World} (h : PowTab w) (hb : Below w.heap.size w w') : PowTab w' := Go.Joins.tab_stays (g := 2) (by kernel_rfl) h hb (Nat.le_refl _)
theorem pright_any (n : Int) (w : World) : Calls Tryz.prog 86 #[.int .i64 n] w fun e w' => e = .returned (.bool (rightP n)) ∧ Below w.heap.size w w' := by
 refine W_enter (args := [.int .i64 n]) 9 Tryz.func86 rfl rfl rfl (W_sub [(0, .int .i64 n)] ?_ ⟨rfl, trivial⟩)
 have hbw := Below.refl w.heap.size w
 refine W_rs (sa rfl rfl (Wn (tN (W_rs (sm rfl rfl (st (X.geq rfl rfl) rfl (sb rfl rfl (fun h5 => ?_) (fun h5 => ?_))))))))
 ·first | replace h5 := of_decide_eq_true h5 | replace h5 := of_decide_eq_false (notT h5) | replace h5 := notT h5 | skip
  refine gY (g := 5) rfl rfl rfl (sm rfl rfl (gY (g := 5) rfl rfl rfl (st (X.leq rfl rfl) rfl (st (X.pickT rfl rfl) rfl (sa rfl rfl (Wn (tN (W_ret ((rT rfl rfl ⟨?_, hbw⟩).1)))))))))
  congr 2
  unfold rightP
  simp
  omega
 ·first | replace h5 := of_decide_eq_false h5 | replace h5 := of_decide_eq_true (notF h5) | replace h5 := notF h5 | skip
  refine gN (g := 5) rfl rfl rfl rfl (gN (g := 5) rfl rfl rfl rfl (st (X.pickF rfl rfl) rfl (sa rfl rfl (Wn (tN (W_ret ((rT rfl rfl ⟨?_, hbw⟩).1)))))))
  congr 2
  unfold rightP
  simp
  omega
theorem pbs4 (a b c d : UInt8) (w : World) : (Instr.buildSlice 123 4 #[(0, bv a), (1, bv b), (2, bv c), (3, bv d)]).run Tryz.prog w = .ok (.slice (some ⟨w.heap.size, 0, none⟩) 4 4) (w.alloc (.cells #[bv a, bv b, bv c, bv d] 5)) := by kernel_rfl
theorem pfour_any (n : Int) (w : World) : Calls Tryz.prog 53 #[.int .i64 n] w fun e w' => e = .returned (str (four n)) ∧ Below w.heap.size w w' := by
 refine W_enter (args := [.int .i64 n]) 16 Tryz.func53 rfl rfl rfl (W_sub [(0, .int .i64 n)] ?_ ⟨rfl, trivial⟩)
 have hbw := Below.refl w.heap.size w
 refine W_rs (sa rfl rfl (Wn (tN (W_rs (sm rfl rfl (st (X.convI rfl Tryz.underlying3 Tryz.underlying5 (wb _)) rfl (sm rfl rfl (st (X.shr (q := 256) rfl rfl (by decide) (by decide) rfl rfl) rfl (st (X.convI rfl Tryz.underlying3 Tryz.underlying5 (wb _)) rfl (sm rfl rfl ?_))))))))))
 refine st (X.shr (q := 65536) rfl rfl (by decide) (by decide) rfl rfl) rfl (st (X.convI rfl Tryz.underlying3 Tryz.underlying5 (wb _)) rfl (sm rfl rfl (st (X.shr (q := 16777216) rfl rfl (by decide) (by decide) rfl rfl) rfl (st (X.convI rfl Tryz.underlying3 Tryz.underlying5 (wb _)) rfl (sbs 1 rfl (pbs4 _ _ _ _ _) (by simp [maxLen]) rfl rfl (fun g w1 hR hg hb => ?_))))))
 replace hbw := bthen hbw hb
 refine st (X.strOf (s := four n) rfl Tryz.underlying123 Tryz.underlying5 Tryz.underlying9 hR.reads) rfl (sa rfl rfl (Wn (tN (W_ret ?_))))
 exact (rT rfl rfl ⟨rfl, hbw⟩).1
theorem take_zeros (k : Nat) (h : k ≤ 6) : List.take k [48, 48, 48, 48, 48, 48] = List.replicate k (48 : UInt8) := by
 rw [show ([48, 48, 48, 48, 48, 48] : List UInt8) = List.replicate 6 48 from rfl, List.take_replicate, Nat.min_eq_left h]
theorem pnamed_any (kind : List UInt8) (n : Int) (w : World) (hT : PowTab w) (hk : kind.length ≤ 1000) : Calls Tryz.prog 58 #[str kind, .int .i64 n] w fun e w' => e = .returned (str (namedP kind n)) ∧ Below w.heap.size w w' := by
 refine W_enter (args := [str kind, .int .i64 n]) 19 Tryz.func58 rfl rfl rfl (W_sub [(0, str kind), (1, .int .i64 n)] ?_ ⟨rfl, rfl, trivial⟩)
 have hbw := Below.refl w.heap.size w
 refine W_rs (sa rfl rfl (Wn (tN (W_seq (W_rs (sm rfl rfl (sc _ Tryz.func86 rfl (by kernel_rfl) rfl rfl ((pright_any n _).mono ?_))))))))
 rintro e_ w1 ⟨rfl, hb⟩
 refine cR ?_
 replace hbw := bthen hbw hb
 replace hT := hT.bel hb
 have hz_w1 := hb.size
 clear hb
 refine st (X.not rfl) rfl (Wn (tN (W_if rfl (fun h8 => ?_) (fun h8 => ?_))))
 ·first | replace h8 := of_decide_eq_true h8 | replace h8 := of_decide_eq_false (notT h8) | replace h8 := notT h8 | skip
  refine W_rs (sa rfl rfl (Wn (tN (W_ret (tR ?_)))))
  exact (rT rfl rfl ⟨by rw [namedP, if_neg (by simpa [rightP] using h8)]; rfl, hbw⟩).1
 ·first | replace h8 := of_decide_eq_false h8 | replace h8 := of_decide_eq_true (notF h8) | replace h8 := notF h8 | skip
  have hn : 0 ≤ n ∧ n ≤ 999999 := h8
  obtain ⟨m, rfl⟩ : ∃ m : Nat, n = m := ⟨n.toNat, by omega⟩
  obtain ⟨hd1, hd2⟩ := six_dec (n := m) (by omega)
  refine W_skip (tN (W_rs (sm rfl rfl (sc _ Tryz.func102 rfl (by kernel_rfl) rfl rfl ((Itoa_any m _ hT (by omega)).mono ?_)))))
  rintro e_ w2 ⟨rfl, hb⟩
  refine cR ?_
  replace hbw := bthen hbw hb
  replace hT := hT.bel hb
  have hz_w2 := hb.size
  clear hb
  refine sa rfl rfl (Wn (tN (W_rs (sm rfl rfl (sm rfl rfl (st (X.lenS rfl rfl Tryz.underlying9) rfl (st (X.sub64 rfl rfl (by omega)) rfl (st (X.toS (j := 6 - (Lib.decDigits m).length) rfl rfl Tryz.underlying9 (by omega) (by simp)) rfl ?_))))))))
  rw [take_zeros (6 - (Lib.decDigits m).length) (by omega)]
  refine st (X.cat rfl rfl (by simp; omega)) rfl ?_
  refine sm rfl rfl (st (X.cat rfl rfl (by simp; omega)) rfl ?_)
  rw [List.append_assoc, hd2]
  refine sa rfl rfl (Wn (tN (W_ret ?_)))
  exact (rT rfl rfl ⟨by rw [namedP, if_pos (by simpa [rightP] using hn)]; simp, hbw⟩).1
theorem Name_p (n : Int) (w : World) (hT : PowTab w) : Calls Tryz.prog 21 #[.int .i64 n] w fun e w' => e = .returned (str (nameP n)) ∧ Below w.heap.size w w' := by
 refine W_enter (args := [.int .i64 n]) 5 Tryz.func21 rfl rfl rfl (W_sub [(0, .int .i64 n)] ?_ ⟨rfl, trivial⟩)
 have hbw := Below.refl w.heap.size w
 refine W_rs (sa rfl rfl (Wn (tN (W_rs (sm rfl rfl (sc _ Tryz.func58 rfl (by kernel_rfl) rfl rfl ((pnamed_any packB n _ hT (by simp [packB])).mono ?_)))))))
 rintro e_ w1 ⟨rfl, hb⟩
 refine cR ?_
 replace hbw := bthen hbw hb
 replace hT := hT.bel hb
 have hz_w1 := hb.size
 clear hb
 refine sa rfl rfl (Wn (tN (W_ret ?_)))
 exact (rT rfl rfl ⟨rfl, hbw⟩).1
def mayP (d : Bool) (n : Int) : Int := if d = false then 2 else if rightP n = false then 1 else 0
theorem pmay_any (p : Option Addr) (n : Int) (w : World) : Calls Tryz.prog 55 #[.pointer p, .int .i64 n] w fun e w' => e = .returned (.int .i64 (mayP p.isSome n)) ∧ Below w.heap.size w w' := by
 refine W_enter (args := [.pointer p, .int .i64 n]) 12 Tryz.func55 rfl rfl rfl (W_sub [(0, .pointer p), (1, .int .i64 n)] ?_ ⟨rfl, rfl, trivial⟩)
 have hbw := Below.refl w.heap.size w
 refine W_rs (sa rfl rfl (Wn (tN (W_seq (W_block (W_rs (sm rfl rfl (st (X.dEq rfl) rfl (sa rfl rfl (Wn ?_))))))))))
 refine tN (W_if rfl (fun h5 => ?_) (fun h5 => ?_))
 ·first | replace h5 := of_decide_eq_true h5 | replace h5 := of_decide_eq_false (notT h5) | replace h5 := notT h5 | skip
  refine W_rs (sa rfl rfl (Wn (tN (W_ret (bR (tR ?_))))))
  exact (rT rfl rfl ⟨by cases p with | none => rfl | some a => simp at h5, hbw⟩).1
 ·first | replace h5 := of_decide_eq_false h5 | replace h5 := of_decide_eq_true (notF h5) | replace h5 := notF h5 | skip
  obtain ⟨a, rfl⟩ : ∃ a, p = some a := by cases p with | none => simp at h5 | some a => exact ⟨a, rfl⟩
  refine W_rs (sm rfl rfl (sc _ Tryz.func86 rfl (by kernel_rfl) rfl rfl ((pright_any n _).mono ?_)))
  rintro e_ w1 ⟨rfl, hb⟩
  refine cR ?_
  replace hbw := bthen hbw hb
  have hz_w1 := hb.size
  clear hb
  refine st (X.not rfl) rfl (sa rfl rfl (Wn (tN (W_if rfl (fun h8 => ?_) (fun h8 => ?_)))))
  ·first | replace h8 := of_decide_eq_true h8 | replace h8 := of_decide_eq_false (notT h8) | replace h8 := notT h8 | skip
   refine W_rs (sa rfl rfl (Wn (tN (W_ret (bR (tR ?_))))))
   exact (rT rfl rfl ⟨by rw [mayP, if_neg (by simp), if_pos (by simpa [rightP] using h8)], hbw⟩).1
  ·first | replace h8 := of_decide_eq_false h8 | replace h8 := of_decide_eq_true (notF h8) | replace h8 := notF h8 | skip
   refine W_skip (bN (tN (W_rs (sa rfl rfl (Wn (tN (W_ret ?_)))))))
   exact (rT rfl rfl ⟨by rw [mayP, if_neg (by simp), if_neg (by simpa [rightP] using h8)], hbw⟩).1
end Go.Proofs.YtnlabkogebnioaaGreatDoor
namespace Go.Proofs.YtnlabkogebnioaaGreatDoor
open Go.ChangeShapes Go.WideShapes Go.ChangeAt Go.RowKit
theorem info_u8' : (Tryz.prog.info? 5).map (fun i => (i.zero, i.size, i.bytes)) = some (some (.int .u8 0), 1, 1) := by kernel_rfl
theorem cells_u8 : Tryz.prog.cellsOf 5 = 1 := by kernel_rfl
theorem run_part_byte (l : List UInt8) (i : Nat) (h : i < l.length) (W : World) : (part 5 (l.map bv).toArray i).run Tryz.prog W = .ok (.int .u8 (l.getD i 0).toNat) W := by
 have hc : (l.map bv).toArray[i]? = some (.int .u8 (l.getD i 0).toNat) := by
  rw [List.getElem?_toArray, List.getElem?_map, List.getElem?_eq_getElem h]
  simp [bv, List.getD, List.getElem?_eq_getElem h]
 unfold part
 simp only [Sem.run_bind, isAgg, run_underlying Tryz.underlying5, Result.andThen_ok, Sem.run_pure, Bool.false_eq_true, if_false]
 rw [hc]
 rfl
theorem run_eqItems_bytes (d : Nat) (l m : List UInt8) (W : World) : ∀ is : List Nat, (∀ i ∈ is, i < l.length ∧ i < m.length) →
  (Op.eqItems (d + 1) 5 1 (l.map bv).toArray (m.map bv).toArray is).run Tryz.prog W = .ok (is.all fun i => l.getD i 0 == m.getD i 0) W
 | [], _ => by simp [Op.eqItems]
 | i :: is, h => by
  have hi := h i (by simp)
  have ih := run_eqItems_bytes d l m W is (fun j hj => h j (by simp [hj]))
  simp only [Op.eqItems, Sem.run_bind, Nat.mul_one, run_part_byte l i hi.1 W, run_part_byte m i hi.2 W, Result.andThen_ok, run_equalIn_int W d 5 .u8 .u8 _ _ Tryz.underlying5]
  have e : (((l.getD i 0).toNat : Int) == ((m.getD i 0).toNat : Int)) = (l.getD i 0 == m.getD i 0) := by
   rw [Bool.eq_iff_iff, beq_iff_eq, beq_iff_eq]
   exact ⟨fun h => UInt8.toNat.inj (by omega), fun h => by rw [h]⟩
  rw [e]
  cases hq : (l.getD i 0 == m.getD i 0)
  ·simp only [Bool.not_false, if_true, Sem.run_pure, List.all_cons, hq, Bool.false_and]
  ·simp only [Bool.not_true, Bool.false_eq_true, if_false, ih, List.all_cons, hq, Bool.true_and]
theorem all_getD (l m : List UInt8) (n : Nat) (hl : l.length = n) (hm : m.length = n) : ((List.range n).all fun i => l.getD i 0 == m.getD i 0) = (l == m) := by
 rw [Bool.eq_iff_iff, List.all_eq_true, beq_iff_eq]
 constructor
 ·intro h
  apply List.ext_getElem (by omega)
  intro i h1 h2
  have := h i (by simp; omega)
  simpa [List.getD, List.getElem?_eq_getElem h1, List.getElem?_eq_getElem h2] using this
 ·rintro rfl i _
  simp
theorem run_eql_sum (l m : List UInt8) (hl : l.length = 32) (hm : m.length = 32) (W : World) :
  (binOp .eql 60 (.agg (l.map bv).toArray) (.agg (m.map bv).toArray)).run Tryz.prog W = .ok (.bool (l == m)) W := by
 obtain ⟨i0, hi, hz0, hz1, hz2⟩ := info_parts info_u8'
 simp only [binOp]
 have := run_equalIn_array (P := Tryz.prog) W 9999 (l.map bv).toArray (m.map bv).toArray Tryz.underlying60 hi
 rw [cells_u8, run_eqItems_bytes 9998 l m W (List.range 32) (fun i h => by simp at h; omega), all_getD l m 32 hl hm] at this
 simp [Op.equal, Op.maxDepth, this]
end Go.Proofs.YtnlabkogebnioaaGreatDoor
namespace Go.Proofs.YtnlabkogebnioaaGreatDoor
open Go.RowKit
abbrev Sum32 : Type := { l : List UInt8 // l.length = 32 }
def encSum (k : Sum32) : Value := .agg (k.1.map bv).toArray
def encInt (n : Int) : Value := .int .i64 n
theorem part_byte (k : Sum32) (i : Nat) (h : i < 32) (w : World) : (part 5 (k.1.map bv).toArray i).run Tryz.prog w = .ok (.int .u8 (k.1.getD i 0).toNat) w := run_part_byte k.1 i (by rw [k.2]; exact h) w
theorem run_forIn_unit {P : Program} {w : World} (f : Nat → PUnit → Sem (ForInStep PUnit)) : ∀ l : List Nat, (∀ i ∈ l, (f i PUnit.unit).run P w = .ok (.yield PUnit.unit) w) → (forIn l PUnit.unit f).run P w = .ok PUnit.unit w
 | [], _ => by simp
 | i :: l, h => by
  have ih := run_forIn_unit f l (fun j hj => h j (by simp [hj]))
  simp only [List.forIn_cons, Sem.run_bind, h i (by simp), Result.andThen_ok]
  exact ih
theorem check_byte (b : Bool) (n : Nat) (m : Int) (w : World) : (Instr.checkKey b (n + 1) 5 (.int .u8 m)).run Tryz.prog w = .ok () w := by
 rw [Instr.checkKey]
 simp [run_underlying Tryz.underlying5]
theorem check_sum (b : Bool) (k : Sum32) (w : World) : (Instr.checkKey b 10000 60 (encSum k)).run Tryz.prog w = .ok () w := by
 obtain ⟨i0, hi, hz0, hz1, hz2⟩ := info_parts info_u8'
 rw [Instr.checkKey]
 simp only [Sem.run_bind, run_underlying Tryz.underlying60, Result.andThen_ok, encSum]
 simp only [Std.Legacy.Range.forIn_eq_forIn_range', Std.Legacy.Range.size, Nat.sub_zero, Nat.add_one_sub_one, Nat.div_one]
 rw [run_forIn_unit]
 ·rfl
 intro i hi2
 have hi3 : i < 32 := by simp at hi2; omega
 simp only [Sem.run_bind, run_sizeOf _ hi, Result.andThen_ok, cells_u8, Nat.mul_one, part_byte k i hi3 w, check_byte, Sem.run_pure]
theorem eq_sum (k q : Sum32) (w : World) : (Op.equal 60 (encSum k) (encSum q)).run Tryz.prog w = .ok (decide (k = q)) w := by
 obtain ⟨i0, hi, hz0, hz1, hz2⟩ := info_parts info_u8'
 have := run_equalIn_array (P := Tryz.prog) w 9999 (k.1.map bv).toArray (q.1.map bv).toArray Tryz.underlying60 hi
 rw [cells_u8, run_eqItems_bytes 9998 k.1 q.1 w (List.range 32) (fun i h => by simp at h; rw [k.2, q.2]; omega), all_getD k.1 q.1 32 k.2 q.2] at this
 have e : decide (k = q) = (k.1 == q.1) := by rw [Bool.eq_iff_iff, decide_eq_true_eq, beq_iff_eq, Subtype.ext_iff]
 rw [e]
 exact this
theorem keySum : KeyLaw Tryz.prog 60 encSum where
 check := check_sum
 find k ks w := by
  rw [run_findKey_eq w (by rw [Tryz.underlying60])]
  have key : ∀ (ks : List (Sum32 × Value × Nat)) (j : Nat), (Instr.findAsking 60 (encSum k) (ks.map fun p => (⟨encSum p.1, p.2.1, p.2.2⟩ : MapEntry)) j).run Tryz.prog w = .ok ((ks.findIdx? fun p => decide (k = p.1)).bind fun i => (ks[i]?).map fun p => (i + j, p.2.1)) w := by
   intro ks
   induction ks with
   | nil => intro j; simp [Instr.findAsking]
   | cons p ks ih =>
    intro j
    simp only [List.map_cons, Instr.findAsking, Sem.run_bind, eq_sum, Result.andThen_ok, List.findIdx?_cons]
    by_cases h : k = p.1
    ·simp [h]
    ·have hd : decide (k = p.1) = false := decide_eq_false h
     simp only [hd, Bool.false_eq_true, if_false, ih (j + 1)]
     cases ks.findIdx? fun p => decide (k = p.1) with
     | none => rfl
     | some i =>
      simp only [Option.map_some, Option.bind_some, List.getElem?_cons_succ]
      rw [show i + 1 + j = i + (j + 1) by omega]
  exact key ks 0
 same k := by
  unfold encSum
  rw [Instr.sameBits]
  simp only [beq_self_eq_true, Bool.true_and, List.all_eq_true]
  intro p hp
  obtain ⟨x, y⟩ := p
  have hxy : x = y := by
   obtain ⟨i, hi, he⟩ := List.mem_iff_getElem.1 hp
   simp only [List.getElem_zip, Prod.mk.injEq] at he
   rw [← he.1, ← he.2]
  subst hxy
  have hm := (List.of_mem_zip hp).1
  simp only [List.mem_map] at hm
  obtain ⟨u, _, rfl⟩ := hm
  simp [Instr.sameBits, bv]
end Go.Proofs.YtnlabkogebnioaaGreatDoor
namespace Go.Proofs.YtnlabkogebnioaaGreatDoor
open Go.RowKit
def Ent.cells (e : Ent) : List Value := e.sum.map bv ++ [.int .i64 e.pack, .int .i64 e.pos, .int .i64 e.len]
theorem Ent.cells_length {e : Ent} (h : e.sum.length = 32) : e.cells.length = 35 := by simp [Ent.cells, h]
theorem Ent.size {e : Ent} (h : e.sum.length = 32) : e.cells.toArray.size = 35 := by simp [Ent.cells, h]
end Go.Proofs.YtnlabkogebnioaaGreatDoor
namespace Go.Proofs.YtnlabkogebnioaaGreatDoor
open Go.RowKit
theorem ILen_any (v : Value) (l : List Ent) (w : World) (h : Reads w 35 v l.length (l.flatMap Ent.cells)) : Calls Tryz.prog 30 #[.agg #[v]] w fun e w' => e = .returned (.int .i64 l.length) ∧ Below w.heap.size w w' := by
 obtain ⟨a, cp, rfl, hn, hcp⟩ := h.shape
 refine W_enter (args := [.agg #[.slice a l.length cp]]) 6 Tryz.func30 rfl rfl rfl (W_sub [(0, .agg #[.slice a l.length cp])] ?_ ⟨rfl, trivial⟩)
 have hbw := Below.refl w.heap.size w
 refine W_rs (sboxA rfl rfl (fun g1 w1 hB1 hg1 hb hl1 => ?_))
 replace hbw := bthen hbw hb
 have hz_w1 := hb.size
 clear hb
 refine sa rfl rfl (Wn (tN (W_rs (st (X.fa fa25_0 rfl) rfl (st (X.ldL rfl hB1 Tryz.underlying23 rfl rfl) rfl (st (X.lenL rfl rfl Tryz.underlying23) rfl (sa rfl rfl (Wn (tN (W_ret ?_))))))))))
 exact (rT rfl rfl ⟨rfl, hbw⟩).1
end Go.Proofs.YtnlabkogebnioaaGreatDoor
namespace Go.Proofs.YtnlabkogebnioaaGreatDoor
open Go.RowKit
theorem Ent.cells_one (e : Ent) : e.cells.toArray.toList.all (·.oneCell') = true := by
 simp [Ent.cells, Value.oneCell', bv]
abbrev EntsAt (w : World) (v : Value) (l : List Ent) : Prop := Reads w 35 v l.length (l.flatMap Ent.cells)
theorem EntsAt.range {w : World} {g o c : Nat} {l : List Ent} (h : EntsAt w (.slice (some ⟨g, o, none⟩) l.length c) l) (h32 : S32 l) {j : Nat} {x : Ent} (hx : l[j]? = some x) : w.rangeAt g (o + j * 35) x.cells := h.rec_ (fun a ha => Ent.cells_length (h32 a ha)) hx
end Go.Proofs.YtnlabkogebnioaaGreatDoor
namespace Go.Proofs.YtnlabkogebnioaaGreatDoor
open Go.RowKit
theorem X.eqSumF {l : Env} {x y : Operand} {w : World} {t' ty : TypeId} {a b : List UInt8} (ha : a.length = 32) (hb : b.length = 32) (hx : ev l x = some (.agg (a.map bv).toArray)) (hy : ev l y = some (.agg (b.map bv).toArray)) : X Tryz.prog l (.binOp .eql 60 x y t') ty w (.bool (a == b)) w :=
 X.bin hx hy (fun c d => run_eqGuard_agg w .eql _ c d _ _ (by kernel_rfl)) (run_eql_sum a b ha hb w)
theorem EntsAt.nil (w : World) : EntsAt w (.slice none 0 0) [] := (Row.nil w 66 35).reads
theorem bidx0 (w : World) : (Instr.build 25 #[]).run Tryz.prog w = .ok (.agg #[.slice none 0 0]) w := by kernel_rfl
theorem Ent.cell_ {e : Ent} (h : e.sum.length = 32) (i : Nat) (v : Value) (hv : [Value.int .i64 e.pack, .int .i64 e.pos, .int .i64 e.len][i]? = some v) : e.cells.toArray[32 + i]? = some v := by
 rw [List.getElem?_toArray, Ent.cells, List.getElem?_append_right (by simp [h]), ← hv]
 simp [h]
end Go.Proofs.YtnlabkogebnioaaGreatDoor
namespace Go.Proofs.YtnlabkogebnioaaGreatDoor
open Go.RowKit
def eZ : Ent := ⟨List.replicate 32 0, 0, 0, 0⟩
theorem benZ (w : World) : (Instr.build 66 #[]).run Tryz.prog w = .ok (.agg eZ.cells.toArray) w := by kernel_rfl
end Go.Proofs.YtnlabkogebnioaaGreatDoor
namespace Go.Proofs.YtnlabkogebnioaaGreatDoor
open Go.RowKit Sha
theorem Of_list (s : List UInt8) (w : World) (hT : ShaTabs w) (hs : s.length ≤ 4294960000) : Calls Tryz.prog 24 #[str s] w fun e w' => e = .returned (.agg ((sha s).map bv).toArray) ∧ Below w.heap.size w w' := by
 have := ShaOf_any ⟨s.toArray⟩ w hT (by show s.toArray.size ≤ _; simpa using hs)
 exact this
theorem sumReads {w : World} {g : Nat} {t : TypeId} {l : List UInt8} (hB : Blk w g t (l.map bv).toArray) (hl : l.length = 32) : Reads w 1 (.slice (some ⟨g, 0, none⟩) 32 32) 32 (l.map bv) := by
 refine ⟨by simp [hl], _, 32, rfl, Nat.le_refl _, by simp [maxLen], fun _ => ⟨g, 0, rfl, hB.lt, fun j u hj => ?_⟩⟩
 rw [hB.cell, List.getElem?_toArray, Nat.zero_add]
 exact hj
theorem sumSize {l : List UInt8} (hl : l.length = 32) : (l.map bv).toArray.size = 32 := by simp [hl]
theorem sumOne (l : List UInt8) : (l.map bv).toArray.toList.all (·.oneCell') = true := by simp [bv, Value.oneCell']
theorem sealed_any (s : List UInt8) (w : World) (hT : ShaTabs w) (hs : s.length ≤ 1000000) : Calls Tryz.prog 68 #[str s] w fun e w' => e = .returned (str (sealM 2 (sha s ++ s))) ∧ Below w.heap.size w w' := by
 have h32 : (sha s).length = 32 := sha_length s
 refine W_enter (args := [str s]) 11 Tryz.func68 rfl rfl rfl (W_sub [(0, str s)] ?_ ⟨rfl, trivial⟩)
 have hbw := Below.refl w.heap.size w
 refine W_rs (sa rfl rfl (Wn (tN (W_rs (sm rfl rfl (sc _ Tryz.func24 rfl (by kernel_rfl) rfl rfl ((Of_list s _ hT (by omega)).mono ?_)))))))
 rintro e_ w1 ⟨rfl, hb⟩
 refine cR ?_
 replace hbw := bthen hbw hb
 have hz_w1 := hb.size
 clear hb
 refine salA inf60 rfl (fun g3 w2 hB3 hg3 hb hl3 => ?_)
 replace hbw := bthen hbw hb
 have hz_w2 := hb.size
 clear hb
 refine ssBN rfl rfl hB3 (by rw [sumSize h32]; exact siz60) (by rw [sumSize h32]; rfl) (sumOne _) (fun w3 hB_ hc_ => ?_)
 replace hB3 := hB_
 replace hbw := bset hbw hc_ (by omega)
 have hz_w3 := hc_.size
 clear hB_ hc_
 refine Wn (tN (W_rs (st (X.slArr rfl Tryz.underlying60 siz5) rfl (st (X.strOf (s := sha s) rfl Tryz.underlying123 Tryz.underlying5 Tryz.underlying9 (sumReads hB3 h32)) rfl (sm rfl rfl (st (X.cat rfl rfl (by omega)) rfl (sc _ Tryz.func52 rfl (by kernel_rfl) rfl rfl ((Seal_any 2 (sha s ++ s) _ (by simp; omega)).mono ?_))))))))
 rintro e_ w3 ⟨rfl, hb⟩
 refine cR ?_
 replace hbw := bthen hbw hb
 replace hB3 := hB3.bel hb
 have hz_w3 := hb.size
 clear hb
 refine sa rfl rfl (Wn (tN (W_ret ?_)))
 exact (rT rfl rfl ⟨rfl, hbw⟩).1
end Go.Proofs.YtnlabkogebnioaaGreatDoor
namespace Go.Proofs.YtnlabkogebnioaaGreatDoor
open Go.RowKit Sha
def hasOf (l : List Ent) : List (List UInt8 × Int) := l.zipIdx.map fun p => (p.1.sum, (p.2 : Int))
theorem hasOf_snoc (l : List Ent) (e : Ent) : hasOf (l ++ [e]) = hasOf l ++ [(e.sum, (l.length : Int))] := by
 simp [hasOf, List.zipIdx_append]
structure ScnAt (w : World) (gx gm : Nat) (v : Value) (x : Scn) : Prop where
  blk : Blk w gx 97 #[v, .map (some gm), .int .i64 x.good, .bool x.whole]
  row : Row w 66 35 v x.l.length (x.l.flatMap Ent.cells)
  map : ∃ m : List (Sum32 × Int), MapAt w gm encSum encInt m ∧ m.map (fun p => (p.1.1, p.2)) = hasOf x.l
  s32 : S32 x.l
theorem ScnAt.bel {w w' : World} {gx gm : Nat} {v : Value} {x : Scn} (h : ScnAt w gx gm v x) (hb : Below w.heap.size w w') : ScnAt w' gx gm v x :=
 ⟨h.blk.bel hb, h.row.bel hb, by obtain ⟨m, h1, h2⟩ := h.map; exact ⟨m, h1.bel hb, h2⟩, h.s32⟩
theorem has_mem {m : List (Sum32 × Int)} {l : List Ent} (h : m.map (fun p => (p.1.1, p.2)) = hasOf l) (k : Sum32) : k ∈ m.map (·.1) ↔ hadM l k.1 = true := by
 have e1 : (m.map (fun p => (p.1.1, p.2))).map (·.1) = (m.map (·.1)).map (·.1) := by simp [List.map_map, Function.comp_def]
 have e2 : (hasOf l).map (·.1) = l.map (·.sum) := by
  unfold hasOf
  rw [List.map_map]
  have : ((fun x => x.1) ∘ fun p : Ent × Nat => (p.1.sum, (p.2 : Int))) = (fun e : Ent => e.sum) ∘ Prod.fst := rfl
  rw [this, ← List.map_map, List.zipIdx_map_fst]
 rw [h, e2] at e1
 unfold hadM
 rw [List.any_eq_true]
 constructor
 ·intro hk
  have : k.1 ∈ (m.map (·.1)).map (·.1) := List.mem_map.2 ⟨k, hk, rfl⟩
  rw [← e1] at this
  obtain ⟨e, he, hes⟩ := List.mem_map.1 this
  exact ⟨e, he, by simpa using hes⟩
 ·rintro ⟨e, he, hes⟩
  have : k.1 ∈ l.map (·.sum) := List.mem_map.2 ⟨e, he, by simpa using hes⟩
  rw [e1] at this
  obtain ⟨q, hq, hqe⟩ := List.mem_map.1 this
  exact (Subtype.ext hqe : q = k) ▸ hq
theorem bent (a : List UInt8) (n i j : Int) (ha : a.length = 32) (w : World) : (Instr.build 66 #[(0, .agg (a.map bv).toArray), (1, .int .i64 n), (2, .int .i64 i), (3, .int .i64 j)]).run Tryz.prog w = .ok (.agg (Ent.mk a n i j).cells.toArray) w := by
 match a, ha with
 | [a0, a1, a2, a3, a4, a5, a6, a7, a8, a9, b0, b1, b2, b3, b4, b5, b6, b7, b8, b9, c0, c1, c2, c3, c4, c5, c6, c7, c8, c9, d0, d1], _ => show _ = _; kernel_rfl
theorem Blk.neM {κ ν : Type} [DecidableEq κ] {enc : κ → Value} {encv : ν → Value} {w : World} {g b : Nat} {t : TypeId} {cs : Array Value} {m : List (κ × ν)} (hB : Blk w g t cs) (hM : MapAt w b enc encv m) : g ≠ b := by
 rintro rfl
 obtain ⟨ts, clock, _, _, _, h4⟩ := hM.obj
 have h : w.heap[g]? = some (.cells cs t) := hB
 rw [h4] at h
 cases h
theorem Row.neM {κ ν : Type} [DecidableEq κ] {enc : κ → Value} {encv : ν → Value} {w : World} {b n size : Nat} {e : TypeId} {v : Value} {xs : List Value} {m : List (κ × ν)} (hR : Row w e size v n xs) (hM : MapAt w b enc encv m) : ∀ k, v.ownBlock = some k → k ≠ b := fun k hk => by
 rintro rfl
 obtain ⟨ts, clock, _, _, _, h4⟩ := hM.obj
 have := hR.onCells k _ hk h4
 cases this
theorem entOne (e : Ent) : e.cells.toArray.toList.all (·.oneCell') = true := by
 simp [Ent.cells, bv, Value.oneCell']
theorem rowLt {w : World} {e : TypeId} {size n : Nat} {v : Value} {xs : List Value} (h : Row w e size v n xs) : ∀ k, v.ownBlock = some k → k < w.heap.size := fun k hk => by
 rcases h.2 with ⟨rfl, _⟩ | ⟨g, off, cap, cur, fz, rfl, hg, _⟩
 ·simp [Value.ownBlock] at hk
 ·simp [Value.ownBlock] at hk
  subst hk
  exact (Array.getElem?_eq_some_iff.1 hg).1
def AddPost (w : World) (gx gm : Nat) (v : Value) (x : Scn) (E : Ent) (e : Ending) (w' : World) : Prop :=
  ∃ v', e = .returned (.agg E.cells.toArray) ∧ ScnAt w' gx gm v' { x with l := x.l ++ [E] } ∧ (∀ k, v'.ownBlock = some k → v.ownBlock = some k ∨ w.heap.size ≤ k) ∧ Chg (fun k => k = gx ∨ k = gm ∨ v.ownBlock = some k) w w'
set_option maxRecDepth 10000 in
theorem add_any (gx gm : Nat) (v : Value) (x : Scn) (n pos : Int) (a d : List UInt8) (w : World) (h : ScnAt w gx gm v x) (ha : a.length = 32) (hn : hadM x.l a = false) (hl : x.l.length ≤ 20000000) :
  Calls Tryz.prog 69 #[.pointer (some ⟨gx, 0, none⟩), .int .i64 n, .int .i64 pos, .agg (a.map bv).toArray, str d] w (AddPost w gx gm v x ⟨a, n, pos, d.length⟩) := by
 have hB : Blk w gx 97 #[v, .map (some gm), .int .i64 x.good, .bool x.whole] := h.blk
 have hR := h.row
 obtain ⟨m, hM, hm⟩ := h.map
 have hgm := hB.neM hM
 have hlt := hB.lt
 have hlm := hM.lt
 have hrm := hR.neM hM
 have hvl := rowLt hR
 obtain ⟨q, cq, rfl, hq1, hq2⟩ := hR.shape
 refine W_enter (args := [.pointer (some ⟨gx, 0, none⟩), .int .i64 n, .int .i64 pos, .agg (a.map bv).toArray, str d]) 39 Tryz.func69 rfl rfl rfl (W_sub [(0, .pointer (some ⟨gx, 0, none⟩)), (1, .int .i64 n), (2, .int .i64 pos), (3, .agg (a.map bv).toArray), (4, str d)] ?_ ⟨rfl, rfl, rfl, rfl, rfl, trivial⟩)
 have hcw := Chg.refl (fun k => k = gx ∨ k = gm ∨ (Value.slice q x.l.length cq).ownBlock = some k) w
 refine W_rs (sboxA rfl rfl (fun g8 w1 hB8 hg8 hb hl8 => ?_))
 replace hcw := hcw.then_below hb
 replace hB := hB.bel hb
 replace hR := hR.bel hb
 replace hM := hM.bel hb
 have hz_w1 := hb.size
 clear hb
 refine salA inf66 rfl (fun g10 w2 hB10 hg10 hb hl10 => ?_)
 replace hcw := hcw.then_below hb
 replace hB := hB.bel hb
 replace hR := hR.bel hb
 replace hM := hM.bel hb
 replace hB8 := hB8.bel hb
 have hz_w2 := hb.size
 clear hb
 refine Wn (tN (W_rs (st (X.ldBN rfl hB8 Tryz.underlying60 rfl (by rw [sumSize ha]; exact siz60)) rfl ?_)))
 refine sm rfl rfl (sm rfl rfl (sm rfl rfl (st (X.lenS rfl rfl Tryz.underlying9) rfl (st (X.bld rfl (bent a n pos d.length ha _)) rfl (salA inf66 rfl (fun g11 w3 hB11 hg11 hb hl11 => ?_))))))
 replace hcw := hcw.then_below hb
 replace hB := hB.bel hb
 replace hR := hR.bel hb
 replace hM := hM.bel hb
 replace hB8 := hB8.bel hb
 replace hB10 := hB10.bel hb
 have hz_w3 := hb.size
 clear hb
 refine ssBN rfl rfl hB11 (by rw [Ent.size (e := ⟨a, n, pos, d.length⟩) ha]; exact siz66) (by rw [Ent.size (e := ⟨a, n, pos, d.length⟩) ha]; rfl) (entOne _) (fun w4 hB_ hc_ => ?_)
 replace hB11 := hB_
 replace hB := hB.chg hc_ (by show ¬ gx = g11; omega)
 replace hR := hR.chg hc_ (fun k hk e => by have := hvl k hk; omega)
 replace hM := hM.chg hc_ (by show ¬ gm = g11; omega)
 replace hB8 := hB8.chg hc_ (by show ¬ g8 = g11; omega)
 replace hB10 := hB10.chg hc_ (by show ¬ g10 = g11; omega)
 replace hcw := hcw.next hc_ (fun i hi => .inr (by omega))
 have hz_w4 := hc_.size
 clear hB_ hc_
 refine Wn (tN (W_still_s 10 (by kernel_rfl) (by kernel_rfl) ?_))
 obtain ⟨w5, hw_⟩ : ∃ w5 : World, w5 = World.drew w4 := ⟨_, rfl⟩
 rw [← hw_]
 have hb : Below w4.heap.size w4 w5 := by rw [hw_]; exact bdrew (Below.refl _ _)
 clear hw_
 replace hcw := hcw.then_below hb
 replace hB := hB.bel hb
 replace hR := hR.bel hb
 replace hM := hM.bel hb
 replace hB8 := hB8.bel hb
 replace hB10 := hB10.bel hb
 replace hB11 := hB11.bel hb
 have hz_w5 := hb.size
 clear hb
 refine hY (X.move rfl) rfl (hY (X.nilChk rfl) rfl (hY (X.fa fa97_1 rfl) rfl (hY (X.ldL rfl hB Tryz.underlying95 rfl rfl) rfl (hY (X.ldBN rfl hB8 Tryz.underlying60 rfl (by rw [sumSize ha]; exact siz60)) rfl ?_))))
 refine hY (X.move rfl) rfl (hY (X.nilChk rfl) rfl (hY (X.fa fa97_0 rfl) rfl (hY (X.ldL rfl hB Tryz.underlying23 rfl rfl) rfl (hY (X.lenL rfl rfl Tryz.underlying23) rfl (hN (smu keySum rfl ⟨a, ha⟩ (x.l.length : Int) rfl rfl Tryz.underlying95 hM (fun w6 hM_ hc_ => ?_)))))))
 replace hB := hB.chg hc_ hgm
 replace hR := hR.chg hc_ (fun k hk e => hrm k hk e)
 replace hB8 := hB8.chg hc_ (by show ¬ g8 = gm; omega)
 replace hB10 := hB10.chg hc_ (by show ¬ g10 = gm; omega)
 replace hB11 := hB11.chg hc_ (by show ¬ g11 = gm; omega)
 replace hcw := hcw.next hc_ (fun i hi => .inl (.inr (.inl hi)))
 replace hM := hM_
 have hz_w6 := hc_.size
 clear hM_ hc_
 refine Wn (tN ?_)
 have hB0 := hB
 have hB110 := hB11
 refine W_phase_s (fun W_ => Below w6.heap.size w6 W_) 7 [true, true, true, true, true, true, false] (by kernel_rfl) (by kernel_rfl) (bdrew (Below.refl _ _)) ?_
 obtain ⟨w7, hw_⟩ : ∃ w7 : World, w7 = World.drew w6 := ⟨_, rfl⟩
 rw [← hw_]
 have hb : Below w6.heap.size w6 w7 := by rw [hw_]; exact bdrew (Below.refl _ _)
 clear hw_
 have hS := hb
 replace hcw := hcw.then_below hb
 replace hB := hB.bel hb
 replace hR := hR.bel hb
 replace hM := hM.bel hb
 replace hB8 := hB8.bel hb
 replace hB10 := hB10.bel hb
 replace hB11 := hB11.bel hb
 have hz_w7 := hb.size
 clear hb
 refine pY (fun W_ hW_ => (X.move rfl)) rfl (pY (fun W_ hW_ => (X.move rfl)) rfl (pY (fun W_ hW_ => (X.nilChk rfl)) rfl (pY (fun W_ hW_ => (X.fa fa97_0 rfl)) rfl (pY (fun W_ hW_ => (X.ldL rfl (hB0.bel hW_) Tryz.underlying23 rfl rfl)) rfl (pY (fun W_ hW_ => (X.ldBN rfl (hB110.bel hW_) Tryz.underlying66 rfl (by rw [Ent.size (e := ⟨a, n, pos, d.length⟩) ha]; exact siz66))) rfl ?_)))))
 refine pL (fun Q_ hQ_ hP_ => (sbs1 rfl Tryz.underlying23 inf66 (Ent.size (e := ⟨a, n, pos, d.length⟩) ha) rfl (by decide) (by decide) rfl (fun g34 w8 hR34 hg34 hb => ?_)))
 replace hS := bthen hS hb
 replace hcw := hcw.then_below hb
 replace hB := hB.bel hb
 replace hR := hR.bel hb
 replace hM := hM.bel hb
 replace hB10 := hB10.bel hb
 replace hB11 := hB11.bel hb
 have hz_w8 := hb.size
 clear hb
 have hl34 := hR34.blt (by decide)
 refine Wn (hQ_ _ _ hS ?_)
 clear hQ_ hP_ Q_
 refine pN (sapp rfl rfl Tryz.underlying23 inf66 rfl (by decide) hR (hR34.src Tryz.underlying23 (by intro u hu; have := List.all_eq_true.1 (entOne ⟨a, n, pos, d.length⟩) u (by simpa [Value.cells] using hu); exact this)) (by simp only [maxLen]; omega) (by omega) rfl (fun v' w9 hR2 hC2 hv => ?_))
 obtain ⟨a', c', rfl, _, _⟩ := hR2.shape
 have hz_w9 := hC2.size
 have hlt9 := hB.lt
 have hne1 := hR.ne2 hB (by decide)
 replace hB := hB.chg hC2 (fun hk => hne1 _ hk rfl)
 replace hM := hM.chg hC2 (fun hk => hR.neM hM _ hk rfl)
 have hne := hR2.ne2 hB (by decide)
 replace hB10 := hB10.chg hC2 (fun hk => by have := hvl _ hk; omega)
 replace hB11 := hB11.chg hC2 (fun hk => by have := hvl _ hk; omega)
 replace hcw := hcw.next hC2 (fun i hi => .inl (.inr (.inr hi)))
 have hvn : ∀ k, (Value.slice a' (x.l.length + 1) c').ownBlock = some k → (Value.slice q x.l.length cq).ownBlock = some k ∨ w.heap.size ≤ k := fun k hk => by
  rcases hv with hv | hv
  ·exact .inl (hv ▸ hk)
  ·rw [hv] at hk
   injection hk with hk
   right; omega
 have hrm2 := hR2.neM hM
 have hn10 : ¬ (Value.slice a' (x.l.length + 1) c').ownBlock = some g10 := fun hk => by
  rcases hv with hv | hv
  ·rw [hv] at hk; have := hvl _ hk; omega
  ·rw [hv] at hk; injection hk with hk; omega
 replace hR := hR2
 clear hC2 hR2 hB8
 refine st (X.nilChk rfl) rfl (st (X.fa fa97_0 rfl) rfl (ssB rfl rfl hB siz23 hR.one (by simp) (fun w10 hB_ hc_ => ?_)))
 replace hB := hB_
 replace hR := hR.chg hc_ (fun k hk e => hne _ hk e)
 replace hM := hM.chg hc_ (by show ¬ gm = gx; omega)
 replace hB10 := hB10.chg hc_ (by show ¬ g10 = gx; omega)
 replace hB11 := hB11.chg hc_ (by show ¬ g11 = gx; omega)
 replace hcw := hcw.next hc_ (fun i hi => .inl (.inl hi))
 have hz_w10 := hc_.size
 clear hB_ hc_
 refine Wn (nN (W_rs (st (X.ldBN rfl hB11 Tryz.underlying66 rfl (by rw [Ent.size (e := ⟨a, n, pos, d.length⟩) ha]; exact siz66)) rfl ?_)))
 refine ssBN rfl rfl hB10 (by rw [Ent.size (e := ⟨a, n, pos, d.length⟩) ha]; exact siz66) (by rw [Ent.size (e := ⟨a, n, pos, d.length⟩) ha]; rfl) (entOne _) (fun w11 hB_ hc_ => ?_)
 replace hB10 := hB_
 replace hB := hB.chg hc_ (by show ¬ gx = g10; omega)
 replace hR := hR.chg hc_ (fun k hk e => by have h1 := hvn k hk; have h2 := rowLt hR k hk; rcases h1 with h1 | h1; have := hvl k h1; omega; exact hn10 (e ▸ hk))
 replace hM := hM.chg hc_ (by show ¬ gm = g10; omega)
 replace hcw := hcw.next hc_ (fun i hi => .inr (by omega))
 clear hB_ hc_
 refine Wn (tN (W_ret ((rC rfl rfl hB10 Tryz.underlying66 rfl (by rw [Ent.size (e := ⟨a, n, pos, d.length⟩) ha]; exact siz66) ⟨_, rfl, ⟨hB, ?_, ⟨_, hM, ?_⟩, ?_⟩, hvn, hcw⟩).1)))
 ·rw [List.length_append, List.flatMap_append, List.flatMap_singleton]
  exact hR
 ·rw [mput_new _ _ _ (by rw [List.findIdx?_eq_none_iff]; intro p hp; rw [decide_eq_false_iff_not]; intro e; have := (has_mem hm ⟨a, ha⟩).1 (e ▸ List.mem_map.2 ⟨p, hp, rfl⟩); rw [hn] at this; cases this), List.map_append, hm, hasOf_snoc]
  rfl
 ·intro e he
  rcases List.mem_append.1 he with he | he
  ·exact h.s32 e he
  ·rw [List.mem_singleton.1 he]; exact ha
end Go.Proofs.YtnlabkogebnioaaGreatDoor
namespace Go.Proofs.YtnlabkogebnioaaGreatDoor
open Go.RowKit Sha
theorem ScnAt.chg {w w' : World} {gx gm : Nat} {v : Value} {x : Scn} {S : Nat → Prop} (h : ScnAt w gx gm v x) (hc : Chg S w w') (h1 : ¬ S gx) (h2 : ¬ S gm) (h3 : ∀ k, v.ownBlock = some k → ¬ S k) : ScnAt w' gx gm v x :=
 ⟨h.blk.chg hc h1, h.row.chg hc h3, by obtain ⟨m, a, b⟩ := h.map; exact ⟨m, a.chg hc h2, b⟩, h.s32⟩
end Go.Proofs.YtnlabkogebnioaaGreatDoor
namespace Go.Proofs.YtnlabkogebnioaaGreatDoor
open Go.RowKit Sha
theorem bscn (b : Nat) (w : World) : (Instr.build 97 #[(1, .map (some b))]).run Tryz.prog w = .ok (.agg #[.slice none 0 0, .map (some b), .int .i64 0, .bool false]) w := by kernel_rfl
end Go.Proofs.YtnlabkogebnioaaGreatDoor
namespace Go.Proofs.YtnlabkogebnioaaGreatDoor
open Go.RowKit Sha
structure Wri where
  n : Int
  l : List Ent
  closed : Bool
def headB (n : Int) : List UInt8 := sealM 1 (four n)
def chunkB (d : List UInt8) : List UInt8 := sealM 2 (sha d ++ d)
def pbeginM (D : DiskD) (n : Int) : Int × DiskD :=
  if rightP n = false then (1, D)
  else if (createM D (nameP n)).1 ≠ 0 then createM D (nameP n)
  else if (appendM (createM D (nameP n)).2 (nameP n) (headB n)).1 ≠ 0 then ((appendM (createM D (nameP n)).2 (nameP n) (headB n)).1, (removeM (appendM (createM D (nameP n)).2 (nameP n) (headB n)).2 (nameP n)).2)
  else appendM (createM D (nameP n)).2 (nameP n) (headB n)
def paddM (D : DiskD) (x : Wri) (d : List UInt8) : (Ent × Int) × Wri × DiskD :=
  if x.closed = true ∨ d = [] then ((eZ, 1), x, D)
  else if 1024 < d.length then ((eZ, 31), x, D)
  else match findM x.l (sha d) with
    | some e => ((e, 16), x, D)
    | none =>
      if (sizeM D (nameP x.n)).2 ≠ 0 then ((eZ, (sizeM D (nameP x.n)).2), x, D)
      else if (appendM D (nameP x.n) (chunkB d)).1 ≠ 0 then ((eZ, (appendM D (nameP x.n) (chunkB d)).1), x, (appendM D (nameP x.n) (chunkB d)).2)
      else ((⟨sha d, x.n, (sizeM D (nameP x.n)).1, d.length⟩, 0), { x with l := x.l ++ [⟨sha d, x.n, (sizeM D (nameP x.n)).1, d.length⟩] }, (appendM D (nameP x.n) (chunkB d)).2)
end Go.Proofs.YtnlabkogebnioaaGreatDoor
namespace Go.Proofs.YtnlabkogebnioaaGreatDoor
theorem sealM_eq {k : UInt8} {b : List UInt8} (hk : k ≠ 0) (hb : b.length ≤ 1048576) : sealM k b = ([k] ++ (uvB b.length ++ b)) ++ fixB (Crc.crc ([k] ++ (uvB b.length ++ b))).toNat 4 := by
 unfold sealM
 rw [if_neg (fun e => by rcases e with e | e; exact hk e; omega)]
theorem seal_length {k : UInt8} {b : List UInt8} (hk : k ≠ 0) (hb : b.length ≤ 1048576) : (sealM k b).length = 1 + (uvB b.length).length + b.length + 4 := by
 rw [sealM_eq hk hb]
 simp only [List.length_append, List.length_cons, List.length_nil, fixB_length]
 omega
end Go.Proofs.YtnlabkogebnioaaGreatDoor
namespace Go.Proofs.YtnlabkogebnioaaGreatDoor
open Go.RowKit Sha
theorem d10_letter (n : Nat) : letterB (d10 n) = true := by
 have h : ∀ m : Fin 10, letterB (UInt8.ofNat (48 + m.val)) = true := by decide
 exact h ⟨n % 10, Nat.mod_lt _ (by omega)⟩
theorem dig_letters : ∀ (k n : Nat), (dig k n).all letterB = true
 | 0, _ => rfl
 | k + 1, n => by
  rw [dig, List.all_append, dig_letters k]
  simp [d10_letter]
theorem six_length (n : Nat) : (six n).length = 6 := dig_length 6 n
theorem namedP_ok {kind : List UInt8} {n : Int} (hn : rightP n = true) : namedP kind n = kind ++ six n.toNat := if_pos hn
theorem nameOk_of {a b : List UInt8} (ha : a ≠ []) (hl : a.length + b.length ≤ 64) (h1 : a.all letterB = true) (h2 : b.all letterB = true) : nameOk (a ++ b) = true := by
 unfold nameOk
 rw [List.all_append, h1, h2, List.length_append, decide_eq_true hl]
 cases a with
 | nil => exact absurd rfl ha
 | cons x a => rfl
theorem name_ok {n : Int} (hn : rightP n = true) : nameOk (nameP n) = true := by
 unfold nameP
 rw [namedP_ok hn]
 exact nameOk_of (by decide) (by rw [six_length]; decide) (by decide) (dig_letters _ _)
theorem headB_len (n : Int) : (headB n).length ≤ 20 := by
 unfold headB
 have h4 : (four n).length = 4 := four_length n
 rw [seal_length (by decide) (by omega), h4]
 have := uvB_length 4 (by omega)
 omega
theorem pbegin_good {n : Nat} {D : DiskD} (h : Good n D) (k : Int) : Good (n + 30) (pbeginM D k).2 := by
 have h1 := create_good h (nameP k)
 have h2 := append_good h1 (nameP k) (headB k)
 have hl := headB_len k
 unfold pbeginM
 split
 ·exact h.mono (by omega)
 split
 ·exact h1.mono (by omega)
 split
 ·exact (remove_good h2 _).mono (by omega)
 ·exact h2.mono (by omega)
theorem chunkB_len (d : List UInt8) (hd : d.length ≤ 1048000) : (chunkB d).length ≤ d.length + 50 := by
 unfold chunkB
 have h := sha_length d
 rw [seal_length (by decide) (by rw [List.length_append]; omega), List.length_append, h]
 have := uvB_length (32 + d.length) (by omega)
 omega
theorem padd_good {n : Nat} {D : DiskD} (h : Good n D) (x : Wri) (d : List UInt8) : Good (n + 1100) (paddM D x d).2.2 := by
 unfold paddM
 split
 ·exact h.mono (by omega)
 split
 ·exact h.mono (by omega)
 rename_i h1
 have h2 := append_good h (nameP x.n) (chunkB d)
 have hl := chunkB_len d (by omega)
 split
 ·exact h.mono (by omega)
 split
 ·exact h.mono (by omega)
 split
 ·exact h2.mono (by omega)
 ·exact h2.mono (by omega)
end Go.Proofs.YtnlabkogebnioaaGreatDoor
namespace Go.Proofs.YtnlabkogebnioaaGreatDoor
open Go.RowKit Sha
structure PTabs (B : Nat) (w : World) : Prop where
  sha : ShaTabs w
  pow : PowTab w
  k : 1 < B
  b : 0 < B
  p : 2 < B
theorem gPow : Tryz.prog.globalNamed "internal/strconv.uint64pow10" = some 2 := by kernel_rfl
theorem PTabs.chg {B : Nat} {w w' : World} {S : Nat → Prop} (h : PTabs B w) (hc : Chg S w w') (hS : ∀ k, S k → B ≤ k) : PTabs B w' := by
 refine ⟨h.sha.chg hc ⟨fun e => by have := hS _ e; have := h.k; omega, fun e => by have := hS _ e; have := h.b; omega⟩, ?_, h.k, h.b, h.p⟩
 have hp : w.var? Tryz.prog "internal/strconv.uint64pow10" = some (Lib.pow10Tab.map fun z => Value.int .u64 z).toArray := h.pow
 show w'.var? Tryz.prog "internal/strconv.uint64pow10" = some (Lib.pow10Tab.map fun z => Value.int .u64 z).toArray
 unfold World.var? at hp ⊢
 rw [gPow] at hp ⊢
 simp only [Option.bind_some] at hp ⊢
 have hlt : 2 < w.heap.size := by
  rcases Nat.lt_or_ge 2 w.heap.size with h' | h'
  ·exact h'
  ·rw [Array.getElem?_eq_none h'] at hp; cases hp
 rw [hc.block _ hlt (fun e => by have := hS _ e; have := h.p; omega)]
 exact hp
theorem PTabs.bel {B : Nat} {w w' : World} (h : PTabs B w) (hb : Below w.heap.size w w') : PTabs B w' := h.chg (Chg.of_below hb (fun _ => False)) (fun _ e => e.elim)
theorem PTabs.to {B C : Nat} {w : World} (h : PTabs B w) (hC : B ≤ C) : PTabs C w := ⟨h.sha, h.pow, by have := h.k; omega, by have := h.b; omega, by have := h.p; omega⟩
theorem nilEqPk (w : World) (a : Addr) : (binOp .eql 50 (.pointer (some a)) (.pointer none)).run Tryz.prog w = .ok (.bool false) w := by kernel_rfl
theorem nilEqNk (w : World) : (binOp .eql 50 (.pointer none) (.pointer none)).run Tryz.prog w = .ok (.bool true) w := by kernel_rfl
theorem nilNePk (w : World) (a : Addr) : (binOp .neq 50 (.pointer (some a)) (.pointer none)).run Tryz.prog w = .ok (.bool true) w := by kernel_rfl
theorem nilNeNk (w : World) : (binOp .neq 50 (.pointer none) (.pointer none)).run Tryz.prog w = .ok (.bool false) w := by kernel_rfl
theorem nilEqPw (w : World) (a : Addr) : (binOp .eql 44 (.pointer (some a)) (.pointer none)).run Tryz.prog w = .ok (.bool false) w := by kernel_rfl
theorem nilEqNw (w : World) : (binOp .eql 44 (.pointer none) (.pointer none)).run Tryz.prog w = .ok (.bool true) w := by kernel_rfl
theorem X.kEq {l : Env} {x : Operand} {w : World} {t' ty : TypeId} {p : Option Addr} (hx : ev l x = some (.pointer p)) : X Tryz.prog l (.binOp .eql 50 x (.const (.pointer none)) t') ty w (.bool p.isNone) w :=
 X.bin hx rfl guard_ptr (by cases p with | none => exact nilEqNk w | some a => exact nilEqPk w a)
theorem X.kNe {l : Env} {x : Operand} {w : World} {t' ty : TypeId} {p : Option Addr} (hx : ev l x = some (.pointer p)) : X Tryz.prog l (.binOp .neq 50 x (.const (.pointer none)) t') ty w (.bool p.isSome) w :=
 X.bin hx rfl guard_ptr (by cases p with | none => exact nilNeNk w | some a => exact nilNePk w a)
theorem X.wEq {l : Env} {x : Operand} {w : World} {t' ty : TypeId} {p : Option Addr} (hx : ev l x = some (.pointer p)) : X Tryz.prog l (.binOp .eql 44 x (.const (.pointer none)) t') ty w (.bool p.isNone) w :=
 X.bin hx rfl guard_ptr (by cases p with | none => exact nilEqNw w | some a => exact nilEqPw w a)
end Go.Proofs.YtnlabkogebnioaaGreatDoor
namespace Go.Proofs.YtnlabkogebnioaaGreatDoor
open Go.RowKit Sha
def WrT (gw gx gm : Nat) (v : Value) (k : Nat) : Prop := k = gw ∨ k = gx ∨ k = gm ∨ v.ownBlock = some k
def wriCells (gd gx : Nat) (x : Wri) : Array Value := #[.pointer (some ⟨gd, 0, none⟩), .int .i64 x.n, .pointer (some ⟨gx, 0, none⟩), .bool x.closed]
structure WrF (B : Nat) (w : World) (gd gw gx gm : Nat) (D : DiskD) (v : Value) (S : Nat → Prop) : Prop where
  own : Own B w gd D S
  ap : ∀ k, WrT gw gx gm v k → ¬ S k ∧ B ≤ k
  gB : B ≤ w.heap.size
structure WrAll (B : Nat) (w : World) (gd gw gx gm : Nat) (D : DiskD) (x : Wri) (v : Value) (S : Nat → Prop) : Prop where
  blk : Blk w gw 112 (wriCells gd gx x)
  scn : ScnAt w gx gm v ⟨x.l, 0, false⟩
  wf : WrF B w gd gw gx gm D v S
section
variable {B gd gw gx gm : Nat} {w w' : World} {D : DiskD} {x : Wri} {v : Value} {S T : Nat → Prop}
theorem WrF.bel (h : WrF B w gd gw gx gm D v S) (hb : Below w.heap.size w w') : WrF B w' gd gw gx gm D v S := ⟨h.own.bel hb, h.ap, Nat.le_trans h.gB hb.size⟩
theorem WrF.chg (h : WrF B w gd gw gx gm D v S) (hC : Chg T w w') (hn : ∀ k, S k → ¬ T k) : WrF B w' gd gw gx gm D v S := ⟨h.own.other hC (fun k h1 h2 => hn k h2 h1), h.ap, Nat.le_trans h.gB hC.size⟩
theorem WrAll.bel (h : WrAll B w gd gw gx gm D x v S) (hb : Below w.heap.size w w') : WrAll B w' gd gw gx gm D x v S := ⟨h.blk.bel hb, h.scn.bel hb, h.wf.bel hb⟩
end
theorem pdisk {P : Program} {f : FuncId} {args : Array Value} {B gd : Nat} {w0 w : World} {D : DiskD} {S S1 X : Nat → Prop} {x : Int × DiskD}
  (hc : Calls P f args w (DPost gd S1 w x)) (hd : Own B w gd D S1) (hB : B ≤ w.heap.size) (hT : PTabs B w) (hcw : Chg X w0 w) (hSX : ∀ k, S k → X k) (hS1 : ∀ k, S1 k → S k ∨ w0.heap.size ≤ k) :
  Calls P f args w (fun e' w' => e' = .returned (.int .i64 x.1) ∧ ∃ S2, Own B w' gd x.2 S2 ∧ PTabs B w' ∧ (∀ k, S2 k → S k ∨ w0.heap.size ≤ k) ∧ ((∀ k, S2 k → S1 k ∨ w.heap.size ≤ k) ∧ Chg S1 w w') ∧ Chg X w0 w' ∧ w.heap.size ≤ w'.heap.size) := by
 refine hc.mono ?_
 rintro e' w' ⟨rfl, h1, hX⟩
 have hsz := hcw.size
 refine ⟨rfl, Ext S1 w w', hd.step h1 hX hB, hT.chg hX (fun k hk => (hd.lo k hk).1), ?_, ⟨?_, hX⟩, hcw.next hX (fun i hi => (hS1 i hi).imp (hSX i) id), hX.size⟩
 ·rintro k (h | ⟨h, _⟩)
  ·exact hS1 k h
  ·right; omega
 ·rintro k (h | ⟨h, _⟩)
  ·exact .inl h
  ·exact .inr h
theorem wdisk {P : Program} {f : FuncId} {args : Array Value} {B gd gw gx gm : Nat} {w0 w : World} {D : DiskD} {q : Scn} {cs : Array Value} {v : Value} {S S1 X : Nat → Prop} {x : Int × DiskD}
  (hc : Calls P f args w (DPost gd S1 w x)) (hB : Blk w gw 112 cs) (hS : ScnAt w gx gm v q) (hF : WrF B w gd gw gx gm D v S1) (hT : PTabs B w) (hcw : Chg X w0 w) (hSX : ∀ k, S k → X k) (hS1 : ∀ k, S1 k → S k ∨ w0.heap.size ≤ k) :
  Calls P f args w (fun e' w' => e' = .returned (.int .i64 x.1) ∧ ∃ S2, Blk w' gw 112 cs ∧ ScnAt w' gx gm v q ∧ WrF B w' gd gw gx gm x.2 v S2 ∧ PTabs B w' ∧ (∀ k, S2 k → S k ∨ w0.heap.size ≤ k) ∧ ((∀ k, S2 k → S1 k ∨ w.heap.size ≤ k) ∧ Chg S1 w w') ∧ Chg X w0 w' ∧ w.heap.size ≤ w'.heap.size) := by
 refine hc.mono ?_
 rintro e' w' ⟨rfl, h1, hX⟩
 have hsz := hcw.size
 have hlt := hB.lt
 have hlx := hS.blk.lt
 obtain ⟨m, hM, _⟩ := hS.map
 have hlm := hM.lt
 have hlv := rowLt hS.row
 have hap : ∀ k, WrT gw gx gm v k → k < w.heap.size := by
  rintro k (rfl | rfl | rfl | e)
  ·exact hlt
  ·exact hlx
  ·exact hlm
  ·exact hlv k e
 refine ⟨rfl, Ext S1 w w', hB.chg hX (hF.ap _ (.inl rfl)).1, hS.chg hX (hF.ap _ (.inr (.inl rfl))).1 (hF.ap _ (.inr (.inr (.inl rfl)))).1 (fun k hk => (hF.ap _ (.inr (.inr (.inr hk)))).1), ⟨hF.own.step h1 hX hF.gB, fun k hk => ⟨?_, (hF.ap k hk).2⟩, Nat.le_trans hF.gB hX.size⟩,
  hT.chg hX (fun k hk => (hF.own.lo k hk).1), ?_, ⟨?_, hX⟩, hcw.next hX (fun i hi => (hS1 i hi).imp (hSX i) id), hX.size⟩
 ·rintro (h | ⟨h, _⟩)
  ·exact (hF.ap k hk).1 h
  ·have := hap k hk
   omega
 ·rintro k (h | ⟨h, _⟩)
  ·exact hS1 k h
  ·right; omega
 ·rintro k (h | ⟨h, _⟩)
  ·exact .inl h
  ·exact .inr h
theorem bwri (gd gx : Nat) (n : Int) (w : World) : (Instr.build 112 #[(0, .pointer (some ⟨gd, 0, none⟩)), (1, .int .i64 n), (2, .pointer (some ⟨gx, 0, none⟩))]).run Tryz.prog w = .ok (.agg #[.pointer (some ⟨gd, 0, none⟩), .int .i64 n, .pointer (some ⟨gx, 0, none⟩), .bool false]) w := by kernel_rfl
def PBeginPost (B : Nat) (w : World) (gd : Nat) (S : Nat → Prop) (n : Int) (r : Int × DiskD) (e : Ending) (w' : World) : Prop :=
  ∃ (p : Option Addr) (S' : Nat → Prop), e = .returned (.tuple #[.pointer p, .int .i64 r.1]) ∧ Own B w' gd r.2 S' ∧ (∀ k, S' k → S k ∨ w.heap.size ≤ k) ∧ Chg S w w' ∧ (r.1 ≠ 0 → p = none) ∧
  (r.1 = 0 → ∃ gw gx gm v, p = some ⟨gw, 0, none⟩ ∧ WrAll B w' gd gw gx gm r.2 ⟨n, [], false⟩ v S' ∧ (∀ k, WrT gw gx gm v k → w.heap.size ≤ k))
set_option maxRecDepth 10000 in
theorem pbegin_any (B gd : Nat) (D : DiskD) (S : Nat → Prop) (n : Int) (N : Nat) (w : World) (hd : Own B w gd D S) (hg : Good N D) (hN : N ≤ 1000000000) (hBw : B ≤ w.heap.size) (hT : PTabs B w) :
  Calls Tryz.prog 25 #[.pointer (some ⟨gd, 0, none⟩), .int .i64 n] w (PBeginPost B w gd S n (pbeginM D n)) := by
 have hg1 := create_good hg (nameP n)
 have hg2 := append_good hg1 (nameP n) (headB n)
 have hl := headB_len n
 have hS1 : ∀ k, S k → S k ∨ w.heap.size ≤ k := fun k hk => .inl hk
 unfold pbeginM
 refine W_enter (args := [.pointer (some ⟨gd, 0, none⟩), .int .i64 n]) 43 Tryz.func25 rfl rfl rfl (W_sub [(0, .pointer (some ⟨gd, 0, none⟩)), (1, .int .i64 n)] ?_ ⟨rfl, rfl, trivial⟩)
 have hcw := Chg.refl (S) w
 refine W_rs (sa rfl rfl (sa rfl rfl (Wn (tN (W_seq (W_rs (sm rfl rfl (sm rfl rfl (sc _ Tryz.func55 rfl (by kernel_rfl) rfl rfl ((pmay_any (some ⟨gd, 0, none⟩) n _).mono ?_))))))))))
 rintro e_ w1 ⟨rfl, hb⟩
 refine cR ?_
 replace hcw := hcw.then_below hb
 replace hd := hd.bel hb
 replace hT := hT.bel hb
 have hz_w1 := hb.size
 clear hb
 refine sa rfl rfl (Wn (tN (W_rs (sm rfl rfl (st (X.neq rfl rfl) rfl (Wn (tN (W_if rfl (fun h13 => ?_) (fun h13 => ?_)))))))))
 ·first | replace h13 := of_decide_eq_true h13 | replace h13 := of_decide_eq_false (notT h13) | replace h13 := notT h13 | skip
  have hr : rightP n = false := by cases h : rightP n with | false => rfl | true => exact absurd (by simp [mayP, h]) h13
  refine W_rs (sm rfl rfl (sa rfl rfl (sa rfl rfl (Wn (tN (W_ret (tR ?_)))))))
  exact (rTT rfl rfl rfl ⟨none, S, by simp [mayP, hr], by rw [if_pos hr]; exact hd, hS1, hcw, fun _ => rfl, fun h => absurd h (by rw [if_pos hr]; show ¬ ((1 : Int) = 0); decide)⟩).1
 ·first | replace h13 := of_decide_eq_false h13 | replace h13 := of_decide_eq_true (notF h13) | replace h13 := notF h13 | skip
  have hr : ¬ rightP n = false := fun h => h13 (by simp [mayP, h])
  rw [if_neg hr]
  refine W_skip (tN (W_seq (W_rs (sm rfl rfl (sm rfl rfl (sc _ Tryz.func21 rfl (by kernel_rfl) rfl rfl ((Name_p n _ hT.pow).mono ?_)))))))
  rintro e_ w2 ⟨rfl, hb⟩
  refine cR ?_
  replace hcw := hcw.then_below hb
  replace hd := hd.bel hb
  replace hT := hT.bel hb
  have hz_w2 := hb.size
  clear hb
  refine sc _ Tryz.func66 rfl (by kernel_rfl) rfl rfl ((pdisk (Create_any gd D S (nameP n) _ hd.at_ hg.ok) hd (Nat.le_trans hBw hcw.size) hT hcw (fun k hk => hk) hS1).mono ?_)
  clear hd hT
  rintro e_ w3 ⟨rfl, S1, hd, hT, hS1, hS2, hcw, hz1_⟩
  refine cR ?_
  obtain ⟨e1, D1, hp1⟩ : ∃ e D', createM D (nameP n) = (e, D') := ⟨_, _, rfl⟩
  rw [hp1] at hd hg1 hg2 ⊢
  simp only at hd hg1 hg2 ⊢
  refine sa rfl rfl (Wn (tN (W_rs (sm rfl rfl (st (X.neq rfl rfl) rfl (Wn (tN (W_if rfl (fun h20 => ?_) (fun h20 => ?_)))))))))
  ·first | replace h20 := of_decide_eq_true h20 | replace h20 := of_decide_eq_false (notT h20) | replace h20 := notT h20 | skip
   rw [if_pos h20]
   refine W_rs (sm rfl rfl (sa rfl rfl (sa rfl rfl (Wn (tN (W_ret (tR ?_)))))))
   exact (rTT rfl rfl rfl ⟨none, S1, rfl, hd, hS1, hcw, fun _ => rfl, fun h => absurd h h20⟩).1
  ·first | replace h20 := of_decide_eq_false h20 | replace h20 := of_decide_eq_true (notF h20) | replace h20 := notF h20 | skip
   rw [if_neg h20]
   refine W_skip (tN (W_seq (W_rs (sm rfl rfl (sm rfl rfl (sc _ Tryz.func21 rfl (by kernel_rfl) rfl rfl ((Name_p n _ hT.pow).mono ?_)))))))
   rintro e_ w4 ⟨rfl, hb⟩
   refine cR ?_
   replace hcw := hcw.then_below hb
   replace hd := hd.bel hb
   replace hT := hT.bel hb
   have hz_w4 := hb.size
   clear hb
   refine sm rfl rfl (sc _ Tryz.func53 rfl (by kernel_rfl) rfl rfl ((pfour_any n _).mono ?_))
   rintro e_ w5 ⟨rfl, hb⟩
   refine cR ?_
   replace hcw := hcw.then_below hb
   replace hd := hd.bel hb
   replace hT := hT.bel hb
   have hz_w5 := hb.size
   clear hb
   refine sc _ Tryz.func52 rfl (by kernel_rfl) rfl rfl ((Seal_any 1 (four n) _ (by rw [four_length]; omega)).mono ?_)
   rintro e_ w6 ⟨rfl, hb⟩
   refine cR ?_
   replace hcw := hcw.then_below hb
   replace hd := hd.bel hb
   replace hT := hT.bel hb
   have hz_w6 := hb.size
   clear hb
   refine sc _ Tryz.func51 rfl (by kernel_rfl) rfl rfl ((pdisk (Append_any gd D1 _ (nameP n) (headB n) _ hd.at_ hg1.ok (hg1.bud (by omega)) (by omega)) hd (Nat.le_trans hBw hcw.size) hT hcw (fun k hk => hk) hS1).mono ?_)
   clear hd hT
   rintro e_ w7 ⟨rfl, S2, hd, hT, hS1, hS2, hcw, hz2_⟩
   refine cR ?_
   obtain ⟨e2, D2, hp2⟩ : ∃ e D', appendM D1 (nameP n) (headB n) = (e, D') := ⟨_, _, rfl⟩
   rw [hp2] at hd hg2 ⊢
   simp only at hd hg2 ⊢
   refine sa rfl rfl (Wn (tN (W_rs (sm rfl rfl (st (X.neq rfl rfl) rfl (Wn (tN (W_if rfl (fun h30 => ?_) (fun h30 => ?_)))))))))
   ·first | replace h30 := of_decide_eq_true h30 | replace h30 := of_decide_eq_false (notT h30) | replace h30 := notT h30 | skip
    rw [if_pos h30]
    refine W_rs (sm rfl rfl (sm rfl rfl (sc _ Tryz.func21 rfl (by kernel_rfl) rfl rfl ((Name_p n _ hT.pow).mono ?_))))
    rintro e_ w8 ⟨rfl, hb⟩
    refine cR ?_
    replace hcw := hcw.then_below hb
    replace hd := hd.bel hb
    replace hT := hT.bel hb
    have hz_w8 := hb.size
    clear hb
    refine sc _ Tryz.func67 rfl (by kernel_rfl) rfl rfl ((pdisk (Remove_any gd D2 _ (nameP n) _ hd.at_ hg2.ok) hd (Nat.le_trans hBw hcw.size) hT hcw (fun k hk => hk) hS1).mono ?_)
    clear hd hT
    rintro e_ w9 ⟨rfl, S3, hd, hT, hS1, hS2, hcw, hz3_⟩
    refine cR (Wn (tN (W_rs (sm rfl rfl (sa rfl rfl (sa rfl rfl (Wn (tN (W_ret (tR ?_))))))))))
    exact (rTT rfl rfl rfl ⟨none, S3, rfl, hd, hS1, hcw, fun _ => rfl, fun h => absurd h h30⟩).1
   ·first | replace h30 := of_decide_eq_false h30 | replace h30 := of_decide_eq_true (notF h30) | replace h30 := notF h30 | skip
    rw [if_neg h30]
    obtain rfl : e2 = 0 := Decidable.of_not_not h30
    refine W_skip (tN (W_rs (sm rfl rfl (sm rfl rfl ?_))))
    have hlo0 := hd.lo
    have hzc0 := hcw.size
    refine smm (enc := encSum) (encv := encInt) rfl (fun gm w10 hM hgm hb hlm => ?_)
    replace hcw := hcw.then_below hb
    replace hd := hd.bel hb
    replace hT := hT.bel hb
    have hz_w10 := hb.size
    clear hb
    refine st (X.bld rfl (bscn gm _)) rfl (sboxA rfl rfl (fun g40 w11 hB40 hg40 hb hl40 => ?_))
    replace hcw := hcw.then_below hb
    replace hd := hd.bel hb
    replace hT := hT.bel hb
    replace hM := hM.bel hb
    have hz_w11 := hb.size
    clear hb
    refine st (X.bld rfl (bwri gd _ n _)) rfl (sboxA rfl rfl (fun g42 w12 hB42 hg42 hb hl42 => ?_))
    replace hcw := hcw.then_below hb
    replace hd := hd.bel hb
    replace hT := hT.bel hb
    replace hM := hM.bel hb
    replace hB40 := hB40.bel hb
    have hz_w12 := hb.size
    clear hb
    refine sa rfl rfl (sa rfl rfl (Wn (tN (W_ret ((rTT rfl rfl rfl ⟨some ⟨g42, 0, none⟩, S2, rfl, hd, hS1, hcw, fun h => absurd rfl h, fun _ => ⟨g42, g40, gm, .slice none 0 0, rfl, ⟨hB42, ⟨hB40, Row.nil _ _ _, ⟨[], hM, rfl⟩, by simp [S32]⟩, ⟨hd, ?_, Nat.le_trans hBw hcw.size⟩⟩, ?_⟩⟩).1)))))
    ·rintro k (rfl | rfl | rfl | e)
     ·exact ⟨fun e => by have := (hlo0 _ e).2; omega, by omega⟩
     ·exact ⟨fun e => by have := (hlo0 _ e).2; omega, by omega⟩
     ·exact ⟨fun e => by have := (hlo0 _ e).2; omega, by omega⟩
     ·simp [Value.ownBlock] at e
    ·rintro k (rfl | rfl | rfl | e)
     ·omega
     ·omega
     ·omega
     ·simp [Value.ownBlock] at e
end Go.Proofs.YtnlabkogebnioaaGreatDoor
namespace Go.Proofs.YtnlabkogebnioaaGreatDoor
open Go.RowKit Sha
theorem hasOf_nodup {m : List (Sum32 × Int)} {l : List Ent} (h : m.map (fun p => (p.1.1, p.2)) = hasOf l) (hn : (m.map (·.1)).Nodup) : (l.map (·.sum)).Nodup := by
 have e1 : (m.map (·.1)).map (·.1) = l.map (·.sum) := by
  have e : (m.map (fun p => (p.1.1, p.2))).map (·.1) = (m.map (·.1)).map (·.1) := by simp [List.map_map, Function.comp_def]
  rw [← e, h]
  unfold hasOf
  rw [List.map_map]
  have : ((fun x => x.1) ∘ fun p : Ent × Nat => (p.1.sum, (p.2 : Int))) = (fun e : Ent => e.sum) ∘ Prod.fst := rfl
  rw [this, ← List.map_map, List.zipIdx_map_fst]
 rw [← e1]
 rw [List.nodup_iff_pairwise_ne, List.pairwise_map]
 exact (List.nodup_iff_pairwise_ne.1 hn).imp fun h e => h (Subtype.ext e)
theorem mget_memG {κ ν : Type} [DecidableEq κ] {m : List (κ × ν)} {k : κ} {v : ν} (h : mget m k = some v) : (k, v) ∈ m := by
 induction m with
 | nil => simp [mget] at h
 | cons p m ih =>
  obtain ⟨a, u⟩ := p
  unfold mget at h
  split at h
  ·rename_i hk
   injection h with h
   rw [hk, h]
   exact List.mem_cons_self ..
  ·exact List.mem_cons_of_mem _ (ih h)
theorem has_get {m : List (Sum32 × Int)} {l : List Ent} (h : m.map (fun p => (p.1.1, p.2)) = hasOf l) (hn : (m.map (·.1)).Nodup) {k : Sum32} {i : Int} (hg : mget m k = some i) : ∃ (j : Nat) (e : Ent), i = j ∧ l[j]? = some e ∧ e.sum = k.1 ∧ findM l k.1 = some e := by
 have hm := mget_memG hg
 have h1 : (k.1, i) ∈ hasOf l := by rw [← h]; exact List.mem_map.2 ⟨_, hm, rfl⟩
 obtain ⟨p, hp, he⟩ := List.mem_map.1 h1
 obtain ⟨e, j⟩ := p
 have hj := List.mem_zipIdx_iff_getElem?.1 hp
 injection he with h2 h3
 simp only at hj h2 h3
 refine ⟨j, e, h3.symm, hj, h2, ?_⟩
 have hnl := hasOf_nodup h hn
 obtain ⟨hjl, hje⟩ := List.getElem?_eq_some_iff.1 hj
 cases hf : findM l k.1 with
 | none =>
  have := List.find?_eq_none.1 hf e (List.mem_of_getElem? hj)
  simp [h2] at this
 | some e' =>
  have hm' := List.mem_of_find?_eq_some hf
  have hs' := List.find?_some hf
  simp only [decide_eq_true_eq] at hs'
  obtain ⟨j', hj', rfl⟩ := List.mem_iff_getElem.1 hm'
  have : j = j' := (List.getElem_inj (xs := l.map (·.sum)) (h₀ := by simpa using hjl) (h₁ := by simpa using hj') hnl).1 (by simp only [List.getElem_map]; rw [hje, h2, hs'])
  subst this
  rw [hje]
theorem has_none {m : List (Sum32 × Int)} {l : List Ent} (h : m.map (fun p => (p.1.1, p.2)) = hasOf l) {k : Sum32} (hg : mget m k = none) : findM l k.1 = none ∧ hadM l k.1 = false := by
 have hk := mget_none.1 hg
 have hh : hadM l k.1 = false := Bool.eq_false_iff.2 fun e => hk ((has_mem h k).2 e)
 refine ⟨List.find?_eq_none.2 fun e he => ?_, hh⟩
 have := hadM_false hh e he
 simpa using this
def WrPost (B : Nat) (w : World) (gd gw gx gm : Nat) (D : DiskD) (x : Wri) (v : Value) (S : Nat → Prop) (w' : World) : Prop :=
  ∃ v' S', WrAll B w' gd gw gx gm D x v' S' ∧ (∀ k, S' k → S k ∨ w.heap.size ≤ k) ∧ (∀ k, v'.ownBlock = some k → v.ownBlock = some k ∨ w.heap.size ≤ k) ∧ Chg (fun k => S k ∨ WrT gw gx gm v k) w w'
section
variable {B gd gw gx gm : Nat} {w : World} {D : DiskD} {x : Wri} {v : Value} {S : Nat → Prop}
theorem WrAll.lt (h : WrAll B w gd gw gx gm D x v S) : ∀ k, WrT gw gx gm v k → k < w.heap.size := by
 obtain ⟨m, hM, _⟩ := h.scn.map
 rintro k (rfl | rfl | rfl | e)
 ·exact h.blk.lt
 ·exact h.scn.blk.lt
 ·exact hM.lt
 ·exact rowLt h.scn.row k e
theorem wIndex_nil (w : World) : Calls Tryz.prog 31 #[.pointer none] w fun e w' => e = .returned (.agg #[.slice none 0 0]) ∧ Below w.heap.size w w' := by
 refine W_enter (args := [.pointer none]) 11 Tryz.func31 rfl rfl rfl (W_sub [(0, .pointer none)] ?_ ⟨rfl, trivial⟩)
 have hbw := Below.refl w.heap.size w
 refine W_rs (salA inf25 rfl (fun g2 w1 hB2 hg2 hb hl2 => ?_))
 replace hbw := bthen hbw hb
 have hz_w1 := hb.size
 clear hb
 refine Wn (tN (W_seq (W_rs (sm rfl rfl (st (X.wEq rfl) rfl (Wn (tN (W_yes rfl (rfl) (W_rs (st (X.bld rfl (bidx0 _)) rfl ?_))))))))))
 refine ssBN rfl rfl hB2 siz25 rfl rfl (fun w2 hB_ hc_ => ?_)
 replace hB2 := hB_
 clear hB_
 replace hbw := bset hbw hc_ (by omega)
 have hz_w2 := hc_.size
 clear hc_
 refine Wn (tN (W_ret (tR ?_)))
 exact (rC rfl rfl hB2 Tryz.underlying25 rfl siz25 ⟨rfl, hbw⟩).1
theorem wadd {w0 : World} {X S1 : Nat → Prop} {l : List Ent} {cs : Array Value} (n pos : Int) (a d : List UInt8) (hB : Blk w gw 112 cs) (hS : ScnAt w gx gm v ⟨l, 0, false⟩) (hF : WrF B w gd gw gx gm D v S1) (hcw : Chg X w0 w) (hTX : ∀ k, WrT gw gx gm v k → X k)
  (ha : a.length = 32) (hn : hadM l a = false) (hl : l.length ≤ 20000000) :
  Calls Tryz.prog 69 #[.pointer (some ⟨gx, 0, none⟩), .int .i64 n, .int .i64 pos, .agg (a.map bv).toArray, str d] w (fun e' w' => e' = .returned (.agg (Ent.mk a n pos d.length).cells.toArray) ∧
   ∃ v', Blk w' gw 112 cs ∧ ScnAt w' gx gm v' ⟨l ++ [⟨a, n, pos, d.length⟩], 0, false⟩ ∧ WrF B w' gd gw gx gm D v' S1 ∧ (∀ k, v'.ownBlock = some k → v.ownBlock = some k ∨ w.heap.size ≤ k) ∧ Chg (fun k => k = gx ∨ k = gm ∨ v.ownBlock = some k) w w' ∧ Chg X w0 w' ∧ w.heap.size ≤ w'.heap.size) := by
 refine (add_any gx gm v ⟨l, 0, false⟩ n pos a d w hS ha hn hl).mono ?_
 rintro e w' ⟨v', rfl, h1, h2, h3⟩
 have hlo := hF.own.lo
 obtain ⟨m, hM, _⟩ := hS.map
 have n1 : gw ≠ gx := by
  rintro rfl
  have e1 : w.heap[gw]? = _ := hB
  have e2 : w.heap[gw]? = _ := hS.blk
  rw [e1] at e2
  injection e2 with e2
  injection e2 with _ e2
  exact absurd e2 (by decide)
 have n2 : gw ≠ gm := hB.neM hM
 have n3 : ¬ v.ownBlock = some gw := fun e => hS.row.ne2 hB (by decide) _ e rfl
 have hgB := hF.gB
 refine ⟨rfl, v', hB.chg h3 (by rintro (e | e | e); exact n1 e; exact n2 e; exact n3 e), h1, ⟨hF.own.other h3 ?_, ?_, Nat.le_trans hgB h3.size⟩, h2, h3, hcw.next h3 (fun i hi => .inl (hTX i (.inr hi))), h3.size⟩
 ·rintro k (e | e | e) hs
  ·exact (hF.ap k (.inr (.inl e))).1 hs
  ·exact (hF.ap k (.inr (.inr (.inl e)))).1 hs
  ·exact (hF.ap k (.inr (.inr (.inr e)))).1 hs
 ·rintro k (e | e | e | e)
  ·exact hF.ap k (.inl e)
  ·exact hF.ap k (.inr (.inl e))
  ·exact hF.ap k (.inr (.inr (.inl e)))
  ·rcases h2 k e with e | e
   ·exact hF.ap k (.inr (.inr (.inr e)))
   ·exact ⟨fun hs => by have := (hlo k hs).2; omega, by omega⟩
set_option maxRecDepth 10000 in
theorem padd_any (d : List UInt8) (N : Nat) (h : WrAll B w gd gw gx gm D x v S) (hg : Good N D) (hN : N ≤ 1000000000) (hT : PTabs B w) (hd : d.length ≤ 1099511627776) (hl : x.l.length ≤ 1000000) :
  Calls Tryz.prog 26 #[.pointer (some ⟨gw, 0, none⟩), str d] w (fun e w' => e = .returned (.tuple #[.agg (paddM D x d).1.1.cells.toArray, .int .i64 (paddM D x d).1.2]) ∧ WrPost B w gd gw gx gm (paddM D x d).2.2 (paddM D x d).2.1 v S w') := by
 have hlt := h.lt
 have hB : Blk w gw 112 #[.pointer (some ⟨gd, 0, none⟩), .int .i64 x.n, .pointer (some ⟨gx, 0, none⟩), .bool x.closed] := h.blk
 have hSn := h.scn
 have hF := h.wf
 have h32 := hSn.s32
 have hz : eZ.cells.toArray.size = 35 := Ent.size (by simp [eZ])
 have hS1 : ∀ k, S k → S k ∨ w.heap.size ≤ k := fun k hk => .inl hk
 have hSlo := hF.own.lo
 have hsha : (sha d).length = 32 := sha_length d
 have hv1 : gw < w.heap.size := hlt _ (.inl rfl)
 have hv2 : gx < w.heap.size := hlt _ (.inr (.inl rfl))
 have hv3 : gm < w.heap.size := hlt _ (.inr (.inr (.inl rfl)))
 have hv4 : ∀ k, v.ownBlock = some k → k < w.heap.size := fun k hk => hlt _ (.inr (.inr (.inr hk)))
 have hB0 := hF.gB
 have hRow : Row w 66 35 v x.l.length (x.l.flatMap Ent.cells) := hSn.row
 obtain ⟨q, cq, rfl, hq1, hq2⟩ := hRow.shape
 clear hRow
 clear h
 unfold paddM
 refine W_enter (args := [.pointer (some ⟨gw, 0, none⟩), str d]) 98 Tryz.func26 rfl rfl rfl (W_sub [(0, .pointer (some ⟨gw, 0, none⟩)), (1, str d)] ?_ ⟨rfl, rfl, trivial⟩)
 have hcw := Chg.refl (fun k => S k ∨ WrT gw gx gm (Value.slice q x.l.length cq) k) w
 refine W_rs (salA inf66 rfl (fun g4 w1 hB4 hg4 hb hl4 => ?_))
 replace hcw := hcw.then_below hb
 replace hB := hB.bel hb
 replace hSn := hSn.bel hb
 replace hF := hF.bel hb
 replace hT := hT.bel hb
 have hz_w1 := hb.size
 clear hb
 refine sa rfl rfl (Wn (tN (W_seq (W_block (W_rs (sm rfl rfl (st (X.wEq rfl) rfl (sa rfl rfl (Wn (tN ?_))))))))))
 refine W_no rfl (rfl) (W_rs (sm rfl rfl (st (X.nilChk rfl) rfl (st (X.fa fa112_3 rfl) rfl (st (X.ldL rfl hB Tryz.underlying4 rfl rfl) rfl (sb rfl rfl (fun h20 => ?_) (fun h20 => ?_)))))))
 ·first | replace h20 := of_decide_eq_true h20 | replace h20 := of_decide_eq_false (notT h20) | replace h20 := notT h20 | skip
  refine gN (g := 20) rfl rfl rfl rfl (gN (g := 20) rfl rfl rfl rfl (st (X.pickT rfl rfl) rfl (sa rfl rfl (Wn (tN (W_yes rfl (rfl) (W_rs (st (X.bld rfl (benZ _)) rfl (ssBN rfl rfl hB4 (by rw [hz]; exact siz66) (by rw [hz]; rfl) (Ent.cells_one eZ) (fun w2 hB_ hc_ => ?_))))))))))
  replace hB4 := hB_
  replace hB := hB.chg hc_ (by show ¬ gw = g4; omega)
  replace hSn := hSn.chg hc_ (by show ¬ gx = g4; omega) (by show ¬ gm = g4; omega) (fun k hk => by show ¬ k = g4; have := hv4 k hk; omega)
  replace hF := hF.chg hc_ (fun k hk => by show ¬ k = g4; have := hSlo k hk; omega)
  replace hcw := hcw.next hc_ (fun i hi => .inr (by omega))
  clear hB_ hc_
  refine sa rfl rfl (Wn (tN (W_ret (bR (tR ?_)))))
  rw [if_pos (.inl h20)]
  exact (rCT rfl rfl hB4 Tryz.underlying66 rfl (by rw [hz]; exact siz66) rfl ⟨rfl, _, S, ⟨hB, hSn, hF⟩, hS1, fun k hk => .inl hk, hcw⟩).1
 ·first | replace h20 := of_decide_eq_false h20 | replace h20 := of_decide_eq_true (notF h20) | replace h20 := notF h20 | skip
  refine gY (g := 20) rfl rfl rfl (sm rfl rfl (gY (g := 20) rfl rfl rfl (st (X.eqS rfl rfl) rfl (st (X.pickF rfl rfl) rfl (sa rfl rfl (Wn (tN (W_if rfl (fun h15 => ?_) (fun h15 => ?_)))))))))
  ·first | replace h15 := of_decide_eq_true h15 | replace h15 := of_decide_eq_false (notT h15) | replace h15 := notT h15 | skip
   refine W_rs (st (X.bld rfl (benZ _)) rfl (ssBN rfl rfl hB4 (by rw [hz]; exact siz66) (by rw [hz]; rfl) (Ent.cells_one eZ) (fun w3 hB_ hc_ => ?_)))
   replace hB4 := hB_
   replace hB := hB.chg hc_ (by show ¬ gw = g4; omega)
   replace hSn := hSn.chg hc_ (by show ¬ gx = g4; omega) (by show ¬ gm = g4; omega) (fun k hk => by show ¬ k = g4; have := hv4 k hk; omega)
   replace hF := hF.chg hc_ (fun k hk => by show ¬ k = g4; have := hSlo k hk; omega)
   replace hcw := hcw.next hc_ (fun i hi => .inr (by omega))
   clear hB_ hc_
   refine sa rfl rfl (Wn (tN (W_ret (bR (tR ?_)))))
   rw [if_pos (.inr h15)]
   exact (rCT rfl rfl hB4 Tryz.underlying66 rfl (by rw [hz]; exact siz66) rfl ⟨rfl, _, S, ⟨hB, hSn, hF⟩, hS1, fun k hk => .inl hk, hcw⟩).1
  ·first | replace h15 := of_decide_eq_false h15 | replace h15 := of_decide_eq_true (notF h15) | replace h15 := notF h15 | skip
   rw [if_neg (by rintro (e | e); rw [h20] at e; cases e; exact h15 e)]
   refine W_rs (sm rfl rfl (st (X.lenS rfl rfl Tryz.underlying9) rfl (st (X.gtr rfl rfl) rfl (sa rfl rfl (Wn (tN (W_if rfl (fun h25 => ?_) (fun h25 => ?_))))))))
   ·first | replace h25 := of_decide_eq_true h25 | replace h25 := of_decide_eq_false (notT h25) | replace h25 := notT h25 | skip
    rw [if_pos (by omega)]
    refine W_rs (st (X.bld rfl (benZ _)) rfl (ssBN rfl rfl hB4 (by rw [hz]; exact siz66) (by rw [hz]; rfl) (Ent.cells_one eZ) (fun w4 hB_ hc_ => ?_)))
    replace hB4 := hB_
    replace hB := hB.chg hc_ (by show ¬ gw = g4; omega)
    replace hSn := hSn.chg hc_ (by show ¬ gx = g4; omega) (by show ¬ gm = g4; omega) (fun k hk => by show ¬ k = g4; have := hv4 k hk; omega)
    replace hF := hF.chg hc_ (fun k hk => by show ¬ k = g4; have := hSlo k hk; omega)
    replace hcw := hcw.next hc_ (fun i hi => .inr (by omega))
    clear hB_ hc_
    refine sa rfl rfl (Wn (tN (W_ret (bR (tR ?_)))))
    exact (rCT rfl rfl hB4 Tryz.underlying66 rfl (by rw [hz]; exact siz66) rfl ⟨rfl, _, S, ⟨hB, hSn, hF⟩, hS1, fun k hk => .inl hk, hcw⟩).1
   ·first | replace h25 := of_decide_eq_false h25 | replace h25 := of_decide_eq_true (notF h25) | replace h25 := notF h25 | skip
    rw [if_neg (by omega)]
    refine W_skip (bN (tN (W_rs (sm rfl rfl (sc _ Tryz.func24 rfl (by kernel_rfl) rfl rfl ((Of_list d _ hT.sha (by omega)).mono ?_))))))
    rintro e_ w5 ⟨rfl, hb⟩
    refine cR ?_
    replace hcw := hcw.then_below hb
    replace hB := hB.bel hb
    replace hSn := hSn.bel hb
    replace hF := hF.bel hb
    replace hT := hT.bel hb
    replace hB4 := hB4.bel hb
    have hz_w5 := hb.size
    clear hb
    refine salA inf60 rfl (fun g6 w6 hB6 hg6 hb hl6 => ?_)
    replace hcw := hcw.then_below hb
    replace hB := hB.bel hb
    replace hSn := hSn.bel hb
    replace hF := hF.bel hb
    replace hT := hT.bel hb
    replace hB4 := hB4.bel hb
    have hz_w6 := hb.size
    clear hb
    refine ssBN rfl rfl hB6 (by rw [sumSize hsha]; exact siz60) (by rw [sumSize hsha]; rfl) (sumOne _) (fun w7 hB_ hc_ => ?_)
    replace hB6 := hB_
    replace hB4 := hB4.chg hc_ (by show ¬ g4 = g6; omega)
    replace hB := hB.chg hc_ (by show ¬ gw = g6; omega)
    replace hSn := hSn.chg hc_ (by show ¬ gx = g6; omega) (by show ¬ gm = g6; omega) (fun k hk => by show ¬ k = g6; have := hv4 k hk; omega)
    replace hF := hF.chg hc_ (fun k hk => by show ¬ k = g6; have := hSlo k hk; omega)
    replace hT := hT.chg hc_ (fun k hk => by have h1 : k = g6 := hk; omega)
    replace hcw := hcw.next hc_ (fun i hi => .inr (by omega))
    have hz_w7 := hc_.size
    clear hB_ hc_
    obtain ⟨m, hM, hm⟩ := hSn.map
    refine Wn (tN (W_seq (W_drsN (fun W_ => Blk W_ gw 112 #[.pointer (some ⟨gd, 0, none⟩), .int .i64 x.n, .pointer (some ⟨gx, 0, none⟩), .bool x.closed] ∧ Blk W_ gx 97 #[.slice q x.l.length cq, .map (some gm), .int .i64 (0 : Nat), .bool false] ∧ Blk W_ g6 60 ((sha d).map bv).toArray) [0, 1, 2, 3, 4, 5, 6, 7, 8, 9, 10, 11, 12, 13] [true, true, true, true, true, true, true, true, false, true, true, true, true, true] (by kernel_rfl) (by kernel_rfl) (⟨hB.drew, hSn.blk.drew, hB6.drew⟩) ?_)))
    obtain ⟨w8, hw_⟩ : ∃ w8 : World, w8 = World.drew w7 := ⟨_, rfl⟩
    rw [← hw_]
    have hb : Below w7.heap.size w7 w8 := by rw [hw_]; exact bdrew (Below.refl _ _)
    clear hw_
    have hS := hb
    replace hcw := hcw.then_below hb
    replace hB := hB.bel hb
    replace hSn := hSn.bel hb
    replace hF := hF.bel hb
    replace hT := hT.bel hb
    replace hB4 := hB4.bel hb
    replace hB6 := hB6.bel hb
    replace hM := hM.bel hb
    have hz_w8 := hb.size
    clear hb
    refine oY rfl (fun W_ hW_ => (X.move rfl)) rfl (oY rfl (fun W_ hW_ => (X.nilChk rfl)) rfl (oY rfl (fun W_ hW_ => (X.fa fa112_2 rfl)) rfl (oY rfl (fun W_ hW_ => (X.ldL rfl hW_.1 Tryz.underlying92 rfl rfl)) rfl (oY rfl (fun W_ hW_ => (X.nilChk rfl)) rfl (oY rfl (fun W_ hW_ => (X.fa fa97_1 rfl)) rfl (oY rfl (fun W_ hW_ => (X.ldL rfl hW_.2.1 Tryz.underlying95 rfl rfl)) rfl (oY rfl (fun W_ hW_ => (X.ldBN rfl hW_.2.2 Tryz.underlying60 rfl (by rw [sumSize hsha]; exact siz60))) rfl ?_)))))))
    refine oL rfl (fun Q_ hQ_ hP_ => (st (X.lookOk (z := .int .i64 0) keySum rfl ⟨sha d, hsha⟩ rfl Tryz.underlying95 (by kernel_rfl) hM) rfl (Wn (hQ_ _ _ (⟨hB, hSn.blk, hB6⟩) ?_))))
    clear hQ_ hP_ Q_
    refine oY rfl (fun W_ hW_ => (X.move rfl)) rfl (oY rfl (fun W_ hW_ => (X.ext rfl rfl)) rfl (oY rfl (fun W_ hW_ => (X.ext rfl rfl)) rfl (oY rfl (fun W_ hW_ => (X.assign rfl)) rfl (oY rfl (fun W_ hW_ => (X.assign rfl)) rfl (oN (nN (W_rs (sm rfl rfl (Wn (tN ?_))))))))))
    refine W_if rfl (fun h44 => ?_) (fun h44 => ?_)
    ·first | replace h44 := of_decide_eq_true h44 | replace h44 := of_decide_eq_false (notT h44) | replace h44 := notT h44 | skip
     obtain ⟨i, hgi⟩ : ∃ i, mget m (⟨sha d, hsha⟩ : Sum32) = some i := Option.isSome_iff_exists.1 h44
     obtain ⟨j, en, rfl, hj, hes, hfi⟩ := has_get hm hM.nodup hgi
     have hfi : findM x.l (sha d) = some en := hfi
     have hen : en.sum.length = 32 := h32 en (List.mem_of_getElem? hj)
     have hjl : j < x.l.length := (List.getElem?_eq_some_iff.1 hj).1
     rw [hfi, hgi]
     have hRr := hSn.row.reads
     obtain ⟨g1, o1, c', hvv, hg1⟩ := hRr.some_ (by show 0 < x.l.length; omega)
     injection hvv with e1 _ e3
     subst e1 e3
     have hRg := EntsAt.range (l := x.l) hRr h32 hj
     clear hRr
     refine W_rs (sm rfl rfl (st (X.nilChk rfl) rfl (st (X.fa fa112_2 rfl) rfl (st (X.ldL rfl hB Tryz.underlying92 rfl rfl) rfl (st (X.nilChk rfl) rfl (st (X.fa fa97_0 rfl) rfl (st (X.ldL rfl hSn.blk Tryz.underlying23 rfl rfl) rfl (sm rfl rfl (st (X.idxA rfl rfl Tryz.underlying23 siz66 rfl hjl) rfl (st (X.ldN (cs := en.cells) rfl Tryz.underlying66 rfl (by rw [Ent.cells_length hen]; exact siz66) hRg) rfl ?_))))))))))
     refine ssBN rfl rfl hB4 (by rw [Ent.size hen]; exact siz66) (by rw [Ent.size hen]; rfl) (Ent.cells_one en) (fun w9 hB_ hc_ => ?_)
     replace hB4 := hB_
     replace hB := hB.chg hc_ (by show ¬ gw = g4; omega)
     replace hSn := hSn.chg hc_ (by show ¬ gx = g4; omega) (by show ¬ gm = g4; omega) (fun k hk => by show ¬ k = g4; have := hv4 k hk; omega)
     replace hF := hF.chg hc_ (fun k hk => by show ¬ k = g4; have := hSlo k hk; omega)
     replace hcw := hcw.next hc_ (fun i hi => .inr (by omega))
     clear hB_ hc_
     refine sa rfl rfl (Wn (tN (W_ret (tR ?_))))
     exact (rCT rfl rfl hB4 Tryz.underlying66 rfl (by rw [Ent.size hen]; exact siz66) rfl ⟨rfl, _, S, ⟨hB, hSn, hF⟩, hS1, fun k hk => .inl hk, hcw⟩).1
    ·first | replace h44 := of_decide_eq_false h44 | replace h44 := of_decide_eq_true (notF h44) | replace h44 := notF h44 | skip
     obtain ⟨hfn, hhn⟩ := has_none hm (k := ⟨sha d, hsha⟩) (by cases hg : mget m (⟨sha d, hsha⟩ : Sum32) with | none => rfl | some z => rw [hg] at h44; simp at h44)
     have hfn : findM x.l (sha d) = none := hfn
     have hhn : hadM x.l (sha d) = false := hhn
     rw [hfn]
     refine W_skip (tN (W_drsN (fun W_ => Blk W_ gw 112 #[.pointer (some ⟨gd, 0, none⟩), .int .i64 x.n, .pointer (some ⟨gx, 0, none⟩), .bool x.closed]) [0, 1, 2, 3, 4, 5, 6, 7, 8, 9, 10, 11, 12, 13, 14] [true, true, true, true, true, true, true, true, false, false, true, true, true, true, true] (by kernel_rfl) (by kernel_rfl) (hB.drew) ?_))
     obtain ⟨w10, hw_⟩ : ∃ w10 : World, w10 = World.drew w8 := ⟨_, rfl⟩
     rw [← hw_]
     have hb : Below w8.heap.size w8 w10 := by rw [hw_]; exact bdrew (Below.refl _ _)
     clear hw_
     have hS := hb
     replace hcw := hcw.then_below hb
     replace hB := hB.bel hb
     replace hSn := hSn.bel hb
     replace hF := hF.bel hb
     replace hT := hT.bel hb
     replace hB4 := hB4.bel hb
     replace hB6 := hB6.bel hb
     replace hM := hM.bel hb
     have hz_w10 := hb.size
     clear hb
     refine oY rfl (fun W_ hW_ => (X.move rfl)) rfl (oY rfl (fun W_ hW_ => (X.nilChk rfl)) rfl (oY rfl (fun W_ hW_ => (X.fa fa112_0 rfl)) rfl (oY rfl (fun W_ hW_ => (X.ldL rfl hW_ Tryz.underlying41 rfl rfl)) rfl (oY rfl (fun W_ hW_ => (X.move rfl)) rfl (oY rfl (fun W_ hW_ => (X.nilChk rfl)) rfl (oY rfl (fun W_ hW_ => (X.fa fa112_1 rfl)) rfl (oY rfl (fun W_ hW_ => (X.ldL rfl hW_ Tryz.underlying3 rfl rfl)) rfl (oL rfl (fun Q_ hQ_ hP_ => (sc _ Tryz.func21 rfl (by kernel_rfl) rfl rfl ((Name_p x.n _ hT.pow).mono ?_)))))))))))
     rintro e_ w11 ⟨rfl, hb⟩
     refine cR ?_
     replace hcw := hcw.then_below hb
     replace hB := hB.bel hb
     replace hSn := hSn.bel hb
     replace hF := hF.bel hb
     replace hT := hT.bel hb
     replace hB4 := hB4.bel hb
     replace hB6 := hB6.bel hb
     replace hM := hM.bel hb
     have hz_w11 := hb.size
     clear hb
     refine Wn (hQ_ _ _ (hB) ?_)
     clear hQ_ hP_ Q_
     refine oL rfl (fun Q_ hQ_ hP_ => (sc _ Tryz.func20 rfl (by kernel_rfl) rfl rfl ((Size_any gd D S (nameP x.n) _ hF.own.at_).mono ?_)))
     rintro e_ w12 ⟨rfl, hb⟩
     refine cR ?_
     replace hcw := hcw.then_below hb
     replace hB := hB.bel hb
     replace hSn := hSn.bel hb
     replace hF := hF.bel hb
     replace hT := hT.bel hb
     replace hB4 := hB4.bel hb
     replace hB6 := hB6.bel hb
     replace hM := hM.bel hb
     have hz_w12 := hb.size
     clear hb
     refine Wn (hQ_ _ _ (hB) ?_)
     clear hQ_ hP_ Q_
     refine oY rfl (fun W_ hW_ => (X.move rfl)) rfl (oY rfl (fun W_ hW_ => (X.ext rfl rfl)) rfl (oY rfl (fun W_ hW_ => (X.ext rfl rfl)) rfl (oY rfl (fun W_ hW_ => (X.assign rfl)) rfl (oY rfl (fun W_ hW_ => (X.assign rfl)) rfl (oN (nN (W_seq (W_rs (sm rfl rfl (st (X.eql rfl rfl) rfl ?_))))))))))
     refine Wn (tN (W_if rfl (fun h69 => ?_) (fun h69 => ?_)))
     ·first | replace h69 := of_decide_eq_true h69 | replace h69 := of_decide_eq_false (notT h69) | replace h69 := notT h69 | skip
      rw [if_neg (by omega)]
      refine W_drN (fun W_ => Blk W_ gw 112 #[.pointer (some ⟨gd, 0, none⟩), .int .i64 x.n, .pointer (some ⟨gx, 0, none⟩), .bool x.closed]) [0, 1, 2, 3, 4, 5, 6, 7, 9, 8, 10, 11, 12] [true, true, true, true, true, true, true, true, true, false, false, false, true] (by kernel_rfl) (by kernel_rfl) (hB.drew) ?_
      obtain ⟨w13, hw_⟩ : ∃ w13 : World, w13 = World.drew w12 := ⟨_, rfl⟩
      rw [← hw_]
      have hb : Below w12.heap.size w12 w13 := by rw [hw_]; exact bdrew (Below.refl _ _)
      clear hw_
      have hS := hb
      replace hcw := hcw.then_below hb
      replace hB := hB.bel hb
      replace hSn := hSn.bel hb
      replace hF := hF.bel hb
      replace hT := hT.bel hb
      replace hB4 := hB4.bel hb
      replace hB6 := hB6.bel hb
      replace hM := hM.bel hb
      have hz_w13 := hb.size
      clear hb
      refine oY rfl (fun W_ hW_ => (X.move rfl)) rfl (oY rfl (fun W_ hW_ => (X.nilChk rfl)) rfl (oY rfl (fun W_ hW_ => (X.fa fa112_0 rfl)) rfl (oY rfl (fun W_ hW_ => (X.ldL rfl hW_ Tryz.underlying41 rfl rfl)) rfl (oY rfl (fun W_ hW_ => (X.move rfl)) rfl (oY rfl (fun W_ hW_ => (X.nilChk rfl)) rfl (oY rfl (fun W_ hW_ => (X.fa fa112_1 rfl)) rfl (oY rfl (fun W_ hW_ => (X.ldL rfl hW_ Tryz.underlying3 rfl rfl)) rfl (oY rfl (fun W_ hW_ => (X.move rfl)) rfl (oL rfl (fun Q_ hQ_ hP_ => (sc _ Tryz.func21 rfl (by kernel_rfl) rfl rfl ((Name_p x.n _ hT.pow).mono ?_))))))))))))
      rintro e_ w14 ⟨rfl, hb⟩
      refine cR ?_
      replace hcw := hcw.then_below hb
      replace hB := hB.bel hb
      replace hSn := hSn.bel hb
      replace hF := hF.bel hb
      replace hT := hT.bel hb
      replace hB4 := hB4.bel hb
      replace hB6 := hB6.bel hb
      replace hM := hM.bel hb
      have hz_w14 := hb.size
      clear hb
      refine Wn (hQ_ _ _ (hB) ?_)
      clear hQ_ hP_ Q_
      refine oL rfl (fun Q_ hQ_ hP_ => (sc _ Tryz.func68 rfl (by kernel_rfl) rfl rfl ((sealed_any d _ hT.sha (by omega)).mono ?_)))
      rintro e_ w15 ⟨rfl, hb⟩
      refine cR ?_
      replace hcw := hcw.then_below hb
      replace hB := hB.bel hb
      replace hSn := hSn.bel hb
      replace hF := hF.bel hb
      replace hT := hT.bel hb
      replace hB4 := hB4.bel hb
      replace hB6 := hB6.bel hb
      replace hM := hM.bel hb
      have hz_w15 := hb.size
      clear hb
      refine Wn (hQ_ _ _ (hB) ?_)
      clear hQ_ hP_ Q_
      refine oL rfl (fun Q_ hQ_ hP_ => (sc _ Tryz.func51 rfl (by kernel_rfl) rfl rfl ((wdisk (Append_any gd D _ (nameP x.n) (chunkB d) _ hF.own.at_ hg.ok (hg.bud (by omega)) (by have := chunkB_len d (by omega); omega)) hB hSn hF hT hcw (fun k hk => .inl hk) hS1).mono ?_)))
      clear hB hSn hF hT
      rintro e_ w16 ⟨rfl, S1, hB, hSn, hF, hT, hS1, hX2, hcw, hz1_⟩
      refine cR (Wn (hQ_ _ _ (hB) ?_))
      clear hQ_ hP_ Q_
      replace hB4 := hB4.chg hX2.2 (fun e => by have := hSlo g4 e; omega)
      replace hB6 := hB6.chg hX2.2 (fun e => by have := hSlo g6 e; omega)
      have hS1x : ∀ k, S1 k → k ≠ g4 := fun k hk e => by rcases hX2.1 k hk with h | h; have := hSlo k h; omega; omega
      obtain ⟨e1, D1, hap⟩ : ∃ e1 D1, appendM D (nameP x.n) (chunkB d) = (e1, D1) := ⟨_, _, rfl⟩
      rw [hap] at hF ⊢
      simp only at hF ⊢
      refine oY rfl (fun W_ hW_ => (X.assign rfl)) rfl (oN (nN (tN (W_seq (W_rs (sm rfl rfl (st (X.neq rfl rfl) rfl (Wn (tN (W_if rfl (fun h83 => ?_) (fun h83 => ?_)))))))))))
      ·first | replace h83 := of_decide_eq_true h83 | replace h83 := of_decide_eq_false (notT h83) | replace h83 := notT h83 | skip
       rw [if_pos h83]
       refine W_rs (st (X.bld rfl (benZ _)) rfl (sm rfl rfl (ssBN rfl rfl hB4 (by rw [hz]; exact siz66) (by rw [hz]; rfl) (Ent.cells_one eZ) (fun w17 hB_ hc_ => ?_))))
       replace hB4 := hB_
       replace hB := hB.chg hc_ (by show ¬ gw = g4; omega)
       replace hSn := hSn.chg hc_ (by show ¬ gx = g4; omega) (by show ¬ gm = g4; omega) (fun k hk => by show ¬ k = g4; have := hv4 k hk; omega)
       replace hF := hF.chg hc_ (fun k hk => by show ¬ k = g4; have := hS1x k hk; omega)
       replace hcw := hcw.next hc_ (fun i hi => .inr (by omega))
       clear hB_ hc_
       refine sa rfl rfl (Wn (tN (W_ret (tR ?_))))
       exact (rCT rfl rfl hB4 Tryz.underlying66 rfl (by rw [hz]; exact siz66) rfl ⟨rfl, _, S1, ⟨hB, hSn, hF⟩, hS1, fun k hk => .inl hk, hcw⟩).1
      ·first | replace h83 := of_decide_eq_false h83 | replace h83 := of_decide_eq_true (notF h83) | replace h83 := notF h83 | skip
       rw [if_neg h83]
       refine W_skip (tN (W_drsN (fun W_ => Blk W_ gw 112 #[.pointer (some ⟨gd, 0, none⟩), .int .i64 x.n, .pointer (some ⟨gx, 0, none⟩), .bool x.closed] ∧ Blk W_ g6 60 ((sha d).map bv).toArray) [0, 1, 2, 3, 4, 5, 6, 7, 8, 9, 10, 11, 12, 13] [true, true, true, true, true, true, true, true, true, true, true, false, false, true] (by kernel_rfl) (by kernel_rfl) (⟨hB.drew, hB6.drew⟩) ?_))
       obtain ⟨w18, hw_⟩ : ∃ w18 : World, w18 = World.drew w16 := ⟨_, rfl⟩
       rw [← hw_]
       have hb : Below w16.heap.size w16 w18 := by rw [hw_]; exact bdrew (Below.refl _ _)
       clear hw_
       have hS := hb
       replace hcw := hcw.then_below hb
       replace hB := hB.bel hb
       replace hSn := hSn.bel hb
       replace hF := hF.bel hb
       replace hT := hT.bel hb
       replace hB4 := hB4.bel hb
       replace hB6 := hB6.bel hb
       have hz_w18 := hb.size
       clear hb
       refine oY rfl (fun W_ hW_ => (X.move rfl)) rfl (oY rfl (fun W_ hW_ => (X.nilChk rfl)) rfl (oY rfl (fun W_ hW_ => (X.fa fa112_2 rfl)) rfl (oY rfl (fun W_ hW_ => (X.ldL rfl hW_.1 Tryz.underlying92 rfl rfl)) rfl (oY rfl (fun W_ hW_ => (X.move rfl)) rfl (oY rfl (fun W_ hW_ => (X.nilChk rfl)) rfl (oY rfl (fun W_ hW_ => (X.fa fa112_1 rfl)) rfl (oY rfl (fun W_ hW_ => (X.ldL rfl hW_.1 Tryz.underlying3 rfl rfl)) rfl (oY rfl (fun W_ hW_ => (X.move rfl)) rfl (oY rfl (fun W_ hW_ => (X.ldBN rfl hW_.2 Tryz.underlying60 rfl (by rw [sumSize hsha]; exact siz60))) rfl ?_)))))))))
       refine oY rfl (fun W_ hW_ => (X.move rfl)) rfl (oL rfl (fun Q_ hQ_ hP_ => (sc _ Tryz.func69 rfl (by kernel_rfl) rfl rfl ((wadd x.n (sizeM D (nameP x.n)).1 (sha d) d hB hSn hF hcw (fun k hk => .inr hk) hsha hhn (by omega)).mono ?_))))
       clear hB hSn hF
       rintro e_ w19 ⟨rfl, v', hB, hSn, hF, hv', hC2, hcw, hz2_⟩
       refine cR (Wn (hQ_ _ _ (by first | exact ⟨hB, hB6⟩ | exact ⟨hB, hB6.chg hC2 (by rintro (e | e | e); omega; omega; have := hv4 _ e; omega)⟩) ?_))
       clear hQ_ hP_ Q_
       replace hB4 := hB4.chg hC2 (by rintro (e | e | e); omega; omega; have := hv4 _ e; omega)
       replace hB6 := hB6.chg hC2 (by rintro (e | e | e); omega; omega; have := hv4 _ e; omega)
       have hv5 : ∀ k, v'.ownBlock = some k → ¬ k = g4 := fun k hk e => by rcases hv' k hk with h | h; have := hv4 k h; omega; omega
       refine oL rfl (fun Q_ hQ_ hP_ => (ssBN rfl rfl hB4 (by rw [Ent.size (e := ⟨sha d, x.n, (sizeM D (nameP x.n)).1, d.length⟩) hsha]; exact siz66) (by rw [Ent.size (e := ⟨sha d, x.n, (sizeM D (nameP x.n)).1, d.length⟩) hsha]; rfl) (entOne _) (fun w20 hB_ hc_ => ?_)))
       replace hB4 := hB_
       replace hB := hB.chg hc_ (by show ¬ gw = g4; omega)
       replace hSn := hSn.chg hc_ (by show ¬ gx = g4; omega) (by show ¬ gm = g4; omega) (fun k hk => hv5 k hk)
       replace hB6 := hB6.chg hc_ (by show ¬ g6 = g4; omega)
       replace hF := hF.chg hc_ (fun k hk => hS1x k hk)
       replace hcw := hcw.next hc_ (fun i hi => .inr (by omega))
       clear hB_ hc_
       refine Wn (hQ_ _ _ (by first | exact ⟨hB, hB6⟩ | exact ⟨hB, hB6.chg hC2 (by rintro (e | e | e); omega; omega; have := hv4 _ e; omega)⟩) ?_)
       clear hQ_ hP_ Q_
       refine oY rfl (fun W_ hW_ => (X.assign rfl)) rfl (oN (nN (W_ret ((rCT rfl rfl hB4 Tryz.underlying66 rfl (by rw [Ent.size (e := ⟨sha d, x.n, (sizeM D (nameP x.n)).1, d.length⟩) hsha]; exact siz66) rfl ⟨rfl, v', S1, ⟨hB, hSn, hF⟩, hS1, fun k hk => (hv' k hk).imp id (fun h => by omega), hcw⟩).1))))
     ·first | replace h69 := of_decide_eq_false h69 | replace h69 := of_decide_eq_true (notF h69) | replace h69 := notF h69 | skip
      rw [if_pos h69]
      refine W_skip (tN (W_seq (W_rs (sm rfl rfl (st (X.neq rfl rfl) rfl (Wn (tN (W_yes rfl (decide_eq_true h69) (W_rs (st (X.bld rfl (benZ _)) rfl ?_))))))))))
      refine sm rfl rfl (ssBN rfl rfl hB4 (by rw [hz]; exact siz66) (by rw [hz]; rfl) (Ent.cells_one eZ) (fun w21 hB_ hc_ => ?_))
      replace hB4 := hB_
      replace hB := hB.chg hc_ (by show ¬ gw = g4; omega)
      replace hSn := hSn.chg hc_ (by show ¬ gx = g4; omega) (by show ¬ gm = g4; omega) (fun k hk => by show ¬ k = g4; have := hv4 k hk; omega)
      replace hF := hF.chg hc_ (fun k hk => by show ¬ k = g4; have := hSlo k hk; omega)
      replace hcw := hcw.next hc_ (fun i hi => .inr (by omega))
      clear hB_ hc_
      refine sa rfl rfl (Wn (tN (W_ret (tR ?_))))
      exact (rCT rfl rfl hB4 Tryz.underlying66 rfl (by rw [hz]; exact siz66) rfl ⟨rfl, _, S, ⟨hB, hSn, hF⟩, hS1, fun k hk => .inl hk, hcw⟩).1
end
end Go.Proofs.YtnlabkogebnioaaGreatDoor
namespace Go.Proofs.YtnlabkogebnioaaGreatDoor
open Go.RowKit Sha
section
variable {B gd gp gx gm : Nat} {w : World} {D : DiskD} {n : Int} {x : Scn} {v : Value} {S : Nat → Prop}
theorem kIndex_nil (w : World) : Calls Tryz.prog 32 #[.pointer none] w fun e w' => e = .returned (.agg #[.slice none 0 0]) ∧ Below w.heap.size w w' := by
 refine W_enter (args := [.pointer none]) 11 Tryz.func32 rfl rfl rfl (W_sub [(0, .pointer none)] ?_ ⟨rfl, trivial⟩)
 have hbw := Below.refl w.heap.size w
 refine W_rs (salA inf25 rfl (fun g2 w1 hB2 hg2 hb hl2 => ?_))
 replace hbw := bthen hbw hb
 have hz_w1 := hb.size
 clear hb
 refine Wn (tN (W_seq (W_rs (sm rfl rfl (st (X.kEq rfl) rfl (Wn (tN (W_yes rfl (rfl) (W_rs (st (X.bld rfl (bidx0 _)) rfl ?_))))))))))
 refine ssBN rfl rfl hB2 siz25 rfl rfl (fun w2 hB_ hc_ => ?_)
 replace hB2 := hB_
 clear hB_
 replace hbw := bset hbw hc_ (by omega)
 have hz_w2 := hc_.size
 clear hc_
 refine Wn (tN (W_ret (tR ?_)))
 exact (rC rfl rfl hB2 Tryz.underlying25 rfl siz25 ⟨rfl, hbw⟩).1
theorem kWhole_nil (w : World) : Calls Tryz.prog 33 #[.pointer none] w fun e w' => e = .returned (.bool false) ∧ Below w.heap.size w w' := by
 refine W_enter (args := [.pointer none]) 14 Tryz.func33 rfl rfl rfl (W_sub [(0, .pointer none)] ?_ ⟨rfl, trivial⟩)
 have hbw := Below.refl w.heap.size w
 refine W_rs (sa rfl rfl (Wn (tN (W_rs (sm rfl rfl (st (X.kNe rfl) rfl (sbN rfl (rfl) rfl (gN (g := 5) rfl rfl rfl rfl (gN (g := 5) rfl rfl rfl rfl (gN (g := 5) rfl rfl rfl rfl ?_))))))))))
 refine gN (g := 5) rfl rfl rfl rfl (gN (g := 5) rfl rfl rfl rfl (gN (g := 5) rfl rfl rfl rfl (gN (g := 5) rfl rfl rfl rfl (st (X.pickF rfl rfl) rfl (sa rfl rfl (Wn (tN (W_ret ?_))))))))
 exact (rT rfl rfl ⟨rfl, hbw⟩).1
theorem kGood_nil (w : World) : Calls Tryz.prog 34 #[.pointer none] w fun e w' => e = .returned (.int .i64 0) ∧ Below w.heap.size w w' := by
 refine W_enter (args := [.pointer none]) 12 Tryz.func34 rfl rfl rfl (W_sub [(0, .pointer none)] ?_ ⟨rfl, trivial⟩)
 have hbw := Below.refl w.heap.size w
 refine W_rs (sa rfl rfl (Wn (tN (W_seq (W_rs (sm rfl rfl (st (X.kEq rfl) rfl (Wn (tN (W_yes rfl (rfl) ?_))))))))))
 refine W_rs (sa rfl rfl (Wn (tN (W_ret (tR ?_)))))
 exact (rT rfl rfl ⟨rfl, hbw⟩).1
end
end Go.Proofs.YtnlabkogebnioaaGreatDoor
namespace Go.Proofs.YtnlabkogebnioaaGreatDoor
open Go.RowKit
def Consec : Nat → List (Nat × List UInt8) → Prop
  | _, [] => True
  | n, p :: l => p.1 = n ∧ Consec (n + p.2.length) l
def flatP : List (Nat × List UInt8) → List UInt8
  | [] => []
  | p :: l => p.2 ++ flatP l
theorem flatP_length (l : List (Nat × List UInt8)) : (flatP l).length = pendLen l := by
 induction l with
 | nil => rfl
 | cons p l ih => simp only [flatP, pendLen, List.length_append, ih]
theorem flatP_append (l m : List (Nat × List UInt8)) : flatP (l ++ m) = flatP l ++ flatP m := by
 induction l with
 | nil => rfl
 | cons p l ih => simp only [List.cons_append, flatP, ih, List.append_assoc]
theorem Consec.snoc : ∀ {l : List (Nat × List UInt8)} {n : Nat} {d : List UInt8}, Consec n l → Consec n (l ++ [(n + pendLen l, d)])
 | [], _, _, _ => ⟨rfl, trivial⟩
 | p :: l, n, d, h => ⟨h.1, by
  have := Consec.snoc (d := d) h.2
  rwa [show n + p.2.length + pendLen l = n + (p.2.length + pendLen l) by omega] at this⟩
structure LastsAt (D : DiskD) (k : Key) (lim : Int) (s all : List UInt8) : Prop where
  ex : ∃ f, D.files = [(k, f)] ∧ f.last = s ∧ f.now = s ++ all ∧ Consec s.length f.pend ∧ flatP f.pend = all
  limit : D.limit = lim
  used : D.used = (s ++ all).length
  stops : D.stops = false
section
variable {D : DiskD} {s all d : List UInt8} {k b : Key} {lim : Int}
theorem mget_one {ν : Type} (k : Key) (f : ν) : mget [(k, f)] k = some f := if_pos rfl
theorem sput_one (k : Key) (f g : FileD) : sput [(k, f)] k g = [(k, g)] := if_pos rfl
theorem LastsAt.op (h : LastsAt D k lim s all) (c : DiskD → Int × DiskD) : opM D c = c D := by
 unfold opM tickM
 rw [if_neg (by rw [h.stops]; simp), if_neg (by rw [h.stops]; simp)]
theorem LastsAt.append (h : LastsAt D k lim s all) (hl : ((s ++ all).length : Int) + d.length ≤ lim) : (appendM D k d).1 = 0 ∧ LastsAt (appendM D k d).2 k lim s (all ++ d) := by
 obtain ⟨f, hf, h1, h2, h3, h4⟩ := h.ex
 unfold appendM
 rw [h.op, fileM_some (f := f) (by rw [hf]; exact mget_one _ _)]
 unfold putM
 split
 ·rename_i hd
  subst hd
  rw [List.append_nil]
  exact ⟨rfl, h⟩
 ·have hm : moreM f f.now.length d = d.length := by unfold moreM; omega
  rw [if_neg (by rw [hm, h.limit, h.used]; omega)]
  refine ⟨rfl, ⟨⟨laidM f f.now.length d, by rw [hf]; exact sput_one _ _ _, h1, ?_, ?_, ?_⟩, h.limit, ?_, h.stops⟩⟩
  ·show overM f.now f.now.length d = _
   rw [overM_end, h2, List.append_assoc]
  ·show Consec s.length (f.pend ++ [(f.now.length, d)])
   have := h3.snoc (d := d)
   rw [← flatP_length, h4] at this
   rw [h2, List.length_append]
   exact this
  ·show flatP (f.pend ++ [(f.now.length, d)]) = _
   rw [flatP_append, h4]
   simp [flatP]
  ·show D.used + _ = _
   rw [hm, h.used, ← List.append_assoc]
   simp only [List.length_append]
   omega
theorem LastsAt.new (hk : nameOk k = true) : (createM (newM lim) k).1 = 0 ∧ LastsAt (createM (newM lim) k).2 k lim [] [] := by
 have h : createM (newM lim) k = (0, ⟨[(k, newFile)], lim, 0, 0, false, 0⟩) := by
  unfold createM opM
  rw [if_neg (by simp [newM])]
  show (if nameOk k = true then _ else _) = _
  rw [if_pos hk]
  rfl
 rw [h]
 exact ⟨rfl, ⟨newFile, rfl, rfl, rfl, trivial, rfl⟩, rfl, rfl, rfl⟩
end
end Go.Proofs.YtnlabkogebnioaaGreatDoor
namespace Go.Proofs.YtnlabkogebnioaaGreatDoor
open Go.RowKit Sha
def wents (n : Int) : Nat → List (List UInt8) → List Ent
  | _, [] => []
  | p, d :: l => ⟨sha d, n, p, d.length⟩ :: wents n (p + (chunkB d).length) l
def chunksB (l : List (List UInt8)) : List UInt8 := l.flatMap chunkB
theorem wents_sums (n : Int) : ∀ (p : Nat) (l : List (List UInt8)), (wents n p l).map (·.sum) = l.map sha
 | _, [] => rfl
 | p, d :: l => by rw [wents, List.map_cons, wents_sums n _ l, List.map_cons]
theorem wents_snoc (n : Int) (d : List UInt8) : ∀ (p : Nat) (l : List (List UInt8)), wents n p (l ++ [d]) = wents n p l ++ [⟨sha d, n, ((p + (chunksB l).length : Nat) : Int), d.length⟩]
 | p, [] => by simp [wents, chunksB]
 | p, c :: l => by
  rw [List.cons_append, wents, wents, wents_snoc n d _ l, List.cons_append]
  simp only [chunksB, List.flatMap_cons, List.length_append]
  rw [Nat.add_assoc]
def DOkC (d : List UInt8) : Prop := d ≠ [] ∧ d.length ≤ 1024
end Go.Proofs.YtnlabkogebnioaaGreatDoor
namespace Go.Proofs.YtnlabkogebnioaaGreatDoor
open Go.RowKit Sha
theorem create_lasts {lim : Int} {k : Key} (hk : nameOk k = true) : (createM (newM lim) k).1 = 0 ∧ LastsAt (createM (newM lim) k).2 k lim [] [] := LastsAt.new hk
theorem begin_lasts {lim n : Int} (hn : rightP n = true) (hl : 20 ≤ lim) : (pbeginM (newM lim) n).1 = 0 ∧ LastsAt (pbeginM (newM lim) n).2 (nameP n) lim [] (headB n) := by
 obtain ⟨h1, h2⟩ := create_lasts (lim := lim) (name_ok hn)
 have hh := headB_len n
 obtain ⟨h3, h4⟩ := h2.append (d := headB n) (by simp; omega)
 unfold pbeginM
 rw [if_neg (by rw [hn]; decide), if_neg (by rw [h1]; decide), if_neg (by rw [h3]; decide)]
 exact ⟨h3, by simpa using h4⟩
theorem LastsAt.sizeOf {D : DiskD} {k : Key} {lim : Int} {s all : List UInt8} (h : LastsAt D k lim s all) : sizeM D k = (((s ++ all).length : Int), 0) := by
 obtain ⟨f, hf, h1, h2, h3, h4⟩ := h.ex
 unfold sizeM
 rw [show mget D.files k = some f by rw [hf]; exact mget_one _ _]
 simp only
 rw [h2]
structure WrAt1 (lim : Int) (n : Int) (ds : List (List UInt8)) (D : DiskD) (x : Wri) : Prop where
  d : LastsAt D (nameP n) lim [] (headB n ++ chunksB ds)
  num : x.n = n
  l : x.l = wents n (headB n).length ds
  closed : x.closed = false
  ok : ∀ d ∈ ds, DOkC d
  nd : (ds.map sha).Nodup
theorem chunksB_snoc (ds : List (List UInt8)) (d : List UInt8) : chunksB (ds ++ [d]) = chunksB ds ++ chunkB d := by simp [chunksB]
theorem WrAt1.begin {lim n : Int} (hn : rightP n = true) (hl : 20 ≤ lim) : WrAt1 lim n [] (pbeginM (newM lim) n).2 ⟨n, [], false⟩ :=
 ⟨by simpa [chunksB] using (begin_lasts hn hl).2, rfl, rfl, rfl, (fun d h => by cases h), by simp⟩
section
variable {lim n : Int} {ds : List (List UInt8)} {D : DiskD} {x : Wri} {d : List UInt8}
theorem WrAt1.none (h : WrAt1 lim n ds D x) (hd : sha d ∉ ds.map sha) : findM x.l (sha d) = none := by
 refine List.find?_eq_none.2 fun e he => ?_
 simp only [decide_eq_true_eq]
 intro e2
 refine hd ?_
 rw [← wents_sums n (headB n).length ds, ← h.l]
 exact List.mem_map.2 ⟨e, he, e2⟩
theorem WrAt1.there (h : WrAt1 lim n ds D x) (hd : sha d ∈ ds.map sha) (hok : DOkC d) : ∃ e, findM x.l (sha d) = some e ∧ e.sum = sha d ∧ paddM D x d = ((e, 16), x, D) := by
 rw [← wents_sums n (headB n).length ds, ← h.l] at hd
 obtain ⟨e, he, hes⟩ := List.mem_map.1 hd
 cases hf : findM x.l (sha d) with
 | none =>
  have := List.find?_eq_none.1 hf e he
  simp [hes] at this
 | some e' =>
  have hs := List.find?_some hf
  simp only [decide_eq_true_eq] at hs
  refine ⟨e', rfl, hs, ?_⟩
  unfold paddM
  rw [if_neg (by rintro (e | e); rw [h.closed] at e; cases e; exact hok.1 e), if_neg (by have := hok.2; omega), hf]
theorem WrAt1.add (h : WrAt1 lim n ds D x) (hd : sha d ∉ ds.map sha) (hok : DOkC d) (hr : ((headB n ++ chunksB ds).length : Int) + 1074 ≤ lim) :
  (paddM D x d).1 = (⟨sha d, n, ((headB n).length + (chunksB ds).length : Nat), d.length⟩, 0) ∧ WrAt1 lim n (ds ++ [d]) (paddM D x d).2.2 (paddM D x d).2.1 := by
 have hcl := chunkB_len d (by have := hok.2; omega)
 have hd2 := hok.2
 obtain ⟨h1, h2⟩ := h.d.append (d := chunkB d) (by simp only [List.nil_append]; omega)
 have hsz := h.d.sizeOf
 unfold paddM
 rw [if_neg (by rintro (e | e); rw [h.closed] at e; cases e; exact hok.1 e), if_neg (by omega), h.none hd]
 simp only
 rw [h.num, hsz, if_neg (by simp), if_neg (by rw [h1]; simp)]
 refine ⟨?_, ?_, rfl, ?_, h.closed, ?_, ?_⟩
 ·simp only [List.nil_append, List.length_append]
 ·rw [chunksB_snoc, ← List.append_assoc]
  exact h2
 ·simp only
  rw [h.l, wents_snoc]
  simp only [List.nil_append, List.length_append]
 ·intro c hc
  rcases List.mem_append.1 hc with hc | hc
  ·exact h.ok c hc
  ·rw [List.mem_singleton.1 hc]; exact hok
 ·rw [List.map_append, List.nodup_append]
  exact ⟨h.nd, by simp, fun a ha b hb e => by
   rw [List.map_singleton, List.mem_singleton] at hb
   subst hb
   exact hd (e ▸ ha)⟩
end
end Go.Proofs.YtnlabkogebnioaaGreatDoor
namespace Go.Proofs.YtnlabkogebnioaaGreatDoor
open Go.RowKit
theorem run_part1 {t : TypeId} {d : TypeDesc} {cs : Array Value} {off : Nat} {v : Value} {w : World} (hu : Tryz.prog.underlying t = some d) (hd : (match d with | .struct _ | .array _ _ => false | _ => true) = true) (hv : cs.toList[off]? = some v) : (part t cs off).run Tryz.prog w = .ok v w := by
 have hc : cs[off]? = some v := by rw [← hv]; simp
 cases d <;> simp at hd <;> simp [part, isAgg, run_underlying hu, hc]
theorem eqFields_cons {P : Program} {d : Nat} {xs ys : Array Value} {f : Field} {fs : List Field} {a b : Value} {r r' : Bool} {w : World} (hn : f.name ≠ "_") (ha : (part f.type xs f.offset).run P w = .ok a w) (hb : (part f.type ys f.offset).run P w = .ok b w) (he : (Op.equalIn d f.type a b).run P w = .ok r w) (hr : r = true → (Op.eqFields d xs ys fs).run P w = .ok r' w) :
  (Op.eqFields d xs ys (f :: fs)).run P w = .ok (r && r') w := by
 unfold Op.eqFields
 rw [if_pos hn]
 simp only [Sem.run_bind, ha, hb, he, Result.andThen_ok, Sem.run_ite]
 cases r with
 | false => simp
 | true => simpa using hr rfl
theorem eqFields_one {P : Program} {d : Nat} {xs ys : Array Value} {f : Field} {a b : Value} {r : Bool} {w : World} (hn : f.name ≠ "_") (ha : (part f.type xs f.offset).run P w = .ok a w) (hb : (part f.type ys f.offset).run P w = .ok b w) (he : (Op.equalIn d f.type a b).run P w = .ok r w) :
  (Op.eqFields d xs ys [f]).run P w = .ok r w := by
 have := eqFields_cons (fs := []) hn ha hb he (fun _ => (by simp [Op.eqFields] : (Op.eqFields d xs ys []).run P w = .ok true w))
 simpa using this
theorem eqSumE (l m : List UInt8) (hl : l.length = 32) (hm : m.length = 32) (w : World) : (Op.equalIn 9999 60 (.agg (l.map bv).toArray) (.agg (m.map bv).toArray)).run Tryz.prog w = .ok (l == m) w := by
 obtain ⟨i0, hi, hz0, hz1, hz2⟩ := info_parts info_u8'
 have := run_equalIn_array (P := Tryz.prog) w 9998 (l.map bv).toArray (m.map bv).toArray Tryz.underlying60 hi
 rw [cells_u8, run_eqItems_bytes 9997 l m w (List.range 32) (fun i h => by simp at h; omega), all_getD l m 32 hl hm] at this
 exact this
end Go.Proofs.YtnlabkogebnioaaGreatDoor
namespace Go.Proofs.YtnlabkogebnioaaGreatDoor
open Go.RowKit
theorem ent_decP (a b : Ent) : (a.sum == b.sum && (a.pack == b.pack && (a.pos == b.pos && a.len == b.len))) = decide (a = b) := by
 obtain ⟨a1, a2, a3, a4⟩ := a
 obtain ⟨b1, b2, b3, b4⟩ := b
 rw [Bool.eq_iff_iff]
 simp
theorem fieldsEntE : Tryz.prog.underlying 66 = some (.struct (Tryz.prog.fieldsOf 66)) := by kernel_rfl
set_option maxRecDepth 30000 in
theorem eqEnt (a b : Ent) (ha : a.sum.length = 32) (hb : b.sum.length = 32) (w : World) : (Op.equalIn 10000 66 (.agg a.cells.toArray) (.agg b.cells.toArray)).run Tryz.prog w = .ok (decide (a = b)) w := by
 refine (run_equalIn_struct w 9999 _ _ _ fieldsEntE (by kernel_rfl)).trans ?_
 have hf := Option.some.inj (fieldsEntE.symm.trans Tryz.underlying66)
 injection hf with hf
 rw [hf]
 have h1 : ∀ c : Ent, c.sum.length = 32 → (part 60 c.cells.toArray 0).run Tryz.prog w = .ok (.agg (c.sum.map bv).toArray) w := fun c hc => by
  simp [part, isAgg, run_underlying Tryz.underlying60]
  exact List.take_left' (by rw [List.length_map, hc])
 have h2 : ∀ c : Ent, c.sum.length = 32 → (part 3 c.cells.toArray 32).run Tryz.prog w = .ok (.int .i64 c.pack) w := fun c hc => run_part1 Tryz.underlying3 rfl (by simp [Ent.cells, hc])
 have h3 : ∀ c : Ent, c.sum.length = 32 → (part 3 c.cells.toArray 33).run Tryz.prog w = .ok (.int .i64 c.pos) w := fun c hc => run_part1 Tryz.underlying3 rfl (by simp [Ent.cells, hc])
 have h4 : ∀ c : Ent, c.sum.length = 32 → (part 3 c.cells.toArray 34).run Tryz.prog w = .ok (.int .i64 c.len) w := fun c hc => run_part1 Tryz.underlying3 rfl (by simp [Ent.cells, hc])
 have e2 : (Op.equalIn 9999 3 (.int .i64 a.pack) (.int .i64 b.pack)).run Tryz.prog w = .ok (a.pack == b.pack) w := run_equalIn_int w 9998 3 .i64 .i64 _ _ Tryz.underlying3
 have e3 : (Op.equalIn 9999 3 (.int .i64 a.pos) (.int .i64 b.pos)).run Tryz.prog w = .ok (a.pos == b.pos) w := run_equalIn_int w 9998 3 .i64 .i64 _ _ Tryz.underlying3
 have e4 : (Op.equalIn 9999 3 (.int .i64 a.len) (.int .i64 b.len)).run Tryz.prog w = .ok (a.len == b.len) w := run_equalIn_int w 9998 3 .i64 .i64 _ _ Tryz.underlying3
 rw [← ent_decP]
 exact eqFields_cons (by decide) (h1 a ha) (h1 b hb) (eqSumE a.sum b.sum ha hb w) (fun _ => eqFields_cons (by decide) (h2 a ha) (h2 b hb) e2 (fun _ => eqFields_cons (by decide) (h3 a ha) (h3 b hb) e3 (fun _ => eqFields_one (by decide) (h4 a ha) (h4 b hb) e4)))
theorem X.eqEnt {l : Env} {x y : Operand} {w : World} {t' ty : TypeId} {a b : Ent} (ha : a.sum.length = 32) (hb : b.sum.length = 32) (hx : ev l x = some (.agg a.cells.toArray)) (hy : ev l y = some (.agg b.cells.toArray)) : X Tryz.prog l (.binOp .eql 66 x y t') ty w (.bool (decide (a = b))) w :=
 X.bin hx hy (fun c d => run_eqGuard_agg w .eql _ c d _ _ (by kernel_rfl)) (by rw [run_eql_struct, Go.Proofs.YtnlabkogebnioaaGreatDoor.eqEnt a b ha hb]; simp [Result.andThen])
theorem ent_sumR {w : World} {g : Nat} {t : TypeId} {e : Ent} (hB : Blk w g t e.cells.toArray) : w.rangeAt g 0 (e.sum.map bv) := fun j v hv => by
 rw [hB.cell, Nat.zero_add, List.getElem?_toArray, Ent.cells, List.getElem?_append_left (List.getElem?_eq_some_iff.1 hv).1]
 exact hv
end Go.Proofs.YtnlabkogebnioaaGreatDoor
namespace Go.Proofs.YtnlabkogebnioaaGreatDoor
open Go.RowKit Sha
section
variable (w : World)
theorem pbegin_nil (n : Int) : Calls Tryz.prog 25 #[.pointer none, .int .i64 n] w fun e w' => e = .returned (.tuple #[.pointer none, .int .i64 2]) ∧ Below w.heap.size w w' := by
 refine W_enter (args := [.pointer none, .int .i64 n]) 43 Tryz.func25 rfl rfl rfl (W_sub [(0, .pointer none), (1, .int .i64 n)] ?_ ⟨rfl, rfl, trivial⟩)
 have hbw := Below.refl w.heap.size w
 refine W_rs (sa rfl rfl (sa rfl rfl (Wn (tN (W_seq (W_rs (sm rfl rfl (sm rfl rfl (sc _ Tryz.func55 rfl (by kernel_rfl) rfl rfl ((pmay_any none n _).mono ?_))))))))))
 rintro e_ w1 ⟨rfl, hb⟩
 refine cR ?_
 replace hbw := bthen hbw hb
 have hz_w1 := hb.size
 clear hb
 refine sa rfl rfl (Wn (tN (W_rs (sm rfl rfl (st (X.neq rfl rfl) rfl (Wn (tN (W_yes rfl (rfl) (W_rs (sm rfl rfl ?_))))))))))
 refine sa rfl rfl (sa rfl rfl (Wn (tN (W_ret (tR ?_)))))
 exact (rTT rfl rfl rfl ⟨rfl, hbw⟩).1
theorem popen_nil (n : Int) : Calls Tryz.prog 19 #[.pointer none, .int .i64 n] w fun e w' => e = .returned (.tuple #[.pointer none, .int .i64 2]) ∧ Below w.heap.size w w' := by
 refine W_enter (args := [.pointer none, .int .i64 n]) 40 Tryz.func19 rfl rfl rfl (W_sub [(0, .pointer none), (1, .int .i64 n)] ?_ ⟨rfl, rfl, trivial⟩)
 have hbw := Below.refl w.heap.size w
 refine W_rs (sa rfl rfl (sa rfl rfl (Wn (tN (W_seq (W_rs (sm rfl rfl (sm rfl rfl (sc _ Tryz.func55 rfl (by kernel_rfl) rfl rfl ((pmay_any none n _).mono ?_))))))))))
 rintro e_ w1 ⟨rfl, hb⟩
 refine cR ?_
 replace hbw := bthen hbw hb
 have hz_w1 := hb.size
 clear hb
 refine sa rfl rfl (Wn (tN (W_rs (sm rfl rfl (st (X.neq rfl rfl) rfl (Wn (tN (W_yes rfl (rfl) (W_rs (sm rfl rfl ?_))))))))))
 refine sa rfl rfl (sa rfl rfl (Wn (tN (W_ret (tR ?_)))))
 exact (rTT rfl rfl rfl ⟨rfl, hbw⟩).1
theorem pload_nil (n : Int) : Calls Tryz.prog 27 #[.pointer none, .int .i64 n] w fun e w' => e = .returned (.tuple #[.agg #[.slice none 0 0], .int .i64 2]) ∧ Below w.heap.size w w' := by
 refine W_enter (args := [.pointer none, .int .i64 n]) 31 Tryz.func27 rfl rfl rfl (W_sub [(0, .pointer none), (1, .int .i64 n)] ?_ ⟨rfl, rfl, trivial⟩)
 have hbw := Below.refl w.heap.size w
 refine W_rs (salA inf25 rfl (fun g4 w1 hB4 hg4 hb hl4 => ?_))
 replace hbw := bthen hbw hb
 have hz_w1 := hb.size
 clear hb
 refine sa rfl rfl (Wn (tN (W_seq (W_rs (sm rfl rfl (sm rfl rfl (sc _ Tryz.func55 rfl (by kernel_rfl) rfl rfl ((pmay_any none n _).mono ?_))))))))
 rintro e_ w2 ⟨rfl, hb⟩
 refine cR ?_
 replace hbw := bthen hbw hb
 replace hB4 := hB4.bel hb
 have hz_w2 := hb.size
 clear hb
 refine sa rfl rfl (Wn (tN (W_rs (sm rfl rfl (st (X.neq rfl rfl) rfl (Wn (tN (W_yes rfl (rfl) (W_rs (st (X.bld rfl (bidx0 _)) rfl ?_))))))))))
 refine sm rfl rfl (ssBN rfl rfl hB4 siz25 rfl rfl (fun w3 hB_ hc_ => ?_))
 replace hB4 := hB_
 clear hB_
 replace hbw := bset hbw hc_ (by omega)
 have hz_w3 := hc_.size
 clear hc_
 refine sa rfl rfl (Wn (tN (W_ret (tR ?_))))
 exact (rCT rfl rfl hB4 Tryz.underlying25 rfl siz25 rfl ⟨rfl, hbw⟩).1
theorem prebuild_nil (n : Int) : Calls Tryz.prog 28 #[.pointer none, .int .i64 n] w fun e w' => e = .returned (.tuple #[.agg #[.slice none 0 0], .int .i64 2]) ∧ Below w.heap.size w w' := by
 refine W_enter (args := [.pointer none, .int .i64 n]) 31 Tryz.func28 rfl rfl rfl (W_sub [(0, .pointer none), (1, .int .i64 n)] ?_ ⟨rfl, rfl, trivial⟩)
 have hbw := Below.refl w.heap.size w
 refine W_rs (salA inf25 rfl (fun g4 w1 hB4 hg4 hb hl4 => ?_))
 replace hbw := bthen hbw hb
 have hz_w1 := hb.size
 clear hb
 refine sa rfl rfl (Wn (tN (W_rs (sm rfl rfl (sm rfl rfl (sc _ Tryz.func19 rfl (by kernel_rfl) rfl rfl ((popen_nil _ n).mono ?_)))))))
 rintro e_ w2 ⟨rfl, hb⟩
 refine cR ?_
 replace hbw := bthen hbw hb
 replace hB4 := hB4.bel hb
 have hz_w2 := hb.size
 clear hb
 refine sm rfl rfl (st (X.ext rfl rfl) rfl (st (X.ext rfl rfl) rfl (sa rfl rfl (sa rfl rfl (Wn (tN (W_seq (W_rs (sm rfl rfl (st (X.neq rfl rfl) rfl ?_))))))))))
 refine Wn (tN (W_yes rfl (rfl) (W_rs (st (X.bld rfl (bidx0 _)) rfl (sm rfl rfl (ssBN rfl rfl hB4 siz25 rfl rfl (fun w3 hB_ hc_ => ?_)))))))
 replace hB4 := hB_
 clear hB_
 replace hbw := bset hbw hc_ (by omega)
 have hz_w3 := hc_.size
 clear hc_
 refine sa rfl rfl (Wn (tN (W_ret (tR ?_))))
 exact (rCT rfl rfl hB4 Tryz.underlying25 rfl siz25 rfl ⟨rfl, hbw⟩).1
theorem psave_nil (n : Int) (a : Option Addr) (c k : Nat) : Calls Tryz.prog 29 #[.pointer none, .int .i64 n, .agg #[.slice a k c]] w fun e w' => e = .returned (.int .i64 2) ∧ Below w.heap.size w w' := by
 refine W_enter (args := [.pointer none, .int .i64 n, .agg #[.slice a k c]]) 52 Tryz.func29 rfl rfl rfl (W_sub [(0, .pointer none), (1, .int .i64 n), (2, .agg #[.slice a k c])] ?_ ⟨rfl, rfl, rfl, trivial⟩)
 have hbw := Below.refl w.heap.size w
 refine W_rs (sboxA rfl rfl (fun g5 w1 hB5 hg5 hb hl5 => ?_))
 replace hbw := bthen hbw hb
 have hz_w1 := hb.size
 clear hb
 refine sa rfl rfl (Wn (tN (W_seq (W_rs (sm rfl rfl (sm rfl rfl (sc _ Tryz.func55 rfl (by kernel_rfl) rfl rfl ((pmay_any none n _).mono ?_))))))))
 rintro e_ w2 ⟨rfl, hb⟩
 refine cR ?_
 replace hbw := bthen hbw hb
 replace hB5 := hB5.bel hb
 have hz_w2 := hb.size
 clear hb
 refine sa rfl rfl (Wn (tN (W_rs (sm rfl rfl (st (X.neq rfl rfl) rfl (Wn (tN (W_yes rfl (rfl) (W_rs (sm rfl rfl ?_))))))))))
 refine sa rfl rfl (Wn (tN (W_ret (tR ?_))))
 exact (rT rfl rfl ⟨rfl, hbw⟩).1
theorem padd_nil (d : List UInt8) : Calls Tryz.prog 26 #[.pointer none, str d] w fun e w' => e = .returned (.tuple #[.agg eZ.cells.toArray, .int .i64 2]) ∧ Below w.heap.size w w' := by
 have hz : eZ.cells.toArray.size = 35 := Ent.size (by simp [eZ])
 refine W_enter (args := [.pointer none, str d]) 98 Tryz.func26 rfl rfl rfl (W_sub [(0, .pointer none), (1, str d)] ?_ ⟨rfl, rfl, trivial⟩)
 have hbw := Below.refl w.heap.size w
 refine W_rs (salA inf66 rfl (fun g4 w1 hB4 hg4 hb hl4 => ?_))
 replace hbw := bthen hbw hb
 have hz_w1 := hb.size
 clear hb
 refine sa rfl rfl (Wn (tN (W_seq (W_block (W_rs (sm rfl rfl (st (X.wEq rfl) rfl (sa rfl rfl (Wn (tN ?_))))))))))
 refine W_yes rfl (rfl) (W_rs (st (X.bld rfl (benZ _)) rfl (ssBN rfl rfl hB4 (by rw [hz]; exact siz66) (by rw [hz]; rfl) (Ent.cells_one eZ) (fun w2 hB_ hc_ => ?_))))
 replace hB4 := hB_
 replace hbw := bset hbw hc_ (by omega)
 refine sa rfl rfl (Wn (tN (W_ret (bR (tR ?_)))))
 exact (rCT rfl rfl hB4 Tryz.underlying66 rfl (by rw [hz]; exact siz66) rfl ⟨rfl, hbw⟩).1
theorem pclose_nil : Calls Tryz.prog 18 #[.pointer none] w fun e w' => e = .returned (.tuple #[.agg #[.slice none 0 0], .int .i64 2]) ∧ Below w.heap.size w w' := by
 refine W_enter (args := [.pointer none]) 62 Tryz.func18 rfl rfl rfl (W_sub [(0, .pointer none)] ?_ ⟨rfl, trivial⟩)
 have hbw := Below.refl w.heap.size w
 refine W_rs (salA inf25 rfl (fun g2 w1 hB2 hg2 hb hl2 => ?_))
 replace hbw := bthen hbw hb
 have hz_w1 := hb.size
 clear hb
 refine sa rfl rfl (Wn (tN (W_seq (W_block (W_rs (sm rfl rfl (st (X.wEq rfl) rfl (sa rfl rfl (Wn (tN ?_))))))))))
 refine W_yes rfl (rfl) (W_rs (st (X.bld rfl (bidx0 _)) rfl (ssBN rfl rfl hB2 siz25 rfl rfl (fun w2 hB_ hc_ => ?_))))
 replace hB2 := hB_
 clear hB_
 replace hbw := bset hbw hc_ (by omega)
 have hz_w2 := hc_.size
 clear hc_
 refine sa rfl rfl (Wn (tN (W_ret (bR (tR ?_)))))
 exact (rCT rfl rfl hB2 Tryz.underlying25 rfl siz25 rfl ⟨rfl, hbw⟩).1
theorem pget_nil (a : List UInt8) : Calls Tryz.prog 23 #[.pointer none, .agg (a.map bv).toArray] w fun e w' => e = .returned (.tuple #[str [], .int .i64 2]) ∧ Below w.heap.size w w' := by
 refine W_enter (args := [.pointer none, .agg (a.map bv).toArray]) 108 Tryz.func23 rfl rfl rfl (W_sub [(0, .pointer none), (1, .agg (a.map bv).toArray)] ?_ ⟨rfl, rfl, trivial⟩)
 have hbw := Below.refl w.heap.size w
 refine W_rs (sboxA rfl rfl (fun g3 w1 hB3 hg3 hb hl3 => ?_))
 replace hbw := bthen hbw hb
 have hz_w1 := hb.size
 clear hb
 refine sa rfl rfl (sa rfl rfl (Wn (tN (W_seq (W_rs (sm rfl rfl (st (X.kEq rfl) rfl (Wn (tN (W_yes rfl (rfl) ?_))))))))))
 refine W_rs (sa rfl rfl (sa rfl rfl (Wn (tN (W_ret (tR ?_))))))
 exact (rTT rfl rfl rfl ⟨rfl, hbw⟩).1
end
def abcB : List UInt8 := [97, 98, 99]
theorem abc_ok : DOkC abcB := ⟨by decide, by decide⟩
theorem name7 : nameP 7 = [112, 97, 99, 107, 45, 48, 48, 48, 48, 48, 55] := by decide
def ent7 : Ent := ⟨sha abcB, 7, ((headB 7).length : Int), 3⟩
theorem ent7_sum : ent7.sum.length = 32 := sha_length _
theorem aw_begin : (pbeginM (newM 5000) 7).1 = 0 ∧ WrAt1 5000 7 [] (pbeginM (newM 5000) 7).2 ⟨7, [], false⟩ := ⟨(begin_lasts rfl (by omega)).1, WrAt1.begin rfl (by omega)⟩
theorem aw_add : (paddM (pbeginM (newM 5000) 7).2 ⟨7, [], false⟩ abcB).1 = (ent7, 0) ∧ WrAt1 5000 7 [abcB] (paddM (pbeginM (newM 5000) 7).2 ⟨7, [], false⟩ abcB).2.2 (paddM (pbeginM (newM 5000) 7).2 ⟨7, [], false⟩ abcB).2.1 := by
 have hl := headB_len 7
 obtain ⟨h1, h2⟩ := aw_begin.2.add (d := abcB) (by simp) abc_ok (by simp [chunksB]; omega)
 have e : (⟨sha abcB, 7, (((headB 7).length + (chunksB []).length : Nat) : Int), (abcB.length : Nat)⟩ : Ent) = ent7 := by
  unfold ent7
  rw [show (chunksB []).length = 0 from rfl, Nat.add_zero, show ((abcB.length : Nat) : Int) = 3 from rfl]
 rw [e] at h1
 rw [List.nil_append] at h2
 refine ⟨h1, ?_⟩
 exact h2
theorem aw_again {D : DiskD} {x : Wri} (h : WrAt1 5000 7 [abcB] D x) : paddM D x abcB = ((ent7, 16), x, D) := by
 obtain ⟨e, h1, h2, h3⟩ := h.there (d := abcB) (by simp) abc_ok
 rw [h.l] at h1
 have : findM (wents 7 (headB 7).length [abcB]) (sha abcB) = some ent7 := by
  have e : wents 7 (headB 7).length [abcB] = [ent7] := by
   unfold ent7
   rfl
  rw [e]
  unfold findM
  exact List.find?_cons_of_pos (decide_eq_true rfl)
 rw [this] at h1
 rw [h3, ← Option.some.inj h1]
theorem head_pos (n : Int) : 0 < (headB n).length := by
 unfold headB
 have h4 : (four n).length = 4 := four_length n
 rw [seal_length (by decide) (by omega), h4]
 omega
end Go.Proofs.YtnlabkogebnioaaGreatDoor
namespace Go.Proofs.YtnlabkogebnioaaGreatDoor
open Go.RowKit Sha
theorem WrAll.lts {B gd gw gx gm : Nat} {w : World} {D : DiskD} {x : Wri} {v : Value} {S : Nat → Prop} (h : WrAll B w gd gw gx gm D x v S) : ∀ k, S k ∨ WrT gw gx gm v k → k < w.heap.size := fun k hk => hk.elim (fun e => (h.wf.own.lo k e).2) (fun e => h.lt k e)
theorem WrAll.lo {B gd gw gx gm : Nat} {w : World} {D : DiskD} {x : Wri} {v : Value} {S : Nat → Prop} (h : WrAll B w gd gw gx gm D x v S) : ∀ k, S k ∨ WrT gw gx gm v k → B ≤ k := fun k hk => hk.elim (fun e => (h.wf.own.lo k e).1) (fun e => (h.wf.ap k e).2)
theorem WrAll.chg {B gd gw gx gm : Nat} {w w' : World} {D : DiskD} {x : Wri} {v : Value} {S T : Nat → Prop} (h : WrAll B w gd gw gx gm D x v S) (hC : Chg T w w') (hn : ∀ k, S k ∨ WrT gw gx gm v k → ¬ T k) : WrAll B w' gd gw gx gm D x v S :=
 ⟨h.blk.chg hC (hn _ (.inr (.inl rfl))), h.scn.chg hC (hn _ (.inr (.inr (.inl rfl)))) (hn _ (.inr (.inr (.inr (.inl rfl))))) (fun _ hk => hn _ (.inr (.inr (.inr (.inr hk))))), h.wf.chg hC (fun k hk => hn k (.inl hk))⟩
theorem WrPost.keep {B gd gw gx gm : Nat} {w0 w w' : World} {D D' : DiskD} {x x' : Wri} {v : Value} {S : Nat → Prop} (h : WrPost B w gd gw gx gm D' x' v S w') (hW : WrAll B w gd gw gx gm D x v S) (hb : Below w0.heap.size w0 w) (hB : w0.heap.size ≤ B) :
  ∃ v' S', WrAll B w' gd gw gx gm D' x' v' S' ∧ Below w0.heap.size w0 w' ∧ (∀ k, S' k → S k ∨ w.heap.size ≤ k) ∧ (∀ k, WrT gw gx gm v' k → WrT gw gx gm v k ∨ w.heap.size ≤ k) ∧ Chg (fun k => S k ∨ WrT gw gx gm v k) w w' ∧ w.heap.size ≤ w'.heap.size := by
 obtain ⟨v', S', h1, h2, h3, h4⟩ := h
 refine ⟨v', S', h1, bchg hb h4 ?_, h2, ?_, h4, h4.size⟩
 ·rintro k (hk | hk)
  ·have := (hW.wf.own.lo k hk).1; omega
  ·have := (hW.wf.ap k hk).2; omega
 ·rintro k (e | e | e | e)
  ·exact .inl (.inl e)
  ·exact .inl (.inr (.inl e))
  ·exact .inl (.inr (.inr (.inl e)))
  ·exact (h3 k e).imp (fun h => .inr (.inr (.inr h))) id
set_option maxRecDepth 10000 in
theorem pawake_any (w : World) (hT : PTabs w.heap.size w) : Calls Tryz.prog 9 #[] w fun e w' => e = .returned (.bool true) ∧ Below w.heap.size w w' := by
 have hz : ent7.cells.toArray.size = 35 := Ent.size ent7_sum
 have hone : ent7.cells.toArray.toList.all (·.oneCell') = true := Ent.cells_one ent7
 refine W_enter (args := []) 69 Tryz.func9 rfl rfl rfl ?_
 have hbw := Below.refl w.heap.size w
 refine W_rs (sa rfl rfl (Wn (tN (W_rs (sc _ Tryz.func16 rfl (by kernel_rfl) rfl rfl ((New_ok 5000 _ (by omega)).mono ?_))))))
 rintro e_ w1 ⟨g, S0, rfl, h0, hS0, hb⟩
 refine cR ?_
 replace hbw := bthen hbw hb
 replace hT := hT.bel hb
 have hz_w1 := hb.size
 clear hb
 have hd : Own w.heap.size w1 g (newM 5000) S0 := ⟨h0, fun k hk => by have := hS0 k hk; have := hbw.size; omega⟩
 clear h0 hS0
 refine sm rfl rfl (st (X.ext rfl rfl) rfl (st (X.ext rfl rfl) rfl (sa rfl rfl (sa rfl rfl (Wn (tN (W_rs (sm rfl rfl (sc _ Tryz.func25 rfl (by kernel_rfl) rfl rfl ((pbegin_any w.heap.size g (newM 5000) S0 7 0 _ hd (Good.new (by omega)) (by omega) hbw.size hT).mono ?_))))))))))
 rintro e_ w2 ⟨p, S1, rfl, hd1, hS1, hX, hpn, hps⟩
 refine cR ?_
 obtain ⟨gw, gx, gm, v, rfl, hW, hWo⟩ := hps aw_begin.1
 have hbwn := bchg hbw hX (fun k hk => (hd.lo k hk).1)
 replace hT := hT.chg hX (fun k hk => (hd.lo k hk).1)
 rw [aw_begin.1]
 clear hps hpn hWo hd1 hd hbw hX
 have hbw := hbwn
 clear hbwn
 have haw := aw_add
 have hg1 := pbegin_good (Good.new (n := 0) (l := 5000) (by omega)) 7
 obtain ⟨D1, hD1⟩ : ∃ D1, (pbeginM (newM 5000) 7).2 = D1 := ⟨_, rfl⟩
 rw [hD1] at hW haw hg1
 refine sm rfl rfl (st (X.ext rfl rfl) rfl (st (X.ext rfl rfl) rfl (sa rfl rfl (sa rfl rfl (Wn (tN (W_seq (W_rs (sm rfl rfl (st (X.neq rfl rfl) rfl ?_))))))))))
 refine sbN rfl (rfl) rfl (gY (g := 20) rfl rfl rfl (sm rfl rfl (gY (g := 20) rfl rfl rfl (st (X.neq rfl rfl) rfl (st (X.pickF rfl rfl) rfl (sbN rfl (rfl) rfl (gY (g := 24) rfl rfl rfl (sm rfl rfl (gY (g := 24) rfl rfl rfl (st (X.wEq rfl) rfl ?_))))))))))
 refine st (X.pickF rfl rfl) rfl (Wn (tN (W_no rfl (rfl) (W_skip (tN (W_rs (sm rfl rfl (sc _ Tryz.func26 rfl (by kernel_rfl) rfl rfl ((padd_any abcB 30 hW hg1 (by omega) hT (by decide) (by simp)).mono ?_)))))))))
 rintro e_ w3 ⟨rfl, hWP⟩
 refine cR ?_
 have hloT : ∀ k, S1 k ∨ WrT gw gx gm v k → w.heap.size ≤ k := fun k hk => hk.elim (fun h => (hW.wf.own.lo k h).1) (fun h => (hW.wf.ap k h).2)
 obtain ⟨v2, S2, hW2, hbwn, hS2, hv2, hX2, hz5⟩ := hWP.keep hW hbw (Nat.le_refl _)
 replace hT := hT.chg hX2 hloT
 clear hWP hW hbw hX2 hloT
 have hW := hW2
 have hbw := hbwn
 clear hW2 hbwn
 have hg2 := padd_good hg1 ⟨7, [], false⟩ abcB
 rw [haw.1]
 obtain ⟨r, hr⟩ : ∃ r, paddM D1 ⟨7, [], false⟩ abcB = r := ⟨_, rfl⟩
 rw [hr] at hW haw hg2
 have hag := aw_again haw.2
 refine sm rfl rfl (st (X.ext rfl rfl) rfl (st (X.ext rfl rfl) rfl ?_))
 have hq5 := hW.lts
 have hw5 := hbw.size
 refine salA inf66 rfl (fun g5 w4 hB5 hg5 hb hl5 => ?_)
 replace hbw := bthen hbw hb
 replace hT := hT.bel hb
 replace hW := hW.bel hb
 have hz_w4 := hb.size
 clear hb
 refine ssBN rfl rfl hB5 (by rw [hz]; exact siz66) (by rw [hz]; rfl) hone (fun w5 hB_ hc_ => ?_)
 replace hB5 := hB_
 replace hW := hW.chg hc_ (fun k hk => by show ¬ k = g5; have := hq5 k hk; omega)
 replace hT := hT.chg hc_ (fun k hk => by have h1 : k = g5 := hk; have := hbw.size; omega)
 replace hbw := bset hbw hc_ (by omega)
 have hz_w5 := hc_.size
 clear hB_ hc_
 refine sa rfl rfl (Wn (tN (W_rs (sm rfl rfl ?_))))
 have hn5 : ¬ (S2 g5 ∨ WrT gw gx gm v2 g5) := fun e => by have := hq5 _ e; omega
 refine sc _ Tryz.func26 rfl (by kernel_rfl) rfl rfl ((padd_any abcB 1130 hW hg2 (by omega) hT (by decide) (by rw [haw.2.l]; simp [wents])).mono ?_)
 rintro e_ w6 ⟨rfl, hWP⟩
 refine cR ?_
 have hloT := hW.lo
 obtain ⟨v3, S3, hW3, hbwn, hS3, hv3, hX2, hz6⟩ := hWP.keep hW hbw (Nat.le_refl _)
 replace hT := hT.chg hX2 hloT
 replace hB5 := hB5.chg hX2 hn5
 clear hWP hW hbw hX2 hloT
 have hbw := hbwn
 clear hW3 hbwn
 rw [hag]
 refine sm rfl rfl (st (X.ext rfl rfl) rfl (st (X.ext rfl rfl) rfl (salA inf66 rfl (fun g7 w7 hB7 hg7 hb hl7 => ?_))))
 replace hbw := bthen hbw hb
 replace hT := hT.bel hb
 replace hB5 := hB5.bel hb
 have hz_w7 := hb.size
 clear hb
 refine ssBN rfl rfl hB7 (by rw [hz]; exact siz66) (by rw [hz]; rfl) hone (fun w8 hB_ hc_ => ?_)
 replace hB7 := hB_
 replace hB5 := hB5.chg hc_ (by show ¬ g5 = g7; omega)
 replace hT := hT.chg hc_ (fun k hk => by have h1 : k = g7 := hk; have := hbw.size; omega)
 replace hbw := bset hbw hc_ (by omega)
 have hz_w8 := hc_.size
 clear hB_ hc_
 refine sa rfl rfl (Wn (tN (W_drsN (fun W_ => Blk W_ g5 66 ent7.cells.toArray ∧ Blk W_ g7 66 ent7.cells.toArray) [0, 1, 2, 3, 4, 5, 6, 7, 8, 9, 10, 11, 12, 13, 14, 15, 16, 17, 18, 19, 20, 21, 22, 23, 24, 25, 26, 27, 28, 29, 30, 31] [false, true, true, true, true, true, true, true, true, true, true, true, true, true, true, true, true, true, true, false, true, true, true, true, true, true, true, true, true, true, true, true] (by kernel_rfl) (by kernel_rfl) (⟨hB5.drew, hB7.drew⟩) ?_)))
 obtain ⟨w9, hw_⟩ : ∃ w9 : World, w9 = World.drew w8 := ⟨_, rfl⟩
 rw [← hw_]
 have hb : Below w8.heap.size w8 w9 := by rw [hw_]; exact bdrew (Below.refl _ _)
 clear hw_
 have hS := hb
 replace hbw := bthen hbw hb
 replace hT := hT.bel hb
 replace hB5 := hB5.bel hb
 replace hB7 := hB7.bel hb
 have hz_w9 := hb.size
 clear hb
 refine oL rfl (fun Q_ hQ_ hP_ => (sc _ Tryz.func21 rfl (by kernel_rfl) rfl rfl ((Name_p 7 _ hT.pow).mono ?_)))
 rintro e_ w10 ⟨rfl, hb⟩
 refine cR ?_
 replace hbw := bthen hbw hb
 replace hT := hT.bel hb
 replace hB5 := hB5.bel hb
 replace hB7 := hB7.bel hb
 have hz_w10 := hb.size
 clear hb
 refine Wn (hQ_ _ _ (⟨hB5, hB7⟩) ?_)
 clear hQ_ hP_ Q_
 rw [name7]
 refine oY rfl (fun W_ hW_ => (X.eqS rfl rfl)) rfl (oY rfl (fun W_ hW_ => (X.mvB (c := true) rfl (rfl))) rfl (oYg (g := 40) rfl rfl rfl rfl (fun W_ hW_ => (X.move rfl)) rfl (oYg (g := 40) rfl rfl rfl rfl (fun W_ hW_ => (X.eql rfl rfl)) rfl (oY rfl (fun W_ hW_ => (X.pickT rfl rfl)) rfl (oY rfl (fun W_ hW_ => (X.mvB (c := true) rfl (rfl))) rfl (oYg (g := 44) rfl rfl rfl rfl (fun W_ hW_ => (X.fa fa66_3 rfl)) rfl (oYg (g := 44) rfl rfl rfl rfl (fun W_ hW_ => (X.ldB rfl hW_.1 Tryz.underlying3 rfl (Ent.cell_ ent7_sum 2 _ rfl))) rfl (oYg (g := 44) rfl rfl rfl rfl (fun W_ hW_ => (X.eql rfl rfl)) rfl (oY rfl (fun W_ hW_ => (X.pickT rfl rfl)) rfl (oY rfl (fun W_ hW_ => (X.mvB (c := true) rfl (rfl))) rfl ?_))))))))))
 refine oYg (g := 49) rfl rfl rfl rfl (fun W_ hW_ => (X.fa fa66_2 rfl)) rfl (oYg (g := 49) rfl rfl rfl rfl (fun W_ hW_ => (X.ldB rfl hW_.1 Tryz.underlying3 rfl (Ent.cell_ ent7_sum 1 _ rfl))) rfl (oYg (g := 49) rfl rfl rfl rfl (fun W_ hW_ => (X.gtr rfl rfl)) rfl (oY rfl (fun W_ hW_ => (X.pickT rfl rfl)) rfl (oY rfl (fun W_ hW_ => (X.mvB (c := true) rfl (decide_eq_true (by show (0 : Int) < ((headB 7).length : Int); have := head_pos 7; omega)))) rfl ?_))))
 refine oYg (g := 54) rfl rfl rfl rfl (fun W_ hW_ => (X.fa fa66_0 rfl)) rfl (oYg (g := 54) rfl rfl rfl rfl (fun W_ hW_ => (X.ldN (cs := ent7.sum.map bv) rfl Tryz.underlying60 rfl (by rw [List.length_map, ent7_sum]; exact siz60) (ent_sumR hW_.1))) rfl ?_)
 refine oL rfl (fun Q_ hQ_ hP_ => (gY (g := 54) rfl rfl rfl (sc _ Tryz.func24 rfl (by kernel_rfl) rfl rfl ((Of_list abcB _ hT.sha (by decide)).mono ?_))))
 rintro e_ w11 ⟨rfl, hb⟩
 refine cR ?_
 replace hbw := bthen hbw hb
 replace hT := hT.bel hb
 replace hB5 := hB5.bel hb
 replace hB7 := hB7.bel hb
 have hz_w11 := hb.size
 clear hb
 refine Wn (hQ_ _ _ (⟨hB5, hB7⟩) ?_)
 clear hQ_ hP_ Q_
 refine oYg (g := 54) rfl rfl rfl rfl (fun W_ hW_ => (X.eqSumF ent7_sum (sha_length _) rfl rfl)) rfl (oY rfl (fun W_ hW_ => (X.pickT rfl rfl)) rfl (oY rfl (fun W_ hW_ => (X.mvB (c := true) rfl ((beq_self_eq_true (sha abcB))))) rfl (oYg (g := 60) rfl rfl rfl rfl (fun W_ hW_ => (X.move rfl)) rfl (oYg (g := 60) rfl rfl rfl rfl (fun W_ hW_ => (X.eql rfl rfl)) rfl (oY rfl (fun W_ hW_ => (X.pickT rfl rfl)) rfl (oY rfl (fun W_ hW_ => (X.mvB (c := true) rfl (rfl))) rfl (oYg (g := 64) rfl rfl rfl rfl (fun W_ hW_ => (X.ldBN rfl hW_.2 Tryz.underlying66 rfl (by rw [hz]; exact siz66))) rfl ?_)))))))
 refine oYg (g := 64) rfl rfl rfl rfl (fun W_ hW_ => (X.ldBN rfl hW_.1 Tryz.underlying66 rfl (by rw [hz]; exact siz66))) rfl ?_
 refine oYg (g := 64) rfl rfl rfl rfl (fun W_ hW_ => (X.eqEnt ent7_sum ent7_sum rfl rfl)) rfl (oY rfl (fun W_ hW_ => (X.pickT rfl rfl)) rfl (oY rfl (fun W_ hW_ => (X.assign rfl)) rfl (oN (nN (W_ret ?_)))))
 exact (rT rfl rfl ⟨by rw [decide_eq_true rfl], hbw⟩).1
end Go.Proofs.YtnlabkogebnioaaGreatDoor
namespace Go.Proofs.YtnlabkogebnioaaGreatDoor
open Go.RowKit Sha
set_option maxRecDepth 10000 in
theorem PackNil_walk (w : World) (n : Int) (s : List UInt8) (_hs : s.length ≤ 9223372036854775807) (hT : PTabs w.heap.size w) :
  Calls Tryz.prog 5 #[.int .i64 n, str s] w fun e w' => e = .returned (.bool true) ∧ Below w.heap.size w w' := by
 have hz : eZ.cells.toArray.size = 35 := Ent.size (by simp [eZ])
 refine W_enter (args := [.int .i64 n, str s]) 144 Tryz.func5 rfl rfl rfl (W_sub [(0, .int .i64 n), (1, str s)] ?_ ⟨rfl, rfl, trivial⟩)
 have hbw := Below.refl w.heap.size w
 refine W_rs (sa rfl rfl (Wn (tN (W_seq (W_rs (sm rfl rfl (st (X.lenS rfl rfl Tryz.underlying9) rfl (st (X.gtr rfl rfl) rfl (Wn (tN ?_))))))))))
 refine W_if rfl (fun h23 => ?_) (fun h23 => ?_)
 ·first | replace h23 := of_decide_eq_true h23 | replace h23 := of_decide_eq_false (notT h23) | replace h23 := notT h23 | skip
  refine W_rs (sc _ Tryz.func9 rfl (by kernel_rfl) rfl rfl ((pawake_any _ ((hT.bel hbw).to hbw.size)).mono ?_))
  rintro e_ w1 ⟨rfl, hb⟩
  refine cR ?_
  replace hbw := bthen hbw hb
  have hz_w1 := hb.size
  clear hb
  refine sa rfl rfl (Wn (tN (W_ret (tR ?_))))
  exact (rT rfl rfl ⟨rfl, hbw⟩).1
 ·first | replace h23 := of_decide_eq_false h23 | replace h23 := of_decide_eq_true (notF h23) | replace h23 := notF h23 | skip
  refine W_skip (tN (W_rs (sa rfl rfl (Wn (tN (W_rs (sa rfl rfl (Wn (tN (W_rs ?_))))))))))
  refine sm rfl rfl (sc _ Tryz.func25 rfl (by kernel_rfl) rfl rfl ((pbegin_nil _ n).mono ?_))
  rintro e_ w2 ⟨rfl, hb⟩
  refine cR ?_
  replace hbw := bthen hbw hb
  have hz_w2 := hb.size
  clear hb
  refine sm rfl rfl (st (X.ext rfl rfl) rfl (st (X.ext rfl rfl) rfl (sa rfl rfl (sa rfl rfl (Wn (tN (W_rs (sm rfl rfl (sc _ Tryz.func19 rfl (by kernel_rfl) rfl rfl ((popen_nil _ n).mono ?_))))))))))
  rintro e_ w3 ⟨rfl, hb⟩
  refine cR ?_
  replace hbw := bthen hbw hb
  have hz_w3 := hb.size
  clear hb
  refine sm rfl rfl (st (X.ext rfl rfl) rfl (st (X.ext rfl rfl) rfl (sa rfl rfl (sa rfl rfl (Wn (tN (W_rs (sm rfl rfl (sm rfl rfl (sc _ Tryz.func26 rfl (by kernel_rfl) rfl rfl ((padd_nil _ s).mono ?_)))))))))))
  rintro e_ w4 ⟨rfl, hb⟩
  refine cR ?_
  replace hbw := bthen hbw hb
  have hz_w4 := hb.size
  clear hb
  refine sm rfl rfl (st (X.ext rfl rfl) rfl (st (X.ext rfl rfl) rfl (salA inf66 rfl (fun g11 w5 hB11 hg11 hb hl11 => ?_))))
  replace hbw := bthen hbw hb
  have hz_w5 := hb.size
  clear hb
  refine ssBN rfl rfl hB11 (by rw [hz]; exact siz66) (by rw [hz]; rfl) (Ent.cells_one eZ) (fun w6 hB_ hc_ => ?_)
  clear hB11
  replace hbw := bset hbw hc_ (by omega)
  have hz_w6 := hc_.size
  clear hB_ hc_
  refine sa rfl rfl (Wn (tN (W_rs (sm rfl rfl (sc _ Tryz.func18 rfl (by kernel_rfl) rfl rfl ((pclose_nil _).mono ?_))))))
  rintro e_ w7 ⟨rfl, hb⟩
  refine cR ?_
  replace hbw := bthen hbw hb
  have hz_w7 := hb.size
  clear hb
  refine sm rfl rfl (st (X.ext rfl rfl) rfl (st (X.ext rfl rfl) rfl (salA inf25 rfl (fun g13 w8 hB13 hg13 hb hl13 => ?_))))
  replace hbw := bthen hbw hb
  have hz_w8 := hb.size
  clear hb
  refine ssBN rfl rfl hB13 siz25 rfl (by simp [Value.oneCell']) (fun w9 hB_ hc_ => ?_)
  clear hB13
  replace hbw := bset hbw hc_ (by omega)
  have hz_w9 := hc_.size
  clear hB_ hc_
  refine sa rfl rfl (Wn (tN (W_rs (sm rfl rfl (sm rfl rfl (sc _ Tryz.func24 rfl (by kernel_rfl) rfl rfl ((Of_list s _ (hT.bel hbw).sha (by omega)).mono ?_)))))))
  rintro e_ w10 ⟨rfl, hb⟩
  refine cR ?_
  replace hbw := bthen hbw hb
  have hz_w10 := hb.size
  clear hb
  refine sc _ Tryz.func23 rfl (by kernel_rfl) rfl rfl ((pget_nil _ (sha s)).mono ?_)
  rintro e_ w11 ⟨rfl, hb⟩
  refine cR ?_
  replace hbw := bthen hbw hb
  have hz_w11 := hb.size
  clear hb
  refine sm rfl rfl (st (X.ext rfl rfl) rfl (st (X.ext rfl rfl) rfl (sa rfl rfl (sa rfl rfl (Wn (tN (W_rs (sm rfl rfl (sc _ Tryz.func27 rfl (by kernel_rfl) rfl rfl ((pload_nil _ n).mono ?_))))))))))
  rintro e_ w12 ⟨rfl, hb⟩
  refine cR ?_
  replace hbw := bthen hbw hb
  have hz_w12 := hb.size
  clear hb
  refine sm rfl rfl (st (X.ext rfl rfl) rfl (st (X.ext rfl rfl) rfl (salA inf25 rfl (fun g17 w13 hB17 hg17 hb hl17 => ?_))))
  replace hbw := bthen hbw hb
  have hz_w13 := hb.size
  clear hb
  refine ssBN rfl rfl hB17 siz25 rfl (by simp [Value.oneCell']) (fun w14 hB_ hc_ => ?_)
  replace hB17 := hB_
  replace hbw := bset hbw hc_ (by omega)
  have hz_w14 := hc_.size
  clear hB_ hc_
  refine sa rfl rfl (Wn (tN (W_rs (sm rfl rfl (sc _ Tryz.func28 rfl (by kernel_rfl) rfl rfl ((prebuild_nil _ n).mono ?_))))))
  rintro e_ w15 ⟨rfl, hb⟩
  refine cR ?_
  replace hbw := bthen hbw hb
  replace hB17 := hB17.bel hb
  have hz_w15 := hb.size
  clear hb
  refine sm rfl rfl (st (X.ext rfl rfl) rfl (st (X.ext rfl rfl) rfl (salA inf25 rfl (fun g19 w16 hB19 hg19 hb hl19 => ?_))))
  replace hbw := bthen hbw hb
  replace hB17 := hB17.bel hb
  have hz_w16 := hb.size
  clear hb
  refine ssBN rfl rfl hB19 siz25 rfl (by simp [Value.oneCell']) (fun w17 hB_ hc_ => ?_)
  clear hB19
  replace hB17 := hB17.chg hc_ (by show ¬ g17 = g19; omega)
  replace hbw := bset hbw hc_ (by omega)
  have hz_w17 := hc_.size
  clear hB_ hc_
  refine sa rfl rfl (Wn (tN (W_rs (sm rfl rfl (st (X.wEq rfl) rfl (sbY rfl (rfl) rfl (gY (g := 65) rfl rfl rfl (sm rfl rfl (gY (g := 65) rfl rfl rfl (st (X.kEq rfl) rfl ?_))))))))))
  refine st (X.pickT rfl rfl) rfl (sbY rfl (rfl) rfl (gY (g := 69) rfl rfl rfl (sm rfl rfl (gY (g := 69) rfl rfl rfl (st (X.eql rfl rfl) rfl (st (X.pickT rfl rfl) rfl (sbY rfl (rfl) rfl (gY (g := 73) rfl rfl rfl (sm rfl rfl (gY (g := 73) rfl rfl rfl ?_))))))))))
  refine sm rfl rfl (gY (g := 73) rfl rfl rfl (st (X.eql rfl rfl) rfl (st (X.pickT rfl rfl) rfl (sbY rfl (rfl) rfl (gY (g := 78) rfl rfl rfl (sm rfl rfl (gY (g := 78) rfl rfl rfl (sm rfl rfl (gY (g := 78) rfl rfl rfl (st (X.eql rfl rfl) rfl ?_))))))))))
  refine st (X.pickT rfl rfl) rfl (sbY rfl (rfl) rfl (gY (g := 83) rfl rfl rfl (sm rfl rfl (gY (g := 83) rfl rfl rfl (sm rfl rfl (gY (g := 83) rfl rfl rfl (st (X.eql rfl rfl) rfl (st (X.pickT rfl rfl) rfl (sbY rfl (rfl) rfl (gY (g := 88) rfl rfl rfl ?_))))))))))
  refine sm rfl rfl (gY (g := 88) rfl rfl rfl (sm rfl rfl (gY (g := 88) rfl rfl rfl (st (X.eql rfl rfl) rfl (st (X.pickT rfl rfl) rfl (sbY rfl (rfl) rfl (gY (g := 93) rfl rfl rfl (sm rfl rfl (gY (g := 93) rfl rfl rfl (sm rfl rfl ?_))))))))))
  refine gY (g := 93) rfl rfl rfl (st (X.eql rfl rfl) rfl (st (X.pickT rfl rfl) rfl (sbY rfl (rfl) rfl (gY (g := 98) rfl rfl rfl (sm rfl rfl (gY (g := 98) rfl rfl rfl (sm rfl rfl (gY (g := 98) rfl rfl rfl (st (X.eql rfl rfl) rfl (st (X.pickT rfl rfl) rfl ?_))))))))))
  refine sbY rfl (rfl) rfl (gY (g := 103) rfl rfl rfl (sm rfl rfl (gY (g := 103) rfl rfl rfl (st (X.ldBN rfl hB17 Tryz.underlying25 rfl siz25) rfl (gY (g := 103) rfl rfl rfl (sc _ Tryz.func29 rfl (by kernel_rfl) rfl rfl ((psave_nil _ n none 0 0).mono ?_)))))))
  rintro e_ w18 ⟨rfl, hb⟩
  refine cR ?_
  replace hbw := bthen hbw hb
  replace hB17 := hB17.bel hb
  have hz_w18 := hb.size
  clear hb
  refine gY (g := 103) rfl rfl rfl (sm rfl rfl (gY (g := 103) rfl rfl rfl (st (X.eql rfl rfl) rfl (st (X.pickT rfl rfl) rfl (sbY rfl (rfl) rfl (gY (g := 110) rfl rfl rfl (sm rfl rfl (gY (g := 110) rfl rfl rfl (st (X.eqS rfl rfl) rfl (st (X.pickT rfl rfl) rfl ?_))))))))))
  refine sbY rfl (rfl) rfl (gY (g := 114) rfl rfl rfl (st (X.ldBN rfl hB17 Tryz.underlying25 rfl siz25) rfl (gY (g := 114) rfl rfl rfl (sc _ Tryz.func30 rfl (by kernel_rfl) rfl rfl ((ILen_any (.slice none 0 0) [] _ (EntsAt.nil _)).mono ?_)))))
  rintro e_ w19 ⟨rfl, hb⟩
  refine cR ?_
  replace hbw := bthen hbw hb
  replace hB17 := hB17.bel hb
  have hz_w19 := hb.size
  clear hb
  refine gY (g := 114) rfl rfl rfl (st (X.eql rfl rfl) rfl (st (X.pickT rfl rfl) rfl (sbY rfl (rfl) rfl (gY (g := 119) rfl rfl rfl (sm rfl rfl (gY (g := 119) rfl rfl rfl (sc _ Tryz.func31 rfl (by kernel_rfl) rfl rfl ((wIndex_nil _).mono ?_))))))))
  rintro e_ w20 ⟨rfl, hb⟩
  refine cR ?_
  replace hbw := bthen hbw hb
  replace hB17 := hB17.bel hb
  have hz_w20 := hb.size
  clear hb
  refine gY (g := 119) rfl rfl rfl (sc _ Tryz.func30 rfl (by kernel_rfl) rfl rfl ((ILen_any (.slice none 0 0) [] _ (EntsAt.nil _)).mono ?_))
  rintro e_ w21 ⟨rfl, hb⟩
  refine cR ?_
  replace hbw := bthen hbw hb
  replace hB17 := hB17.bel hb
  have hz_w21 := hb.size
  clear hb
  refine gY (g := 119) rfl rfl rfl (st (X.eql rfl rfl) rfl (st (X.pickT rfl rfl) rfl (sbY rfl (rfl) rfl (gY (g := 125) rfl rfl rfl (sm rfl rfl (gY (g := 125) rfl rfl rfl (sc _ Tryz.func32 rfl (by kernel_rfl) rfl rfl ((kIndex_nil _).mono ?_))))))))
  rintro e_ w22 ⟨rfl, hb⟩
  refine cR ?_
  replace hbw := bthen hbw hb
  replace hB17 := hB17.bel hb
  have hz_w22 := hb.size
  clear hb
  refine gY (g := 125) rfl rfl rfl (sc _ Tryz.func30 rfl (by kernel_rfl) rfl rfl ((ILen_any (.slice none 0 0) [] _ (EntsAt.nil _)).mono ?_))
  rintro e_ w23 ⟨rfl, hb⟩
  refine cR ?_
  replace hbw := bthen hbw hb
  replace hB17 := hB17.bel hb
  have hz_w23 := hb.size
  clear hb
  refine gY (g := 125) rfl rfl rfl (st (X.eql rfl rfl) rfl (st (X.pickT rfl rfl) rfl (sbY rfl (rfl) rfl (gY (g := 131) rfl rfl rfl (sm rfl rfl (gY (g := 131) rfl rfl rfl (sc _ Tryz.func33 rfl (by kernel_rfl) rfl rfl ((kWhole_nil _).mono ?_))))))))
  rintro e_ w24 ⟨rfl, hb⟩
  refine cR ?_
  replace hbw := bthen hbw hb
  replace hB17 := hB17.bel hb
  have hz_w24 := hb.size
  clear hb
  refine gY (g := 131) rfl rfl rfl (st (X.not rfl) rfl (st (X.pickT rfl rfl) rfl (sbY rfl (rfl) rfl (gY (g := 136) rfl rfl rfl (sm rfl rfl (gY (g := 136) rfl rfl rfl (sc _ Tryz.func34 rfl (by kernel_rfl) rfl rfl ((kGood_nil _).mono ?_))))))))
  rintro e_ w25 ⟨rfl, hb⟩
  refine cR ?_
  replace hbw := bthen hbw hb
  replace hB17 := hB17.bel hb
  have hz_w25 := hb.size
  clear hb
  refine gY (g := 136) rfl rfl rfl (st (X.eql rfl rfl) rfl (st (X.pickT rfl rfl) rfl (sbY rfl (rfl) rfl (gY (g := 141) rfl rfl rfl (sc _ Tryz.func9 rfl (by kernel_rfl) rfl rfl ((pawake_any _ ((hT.bel hbw).to hbw.size)).mono ?_))))))
  rintro e_ w26 ⟨rfl, hb⟩
  refine cR ?_
  replace hbw := bthen hbw hb
  replace hB17 := hB17.bel hb
  have hz_w26 := hb.size
  clear hb
  refine st (X.pickT rfl rfl) rfl (sa rfl rfl (Wn (tN (W_ret ?_))))
  exact (rT rfl rfl ⟨rfl, hbw⟩).1
end Go.Proofs.YtnlabkogebnioaaGreatDoor
namespace Go.Proofs.YtnlabkogebnioaaGreatDoor
open Go.ChangeShapes Go.WideShapes Go.ChangeAt Go.RowKit Sha Go.Shelf
def kInts : List Int := [1116352408, 1899447441, 3049323471, 3921009573, 961987163, 1508970993, 2453635748, 2870763221, 3624381080, 310598401, 607225278, 1426881987, 1925078388, 2162078206, 2614888103, 3248222580, 3835390401, 4022224774, 264347078, 604807628, 770255983, 1249150122, 1555081692, 1996064986, 2554220882, 2821834349, 2952996808, 3210313671, 3336571891, 3584528711, 113926993, 338241895, 666307205, 773529912, 1294757372, 1396182291, 1695183700, 1986661051, 2177026350, 2456956037, 2730485921, 2820302411, 3259730800, 3345764771, 3516065817, 3600352804, 4094571909, 275423344, 430227734, 506948616, 659060556, 883997877, 958139571, 1322822218, 1537002063, 1747873779, 1955562222, 2024104815, 2227730452, 2361852424, 2428436474, 2756734187, 3204031479, 3329325298]
def bInts : List Int := [1779033703, 3144134277, 1013904242, 2773480762, 1359893119, 2600822924, 528734635, 1541459225]
def pInts : List Int := [1, 10, 100, 1000, 10000, 100000, 1000000, 10000000, 100000000, 1000000000, 10000000000, 100000000000, 1000000000000, 10000000000000, 100000000000000, 1000000000000000, 10000000000000000, 100000000000000000, 1000000000000000000, 10000000000000000000]
theorem gK : Tryz.prog.globalNamed "armarium/sha.k" = some 1 := by kernel_rfl
theorem gKt : (Tryz.prog.globals[1]?).map (·.type) = some 226 := by kernel_rfl
theorem gB : Tryz.prog.globalNamed "armarium/sha.begin" = some 0 := by kernel_rfl
theorem gBt : (Tryz.prog.globals[0]?).map (·.type) = some 179 := by kernel_rfl
theorem gPt : (Tryz.prog.globals[2]?).map (·.type) = some 286 := by kernel_rfl
theorem tabs_of_laid {W : World} (h : laidMetH Tryz.prog [("math/bits.deBruijn32tab", Rows.laid_math_bits_deBruijn32tab), ("math/bits.deBruijn64tab", Rows.laid_math_bits_deBruijn64tab), ("internal/strconv.uint64pow10", Rows.laid_internal_strconv_uint64pow10), ("unicode/utf8.acceptRanges", Rows.laid_unicode_utf8_acceptRanges), ("armarium/sha.k", Rows.laid_armarium_sha_k), ("armarium/sha.begin", Rows.laid_armarium_sha_begin), ("unicode/utf8.first", Rows.laid_unicode_utf8_first)] W) : PTabs W.heap.size W := by
 have h1 : Lib.TabIs Tryz.prog W "armarium/sha.k" .u32 kInts := Lib.tabIs_of_head (rest := [("armarium/sha.begin", Rows.laid_armarium_sha_begin), ("unicode/utf8.first", Rows.laid_unicode_utf8_first)]) gK gKt Tryz.underlying226 Tryz.underlying145 (by kernel_rfl) (by kernel_rfl) (laidMet.tail (laidMet.tail (laidMet.tail (laidMet.tail h))))
 have h2 : Lib.TabIs Tryz.prog W "armarium/sha.begin" .u32 bInts := Lib.tabIs_of_head (rest := [("unicode/utf8.first", Rows.laid_unicode_utf8_first)]) gB gBt Tryz.underlying179 Tryz.underlying145 (by kernel_rfl) (by kernel_rfl) (laidMet.tail (laidMet.tail (laidMet.tail (laidMet.tail (laidMet.tail h)))))
 have h3 : Lib.TabIs Tryz.prog W "internal/strconv.uint64pow10" .u64 pInts := Lib.tabIs_of_head (rest := [("unicode/utf8.acceptRanges", Rows.laid_unicode_utf8_acceptRanges), ("armarium/sha.k", Rows.laid_armarium_sha_k), ("armarium/sha.begin", Rows.laid_armarium_sha_begin), ("unicode/utf8.first", Rows.laid_unicode_utf8_first)]) gPow gPt Tryz.underlying286 Tryz.underlying165 (by kernel_rfl) (by kernel_rfl) (laidMet.tail (laidMet.tail h))
 have hk : ∀ j, j < 64 → W.cell? ⟨1, j, none⟩ = some (.int .u32 (kTab.getD j 0).toNat) := fun j hj => by
  rw [h1.cell gK j hj]
  have e : ∀ j : Fin 64, kInts.getD j.val 0 = ((kTab.getD j.val 0).toNat : Int) := by decide +kernel
  rw [e ⟨j, hj⟩]
 have hb : ∀ j, W.cell? ⟨0, j, none⟩ = (stCells begin_)[j]? := fun j => by
  have := World.var?_cell gB h2 j
  rw [this]
  rfl
 have hp : PowTab W := by
  have e : pInts = Lib.pow10Tab := by decide +kernel
  rw [e] at h3
  exact h3
 have l1 := World.block_lt_of_cell? W ⟨1, 0, none⟩ (hk 0 (by omega))
 have l2 := World.block_lt_of_cell? W ⟨0, 0, none⟩ ((hb 0).trans rfl)
 have l3 : 2 < W.heap.size := by
  have := h3.cell gPow 0 (by decide)
  exact World.block_lt_of_cell? W ⟨2, 0, none⟩ this
 exact ⟨⟨hk, hb, l1, l2⟩, hp, l1, l2, l3⟩
noncomputable def laidWorld (os : Os) : World := { World.holding Tryz.prog os ⟨#[], #[], []⟩ with heap := ((((((((World.holding Tryz.prog os ⟨#[], #[], []⟩).heap.modify 5 (laying (([0, 1, 28, 2, 29, 14, 24, 3, 30, 22, 20, 15, 25, 17, 4, 8, 31, 27, 13, 23, 21, 19, 16, 7, 26, 12, 18, 6, 11, 5, 10, 9] : List Int).map fun z => Value.int .u8 z).toArray)).modify 6 (laying (([0, 1, 56, 2, 57, 49, 28, 3, 61, 58, 42, 50, 38, 29, 17, 4, 62, 47, 59, 36, 45, 43, 51, 22, 53, 39, 33, 30, 24, 18, 12, 5, 63, 55, 48, 27, 60, 41, 37, 16, 46, 35, 44, 21, 52, 32, 23, 11, 54, 26, 40, 15, 34, 20, 31, 10, 25, 14, 19, 9, 13, 8, 7, 6] : List Int).map fun z => Value.int .u8 z).toArray)).modify 2 (laying (pInts.map fun z => Value.int .u64 z).toArray)).modify 4 (laying ((List.range 16).flatMap fun i => [Value.int .u8 (Lib.accLo i), Value.int .u8 (Lib.accHi i)]).toArray)).modify 1 (laying (kInts.map fun z => Value.int .u32 z).toArray)).modify 0 (laying (bInts.map fun z => Value.int .u32 z).toArray)).modify 3 (laying (Lib.firstTab.map fun z => Value.int .u8 z).toArray)) }
end Go.Proofs.YtnlabkogebnioaaGreatDoor
