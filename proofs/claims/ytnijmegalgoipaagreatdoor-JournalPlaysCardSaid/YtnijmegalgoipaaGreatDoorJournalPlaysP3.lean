/- What JournalPlays needs, part 3. -/
import Derived.Scope
import Derived.Laws.IdiomStrings
import Derived.Test.YtnijmegalgoipaaGreatDoorJournalPlaysP2
namespace Go.Proofs.YtnijmegalgoipaaGreatDoor
open Go.RowKit
section
variable {P : Program} {a : Act} {w : World} {Q : Exit → Act → World → Prop}
def jumpsQ (J : Nat → Act → World → Prop) (Q : Exit → Act → World → Prop) : Exit → Act → World → Prop
  | .goto lb, a, w => J lb a w
  | e, a, w => Q e a w
theorem wp_scope_many {c : Code} (J : Nat → Act → World → Prop) (μ : Nat → Act → World → Nat) (rest : Nat → Code) (hf : ∀ lb a w, J lb a w → findLabel c lb = some (rest lb))
  (first : c.wp P (jumpsQ J Q) a w)
  (pass : ∀ lb a w, J lb a w → (rest lb).wp P (jumpsQ (fun lb' a' w' => J lb' a' w' ∧ μ lb' a' w' < μ lb a w) Q) a w) : (Code.scope c).wp P Q a w := by
 intro b k cs
 have key : ∀ n lb a w, μ lb a w = n → J lb a w → ∃ e a' w', Q e a' w' ∧ Arrives P (lone (b.at a (.code (rest lb) :: .inScope c :: k)) cs w) b k cs e a' w' := by
  intro n
  induction n using Nat.strongRecOn with
  | _ n ih =>
   intro lb a w hn hJ
   obtain ⟨e, a₁, w₁, hq, harr⟩ := pass lb a w hJ b (.inScope c :: k) cs
   cases e with
   | normal => exact ⟨.normal, a₁, w₁, hq, Steps.trans harr (.one step_inScope)⟩
   | exit id => exact ⟨.exit id, a₁, w₁, hq, fun k' hk => harr k' (by simp [exitTo, hk])⟩
   | goto l' =>
    obtain ⟨hJ', hlt⟩ := hq
    have hg : gotoIn l' (.inScope c :: k) = some (.code (rest l') :: .inScope c :: k) := by simp [gotoIn, hf l' _ _ hJ']
    obtain ⟨e₂, a₂, w₂, hq₂, harr₂⟩ := ih _ (by omega) l' a₁ w₁ rfl hJ'
    exact ⟨e₂, a₂, w₂, hq₂, .of_steps (harr _ hg) harr₂⟩
   | ret => exact ⟨_, a₁, w₁, hq, harr⟩
   | panic ch => exact ⟨_, a₁, w₁, hq, harr⟩
   | outgrown => exact ⟨_, a₁, w₁, hq, harr⟩
 obtain ⟨e, a₁, w₁, hq, harr⟩ := first b (.inScope c :: k) cs
 cases e with
 | normal => exact ⟨.normal, a₁, w₁, hq, .head step_scope (Steps.trans harr (.one step_inScope))⟩
 | exit id => exact ⟨.exit id, a₁, w₁, hq, fun k' hk => .head step_scope (harr k' (by simp [exitTo, hk]))⟩
 | goto l' =>
  have hg : gotoIn l' (.inScope c :: k) = some (.code (rest l') :: .inScope c :: k) := by simp [gotoIn, hf l' _ _ hq]
  obtain ⟨e₂, a₂, w₂, hq₂, harr₂⟩ := key _ l' a₁ w₁ rfl hq
  exact ⟨e₂, a₂, w₂, hq₂, .of_steps (.head step_scope (harr _ hg)) harr₂⟩
 | ret => exact ⟨_, a₁, w₁, hq, .of_steps (.one step_scope) harr⟩
 | panic ch => exact ⟨_, a₁, w₁, hq, .of_steps (.one step_scope) harr⟩
 | outgrown => exact ⟨_, a₁, w₁, hq, .of_steps (.one step_scope) harr⟩
end
section
variable {P : Program} {N : Nat} {ds : List Deferred} {Q : Post} {l r : Env} {w : World}
def noJ (Q : Post) : Post
  | .goto _, _, _ => False
  | e, l, w => Q e l w
def scQ (c : Code) (P : Program) (N : Nat) (ds : List Deferred) (lb : Nat) (A : Env → World → Prop) (Q : Post) : Post
  | .goto i, l, w => (i = lb ∧ A l w) ∨ (i ≠ lb ∧ ∃ rest, findLabel c i = some rest ∧ W P N ds (noJ Q) rest l w)
  | e, l, w => Q e l w
theorem scA {c : Code} {lb : Nat} {A : Env → World → Prop} (h : A l w) : scQ c P N ds lb A Q (.goto lb) l w := .inl ⟨rfl, h⟩
theorem scO {c rest : Code} {lb i : Nat} {A : Env → World → Prop} (hi : Nat.beq i lb = false) (hf : findLabel c i = some rest) (h : W P N ds (noJ Q) rest l w) : scQ c P N ds lb A Q (.goto i) l w :=
 .inr ⟨(fun e => by subst e; rw [Nat.beq_refl] at hi; cases hi), rest, hf, h⟩
theorem scR {c : Code} {lb : Nat} {A : Env → World → Prop} (h : Q .ret l w) : scQ c P N ds lb A Q .ret l w := h
theorem njR (h : Q .ret l w) : noJ Q .ret l w := h
theorem W_goto {i : Nat} (h : Q (.goto i) l w) : W P N ds Q (.goto i) l w := fun _ ha => wp_goto ⟨_, ha, h⟩
theorem W_label_s {i : Nat} {y : Code} (h : W P N ds Q y l w) : W P N ds Q (.seq (.label i) y) l w := W_seq (fun _ ha => wp_label ⟨_, ha, h⟩)
theorem W_skip_s {y : Code} (h : W P N ds Q y l w) : W P N ds Q (.seq .skip y) l w := W_seq (fun _ ha => wp_skip ⟨_, ha, h⟩)
theorem W_scope0 {c : Code} (h : W P N ds (noJ Q) c l w) : W P N ds Q (.scope c) l w := fun a ha => wp_scope_straight (Code.wp_mono (fun e a w hh => by
 obtain ⟨l', hr, hh⟩ := hh
 cases e with
 | goto i => exact hh.elim
 | _ => exact ⟨l', hr, hh⟩) (h a ha))
theorem W_mono {Q' : Post} {c : Code} (h : W P N ds Q c l w) (hq : ∀ e l w, Q e l w → Q' e l w) : W P N ds Q' c l w := fun a ha => Code.wp_mono (fun e a w hh => by
 obtain ⟨l', hr, hh⟩ := hh
 exact ⟨l', hr, hq e l' w hh⟩) (h a ha)
theorem W_scope {c rest : Code} (lb : Nat) (I : Nat → Env → World → Prop) (hf : findLabel c lb = some (.seq .skip rest))
  (pass : ∀ n l w, I n l w → W P N ds (scQ c P N ds lb (Again I n) Q) rest l w)
  (first : (∀ n l w, I n l w → W P N ds (scQ c P N ds lb (fun l w => ∃ n r, I n r w ∧ sub r l) Q) rest l w) → W P N ds (scQ c P N ds lb (fun l w => ∃ n r, I n r w ∧ sub r l) Q) c l w) : W P N ds Q (.scope c) l w := by
 intro a ha
 obtain ⟨J, hJ⟩ : ∃ J : Nat → Act → World → Prop, J = fun i a w => (i = lb ∧ ∃ n r, Rep N ds r a ∧ I n r w) ∨ (i ≠ lb ∧ ∃ rest', findLabel c i = some rest' ∧ rest'.wp P (lift N ds (noJ Q)) a w) := ⟨_, rfl⟩
 have hleast : ∀ a w, J lb a w → ∃ n, (∃ r, Rep N ds r a ∧ I n r w) ∧ ∀ m, (∃ r, Rep N ds r a ∧ I m r w) → n ≤ m := fun a w h => by
  rw [hJ] at h
  rcases h with ⟨_, n, r, h1, h2⟩ | ⟨h, _⟩
  ·have key : ∀ n, (∃ r, Rep N ds r a ∧ I n r w) → ∃ k, (∃ r, Rep N ds r a ∧ I k r w) ∧ ∀ m, (∃ r, Rep N ds r a ∧ I m r w) → k ≤ m := by
    intro n
    induction n using Nat.strongRecOn with
    | _ n ih =>
     intro hn
     by_cases hx : ∃ m, m < n ∧ ∃ r, Rep N ds r a ∧ I m r w
     ·obtain ⟨m, hm, hr⟩ := hx
      exact ih m hm hr
     ·exact ⟨n, hn, fun m hr => Nat.le_of_not_lt fun h => hx ⟨m, h, hr⟩⟩
   exact key n ⟨r, h1, h2⟩
  ·exact absurd rfl h
 classical
 refine wp_scope_many J (fun i a w => if h : i = lb ∧ J lb a w then (hleast a w h.2).choose + 1 else 0) (fun i => (findLabel c i).getD .skip) (fun i a w h => ?_) ?_ (fun i a w h => ?_)
 ·rw [hJ] at h
  rcases h with ⟨rfl, _⟩ | ⟨_, rest', h, _⟩
  ·rw [hf]; rfl
  ·rw [h]; rfl
 ·refine Code.wp_mono (fun e a w hq => ?_) (first (fun n l w hI => W_mono (pass n l w hI) (fun e l w hh => by
   cases e with
   | goto i =>
    rcases hh with ⟨h1, m, r, _, h2, h3⟩ | hh
    ·exact .inl ⟨h1, m, r, h2, h3⟩
    ·exact .inr hh
   | _ => exact hh)) a ha)
  obtain ⟨l', hr, hq⟩ := hq
  cases e with
  | goto i =>
   show J i a w
   rw [hJ]
   rcases hq with ⟨h1, n, r, h2, h3⟩ | ⟨h1, rest', h2, h3⟩
   ·exact .inl ⟨h1, n, r, hr.sub h3, h2⟩
   ·exact .inr ⟨h1, rest', h2, h3 a hr⟩
  | _ => exact ⟨l', hr, hq⟩
 ·by_cases hi : i = lb
  ·subst hi
   obtain ⟨n, hn⟩ : ∃ n, n = (hleast a w h).choose := ⟨_, rfl⟩
   have hspec := (hleast a w h).choose_spec
   rw [← hn] at hspec
   obtain ⟨⟨r, hr, hI⟩, hmin⟩ := hspec
   rw [show (findLabel c i).getD .skip = .seq .skip _ by rw [hf]; rfl]
   refine wp_seq (wp_skip (Code.wp_mono (fun e a' w' hq => ?_) (pass n r w hI a hr)))
   obtain ⟨l', hr', hq⟩ := hq
   cases e with
   | goto j =>
    rcases hq with ⟨rfl, m, r', hm, hI', hs⟩ | ⟨h1, rest', h2, h3⟩
    ·have hJ' : J j a' w' := by rw [hJ]; exact .inl ⟨rfl, m, r', hr'.sub hs, hI'⟩
     refine ⟨hJ', ?_⟩
     rw [dif_pos ⟨rfl, hJ'⟩, dif_pos ⟨rfl, h⟩, ← hn]
     have := (hleast a' w' hJ').choose_spec.2 m ⟨r', hr'.sub hs, hI'⟩
     omega
    ·have hJ' : J j a' w' := by rw [hJ]; exact .inr ⟨h1, rest', h2, h3 a' hr'⟩
     refine ⟨hJ', ?_⟩
     rw [dif_neg (fun e => h1 e.1), dif_pos ⟨rfl, h⟩]
     omega
   | _ => exact ⟨l', hr', hq⟩
  ·have h' := h
   rw [hJ] at h'
   rcases h' with ⟨e, _⟩ | ⟨_, rest', h2, h3⟩
   ·exact absurd e hi
   ·rw [show (findLabel c i).getD .skip = rest' by rw [h2]; rfl]
    refine Code.wp_mono (fun e a' w' hq => ?_) h3
    obtain ⟨l', hr', hq⟩ := hq
    cases e with
    | goto j => exact hq.elim
    | _ => exact ⟨l', hr', hq⟩
end
end Go.Proofs.YtnijmegalgoipaaGreatDoor
namespace Go.Proofs.YtnijmegalgoipaaGreatDoor
open Go.RowKit
def leN : List UInt8 → Nat
  | [] => 0
  | b :: l => b.toNat + 256 * leN l
theorem leN_lt : ∀ l : List UInt8, leN l < 2 ^ (8 * l.length)
 | [] => by simp [leN]
 | b :: l => by
  have h1 := leN_lt l
  have h2 := b.toNat_lt
  rw [List.length_cons, show 8 * (l.length + 1) = 8 * l.length + 8 by omega, Nat.pow_add]
  simp only [leN]
  omega
theorem leN_snoc : ∀ (l : List UInt8) (b : UInt8), leN (l ++ [b]) = leN l + b.toNat * 2 ^ (8 * l.length)
 | [], b => by simp [leN]
 | a :: l, b => by
  have h := leN_snoc l b
  simp only [List.cons_append, leN, h, List.length_cons]
  rw [show 8 * (l.length + 1) = 8 * l.length + 8 by omega, Nat.pow_add]
  generalize 2 ^ (8 * l.length) = q
  have h5 : b.toNat * (q * 2 ^ 8) = 256 * (b.toNat * q) := by rw [Nat.mul_comm q (2 ^ 8), Nat.mul_left_comm]
  rw [h5]
  omega
def takeM (s : List UInt8) (at_ : Nat) (e : Int) (n : Nat) : List UInt8 × Nat × Int :=
  if e ≠ 0 then ([], at_, e) else if s.length - at_ < n then ([], at_, 10) else ((s.drop at_).take n, at_ + n, 0)
theorem takeM_len (s : List UInt8) (at_ : Nat) (er : Int) (n : Nat) : (takeM s at_ er n).1.length ≤ n := by
 unfold takeM
 split
 ·simp
 ·split
  ·simp
  ·simp only [List.length_take]
   omega
def uvM : Nat → Nat → List UInt8 → Nat × Nat × Int
  | _, _, [] => (0, 0, 10)
  | i, x, b :: l => if (i = 9 ∧ 1 < b.toNat) ∨ (0 < i ∧ b.toNat = 0) then (0, 0, 12) else if b.toNat < 128 then (x + b.toNat * 2 ^ (7 * i), i + 1, 0) else uvM (i + 1) (x + (b.toNat - 128) * 2 ^ (7 * i)) l
def uvR (s : List UInt8) (at_ : Nat) (e : Int) : Nat × Nat × Int :=
  if e ≠ 0 then (0, at_, e) else if (uvM 0 0 (s.drop at_)).2.2 = 0 then ((uvM 0 0 (s.drop at_)).1, at_ + (uvM 0 0 (s.drop at_)).2.1, 0) else (0, at_, (uvM 0 0 (s.drop at_)).2.2)
def textR (s : List UInt8) (at_ : Nat) (most : Nat) : List UInt8 × Nat × Int :=
  if (uvR s at_ 0).2.2 ≠ 0 then ([], (uvR s at_ 0).2.1, (uvR s at_ 0).2.2) else if most < (uvR s at_ 0).1 then ([], at_, 12) else if s.length - (uvR s at_ 0).2.1 < (uvR s at_ 0).1 then ([], at_, 10) else takeM s (uvR s at_ 0).2.1 0 (uvR s at_ 0).1
theorem uvM_len : ∀ (l : List UInt8) (i x : Nat), (uvM i x l).2.1 ≤ i + l.length
 | [], _, _ => Nat.zero_le _
 | b :: l, i, x => by
  unfold uvM
  split
  ·exact Nat.zero_le _
  ·split
   ·simp only [List.length_cons]; omega
   ·have := uvM_len l (i + 1) (x + (b.toNat - 128) * 2 ^ (7 * i))
    simp only [List.length_cons]
    omega
theorem uvR_at {s : List UInt8} {at_ : Nat} {e : Int} (h : at_ ≤ s.length) : (uvR s at_ e).2.1 ≤ s.length := by
 unfold uvR
 split
 ·exact h
 ·split
  ·have := uvM_len (s.drop at_) 0 0
   rw [List.length_drop] at this
   simp only
   omega
  ·exact h
theorem take1 {s tl : List UInt8} {a ta : Nat} {te : Int} (h : takeM s a 0 1 = (tl, ta, te)) : (te = 10 ∧ s.drop a = [] ∧ ta = a ∧ tl = []) ∨ (te = 0 ∧ ∃ b l, s.drop a = b :: l ∧ tl = [b] ∧ ta = a + 1 ∧ a < s.length) := by
 unfold takeM at h
 rw [if_neg (by simp)] at h
 split at h
 ·rename_i hl
  injection h with h1 h2
  injection h2 with h2 h3
  exact .inl ⟨h3.symm, List.drop_of_length_le (by omega), h2.symm, h1.symm⟩
 ·rename_i hl
  injection h with h1 h2
  injection h2 with h2 h3
  have hlt : a < s.length := by omega
  refine .inr ⟨h3.symm, s[a], s.drop (a + 1), List.drop_eq_getElem_cons hlt, ?_, h2.symm, hlt⟩
  rw [← h1, List.drop_eq_getElem_cons hlt]
  rfl
theorem and127 (b : UInt8) : bits .and .u8 (b.toNat : Int) 127 = ((b.toNat % 128 : Nat) : Int) := by
 have h := and_u8 b 127
 have e : (b &&& 127).toNat = b.toNat % 128 := by
  rw [UInt8.toNat_and]
  exact Nat.and_two_pow_sub_one_eq_mod b.toNat 7
 rw [e] at h
 exact h
theorem sh_bound {i b : Nat} (hi : i ≤ 9) (hb : b < 256) (h : ¬ (i = 9 ∧ 1 < b)) : b % 128 * 2 ^ (7 * i) + 2 ^ (7 * i) ≤ 18446744073709551616 := by
 have : i = 0 ∨ i = 1 ∨ i = 2 ∨ i = 3 ∨ i = 4 ∨ i = 5 ∨ i = 6 ∨ i = 7 ∨ i = 8 ∨ i = 9 := by omega
 rcases this with rfl | rfl | rfl | rfl | rfl | rfl | rfl | rfl | rfl | rfl
 all_goals (simp only [Nat.reduceMul, Nat.reducePow]; omega)
theorem sh_next {x c i : Nat} (hx : x < 2 ^ (7 * i)) (hc : c ≤ 127) : x + c * 2 ^ (7 * i) < 2 ^ (7 * (i + 1)) := by
 rw [show 7 * (i + 1) = 7 * i + 7 by omega, Nat.pow_add]
 have := Nat.mul_le_mul_right (2 ^ (7 * i)) hc
 omega
theorem or_add64 (a b k : Nat) (ha : a < 2 ^ k) (hb : a + b * 2 ^ k < 18446744073709551616) : bits .or .u64 (a : Int) ((b : Int) * ((2 ^ k : Nat) : Int)) = ((a + b * 2 ^ k : Nat) : Int) := by
 have e : (b : Int) * ((2 ^ k : Nat) : Int) = ((b * 2 ^ k : Nat) : Int) := by rw [Int.natCast_mul]
 have h1 : b * 2 ^ k + a = b * 2 ^ k ||| a := by
  have := Nat.shiftLeft_add_eq_or_of_lt (i := k) ha b
  rwa [Nat.shiftLeft_eq] at this
 rw [e]
 show IntKind.u64.wrap ((BitVec.ofInt 64 (a : Int) ||| BitVec.ofInt 64 ((b * 2 ^ k : Nat) : Int)).toNat : Int) = _
 rw [BitVec.ofInt_natCast, BitVec.ofInt_natCast, BitVec.toNat_or, BitVec.toNat_ofNat, BitVec.toNat_ofNat, Nat.mod_eq_of_lt (by omega), Nat.mod_eq_of_lt (by omega), Nat.or_comm, ← h1, Nat.add_comm]
 exact IntWalk.u64_in _ (by omega)
section
variable {P : Program} {N : Nat} {ds : List Deferred} {Q : Post} {l : Env} {w : World} {ops : Array Oper} {rest : List Oper} {x : Operand} {ty src dst e : TypeId} {pos : String} {aft : Array Edge} {d : Nat} {s : List UInt8}
theorem scb (hx : ev l x = some (str s)) (hs : P.underlying src = some .string) (hdd : P.underlying dst = some (.slice e)) (he : P.underlying e = some (.int .u8)) (hl : s.length ≤ 1099511627776) (hd : Nat.blt d N = true)
  (h : ∀ g c w', Reads w' 1 (.slice (some ⟨g, 0, none⟩) s.length c) s.length (s.map bv) → w.heap.size ≤ g → g < w'.heap.size → Below w.heap.size w w' → WL P N ds ops Q rest ((d, .slice (some ⟨g, 0, none⟩) s.length c) :: l) w') :
  WL P N ds ops Q (⟨some d, .convert src dst x, ty, pos, aft, none⟩ :: rest) l w := by
 have hr := run_bytes_of_string (P := P) w src dst e ⟨s.toArray⟩ hs hdd he
 have hz : (⟨s.toArray⟩ : ByteArray).size = s.length := by simp [ByteArray.size]
 rw [hz] at hr
 have hge := grownCap_ge w s.length 0 e
 have hle := grownCap_le_maxLen w s.length 0 e (by simp only [maxLen]; omega)
 obtain ⟨C, hC⟩ : ∃ C, bytesRow ⟨s.toArray⟩ (grownCap w s.length 0 e) = C := ⟨_, rfl⟩
 rw [hC] at hr
 have hb : Below w.heap.size w (w.drew.alloc (.cells C e (C.size, C.size + 1))) := (bdrew (Below.refl _ _)).alloc (Nat.le_refl _) _
 have hR : Reads (w.drew.alloc (.cells C e (C.size, C.size + 1))) 1 (.slice (some ⟨w.heap.size, 0, none⟩) s.length (grownCap w s.length 0 e)) s.length (s.map bv) := by
  refine ⟨by simp, _, _, rfl, hge, hle, fun _ => ⟨w.heap.size, 0, rfl, by simp [World.alloc], fun j u hu => ?_⟩⟩
  have h1 : (w.drew.alloc (.cells C e (C.size, C.size + 1))).heap[w.heap.size]? = some (.cells C e (C.size, C.size + 1)) := by show (w.heap.push _)[w.heap.size]? = _; simp
  simp only [World.cell?, h1, Nat.zero_add]
  rw [← hC]
  unfold bytesRow
  have hj := (List.getElem?_eq_some_iff.1 hu).1
  rw [List.length_map] at hj
  rw [Array.getElem?_append_left (by simpa using hj)]
  simp at hu ⊢
  exact hu
 refine st (fun ρ hρ => ?_) hd (h w.heap.size _ _ hR (Nat.le_refl _) (by simp [World.alloc]) hb)
 unfold execOp
 simp only [hρ _ _ hx, Sem.run_bind, str, hr, Result.andThen_ok, Sem.run_pure]
end
section
variable {l : Env} {x : Operand} {w : World} {t' ty : TypeId} {p : Option Addr}
theorem nilEqNr (w : World) : (binOp .eql 165 (.pointer none) (.pointer none)).run Tryz.prog w = .ok (.bool true) w := by kernel_rfl
theorem nilEqPr (a : Addr) (w : World) : (binOp .eql 165 (.pointer (some a)) (.pointer none)).run Tryz.prog w = .ok (.bool false) w := by kernel_rfl
theorem X.rdEq (hx : ev l x = some (.pointer p)) : X Tryz.prog l (.binOp .eql 165 x (.const (.pointer none)) t') ty w (.bool p.isNone) w :=
 X.bin hx rfl guard_ptr (by cases p with | none => exact nilEqNr w | some a => exact nilEqPr a w)
end
theorem brd (s : List UInt8) (w : World) : (Instr.build 185 #[(0, str s)]).run Tryz.prog w = .ok (.agg #[str s, .int .i64 0, .int .i64 0]) w := by kernel_rfl
theorem Read_rd (s : List UInt8) (w : World) : Calls Tryz.prog 120 #[str s] w fun e w' => ∃ g, e = .returned (.pointer (some ⟨g, 0, none⟩)) ∧ Blk w' g 185 #[str s, .int .i64 0, .int .i64 0] ∧ w.heap.size ≤ g ∧ g < w'.heap.size ∧ Below w.heap.size w w' := by
 refine W_enter (args := [str s]) 6 Tryz.func120 rfl rfl rfl (W_sub [(0, str s)] ?_ ⟨rfl, trivial⟩)
 have hbw := Below.refl w.heap.size w
 refine W_rs (sa rfl rfl (Wn (tN (W_rs (sm rfl rfl (st (X.bld rfl (brd _ _)) rfl (sboxA rfl rfl (fun g5 w1 hB5 hg5 hb hl5 => ?_))))))))
 replace hbw := bthen hbw hb
 have hz_w1 := hb.size
 clear hb
 refine sa rfl rfl (Wn (tN (W_ret ?_)))
 exact (rT rfl rfl ⟨g5, rfl, hB5, hg5, hl5, hbw⟩).1
section
variable (g : Nat) (s : List UInt8) (at_ : Nat) (er : Int) (w : World) (hB : Blk w g 185 #[str s, .int .i64 at_, .int .i64 er])
include hB
theorem Err_any : Calls Tryz.prog 122 #[.pointer (some ⟨g, 0, none⟩)] w fun e w' => e = .returned (.int .i64 er) ∧ w = w' := by
 refine W_enter (args := [.pointer (some ⟨g, 0, none⟩)]) 9 Tryz.func122 rfl rfl rfl (W_sub [(0, .pointer (some ⟨g, 0, none⟩))] ?_ ⟨rfl, trivial⟩)
 refine W_rs (sa rfl rfl (Wn (tN (W_seq (W_rs (sm rfl rfl (st (X.rdEq rfl) rfl (Wn (tN (W_no rfl (rfl) ?_))))))))))
 refine W_skip (tN (W_rs (sm rfl rfl (st (X.nilChk rfl) rfl (st (X.fa fa185_2 rfl) rfl (st (X.ldL rfl hB Tryz.underlying24 rfl rfl) rfl (sa rfl rfl (Wn (tN (W_ret ?_))))))))))
 exact (rT rfl rfl ⟨rfl, rfl⟩).1
theorem At_any : Calls Tryz.prog 124 #[.pointer (some ⟨g, 0, none⟩)] w fun e w' => e = .returned (.int .i64 at_) ∧ w = w' := by
 refine W_enter (args := [.pointer (some ⟨g, 0, none⟩)]) 9 Tryz.func124 rfl rfl rfl (W_sub [(0, .pointer (some ⟨g, 0, none⟩))] ?_ ⟨rfl, trivial⟩)
 refine W_rs (sa rfl rfl (Wn (tN (W_seq (W_rs (sm rfl rfl (st (X.rdEq rfl) rfl (Wn (tN (W_no rfl (rfl) ?_))))))))))
 refine W_skip (tN (W_rs (sm rfl rfl (st (X.nilChk rfl) rfl (st (X.fa fa185_1 rfl) rfl (st (X.ldL rfl hB Tryz.underlying3 rfl rfl) rfl (sa rfl rfl (Wn (tN (W_ret ?_))))))))))
 exact (rT rfl rfl ⟨rfl, rfl⟩).1
theorem fail_any (e2 : Int) (at2 : Nat) : Calls Tryz.prog 143 #[.pointer (some ⟨g, 0, none⟩), .int .i64 e2, .int .i64 at2] w fun e w' => e = .returned (.tuple #[]) ∧ Blk w' g 185 #[str s, .int .i64 at2, .int .i64 e2] ∧ Chg (fun k => k = g) w w' := by
 have hlt := hB.lt
 refine W_enter (args := [.pointer (some ⟨g, 0, none⟩), .int .i64 e2, .int .i64 at2]) 14 Tryz.func143 rfl rfl rfl (W_sub [(0, .pointer (some ⟨g, 0, none⟩)), (1, .int .i64 e2), (2, .int .i64 at2)] ?_ ⟨rfl, rfl, rfl, trivial⟩)
 have hcw := Chg.refl (fun k => k = g) w
 refine W_reg (sm rfl rfl (sm rfl rfl (sm rfl rfl (sm rfl rfl (st (X.nilChk rfl) rfl (st (X.fa fa185_2 rfl) rfl (ssB rfl rfl hB siz24 rfl (by first | decide | simp) (fun w1 hB_ hc_ => ?_))))))))
 replace hB := hB_
 clear hB_
 replace hcw := hcw.next hc_ (fun i_ hi_ => by first | exact .inl hi_ | exact .inl (.inl hi_) | (right; subst hi_; omega) | (left; subst hi_; show _ ≤ _; omega) | (left; subst hi_; assumption))
 have hz_w1 := hc_.size
 clear hc_
 refine st (X.nilChk rfl) rfl (st (X.fa fa185_1 rfl) rfl (ssB rfl rfl hB siz3 rfl (by first | decide | simp) (fun w2 hB_ hc_ => ?_)))
 replace hB := hB_
 clear hB_
 replace hcw := hcw.next hc_ (fun i_ hi_ => by first | exact .inl hi_ | exact .inl (.inl hi_) | (right; subst hi_; omega) | (left; subst hi_; show _ ≤ _; omega) | (left; subst hi_; assumption))
 have hz_w2 := hc_.size
 clear hc_
 refine Wn ?_
 exact (r0 rfl ⟨rfl, hB, hcw⟩).2
theorem Left_any (hs : s.length ≤ 1099511627776) (ha : at_ ≤ s.length) : Calls Tryz.prog 144 #[.pointer (some ⟨g, 0, none⟩)] w fun e w' => e = .returned (.int .i64 (s.length - at_ : Nat)) ∧ Below w.heap.size w w' := by
 refine W_enter (args := [.pointer (some ⟨g, 0, none⟩)]) 15 Tryz.func144 rfl rfl rfl (W_sub [(0, .pointer (some ⟨g, 0, none⟩))] ?_ ⟨rfl, trivial⟩)
 have hbw := Below.refl w.heap.size w
 refine W_rs (sa rfl rfl (Wn (tN (W_seq (W_rs (sm rfl rfl (st (X.rdEq rfl) rfl (Wn (tN (W_no rfl (rfl) ?_))))))))))
 refine W_skip (tN (W_drsN (fun W_ => Blk W_ g 185 #[str s, .int .i64 at_, .int .i64 er]) [0, 1, 2, 3, 4, 5, 6, 7, 8, 9, 10] [true, true, true, true, true, true, true, true, true, true, true] (by kernel_rfl) (by kernel_rfl) (hB.drew) ?_))
 obtain ⟨w1, hw_⟩ : ∃ w1 : World, w1 = World.drew w := ⟨_, rfl⟩
 rw [← hw_]
 have hb : Below w.heap.size w w1 := by rw [hw_]; exact bdrew (Below.refl _ _)
 clear hw_
 have hS := hb
 replace hbw := bthen hbw hb
 replace hB := hB.bel hb
 have hz_w1 := hb.size
 clear hb
 refine oY rfl (fun W_ hW_ => (X.move rfl)) rfl (oY rfl (fun W_ hW_ => (X.nilChk rfl)) rfl (oY rfl (fun W_ hW_ => (X.fa fa185_0 rfl)) rfl (oY rfl (fun W_ hW_ => (X.ldL rfl hW_ Tryz.underlying9 rfl rfl)) rfl (oY rfl (fun W_ hW_ => (X.lenS rfl rfl Tryz.underlying9)) rfl (oY rfl (fun W_ hW_ => (X.move rfl)) rfl (oY rfl (fun W_ hW_ => (X.nilChk rfl)) rfl (oY rfl (fun W_ hW_ => (X.fa fa185_1 rfl)) rfl (oY rfl (fun W_ hW_ => (X.ldL rfl hW_ Tryz.underlying3 rfl rfl)) rfl (oY rfl (fun W_ hW_ => (X.sub64 rfl rfl (by omega))) rfl (oY rfl (fun W_ hW_ => (X.assign rfl)) rfl ?_))))))))))
 refine oN (nN (W_ret ((rT rfl rfl ⟨?_, hbw⟩).1)))
 rw [Int.ofNat_sub ha]
theorem take_any (n : Nat) (hs : s.length ≤ 1099511627776) (ha : at_ ≤ s.length) (hn : n ≤ 1099511627776) : Calls Tryz.prog 145 #[.pointer (some ⟨g, 0, none⟩), .int .i64 n] w fun e w' =>
  e = .returned (str (takeM s at_ er n).1) ∧ Blk w' g 185 #[str s, .int .i64 (takeM s at_ er n).2.1, .int .i64 (takeM s at_ er n).2.2] ∧ Chg (fun k => k = g) w w' := by
 have hlt := hB.lt
 unfold takeM
 by_cases he : er ≠ 0
 ·simp only [if_pos he]
  refine W_enter (args := [.pointer (some ⟨g, 0, none⟩), .int .i64 n]) 56 Tryz.func145 rfl rfl rfl (W_sub [(0, .pointer (some ⟨g, 0, none⟩)), (1, .int .i64 n)] ?_ ⟨rfl, rfl, trivial⟩)
  have hcw := Chg.refl (fun k => k = g) w
  refine W_rs (sa rfl rfl (Wn (tN (W_seq (W_block (W_rs (sm rfl rfl (st (X.rdEq rfl) rfl (sbN rfl (rfl) rfl (gY (g := 9) rfl rfl rfl ?_))))))))))
  refine sm rfl rfl (gY (g := 9) rfl rfl rfl (st (X.nilChk rfl) rfl (gY (g := 9) rfl rfl rfl (st (X.fa fa185_2 rfl) rfl (gY (g := 9) rfl rfl rfl (st (X.ldL rfl hB Tryz.underlying24 rfl rfl) rfl (gY (g := 9) rfl rfl rfl (st (X.neq rfl rfl) rfl (st (X.pickF rfl rfl) rfl (sa rfl rfl ?_))))))))))
  refine Wn (tN (W_yes rfl (decide_eq_true he) (W_rs (sa rfl rfl (Wn (tN (W_ret (bR (tR ?_)))))))))
  exact (rT rfl rfl ⟨rfl, hB, hcw⟩).1
 simp only [if_neg he]
 obtain rfl : er = 0 := Classical.byContradiction he
 by_cases hsh : s.length - at_ < n
 ·simp only [if_pos hsh]
  refine W_enter (args := [.pointer (some ⟨g, 0, none⟩), .int .i64 n]) 56 Tryz.func145 rfl rfl rfl (W_sub [(0, .pointer (some ⟨g, 0, none⟩)), (1, .int .i64 n)] ?_ ⟨rfl, rfl, trivial⟩)
  have hcw := Chg.refl (fun k => k = g) w
  refine W_rs (sa rfl rfl (Wn (tN (W_seq (W_block (W_rs (sm rfl rfl (st (X.rdEq rfl) rfl (sbN rfl (rfl) rfl (gY (g := 9) rfl rfl rfl ?_))))))))))
  refine sm rfl rfl (gY (g := 9) rfl rfl rfl (st (X.nilChk rfl) rfl (gY (g := 9) rfl rfl rfl (st (X.fa fa185_2 rfl) rfl (gY (g := 9) rfl rfl rfl (st (X.ldL rfl hB Tryz.underlying24 rfl rfl) rfl (gY (g := 9) rfl rfl rfl (st (X.neq rfl rfl) rfl (st (X.pickF rfl rfl) rfl (sa rfl rfl ?_))))))))))
  refine Wn (tN (W_no rfl (rfl) (W_drsN (fun W_ => Blk W_ g 185 #[str s, .int .i64 at_, .int .i64 0]) [0, 1, 2, 3, 4, 5, 6, 7, 8, 9, 10, 11, 12] [true, true, true, true, true, true, true, true, true, true, true, true, true] (by kernel_rfl) (by kernel_rfl) (hB.drew) ?_)))
  obtain ⟨w1, hw_⟩ : ∃ w1 : World, w1 = World.drew w := ⟨_, rfl⟩
  rw [← hw_]
  have hb : Below w.heap.size w w1 := by rw [hw_]; exact bdrew (Below.refl _ _)
  clear hw_
  have hS := hb
  replace hcw := hcw.then_below hb
  replace hB := hB.bel hb
  have hz_w1 := hb.size
  clear hb
  refine oY rfl (fun W_ hW_ => (X.move rfl)) rfl (oY rfl (fun W_ hW_ => (X.move rfl)) rfl (oY rfl (fun W_ hW_ => (X.nilChk rfl)) rfl (oY rfl (fun W_ hW_ => (X.fa fa185_0 rfl)) rfl (oY rfl (fun W_ hW_ => (X.ldL rfl hW_ Tryz.underlying9 rfl rfl)) rfl (oY rfl (fun W_ hW_ => (X.lenS rfl rfl Tryz.underlying9)) rfl (oY rfl (fun W_ hW_ => (X.move rfl)) rfl (oY rfl (fun W_ hW_ => (X.nilChk rfl)) rfl (oY rfl (fun W_ hW_ => (X.fa fa185_1 rfl)) rfl (oY rfl (fun W_ hW_ => (X.ldL rfl hW_ Tryz.underlying3 rfl rfl)) rfl (oY rfl (fun W_ hW_ => (X.sub64 rfl rfl (by omega))) rfl ?_))))))))))
  refine oY rfl (fun W_ hW_ => (X.gtr rfl rfl)) rfl (oY rfl (fun W_ hW_ => (X.assign rfl)) rfl (oN (nN (W_yes rfl (decide_eq_true (by omega)) (W_rs (sm rfl rfl (st (X.nilChk rfl) rfl (st (X.fa fa185_2 rfl) rfl (ssB rfl rfl hB siz24 rfl (by first | decide | simp) (fun w2 hB_ hc_ => ?_))))))))))
  replace hB := hB_
  clear hB_
  replace hcw := hcw.next hc_ (fun i_ hi_ => by first | exact .inl hi_ | exact .inl (.inl hi_) | (right; subst hi_; omega) | (left; subst hi_; show _ ≤ _; omega) | (left; subst hi_; assumption))
  have hz_w2 := hc_.size
  clear hc_
  refine Wn (tN (W_rs (sa rfl rfl (Wn (tN (W_ret (bR (tR ?_))))))))
  exact (rT rfl rfl ⟨rfl, hB, hcw⟩).1
 simp only [if_neg hsh]
 refine W_enter (args := [.pointer (some ⟨g, 0, none⟩), .int .i64 n]) 56 Tryz.func145 rfl rfl rfl (W_sub [(0, .pointer (some ⟨g, 0, none⟩)), (1, .int .i64 n)] ?_ ⟨rfl, rfl, trivial⟩)
 have hcw := Chg.refl (fun k => k = g) w
 refine W_rs (sa rfl rfl (Wn (tN (W_seq (W_block (W_rs (sm rfl rfl (st (X.rdEq rfl) rfl (sbN rfl (rfl) rfl (gY (g := 9) rfl rfl rfl ?_))))))))))
 refine sm rfl rfl (gY (g := 9) rfl rfl rfl (st (X.nilChk rfl) rfl (gY (g := 9) rfl rfl rfl (st (X.fa fa185_2 rfl) rfl (gY (g := 9) rfl rfl rfl (st (X.ldL rfl hB Tryz.underlying24 rfl rfl) rfl (gY (g := 9) rfl rfl rfl (st (X.neq rfl rfl) rfl (st (X.pickF rfl rfl) rfl (sa rfl rfl ?_))))))))))
 refine Wn (tN (W_no rfl (rfl) (W_drsN (fun W_ => Blk W_ g 185 #[str s, .int .i64 at_, .int .i64 0]) [0, 1, 2, 3, 4, 5, 6, 7, 8, 9, 10, 11, 12] [true, true, true, true, true, true, true, true, true, true, true, true, true] (by kernel_rfl) (by kernel_rfl) (hB.drew) ?_)))
 obtain ⟨w1, hw_⟩ : ∃ w1 : World, w1 = World.drew w := ⟨_, rfl⟩
 rw [← hw_]
 have hb : Below w.heap.size w w1 := by rw [hw_]; exact bdrew (Below.refl _ _)
 clear hw_
 have hS := hb
 replace hcw := hcw.then_below hb
 replace hB := hB.bel hb
 have hz_w1 := hb.size
 clear hb
 refine oY rfl (fun W_ hW_ => (X.move rfl)) rfl (oY rfl (fun W_ hW_ => (X.move rfl)) rfl (oY rfl (fun W_ hW_ => (X.nilChk rfl)) rfl (oY rfl (fun W_ hW_ => (X.fa fa185_0 rfl)) rfl (oY rfl (fun W_ hW_ => (X.ldL rfl hW_ Tryz.underlying9 rfl rfl)) rfl (oY rfl (fun W_ hW_ => (X.lenS rfl rfl Tryz.underlying9)) rfl (oY rfl (fun W_ hW_ => (X.move rfl)) rfl (oY rfl (fun W_ hW_ => (X.nilChk rfl)) rfl (oY rfl (fun W_ hW_ => (X.fa fa185_1 rfl)) rfl (oY rfl (fun W_ hW_ => (X.ldL rfl hW_ Tryz.underlying3 rfl rfl)) rfl (oY rfl (fun W_ hW_ => (X.sub64 rfl rfl (by omega))) rfl ?_))))))))))
 refine oY rfl (fun W_ hW_ => (X.gtr rfl rfl)) rfl (oY rfl (fun W_ hW_ => (X.assign rfl)) rfl (oN (nN (W_no rfl (decide_eq_false (by omega)) (W_skip (bN (tN (W_drsN (fun W_ => Blk W_ g 185 #[str s, .int .i64 at_, .int .i64 0]) [0, 1, 2, 3, 4, 5, 6, 7, 8, 9, 10, 11, 12, 13, 14, 15] [true, true, true, true, true, true, true, true, true, true, true, true, true, true, true, true] (by kernel_rfl) (by kernel_rfl) (hB.drew) ?_))))))))
 obtain ⟨w2, hw_⟩ : ∃ w2 : World, w2 = World.drew w1 := ⟨_, rfl⟩
 rw [← hw_]
 have hb : Below w1.heap.size w1 w2 := by rw [hw_]; exact bdrew (Below.refl _ _)
 clear hw_
 have hS := hb
 replace hcw := hcw.then_below hb
 replace hB := hB.bel hb
 have hz_w2 := hb.size
 clear hb
 refine oY rfl (fun W_ hW_ => (X.move rfl)) rfl (oY rfl (fun W_ hW_ => (X.nilChk rfl)) rfl (oY rfl (fun W_ hW_ => (X.fa fa185_0 rfl)) rfl (oY rfl (fun W_ hW_ => (X.ldL rfl hW_ Tryz.underlying9 rfl rfl)) rfl (oY rfl (fun W_ hW_ => (X.move rfl)) rfl (oY rfl (fun W_ hW_ => (X.nilChk rfl)) rfl (oY rfl (fun W_ hW_ => (X.fa fa185_1 rfl)) rfl (oY rfl (fun W_ hW_ => (X.ldL rfl hW_ Tryz.underlying3 rfl rfl)) rfl (oY rfl (fun W_ hW_ => (X.move rfl)) rfl (oY rfl (fun W_ hW_ => (X.nilChk rfl)) rfl (oY rfl (fun W_ hW_ => (X.fa fa185_1 rfl)) rfl ?_))))))))))
 refine oY rfl (fun W_ hW_ => (X.ldL rfl hW_ Tryz.underlying3 rfl rfl)) rfl (oY rfl (fun W_ hW_ => (X.move rfl)) rfl (oY rfl (fun W_ hW_ => (X.add64 rfl rfl (by omega))) rfl (oY rfl (fun W_ hW_ => (X.cutS (s := s) (i := at_) (j := at_ + n) rfl rfl rfl Tryz.underlying9 rfl (by omega) (by omega) (by omega))) rfl (oY rfl (fun W_ hW_ => (X.assign rfl)) rfl (oN (nN (W_rs (sm rfl rfl (st (X.nilChk rfl) rfl (st (X.fa fa185_1 rfl) rfl ?_))))))))))
 refine st (X.ldL rfl hB Tryz.underlying3 rfl rfl) rfl (sm rfl rfl (st (X.add64 rfl rfl (by omega)) rfl (st (X.nilChk rfl) rfl (st (X.fa fa185_1 rfl) rfl (ssB rfl rfl hB siz3 rfl (by first | decide | simp) (fun w3 hB_ hc_ => ?_))))))
 replace hB := hB_
 clear hB_
 replace hcw := hcw.next hc_ (fun i_ hi_ => by first | exact .inl hi_ | exact .inl (.inl hi_) | (right; subst hi_; omega) | (left; subst hi_; show _ ≤ _; omega) | (left; subst hi_; assumption))
 have hz_w3 := hc_.size
 clear hc_
 refine Wn (tN (W_rs (sm rfl rfl (sa rfl rfl (Wn (tN (W_ret ((rT rfl rfl ⟨?_, hB, hcw⟩).1))))))))
 rw [List.drop_take, Nat.add_sub_cancel_left]
theorem fixed_any (n : Nat) (hs : s.length ≤ 1099511627776) (ha : at_ ≤ s.length) (hn : n ≤ 8) : Calls Tryz.prog 141 #[.pointer (some ⟨g, 0, none⟩), .int .i64 n] w fun e w' =>
  e = .returned (.int .u64 (leN (takeM s at_ er n).1 : Nat)) ∧ Blk w' g 185 #[str s, .int .i64 (takeM s at_ er n).2.1, .int .i64 (takeM s at_ er n).2.2] ∧ Chg (fun k => k = g) w w' := by
 have hlt := hB.lt
 have htl : (takeM s at_ er n).1.length ≤ n := by
  unfold takeM
  split
  ·simp
  ·split
   ·simp
   ·simp only [List.length_take]
    omega
 have hT := take_any g s at_ er w hB n hs ha (by omega)
 obtain ⟨t, ht⟩ : ∃ t, takeM s at_ er n = t := ⟨_, rfl⟩
 obtain ⟨tl, ta, te⟩ := t
 rw [ht] at hT htl ⊢
 replace htl : tl.length ≤ n := htl
 refine W_enter (args := [.pointer (some ⟨g, 0, none⟩), .int .i64 n]) 28 Tryz.func141 rfl rfl rfl (W_sub [(0, .pointer (some ⟨g, 0, none⟩)), (1, .int .i64 n)] ?_ ⟨rfl, rfl, trivial⟩)
 have hcw := Chg.refl (fun k => k = g) w
 refine W_rs (sa rfl rfl (Wn (tN (W_rs (sa rfl rfl (Wn (tN (W_seq (W_rs (sm rfl rfl ?_))))))))))
 refine sm rfl rfl (sc _ Tryz.func145 rfl (by kernel_rfl) rfl rfl (hT.mono ?_))
 rintro e_ w1 ⟨rfl, hB1, hX⟩
 refine cR ?_
 have hn1 := hcw.next hX (fun i hi => .inl hi)
 clear hcw
 have hcw := hn1
 refine scb (s := tl) rfl Tryz.underlying9 Tryz.underlying94 Tryz.underlying5 (by omega) rfl (fun gv cv w2 hR hgv hgl hb => ?_)
 have hn1 := hcw.then_below hb
 have hn2 := hB1.bel hb
 have hzz := hb.size
 clear hcw hB1 hb
 have hcw := hn1
 have hB1 := hn2
 clear hn1 hn2
 refine st (X.lenL rfl rfl Tryz.underlying94) rfl (sm rfl rfl (Wn (tN (W_block (W_lp (fun nw3_ lw3_ w3 => ∃ i : Nat, nw3_ = tl.length - i ∧ lw3_ = ([(0, .pointer (some ⟨g, 0, none⟩)), (5, .int .u64 (leN (tl.take i) : Nat)), (11, .slice (some ⟨gv, 0, none⟩) tl.length cv), (12, .int .i64 tl.length), (13, .int .i64 i)] : Env) ∧ (i ≤ tl.length) ∧ (Chg (fun k => k = g) w w3) ∧ (Blk w3 g 185 #[str s, .int .i64 ta, .int .i64 te]) ∧ (Reads w3 1 (.slice (some ⟨gv, 0, none⟩) tl.length cv) tl.length (tl.map bv))) _ ⟨_, ⟨0, rfl, rfl, Nat.zero_le _, hcw, hB1, hR⟩, ⟨rfl, rfl, rfl, rfl, rfl, trivial⟩⟩ ?_)))))
 clear hcw hB1 hR
 rintro nw3_ lw3_ w3 ⟨i, rfl, rfl, hi, hcw, hB1, hR⟩
 refine W_rs (st (X.lss rfl rfl) rfl (Wn (tN (W_seq (W_if rfl (fun h14 => ?_) (fun h14 => ?_))))))
 ·first | replace h14 := of_decide_eq_true h14 | replace h14 := of_decide_eq_false (notT h14) | replace h14 := notT h14 | skip
  obtain ⟨x, hx⟩ : ∃ x, tl[i]? = some x := ⟨_, List.getElem?_eq_getElem (by omega)⟩
  have hux : (tl.map bv)[i]? = some (bv x) := by rw [List.getElem?_map, hx]; rfl
  have hx8 := x.toNat_lt
  have hnx : leN (tl.take (i + 1)) = leN (tl.take i) + x.toNat * 2 ^ (8 * i) := by
   rw [take_next' hx, leN_snoc, List.length_take, Nat.min_eq_left hi]
  have hlt1 := leN_lt (tl.take i)
  have hlt2 := leN_lt (tl.take (i + 1))
  rw [List.length_take, Nat.min_eq_left hi] at hlt1
  rw [List.length_take, Nat.min_eq_left (by omega), hnx] at hlt2
  have hpw : 2 ^ (8 * (i + 1)) ≤ 2 ^ 64 := Nat.pow_le_pow_right (by omega) (by omega)
  have hbd : leN (tl.take i) + x.toNat * 2 ^ (8 * i) < 18446744073709551616 := Nat.lt_of_lt_of_le hlt2 hpw
  have hmul : (x.toNat : Int) * ((2 ^ (8 * i) : Nat) : Int) = ((x.toNat * 2 ^ (8 * i) : Nat) : Int) := by rw [Int.natCast_mul]
  refine W_skip (tN (W_seq (W_block (W_rs (sm rfl rfl (st (X.idxA rfl rfl Tryz.underlying94 siz5 rfl (by omega)) rfl (st (X.ld rfl Tryz.underlying5 rfl (by rw [Nat.mul_one]; exact hR.cellAt (by omega) hux)) rfl ?_)))))))
  refine sa rfl rfl (sa rfl rfl (Wn (tN (W_reg (sm rfl rfl (sm rfl rfl (st (X.convI (m := (x.toNat : Int)) rfl Tryz.underlying5 Tryz.underlying157 (IntWalk.u64_in _ (by omega))) rfl (sm rfl rfl (st (X.mul64 rfl rfl (by omega)) rfl (st (X.convI (m := 8 * (i : Int)) (z := 8 * (i : Int)) rfl Tryz.underlying3 Tryz.underlying152 (IntWalk.u64_in _ (by omega))) rfl ?_))))))))))
  refine st (X.shl (s := 8 * i) (q := ((2 ^ (8 * i) : Nat) : Int)) (z := (x.toNat : Int) * ((2 ^ (8 * i) : Nat) : Int)) rfl rfl (by omega) (by show 8 * (i : Int) ≤ 64; omega) (by omega) (by simp) (by rw [hmul]; exact IntWalk.u64_in _ (by omega))) rfl ?_
  refine st (X.bits (by simp) rfl rfl (or_add64 _ _ _ hlt1 hbd)) rfl ?_
  refine sa rfl rfl (Wn (bN (tN (W_reg (st (X.add64 rfl rfl (by omega)) rfl (sm rfl rfl (Wn (tN ⟨_, _, ?_, ⟨i + 1, rfl, rfl, by omega, hcw, hB1, hR⟩, ⟨rfl, by rw [hnx]; rfl, rfl, rfl, rfl, trivial⟩⟩))))))))
  omega
 ·first | replace h14 := of_decide_eq_false h14 | replace h14 := of_decide_eq_true (notF h14) | replace h14 := notF h14 | skip
  obtain rfl : i = tl.length := by omega
  refine W_exit (tE (tE (bH (tN (W_rs (sm rfl rfl (sa rfl rfl (Wn (tN (W_ret ?_))))))))))
  rw [List.take_length]
  exact (rT rfl rfl ⟨rfl, hB1, hcw⟩).1
theorem U8_any (hs : s.length ≤ 1099511627776) (ha : at_ ≤ s.length) : Calls Tryz.prog 121 #[.pointer (some ⟨g, 0, none⟩)] w fun e w' =>
  e = .returned (.int .u8 ((takeM s at_ er 1).1.headD 0).toNat) ∧ Blk w' g 185 #[str s, .int .i64 (takeM s at_ er 1).2.1, .int .i64 (takeM s at_ er 1).2.2] ∧ Chg (fun k => k = g) w w' := by
 have hv : IntKind.u8.wrap ((leN (takeM s at_ er 1).1 : Nat) : Int) = ((takeM s at_ er 1).1.headD 0).toNat := by
  have h1 := takeM_len s at_ er 1
  generalize (takeM s at_ er 1).1 = t at h1 ⊢
  match t, h1 with
  | [], _ => rfl
  | [b], _ =>
   have := b.toNat_lt
   show IntKind.u8.wrap ((b.toNat + 256 * 0 : Nat) : Int) = (b.toNat : Int)
   rw [show b.toNat + 256 * 0 = b.toNat by omega]
   exact IntWalk.u8_in _ (by omega)
 have hT := fixed_any g s at_ er w hB 1 hs ha (by omega)
 refine W_enter (args := [.pointer (some ⟨g, 0, none⟩)]) 6 Tryz.func121 rfl rfl rfl (W_sub [(0, .pointer (some ⟨g, 0, none⟩))] ?_ ⟨rfl, trivial⟩)
 refine W_rs (sa rfl rfl (Wn (tN (W_rs (sm rfl rfl (sc _ Tryz.func141 rfl (by kernel_rfl) rfl rfl (hT.mono ?_)))))))
 rintro e_ w1 ⟨rfl, hB1, hX⟩
 refine cR (st (X.convI rfl Tryz.underlying157 Tryz.underlying5 hv) rfl (sa rfl rfl (Wn (tN (W_ret ?_)))))
 exact (rT rfl rfl ⟨rfl, hB1, hX⟩).1
theorem U32_any (hs : s.length ≤ 1099511627776) (ha : at_ ≤ s.length) : Calls Tryz.prog 125 #[.pointer (some ⟨g, 0, none⟩)] w fun e w' =>
  e = .returned (.int .u32 (leN (takeM s at_ er 4).1 : Nat)) ∧ Blk w' g 185 #[str s, .int .i64 (takeM s at_ er 4).2.1, .int .i64 (takeM s at_ er 4).2.2] ∧ Chg (fun k => k = g) w w' := by
 have hv : IntKind.u32.wrap ((leN (takeM s at_ er 4).1 : Nat) : Int) = (leN (takeM s at_ er 4).1 : Nat) := by
  have h1 := takeM_len s at_ er 4
  have h2 := leN_lt (takeM s at_ er 4).1
  have h3 : 2 ^ (8 * (takeM s at_ er 4).1.length) ≤ 2 ^ 32 := Nat.pow_le_pow_right (by omega) (by omega)
  exact IntWalk.u32_in _ (by omega)
 have hT := fixed_any g s at_ er w hB 4 hs ha (by omega)
 refine W_enter (args := [.pointer (some ⟨g, 0, none⟩)]) 6 Tryz.func125 rfl rfl rfl (W_sub [(0, .pointer (some ⟨g, 0, none⟩))] ?_ ⟨rfl, trivial⟩)
 refine W_rs (sa rfl rfl (Wn (tN (W_rs (sm rfl rfl (sc _ Tryz.func141 rfl (by kernel_rfl) rfl rfl (hT.mono ?_)))))))
 rintro e_ w1 ⟨rfl, hB1, hX⟩
 refine cR (st (X.convI rfl Tryz.underlying157 Tryz.underlying118 hv) rfl (sa rfl rfl (Wn (tN (W_ret ?_)))))
 exact (rT rfl rfl ⟨rfl, hB1, hX⟩).1
set_option maxRecDepth 10000 in
theorem Uvar_any (hs : s.length ≤ 1099511627776) (ha : at_ ≤ s.length) : Calls Tryz.prog 142 #[.pointer (some ⟨g, 0, none⟩)] w fun e w' =>
  e = .returned (.int .u64 (uvR s at_ er).1) ∧ Blk w' g 185 #[str s, .int .i64 (uvR s at_ er).2.1, .int .i64 (uvR s at_ er).2.2] ∧ Chg (fun k => k = g) w w' := by
 have hlt := hB.lt
 unfold uvR
 by_cases he : er ≠ 0
 ·simp only [if_pos he]
  refine W_enter (args := [.pointer (some ⟨g, 0, none⟩)]) 67 Tryz.func142 rfl rfl rfl (W_sub [(0, .pointer (some ⟨g, 0, none⟩))] ?_ ⟨rfl, trivial⟩)
  have hcw := Chg.refl (fun k => k = g) w
  refine W_rs (sa rfl rfl (Wn (tN (W_scope0 (W_seq (W_rs (sm rfl rfl (st (X.rdEq rfl) rfl (sbN rfl (rfl) rfl (gY (g := 9) rfl rfl rfl ?_))))))))))
  refine sm rfl rfl (gY (g := 9) rfl rfl rfl (st (X.nilChk rfl) rfl (gY (g := 9) rfl rfl rfl (st (X.fa fa185_2 rfl) rfl (gY (g := 9) rfl rfl rfl (st (X.ldL rfl hB Tryz.underlying24 rfl rfl) rfl (gY (g := 9) rfl rfl rfl (st (X.neq rfl rfl) rfl (st (X.pickF rfl rfl) rfl (Wn ?_))))))))))
  refine tN (W_yes rfl (decide_eq_true he) (W_rs (sa rfl rfl (Wn (tN (W_ret (tR (njR ?_))))))))
  exact (rT rfl rfl ⟨rfl, hB, hcw⟩).1
 simp only [if_neg he]
 obtain rfl : er = 0 := Classical.byContradiction he
 refine W_enter (args := [.pointer (some ⟨g, 0, none⟩)]) 67 Tryz.func142 rfl rfl rfl (W_sub [(0, .pointer (some ⟨g, 0, none⟩))] ?_ ⟨rfl, trivial⟩)
 have hcw := Chg.refl (fun k => k = g) w
 refine W_rs (sa rfl rfl (Wn (tN (W_scope 0 (fun nw1_ lw1_ w1 => ∃ i : Nat, ∃ x : Nat, nw1_ = 10 - i ∧ lw1_ = ([(0, .pointer (some ⟨g, 0, none⟩)), (3, .int .u64 x), (4, .int .i64 at_), (5, .int .i64 i)] : Env) ∧ (i ≤ 9) ∧ (x < 2 ^ (7 * i)) ∧ (uvM 0 0 (s.drop at_) = uvM i x (s.drop (at_ + i))) ∧ (Chg (fun k => k = g) w w1) ∧ (Blk w1 g 185 #[str s, .int .i64 (at_ + i : Nat), .int .i64 0]) ∧ (at_ + i ≤ s.length)) rfl ?_ ?_))))
 ·clear hcw hB
  rintro nw1_ lw1_ w1 ⟨i, x, rfl, rfl, hi, hx, heq, hcw, hB, hai⟩
  have hlt_hB_w1 := hB.lt
  refine W_rs (sm rfl rfl (sc _ Tryz.func121 rfl (by kernel_rfl) rfl rfl ((U8_any g s (at_ + i) 0 _ hB hs hai).mono ?_)))
  rintro e_ w2 ⟨rfl, hB1, hX⟩
  refine cR ?_
  have hn1 := hcw.next hX (fun k hk => .inl hk)
  obtain ⟨tk, htk⟩ : ∃ tk, takeM s (at_ + i) 0 1 = tk := ⟨_, rfl⟩
  rw [htk] at hB1
  rw [htk]
  obtain ⟨bb, hbb⟩ : ∃ bb, tk.1.headD 0 = bb := ⟨_, rfl⟩
  rw [hbb]
  obtain ⟨tl, ta, te⟩ := tk
  clear hcw hB
  have hcw := hn1
  have hB : Blk w2 g 185 #[str s, .int .i64 ta, .int .i64 te] := hB1
  clear hB1 hn1
  have ht1 := take1 htk
  refine sa rfl rfl (Wn (tN (W_seq (W_block (W_rs (sm rfl rfl (st (X.nilChk rfl) rfl (st (X.fa fa185_2 rfl) rfl (st (X.ldL rfl hB Tryz.underlying24 rfl rfl) rfl (st (X.neq rfl rfl) rfl ?_))))))))))
  refine sa rfl rfl (Wn (tN (W_if rfl (fun h22 => ?_) (fun h22 => ?_))))
  ·first | replace h22 := of_decide_eq_true h22 | replace h22 := of_decide_eq_false (notT h22) | replace h22 := notT h22 | skip
   obtain ⟨rfl, hdr, rfl, rfl⟩ := ht1.resolve_right (fun e => h22 e.1)
   have hres : uvM 0 0 (s.drop at_) = (0, 0, 10) := by rw [heq, hdr]; rfl
   rw [hres]
   refine W_goto (bG (tG (scO rfl rfl (W_skip_s (W_rs (sm rfl rfl (sm rfl rfl (st (X.nilChk rfl) rfl (st (X.fa fa185_2 rfl) rfl (st (X.ldL rfl hB Tryz.underlying24 rfl rfl) rfl (sm rfl rfl (sc _ Tryz.func143 rfl (by kernel_rfl) rfl rfl ((fail_any g s _ _ _ hB 10 at_).mono ?_)))))))))))))
   rintro e_ w3 ⟨rfl, hB1, hX⟩
   refine cR ?_
   have hn1 := hcw.next hX (fun k hk => .inl hk)
   clear hcw hB
   have hcw := hn1
   have hB := hB1
   refine Wn (tN (W_seq (W_rs (sa rfl rfl (Wn (tN (W_ret (tR (njR ?_)))))))))
   exact (rT rfl rfl ⟨rfl, hB, hcw⟩).1
  ·first | replace h22 := of_decide_eq_false h22 | replace h22 := of_decide_eq_true (notF h22) | replace h22 := notF h22 | skip
   obtain ⟨rfl, b, l', hdr, rfl, rfl, hlt2⟩ := ht1.resolve_left (fun e => by rw [e.1] at h22; exact absurd h22 (by decide))
   have hb8 := b.toNat_lt
   replace hbb : b = bb := hbb
   subst hbb
   refine W_rs (sm rfl rfl (st (X.eql rfl rfl) rfl (sb rfl rfl (fun h31 => ?_) (fun h31 => ?_))))
   ·first | replace h31 := of_decide_eq_true h31 | replace h31 := of_decide_eq_false (notT h31) | replace h31 := notT h31 | skip
    refine gY (g := 31) rfl rfl rfl (sm rfl rfl (gY (g := 31) rfl rfl rfl (st (X.gtr rfl rfl) rfl (st (X.pickT rfl rfl) rfl (sb rfl rfl (fun h35 => ?_) (fun h35 => ?_))))))
    ·first | replace h35 := of_decide_eq_true h35 | replace h35 := of_decide_eq_false (notT h35) | replace h35 := notT h35 | skip
     refine gN (g := 35) rfl rfl rfl rfl (gN (g := 35) rfl rfl rfl rfl (gN (g := 35) rfl rfl rfl rfl (gU (g := 38) rfl rfl rfl rfl (gU (g := 38) rfl rfl rfl rfl (gN (g := 35) rfl rfl rfl rfl (st (X.pickT rfl rfl) rfl (sa rfl rfl (Wn (tN (W_yes rfl (rfl) ?_))))))))))
     refine W_goto (bG (tG (scO rfl rfl (W_skip_s (W_rs (sm rfl rfl (sm rfl rfl ?_)))))))
     have hres : uvM 0 0 (s.drop at_) = (0, 0, 12) := by
      rw [heq, hdr]
      unfold uvM
      rw [if_pos (by omega)]
     rw [hres]
     refine sc _ Tryz.func143 rfl (by kernel_rfl) rfl rfl ((fail_any g s _ _ _ hB 12 at_).mono ?_)
     rintro e_ w4 ⟨rfl, hB1, hX⟩
     refine cR ?_
     have hn1 := hcw.next hX (fun k hk => .inl hk)
     clear hcw hB
     have hcw := hn1
     have hB := hB1
     refine Wn (tN (W_rs (sa rfl rfl (Wn (tN (W_ret (njR ?_)))))))
     exact (rT rfl rfl ⟨rfl, hB, hcw⟩).1
    ·first | replace h35 := of_decide_eq_false h35 | replace h35 := of_decide_eq_true (notF h35) | replace h35 := notF h35 | skip
     refine gY (g := 35) rfl rfl rfl (sm rfl rfl (gY (g := 35) rfl rfl rfl (st (X.gtr rfl rfl) rfl (gY (g := 35) rfl rfl rfl (sb rfl rfl (fun h38 => ?_) (fun h38 => ?_))))))
     ·first | replace h38 := of_decide_eq_true h38 | replace h38 := of_decide_eq_false (notT h38) | replace h38 := notT h38 | skip
      refine gY (g := 38) rfl rfl rfl (sm rfl rfl (gY (g := 38) rfl rfl rfl (st (X.eql rfl rfl) rfl (gY (g := 35) rfl rfl rfl (st (X.pickT rfl rfl) rfl (st (X.pickF rfl rfl) rfl (sa rfl rfl (Wn (tN (W_if rfl (fun h28 => ?_) (fun h28 => ?_)))))))))))
      ·first | replace h28 := of_decide_eq_true h28 | replace h28 := of_decide_eq_false (notT h28) | replace h28 := notT h28 | skip
       refine W_goto (bG (tG (scO rfl rfl (W_skip_s (W_rs (sm rfl rfl (sm rfl rfl ?_)))))))
       have hres : uvM 0 0 (s.drop at_) = (0, 0, 12) := by
        rw [heq, hdr]
        unfold uvM
        rw [if_pos (by omega)]
       rw [hres]
       refine sc _ Tryz.func143 rfl (by kernel_rfl) rfl rfl ((fail_any g s _ _ _ hB 12 at_).mono ?_)
       rintro e_ w5 ⟨rfl, hB1, hX⟩
       refine cR ?_
       have hn1 := hcw.next hX (fun k hk => .inl hk)
       clear hcw hB
       have hcw := hn1
       have hB := hB1
       refine Wn (tN (W_rs (sa rfl rfl (Wn (tN (W_ret (njR ?_)))))))
       exact (rT rfl rfl ⟨rfl, hB, hcw⟩).1
      ·first | replace h28 := of_decide_eq_false h28 | replace h28 := of_decide_eq_true (notF h28) | replace h28 := notF h28 | skip
       refine W_skip (bN (tN (W_rs ?_)))
       have hno : ¬ ((i = 9 ∧ 1 < b.toNat) ∨ (0 < i ∧ b.toNat = 0)) := by omega
       have hmul : ((b.toNat % 128 : Nat) : Int) * ((2 ^ (7 * i) : Nat) : Int) = ((b.toNat % 128 * 2 ^ (7 * i) : Nat) : Int) := by rw [Int.natCast_mul]
       have hsh : b.toNat % 128 * 2 ^ (7 * i) + 2 ^ (7 * i) ≤ 18446744073709551616 := sh_bound hi (by omega) (by omega)
       refine sm rfl rfl (sm rfl rfl (st (X.bits (z := ((b.toNat % 128 : Nat) : Int)) (by simp) rfl rfl (and127 b)) rfl ?_))
       refine st (X.convI (m := ((b.toNat % 128 : Nat) : Int)) (z := ((b.toNat % 128 : Nat) : Int)) rfl Tryz.underlying5 Tryz.underlying157 (IntWalk.u64_in _ (by omega))) rfl (sm rfl rfl (st (X.mul64 rfl rfl (by omega)) rfl (st (X.convI (m := 7 * (i : Int)) (z := 7 * (i : Int)) rfl Tryz.underlying3 Tryz.underlying152 (IntWalk.u64_in _ (by omega))) rfl (st (X.shl (s := 7 * i) (q := ((2 ^ (7 * i) : Nat) : Int)) (z := ((b.toNat % 128 : Nat) : Int) * ((2 ^ (7 * i) : Nat) : Int)) rfl rfl (by omega) (by show 7 * (i : Int) ≤ 64; omega) (by omega) (by simp) (by rw [hmul]; exact IntWalk.u64_in _ (by omega))) rfl ?_))))
       refine st (X.bits (by simp) rfl rfl (or_add64 _ _ _ hx (by omega))) rfl ?_
       refine sa rfl rfl (Wn (tN (W_seq (W_rs (sm rfl rfl (st (X.geq rfl rfl) rfl (Wn (tN (W_if rfl (fun h53 => ?_) (fun h53 => ?_))))))))))
       ·first | replace h53 := of_decide_eq_true h53 | replace h53 := of_decide_eq_false (notT h53) | replace h53 := notT h53 | skip
        have hxn : x + (b.toNat - 128) * 2 ^ (7 * i) < 2 ^ (7 * (i + 1)) := sh_next hx (by omega)
        have heqn : uvM 0 0 (s.drop at_) = uvM (i + 1) (x + (b.toNat - 128) * 2 ^ (7 * i)) (s.drop (at_ + (i + 1))) := by
         rw [heq, hdr]
         have hd2 : s.drop (at_ + (i + 1)) = l' := by rw [← Nat.add_assoc, ← List.drop_drop, hdr]; rfl
         rw [hd2]
         conv => lhs; unfold uvM
         rw [if_neg hno, if_neg (by omega)]
        have hBn : Blk w2 g 185 #[str s, .int .i64 (at_ + (i + 1) : Nat), .int .i64 0] := hB
        refine W_rs (sm rfl rfl (st (X.add64 rfl rfl (by omega)) rfl (sa rfl rfl (Wn (tN (W_goto (tG (scA ⟨_, _, ?_, ⟨i + 1, x + (b.toNat - 128) * 2 ^ (7 * i), rfl, rfl, by omega, hxn, heqn, hcw, hBn, by omega⟩, ⟨rfl, by rw [show b.toNat % 128 = b.toNat - 128 by omega]; rfl, rfl, rfl, trivial⟩⟩))))))))
        omega
       ·first | replace h53 := of_decide_eq_false h53 | replace h53 := of_decide_eq_true (notF h53) | replace h53 := notF h53 | skip
        have hres : uvM 0 0 (s.drop at_) = (x + b.toNat * 2 ^ (7 * i), i + 1, 0) := by
         rw [heq, hdr]
         unfold uvM
         rw [if_neg hno, if_pos (by omega)]
        rw [hres]
        have hbm : b.toNat % 128 = b.toNat := by omega
        refine W_skip (tN (W_seq (W_rs (sm rfl rfl (sa rfl rfl (Wn (tN (W_ret (tR (scR ?_))))))))))
        rw [hbm]
        exact (rT rfl rfl ⟨rfl, hB, hcw⟩).1
     ·first | replace h38 := of_decide_eq_false h38 | replace h38 := of_decide_eq_true (notF h38) | replace h38 := notF h38 | skip
      refine gN (g := 38) rfl rfl rfl rfl (gN (g := 38) rfl rfl rfl rfl (gY (g := 35) rfl rfl rfl (st (X.pickF rfl rfl) rfl (st (X.pickF rfl rfl) rfl (sa rfl rfl (Wn (tN (W_no rfl (rfl) (W_skip (bN ?_))))))))))
      refine tN (W_rs ?_)
      have hno : ¬ ((i = 9 ∧ 1 < b.toNat) ∨ (0 < i ∧ b.toNat = 0)) := by omega
      have hmul : ((b.toNat % 128 : Nat) : Int) * ((2 ^ (7 * i) : Nat) : Int) = ((b.toNat % 128 * 2 ^ (7 * i) : Nat) : Int) := by rw [Int.natCast_mul]
      have hsh : b.toNat % 128 * 2 ^ (7 * i) + 2 ^ (7 * i) ≤ 18446744073709551616 := sh_bound hi (by omega) (by omega)
      refine sm rfl rfl (sm rfl rfl (st (X.bits (z := ((b.toNat % 128 : Nat) : Int)) (by simp) rfl rfl (and127 b)) rfl ?_))
      refine st (X.convI (m := ((b.toNat % 128 : Nat) : Int)) (z := ((b.toNat % 128 : Nat) : Int)) rfl Tryz.underlying5 Tryz.underlying157 (IntWalk.u64_in _ (by omega))) rfl (sm rfl rfl (st (X.mul64 rfl rfl (by omega)) rfl (st (X.convI (m := 7 * (i : Int)) (z := 7 * (i : Int)) rfl Tryz.underlying3 Tryz.underlying152 (IntWalk.u64_in _ (by omega))) rfl (st (X.shl (s := 7 * i) (q := ((2 ^ (7 * i) : Nat) : Int)) (z := ((b.toNat % 128 : Nat) : Int) * ((2 ^ (7 * i) : Nat) : Int)) rfl rfl (by omega) (by show 7 * (i : Int) ≤ 64; omega) (by omega) (by simp) (by rw [hmul]; exact IntWalk.u64_in _ (by omega))) rfl ?_))))
      refine st (X.bits (by simp) rfl rfl (or_add64 _ _ _ hx (by omega))) rfl ?_
      refine sa rfl rfl (Wn (tN (W_seq (W_rs (sm rfl rfl (st (X.geq rfl rfl) rfl (Wn (tN (W_if rfl (fun h53 => ?_) (fun h53 => ?_))))))))))
      ·first | replace h53 := of_decide_eq_true h53 | replace h53 := of_decide_eq_false (notT h53) | replace h53 := notT h53 | skip
       have hxn : x + (b.toNat - 128) * 2 ^ (7 * i) < 2 ^ (7 * (i + 1)) := sh_next hx (by omega)
       have heqn : uvM 0 0 (s.drop at_) = uvM (i + 1) (x + (b.toNat - 128) * 2 ^ (7 * i)) (s.drop (at_ + (i + 1))) := by
        rw [heq, hdr]
        have hd2 : s.drop (at_ + (i + 1)) = l' := by rw [← Nat.add_assoc, ← List.drop_drop, hdr]; rfl
        rw [hd2]
        conv => lhs; unfold uvM
        rw [if_neg hno, if_neg (by omega)]
       have hBn : Blk w2 g 185 #[str s, .int .i64 (at_ + (i + 1) : Nat), .int .i64 0] := hB
       refine W_rs (sm rfl rfl (st (X.add64 rfl rfl (by omega)) rfl (sa rfl rfl (Wn (tN (W_goto (tG (scA ⟨_, _, ?_, ⟨i + 1, x + (b.toNat - 128) * 2 ^ (7 * i), rfl, rfl, by omega, hxn, heqn, hcw, hBn, by omega⟩, ⟨rfl, by rw [show b.toNat % 128 = b.toNat - 128 by omega]; rfl, rfl, rfl, trivial⟩⟩))))))))
       omega
      ·first | replace h53 := of_decide_eq_false h53 | replace h53 := of_decide_eq_true (notF h53) | replace h53 := notF h53 | skip
       have hres : uvM 0 0 (s.drop at_) = (x + b.toNat * 2 ^ (7 * i), i + 1, 0) := by
        rw [heq, hdr]
        unfold uvM
        rw [if_neg hno, if_pos (by omega)]
       rw [hres]
       have hbm : b.toNat % 128 = b.toNat := by omega
       refine W_skip (tN (W_seq (W_rs (sm rfl rfl (sa rfl rfl (Wn (tN (W_ret (tR (scR ?_))))))))))
       rw [hbm]
       exact (rT rfl rfl ⟨rfl, hB, hcw⟩).1
   ·first | replace h31 := of_decide_eq_false h31 | replace h31 := of_decide_eq_true (notF h31) | replace h31 := notF h31 | skip
    refine gN (g := 31) rfl rfl rfl rfl (gN (g := 31) rfl rfl rfl rfl (st (X.pickF rfl rfl) rfl (sm rfl rfl (gY (g := 35) rfl rfl rfl (sm rfl rfl (gY (g := 35) rfl rfl rfl (st (X.gtr rfl rfl) rfl (gY (g := 35) rfl rfl rfl (sb rfl rfl (fun h38 => ?_) (fun h38 => ?_))))))))))
    ·first | replace h38 := of_decide_eq_true h38 | replace h38 := of_decide_eq_false (notT h38) | replace h38 := notT h38 | skip
     refine gY (g := 38) rfl rfl rfl (sm rfl rfl (gY (g := 38) rfl rfl rfl (st (X.eql rfl rfl) rfl (gY (g := 35) rfl rfl rfl (st (X.pickT rfl rfl) rfl (st (X.pickF rfl rfl) rfl (sa rfl rfl (Wn (tN (W_if rfl (fun h28 => ?_) (fun h28 => ?_)))))))))))
     ·first | replace h28 := of_decide_eq_true h28 | replace h28 := of_decide_eq_false (notT h28) | replace h28 := notT h28 | skip
      refine W_goto (bG (tG (scO rfl rfl (W_skip_s (W_rs (sm rfl rfl (sm rfl rfl ?_)))))))
      have hres : uvM 0 0 (s.drop at_) = (0, 0, 12) := by
       rw [heq, hdr]
       unfold uvM
       rw [if_pos (by omega)]
      rw [hres]
      refine sc _ Tryz.func143 rfl (by kernel_rfl) rfl rfl ((fail_any g s _ _ _ hB 12 at_).mono ?_)
      rintro e_ w6 ⟨rfl, hB1, hX⟩
      refine cR ?_
      have hn1 := hcw.next hX (fun k hk => .inl hk)
      clear hcw hB
      have hcw := hn1
      have hB := hB1
      refine Wn (tN (W_rs (sa rfl rfl (Wn (tN (W_ret (njR ?_)))))))
      exact (rT rfl rfl ⟨rfl, hB, hcw⟩).1
     ·first | replace h28 := of_decide_eq_false h28 | replace h28 := of_decide_eq_true (notF h28) | replace h28 := notF h28 | skip
      refine W_skip (bN (tN (W_rs ?_)))
      have hno : ¬ ((i = 9 ∧ 1 < b.toNat) ∨ (0 < i ∧ b.toNat = 0)) := by omega
      have hmul : ((b.toNat % 128 : Nat) : Int) * ((2 ^ (7 * i) : Nat) : Int) = ((b.toNat % 128 * 2 ^ (7 * i) : Nat) : Int) := by rw [Int.natCast_mul]
      have hsh : b.toNat % 128 * 2 ^ (7 * i) + 2 ^ (7 * i) ≤ 18446744073709551616 := sh_bound hi (by omega) (by omega)
      refine sm rfl rfl (sm rfl rfl (st (X.bits (z := ((b.toNat % 128 : Nat) : Int)) (by simp) rfl rfl (and127 b)) rfl ?_))
      refine st (X.convI (m := ((b.toNat % 128 : Nat) : Int)) (z := ((b.toNat % 128 : Nat) : Int)) rfl Tryz.underlying5 Tryz.underlying157 (IntWalk.u64_in _ (by omega))) rfl (sm rfl rfl (st (X.mul64 rfl rfl (by omega)) rfl (st (X.convI (m := 7 * (i : Int)) (z := 7 * (i : Int)) rfl Tryz.underlying3 Tryz.underlying152 (IntWalk.u64_in _ (by omega))) rfl (st (X.shl (s := 7 * i) (q := ((2 ^ (7 * i) : Nat) : Int)) (z := ((b.toNat % 128 : Nat) : Int) * ((2 ^ (7 * i) : Nat) : Int)) rfl rfl (by omega) (by show 7 * (i : Int) ≤ 64; omega) (by omega) (by simp) (by rw [hmul]; exact IntWalk.u64_in _ (by omega))) rfl ?_))))
      refine st (X.bits (by simp) rfl rfl (or_add64 _ _ _ hx (by omega))) rfl ?_
      refine sa rfl rfl (Wn (tN (W_seq (W_rs (sm rfl rfl (st (X.geq rfl rfl) rfl (Wn (tN (W_if rfl (fun h53 => ?_) (fun h53 => ?_))))))))))
      ·first | replace h53 := of_decide_eq_true h53 | replace h53 := of_decide_eq_false (notT h53) | replace h53 := notT h53 | skip
       have hxn : x + (b.toNat - 128) * 2 ^ (7 * i) < 2 ^ (7 * (i + 1)) := sh_next hx (by omega)
       have heqn : uvM 0 0 (s.drop at_) = uvM (i + 1) (x + (b.toNat - 128) * 2 ^ (7 * i)) (s.drop (at_ + (i + 1))) := by
        rw [heq, hdr]
        have hd2 : s.drop (at_ + (i + 1)) = l' := by rw [← Nat.add_assoc, ← List.drop_drop, hdr]; rfl
        rw [hd2]
        conv => lhs; unfold uvM
        rw [if_neg hno, if_neg (by omega)]
       have hBn : Blk w2 g 185 #[str s, .int .i64 (at_ + (i + 1) : Nat), .int .i64 0] := hB
       refine W_rs (sm rfl rfl (st (X.add64 rfl rfl (by omega)) rfl (sa rfl rfl (Wn (tN (W_goto (tG (scA ⟨_, _, ?_, ⟨i + 1, x + (b.toNat - 128) * 2 ^ (7 * i), rfl, rfl, by omega, hxn, heqn, hcw, hBn, by omega⟩, ⟨rfl, by rw [show b.toNat % 128 = b.toNat - 128 by omega]; rfl, rfl, rfl, trivial⟩⟩))))))))
       omega
      ·first | replace h53 := of_decide_eq_false h53 | replace h53 := of_decide_eq_true (notF h53) | replace h53 := notF h53 | skip
       have hres : uvM 0 0 (s.drop at_) = (x + b.toNat * 2 ^ (7 * i), i + 1, 0) := by
        rw [heq, hdr]
        unfold uvM
        rw [if_neg hno, if_pos (by omega)]
       rw [hres]
       have hbm : b.toNat % 128 = b.toNat := by omega
       refine W_skip (tN (W_seq (W_rs (sm rfl rfl (sa rfl rfl (Wn (tN (W_ret (tR (scR ?_))))))))))
       rw [hbm]
       exact (rT rfl rfl ⟨rfl, hB, hcw⟩).1
    ·first | replace h38 := of_decide_eq_false h38 | replace h38 := of_decide_eq_true (notF h38) | replace h38 := notF h38 | skip
     refine gN (g := 38) rfl rfl rfl rfl (gN (g := 38) rfl rfl rfl rfl (gY (g := 35) rfl rfl rfl (st (X.pickF rfl rfl) rfl (st (X.pickF rfl rfl) rfl (sa rfl rfl (Wn (tN (W_no rfl (rfl) (W_skip (bN ?_))))))))))
     refine tN (W_rs ?_)
     have hno : ¬ ((i = 9 ∧ 1 < b.toNat) ∨ (0 < i ∧ b.toNat = 0)) := by omega
     have hmul : ((b.toNat % 128 : Nat) : Int) * ((2 ^ (7 * i) : Nat) : Int) = ((b.toNat % 128 * 2 ^ (7 * i) : Nat) : Int) := by rw [Int.natCast_mul]
     have hsh : b.toNat % 128 * 2 ^ (7 * i) + 2 ^ (7 * i) ≤ 18446744073709551616 := sh_bound hi (by omega) (by omega)
     refine sm rfl rfl (sm rfl rfl (st (X.bits (z := ((b.toNat % 128 : Nat) : Int)) (by simp) rfl rfl (and127 b)) rfl ?_))
     refine st (X.convI (m := ((b.toNat % 128 : Nat) : Int)) (z := ((b.toNat % 128 : Nat) : Int)) rfl Tryz.underlying5 Tryz.underlying157 (IntWalk.u64_in _ (by omega))) rfl (sm rfl rfl (st (X.mul64 rfl rfl (by omega)) rfl (st (X.convI (m := 7 * (i : Int)) (z := 7 * (i : Int)) rfl Tryz.underlying3 Tryz.underlying152 (IntWalk.u64_in _ (by omega))) rfl (st (X.shl (s := 7 * i) (q := ((2 ^ (7 * i) : Nat) : Int)) (z := ((b.toNat % 128 : Nat) : Int) * ((2 ^ (7 * i) : Nat) : Int)) rfl rfl (by omega) (by show 7 * (i : Int) ≤ 64; omega) (by omega) (by simp) (by rw [hmul]; exact IntWalk.u64_in _ (by omega))) rfl ?_))))
     refine st (X.bits (by simp) rfl rfl (or_add64 _ _ _ hx (by omega))) rfl ?_
     refine sa rfl rfl (Wn (tN (W_seq (W_rs (sm rfl rfl (st (X.geq rfl rfl) rfl (Wn (tN (W_if rfl (fun h53 => ?_) (fun h53 => ?_))))))))))
     ·first | replace h53 := of_decide_eq_true h53 | replace h53 := of_decide_eq_false (notT h53) | replace h53 := notT h53 | skip
      have hxn : x + (b.toNat - 128) * 2 ^ (7 * i) < 2 ^ (7 * (i + 1)) := sh_next hx (by omega)
      have heqn : uvM 0 0 (s.drop at_) = uvM (i + 1) (x + (b.toNat - 128) * 2 ^ (7 * i)) (s.drop (at_ + (i + 1))) := by
       rw [heq, hdr]
       have hd2 : s.drop (at_ + (i + 1)) = l' := by rw [← Nat.add_assoc, ← List.drop_drop, hdr]; rfl
       rw [hd2]
       conv => lhs; unfold uvM
       rw [if_neg hno, if_neg (by omega)]
      have hBn : Blk w2 g 185 #[str s, .int .i64 (at_ + (i + 1) : Nat), .int .i64 0] := hB
      refine W_rs (sm rfl rfl (st (X.add64 rfl rfl (by omega)) rfl (sa rfl rfl (Wn (tN (W_goto (tG (scA ⟨_, _, ?_, ⟨i + 1, x + (b.toNat - 128) * 2 ^ (7 * i), rfl, rfl, by omega, hxn, heqn, hcw, hBn, by omega⟩, ⟨rfl, by rw [show b.toNat % 128 = b.toNat - 128 by omega]; rfl, rfl, rfl, trivial⟩⟩))))))))
      omega
     ·first | replace h53 := of_decide_eq_false h53 | replace h53 := of_decide_eq_true (notF h53) | replace h53 := notF h53 | skip
      have hres : uvM 0 0 (s.drop at_) = (x + b.toNat * 2 ^ (7 * i), i + 1, 0) := by
       rw [heq, hdr]
       unfold uvM
       rw [if_neg hno, if_pos (by omega)]
      rw [hres]
      have hbm : b.toNat % 128 = b.toNat := by omega
      refine W_skip (tN (W_seq (W_rs (sm rfl rfl (sa rfl rfl (Wn (tN (W_ret (tR (scR ?_))))))))))
      rw [hbm]
      exact (rT rfl rfl ⟨rfl, hB, hcw⟩).1
 ·intro hpass_
  refine W_seq (W_rs (sm rfl rfl (st (X.rdEq rfl) rfl (sbN rfl (rfl) rfl (gY (g := 9) rfl rfl rfl (sm rfl rfl (gY (g := 9) rfl rfl rfl (st (X.nilChk rfl) rfl (gY (g := 9) rfl rfl rfl (st (X.fa fa185_2 rfl) rfl ?_))))))))))
  refine gY (g := 9) rfl rfl rfl (st (X.ldL rfl hB Tryz.underlying24 rfl rfl) rfl (gY (g := 9) rfl rfl rfl (st (X.neq rfl rfl) rfl (st (X.pickF rfl rfl) rfl (Wn (tN (W_no rfl (rfl) (W_skip (tN (W_rs ?_))))))))))
  refine sa rfl rfl (Wn (tN (W_rs (sm rfl rfl (st (X.nilChk rfl) rfl (st (X.fa fa185_1 rfl) rfl (st (X.ldL rfl hB Tryz.underlying3 rfl rfl) rfl (sa rfl rfl (sa rfl rfl (Wn ?_))))))))))
  refine tN (W_label_s (W_sub _ (hpass_ _ _ _ ⟨0, 0, rfl, rfl, by omega, by simp, rfl, hcw, hB, ha⟩) ⟨rfl, rfl, rfl, rfl, trivial⟩))
omit hB in
theorem Text_any (most : Nat) (hm : most ≤ 1099511627776) (hB : Blk w g 185 #[str s, .int .i64 at_, .int .i64 0]) (hs : s.length ≤ 1099511627776) (ha : at_ ≤ s.length) : Calls Tryz.prog 123 #[.pointer (some ⟨g, 0, none⟩), .int .i64 most] w fun e w' =>
  e = .returned (str (textR s at_ most).1) ∧ Blk w' g 185 #[str s, .int .i64 (textR s at_ most).2.1, .int .i64 (textR s at_ most).2.2] ∧ Chg (fun k => k = g) w w' := by
 have hlt := hB.lt
 have hU := Uvar_any g s at_ 0 w hB hs ha
 have hua := uvR_at (e := 0) ha
 unfold textR
 obtain ⟨u, hu⟩ : ∃ u, uvR s at_ 0 = u := ⟨_, rfl⟩
 rw [hu] at hU hua ⊢
 obtain ⟨n, a1, e1⟩ := u
 replace hua : a1 ≤ s.length := hua
 simp only
 refine W_enter (args := [.pointer (some ⟨g, 0, none⟩), .int .i64 most]) 40 Tryz.func123 rfl rfl rfl (W_sub [(0, .pointer (some ⟨g, 0, none⟩)), (1, .int .i64 most)] ?_ ⟨rfl, rfl, trivial⟩)
 have hcw := Chg.refl (fun k => k = g) w
 refine W_rs (sa rfl rfl (Wn (tN (W_rs (sm rfl rfl (sc _ Tryz.func124 rfl (by kernel_rfl) rfl rfl ((At_any g s at_ 0 _ hB).mono ?_)))))))
 rintro e_ w_ ⟨rfl, rfl⟩
 refine cR (sa rfl rfl (Wn (tN (W_rs (sm rfl rfl (sc _ Tryz.func142 rfl (by kernel_rfl) rfl rfl (hU.mono ?_)))))))
 rintro e_ w1 ⟨rfl, hB1, hX⟩
 refine cR ?_
 have hn1 := hcw.next hX (fun k hk => .inl hk)
 clear hcw hB
 have hcw := hn1
 have hB : Blk w1 g 185 #[str s, .int .i64 a1, .int .i64 e1] := hB1
 clear hB1 hn1
 refine sa rfl rfl (Wn (tN (W_seq (W_block (W_rs (sm rfl rfl (sc _ Tryz.func122 rfl (by kernel_rfl) rfl rfl ((Err_any g s a1 e1 _ hB).mono ?_))))))))
 rintro e_ w_ ⟨rfl, rfl⟩
 refine cR (st (X.neq rfl rfl) rfl (sa rfl rfl (Wn (tN (W_if rfl (fun h11 => ?_) (fun h11 => ?_))))))
 ·first | replace h11 := of_decide_eq_true h11 | replace h11 := of_decide_eq_false (notT h11) | replace h11 := notT h11 | skip
  rw [if_pos h11]
  refine W_rs (sa rfl rfl (Wn (tN (W_ret (bR (tR ?_))))))
  exact (rT rfl rfl ⟨rfl, hB, hcw⟩).1
 ·first | replace h11 := of_decide_eq_false h11 | replace h11 := of_decide_eq_true (notF h11) | replace h11 := notF h11 | skip
  rw [if_neg h11]
  obtain rfl : e1 = 0 := Classical.byContradiction h11
  refine W_rs (sm rfl rfl (st (X.lss rfl rfl) rfl (sbN rfl (decide_eq_false (by omega)) rfl (gY (g := 18) rfl rfl rfl (sm rfl rfl (gY (g := 18) rfl rfl rfl (sm rfl rfl (gY (g := 18) rfl rfl rfl (st (X.convI (m := (most : Int)) (z := (most : Int)) rfl Tryz.underlying3 Tryz.underlying157 (IntWalk.u64_in _ (by omega))) rfl (gY (g := 18) rfl rfl rfl ?_))))))))))
  refine st (X.gtr rfl rfl) rfl (st (X.pickF rfl rfl) rfl (sa rfl rfl (Wn (tN (W_if rfl (fun h15 => ?_) (fun h15 => ?_))))))
  ·first | replace h15 := of_decide_eq_true h15 | replace h15 := of_decide_eq_false (notT h15) | replace h15 := notT h15 | skip
   rw [if_pos (by have : (most : Int) < (n : Int) := h15; omega)]
   refine W_rs (sm rfl rfl (sm rfl rfl (sc _ Tryz.func143 rfl (by kernel_rfl) rfl rfl ((fail_any g s _ _ _ hB 12 at_).mono ?_))))
   rintro e_ w2 ⟨rfl, hB1, hX⟩
   refine cR ?_
   have hn1 := hcw.next hX (fun k hk => .inl hk)
   clear hcw hB
   have hcw := hn1
   have hB := hB1
   refine Wn (tN (W_rs (sa rfl rfl (Wn (tN (W_ret (bR (tR ?_))))))))
   exact (rT rfl rfl ⟨rfl, hB, hcw⟩).1
  ·first | replace h15 := of_decide_eq_false h15 | replace h15 := of_decide_eq_true (notF h15) | replace h15 := notF h15 | skip
   have hnm : n ≤ most := by have : ¬ (most : Int) < (n : Int) := h15; omega
   rw [if_neg (by omega)]
   refine W_rs (sm rfl rfl (sm rfl rfl (sc _ Tryz.func144 rfl (by kernel_rfl) rfl rfl ((Left_any g s a1 0 _ hB hs hua).mono ?_))))
   rintro e_ w3 ⟨rfl, hb⟩
   refine cR ?_
   replace hcw := hcw.then_below hb
   replace hB := hB.bel hb
   have hz_w3 := hb.size
   clear hb
   refine st (X.convI (m := ((s.length - a1 : Nat) : Int)) (z := ((s.length - a1 : Nat) : Int)) rfl Tryz.underlying3 Tryz.underlying157 (IntWalk.u64_in _ (by omega))) rfl (st (X.gtr rfl rfl) rfl (sa rfl rfl (Wn (tN (W_if rfl (fun h27 => ?_) (fun h27 => ?_))))))
   ·first | replace h27 := of_decide_eq_true h27 | replace h27 := of_decide_eq_false (notT h27) | replace h27 := notT h27 | skip
    rw [if_pos (by have : ((s.length - a1 : Nat) : Int) < (n : Int) := h27; omega)]
    refine W_rs (sm rfl rfl (sm rfl rfl (sc _ Tryz.func143 rfl (by kernel_rfl) rfl rfl ((fail_any g s _ _ _ hB 10 at_).mono ?_))))
    rintro e_ w4 ⟨rfl, hB1, hX⟩
    refine cR ?_
    have hn1 := hcw.next hX (fun k hk => .inl hk)
    clear hcw hB
    have hcw := hn1
    have hB := hB1
    refine Wn (tN (W_rs (sa rfl rfl (Wn (tN (W_ret (bR (tR ?_))))))))
    exact (rT rfl rfl ⟨rfl, hB, hcw⟩).1
   ·first | replace h27 := of_decide_eq_false h27 | replace h27 := of_decide_eq_true (notF h27) | replace h27 := notF h27 | skip
    rw [if_neg (by have : ¬ ((s.length - a1 : Nat) : Int) < (n : Int) := h27; omega)]
    refine W_skip (bN (tN (W_rs (sm rfl rfl (sm rfl rfl (st (X.convI (m := (n : Int)) (z := (n : Int)) rfl Tryz.underlying157 Tryz.underlying3 (w64 (by omega))) rfl (sc _ Tryz.func145 rfl (by kernel_rfl) rfl rfl ((take_any g s a1 0 _ hB n hs hua (by omega)).mono ?_))))))))
    rintro e_ w5 ⟨rfl, hB1, hX⟩
    refine cR ?_
    have hn1 := hcw.next hX (fun k hk => .inl hk)
    clear hcw hB
    have hcw := hn1
    have hB := hB1
    refine sa rfl rfl (Wn (tN (W_ret ?_)))
    exact (rT rfl rfl ⟨rfl, hB, hcw⟩).1
end
end Go.Proofs.YtnijmegalgoipaaGreatDoor
namespace Go.Proofs.YtnijmegalgoipaaGreatDoor
open Go.RowKit
section
variable {P : Program} {fn : Func} {R : Ending → World → Prop} {l : Env} {w : World}
theorem r4 {x y z u : ResultVar} {v1 v2 v3 v4 : Value} (hf : fn.results = #[x, y, z, u]) (hx : ResVar P l w x v1) (hy : ResVar P l w y v2) (hz : ResVar P l w z v3) (hu : ResVar P l w u v4) (hR : R (.returned (.tuple #[v1, v2, v3, v4])) w) : fnPost P fn R .ret l w ∧ fnPost P fn R .normal l w := by
 have h : ∃ v, (∀ a : Array Value, (∀ t v, lk l t = some v → a.getD t undef = v) → (results fn a).run P w = .ok v w) ∧ R (.returned v) w := ⟨.tuple #[v1, v2, v3, v4], fun a ha => by
  have h1 := run_resVar hx a ha
  have h2 := run_resVar hy a ha
  have h3 := run_resVar hz a ha
  have h4 := run_resVar hu a ha
  rw [results_eq, hf]
  simp only [List.mapM_toArray, List.mapM_cons, List.mapM_nil, Sem.run_bind, Sem.run_pure, map_eq_pure_bind]
  simp only [h1, h2, h3, h4, Result.andThen_ok]
  rfl, hR⟩
 exact ⟨h, h⟩
theorem r4T {t t2 t3 t4 : Nat} {v v2 v3 v4 : Value} (hf : fn.results = #[.tmp t, .tmp t2, .tmp t3, .tmp t4]) (hx : lk l t = some v) (hy : lk l t2 = some v2) (hz : lk l t3 = some v3) (hu : lk l t4 = some v4) (hR : R (.returned (.tuple #[v, v2, v3, v4])) w) : fnPost P fn R .ret l w ∧ fnPost P fn R .normal l w := r4 hf hx hy hz hu hR
end
def nextM (s : List UInt8) : UInt8 × List UInt8 × Nat × Int :=
  if s = [] then (0, [], 0, 10) else if s.headD 0 = 0 then (0, [], 0, 14)
  else if (textR s 1 1048576).2.2 ≠ 0 then (0, [], 0, (textR s 1 1048576).2.2)
  else if s.length - (textR s 1 1048576).2.1 < 4 then (0, [], 0, 10)
  else if leN ((s.drop (textR s 1 1048576).2.1).take 4) ≠ (Crc.crc (s.take (textR s 1 1048576).2.1)).toNat then (0, [], 0, 13)
  else (s.headD 0, (textR s 1 1048576).1, (textR s 1 1048576).2.1 + 4, 0)
def nextV (x : UInt8 × List UInt8 × Nat × Int) : Value := .tuple #[.int .u8 x.1.toNat, str x.2.1, .int .i64 x.2.2.1, .int .i64 x.2.2.2]
theorem takeM_at {s : List UInt8} {a : Nat} {e : Int} {n : Nat} (h : a ≤ s.length) : (takeM s a e n).2.1 ≤ s.length := by
 unfold takeM
 split
 ·exact h
 ·split
  ·exact h
  ·simp only
   omega
theorem textR_at {s : List UInt8} {a m : Nat} (h : a ≤ s.length) : (textR s a m).2.1 ≤ s.length := by
 have hu := uvR_at (e := 0) h
 unfold textR
 split
 ·exact hu
 ·split
  ·exact h
  ·split
   ·exact h
   ·exact takeM_at hu
theorem take_cases {s ul : List UInt8} {a ua n : Nat} {e ue : Int} (h : takeM s a e n = (ul, ua, ue)) : (e ≠ 0 ∧ ue = e) ∨ (e = 0 ∧ s.length - a < n ∧ ue = 10) ∨ (e = 0 ∧ ¬ s.length - a < n ∧ ue = 0 ∧ ul = (s.drop a).take n ∧ ua = a + n) := by
 unfold takeM at h
 by_cases he : e ≠ 0
 ·rw [if_pos he] at h
  injection h with h1 h2
  injection h2 with h2 h3
  exact .inl ⟨he, h3.symm⟩
 ·have he0 : e = 0 := Classical.byContradiction he
  rw [if_neg he] at h
  by_cases hl : s.length - a < n
  ·rw [if_pos hl] at h
   injection h with h1 h2
   injection h2 with h2 h3
   exact .inr (.inl ⟨he0, hl, h3.symm⟩)
  ·rw [if_neg hl] at h
   injection h with h1 h2
   injection h2 with h2 h3
   exact .inr (.inr ⟨he0, hl, h3.symm, h1.symm, h2.symm⟩)
set_option maxRecDepth 10000 in
theorem Next_any (s : List UInt8) (w : World) (hs : s.length ≤ 1099511627776) : Calls Tryz.prog 100 #[str s] w fun e w' => e = .returned (nextV (nextM s)) ∧ Below w.heap.size w w' := by
 unfold nextM
 cases hse : s with
 | nil =>
  rw [if_pos rfl]
  refine W_enter (args := [str []]) 47 Tryz.func100 rfl rfl rfl (W_sub [(0, str [])] ?_ ⟨rfl, trivial⟩)
  have hbw := Below.refl w.heap.size w
  refine W_rs (sa rfl rfl (sa rfl rfl (sa rfl rfl (sa rfl rfl (Wn (tN (W_rs (sm rfl rfl (sc _ Tryz.func120 rfl (by kernel_rfl) rfl rfl ((Read_rd [] _).mono ?_))))))))))
  rintro e_ w1 ⟨g, rfl, hB, hg, hgl, hb⟩
  refine cR ?_
  replace hbw := bthen hbw hb
  have hz_w1 := hb.size
  clear hb
  refine sa rfl rfl (Wn (tN (W_rs (sm rfl rfl (sc _ Tryz.func121 rfl (by kernel_rfl) rfl rfl ((U8_any g [] 0 0 _ hB (by simp) (Nat.zero_le _)).mono ?_))))))
  rintro e_ w2 ⟨rfl, hB1, hC⟩
  refine cR ?_
  replace hbw := bset hbw hC (by omega)
  have hz_w2 := hC.size
  clear hC
  clear hB
  have hB : Blk w2 g 185 #[str [], .int .i64 0, .int .i64 10] := hB1
  clear hB1
  refine sa rfl rfl (Wn (tN (W_seq (W_block (W_rs (sm rfl rfl (sc _ Tryz.func122 rfl (by kernel_rfl) rfl rfl ((Err_any g [] 0 10 _ hB).mono ?_))))))))
  rintro e_ w_ ⟨rfl, rfl⟩
  refine cR (st (X.neq rfl rfl) rfl (sa rfl rfl (Wn (tN (W_yes rfl (rfl) (W_rs (sm rfl rfl (sc _ Tryz.func122 rfl (by kernel_rfl) rfl rfl ((Err_any g [] 0 10 _ hB).mono ?_)))))))))
  rintro e_ w_ ⟨rfl, rfl⟩
  refine cR (sa rfl rfl (sa rfl rfl (sa rfl rfl (sa rfl rfl (Wn (tN (W_ret (bR (tR ?_)))))))))
  exact (r4T rfl rfl rfl rfl rfl ⟨rfl, hbw⟩).1
 | cons k s1 =>
  rw [← hse]
  have hne : s ≠ [] := by rw [hse]; simp
  have hk : s.headD 0 = k := by rw [hse]; rfl
  have hl1 : 1 ≤ s.length := by rw [hse]; simp
  have ht1 : takeM s 0 0 1 = ([k], 1, 0) := by
   rw [hse]
   unfold takeM
   rw [if_neg (by simp), if_neg (by simp)]
   rfl
  have hta := textR_at (m := 1048576) hl1
  rw [if_neg hne, hk]
  obtain ⟨t, ht⟩ : ∃ t, textR s 1 1048576 = t := ⟨_, rfl⟩
  have hTx := fun g w hB => Text_any g s 1 w 1048576 (by omega) hB hs hl1
  rw [ht] at hta ⊢
  simp only [ht] at hTx
  obtain ⟨body, a1, e1⟩ := t
  replace hta : a1 ≤ s.length := hta
  simp only at hTx ⊢
  refine W_enter (args := [str s]) 47 Tryz.func100 rfl rfl rfl (W_sub [(0, str s)] ?_ ⟨rfl, trivial⟩)
  have hbw := Below.refl w.heap.size w
  refine W_rs (sa rfl rfl (sa rfl rfl (sa rfl rfl (sa rfl rfl (Wn (tN (W_rs (sm rfl rfl (sc _ Tryz.func120 rfl (by kernel_rfl) rfl rfl ((Read_rd s _).mono ?_))))))))))
  rintro e_ w1 ⟨g, rfl, hB, hg, hgl, hb⟩
  refine cR ?_
  replace hbw := bthen hbw hb
  have hz_w1 := hb.size
  clear hb
  refine sa rfl rfl (Wn (tN (W_rs (sm rfl rfl (sc _ Tryz.func121 rfl (by kernel_rfl) rfl rfl ((U8_any g s 0 0 _ hB hs (Nat.zero_le _)).mono ?_))))))
  rintro e_ w2 ⟨rfl, hB1, hC⟩
  refine cR ?_
  replace hbw := bset hbw hC (by omega)
  have hz_w2 := hC.size
  clear hC
  rw [ht1] at hB1
  rw [ht1]
  clear hB
  have hB : Blk w2 g 185 #[str s, .int .i64 1, .int .i64 0] := hB1
  clear hB1
  show WL _ _ _ _ _ _ ((_, .int .u8 k.toNat) :: _) _
  refine sa rfl rfl (Wn (tN (W_seq (W_block (W_rs (sm rfl rfl (sc _ Tryz.func122 rfl (by kernel_rfl) rfl rfl ((Err_any g s 1 0 _ hB).mono ?_))))))))
  rintro e_ w_ ⟨rfl, rfl⟩
  refine cR (st (X.neq rfl rfl) rfl (sa rfl rfl (Wn (tN (W_no rfl (rfl) (W_rs (sm rfl rfl (st (X.eql rfl rfl) rfl (sa rfl rfl (Wn ?_))))))))))
  refine tN (W_if rfl (fun h21 => ?_) (fun h21 => ?_))
  ·first | replace h21 := of_decide_eq_true h21 | replace h21 := of_decide_eq_false (notT h21) | replace h21 := notT h21 | skip
   rw [if_pos (by apply UInt8.toNat.inj; show k.toNat = 0; omega)]
   refine W_rs (sa rfl rfl (sa rfl rfl (sa rfl rfl (sa rfl rfl (Wn (tN (W_ret (bR (tR ?_)))))))))
   exact (r4T rfl rfl rfl rfl rfl ⟨rfl, hbw⟩).1
  ·first | replace h21 := of_decide_eq_false h21 | replace h21 := of_decide_eq_true (notF h21) | replace h21 := notF h21 | skip
   rw [if_neg (fun e => h21 (by rw [e]; rfl))]
   refine W_skip (bN (tN (W_rs (sm rfl rfl (sc _ Tryz.func123 rfl (by kernel_rfl) rfl rfl ((hTx g _ hB).mono ?_))))))
   rintro e_ w3 ⟨rfl, hB1, hC⟩
   refine cR ?_
   replace hbw := bset hbw hC (by omega)
   have hz_w3 := hC.size
   clear hC
   clear hB
   have hB := hB1
   clear hB1
   refine sa rfl rfl (Wn (tN (W_rs (sm rfl rfl (sc _ Tryz.func124 rfl (by kernel_rfl) rfl rfl ((At_any g s a1 e1 _ hB).mono ?_))))))
   rintro e_ w_ ⟨rfl, rfl⟩
   refine cR (sa rfl rfl (Wn (tN (W_rs (sm rfl rfl ?_)))))
   have hU := U32_any g s a1 e1 _ hB hs hta
   obtain ⟨u, hu⟩ : ∃ u, takeM s a1 e1 4 = u := ⟨_, rfl⟩
   rw [hu] at hU
   obtain ⟨ul, ua, ue⟩ := u
   simp only at hU
   refine sc _ Tryz.func125 rfl (by kernel_rfl) rfl rfl ((hU).mono ?_)
   rintro e_ w4 ⟨rfl, hB1, hC⟩
   refine cR ?_
   replace hbw := bset hbw hC (by omega)
   have hz_w4 := hC.size
   clear hC
   clear hB
   have hB := hB1
   clear hB1 hU
   refine sa rfl rfl (Wn (tN (W_seq (W_block (W_rs (sm rfl rfl (sc _ Tryz.func122 rfl (by kernel_rfl) rfl rfl ((Err_any g s ua ue _ hB).mono ?_))))))))
   rintro e_ w_ ⟨rfl, rfl⟩
   refine cR (st (X.neq rfl rfl) rfl (sa rfl rfl (Wn (tN (W_if rfl (fun h30 => ?_) (fun h30 => ?_))))))
   ·first | replace h30 := of_decide_eq_true h30 | replace h30 := of_decide_eq_false (notT h30) | replace h30 := notT h30 | skip
    refine W_rs ?_
    have hres : (if e1 ≠ 0 then ((0 : UInt8), ([] : List UInt8), 0, e1) else if s.length - a1 < 4 then (0, [], 0, 10) else if leN ((s.drop a1).take 4) ≠ (Crc.crc (s.take a1)).toNat then (0, [], 0, 13) else (k, body, a1 + 4, 0)) = (0, [], 0, ue) := by
     rcases take_cases hu with ⟨h1, h2⟩ | ⟨h1, h2, h3⟩ | ⟨_, _, h3, _⟩
     ·rw [if_pos h1, h2]
     ·rw [if_neg (by rw [h1]; simp), if_pos h2, h3]
     ·exact absurd h3 h30
    refine sm rfl rfl (sc _ Tryz.func122 rfl (by kernel_rfl) rfl rfl ((Err_any g s ua ue _ hB).mono ?_))
    rintro e_ w_ ⟨rfl, rfl⟩
    refine cR (sa rfl rfl (sa rfl rfl (sa rfl rfl (sa rfl rfl (Wn (tN (W_ret (bR (tR ?_)))))))))
    rw [hres]
    exact (r4T rfl rfl rfl rfl rfl ⟨rfl, hbw⟩).1
   ·first | replace h30 := of_decide_eq_false h30 | replace h30 := of_decide_eq_true (notF h30) | replace h30 := notF h30 | skip
    have h30' : ue = 0 := Classical.byContradiction h30
    obtain ⟨he1, hl4, _, hul, hua⟩ : e1 = 0 ∧ ¬ s.length - a1 < 4 ∧ ue = 0 ∧ ul = (s.drop a1).take 4 ∧ ua = a1 + 4 := by
     rcases take_cases hu with ⟨h1, h2⟩ | ⟨h1, h2, h3⟩ | h
     ·rw [h2] at h30'; exact absurd h30' h1
     ·rw [h3] at h30'; cases h30'
     ·exact h
    rw [if_neg (by rw [he1]; simp), if_neg hl4]
    refine W_rs (sm rfl rfl (sm rfl rfl (sm rfl rfl (st (X.toS (s := s) rfl rfl Tryz.underlying9 rfl hta) rfl (sc _ Tryz.func76 rfl (by kernel_rfl) rfl rfl ((Crc_any (s.take a1) _ (by rw [List.length_take]; omega)).mono ?_))))))
    rintro e_ w5 ⟨rfl, hb⟩
    refine cR ?_
    replace hbw := bthen hbw hb
    replace hB := hB.bel hb
    have hz_w5 := hb.size
    clear hb
    refine st (X.neq rfl rfl) rfl (sa rfl rfl (Wn (tN (W_if rfl (fun h36 => ?_) (fun h36 => ?_)))))
    ·first | replace h36 := of_decide_eq_true h36 | replace h36 := of_decide_eq_false (notT h36) | replace h36 := notT h36 | skip
     rw [if_pos (by rw [← hul]; omega)]
     refine W_rs (sa rfl rfl (sa rfl rfl (sa rfl rfl (sa rfl rfl (Wn (tN (W_ret (bR (tR ?_)))))))))
     exact (r4T rfl rfl rfl rfl rfl ⟨rfl, hbw⟩).1
    ·first | replace h36 := of_decide_eq_false h36 | replace h36 := of_decide_eq_true (notF h36) | replace h36 := notF h36 | skip
     rw [if_neg (by rw [← hul]; omega), ← hua]
     refine W_skip (bN (tN (W_rs (sm rfl rfl (sm rfl rfl (sm rfl rfl (sc _ Tryz.func124 rfl (by kernel_rfl) rfl rfl ((At_any g s ua ue _ hB).mono ?_))))))))
     rintro e_ w_ ⟨rfl, rfl⟩
     refine cR (sa rfl rfl (sa rfl rfl (sa rfl rfl (sa rfl rfl (Wn (tN (W_ret ?_)))))))
     exact (r4T rfl rfl rfl rfl rfl ⟨rfl, hbw⟩).1
end Go.Proofs.YtnijmegalgoipaaGreatDoor
namespace Go.Proofs.YtnijmegalgoipaaGreatDoor
open Go.RowKit
def fixB : Nat → Nat → List UInt8
  | _, 0 => []
  | x, n + 1 => UInt8.ofNat (x % 256) :: fixB (x / 256) n
theorem fixB_length : ∀ (x n : Nat), (fixB x n).length = n
 | _, 0 => rfl
 | x, n + 1 => by rw [fixB, List.length_cons, fixB_length]
theorem leN_fixB : ∀ (n x : Nat), x < 256 ^ n → leN (fixB x n) = x
 | 0, x, h => by simp at h; subst h; rfl
 | n + 1, x, h => by
  rw [fixB, leN, leN_fixB n (x / 256) (by rw [Nat.pow_succ] at h; exact Nat.div_lt_of_lt_mul (by rw [Nat.mul_comm]; exact h))]
  have : (UInt8.ofNat (x % 256)).toNat = x % 256 := by simp
  rw [this]
  omega
theorem fixB_leN : ∀ l : List UInt8, fixB (leN l) l.length = l
 | [] => rfl
 | b :: l => by
  have hb := b.toNat_lt
  rw [List.length_cons, fixB, leN, show (b.toNat + 256 * leN l) / 256 = leN l by omega, fixB_leN l, show (b.toNat + 256 * leN l) % 256 = b.toNat by omega]
  simp
theorem fixB_eq {x : Nat} {l : List UInt8} (hl : l.length = 4) (hx : x < 4294967296) : fixB x 4 = l ↔ leN l = x := by
 constructor
 ·intro h
  rw [← h, leN_fixB 4 x (by simpa using hx)]
 ·intro h
  rw [← h, ← hl, fixB_leN]
theorem fixB_snoc : ∀ (i x : Nat), fixB x i ++ [UInt8.ofNat (x / 256 ^ i % 256)] = fixB x (i + 1)
 | 0, x => by simp [fixB]
 | i + 1, x => by
  have := fixB_snoc i (x / 256)
  rw [Nat.div_div_eq_div_mul, ← Nat.pow_succ'] at this
  rw [fixB, List.cons_append, this]
  rfl
set_option maxRecDepth 10000 in
theorem Few_ref (s : List UInt8) (w : World) (_hs : s.length ≤ 1099511627776) : Calls Tryz.prog 158 #[str s] w fun e w' => e = .returned (.tuple #[.int .u64 (uvM 0 0 s).1, .int .i64 (uvM 0 0 s).2.1, .int .i64 (uvM 0 0 s).2.2]) ∧ w = w' := by
 refine W_enter (args := [str s]) 44 Tryz.func158 rfl rfl rfl (W_sub [(0, str s)] ?_ ⟨rfl, trivial⟩)
 refine W_rs (sa rfl rfl (sa rfl rfl (sa rfl rfl (Wn (tN (W_rs (sa rfl rfl (Wn (tN (W_rs ?_))))))))))
 refine sa rfl rfl (Wn (tN (W_rs (sa rfl rfl (Wn (tN (W_block (W_lp (fun nw1_ lw1_ w1 => ∃ i : Nat, ∃ x : Nat, nw1_ = 10 - i ∧ lw1_ = ([(0, str s), (5, .int .u64 x), (6, .int .u64 (2 ^ (7 * i) : Nat)), (7, .int .i64 i)] : Env) ∧ (w1 = w) ∧ (i ≤ 9) ∧ (x < 2 ^ (7 * i)) ∧ (uvM 0 0 s = uvM i x (s.drop i))) _ ⟨_, ⟨0, 0, rfl, rfl, rfl, by omega, by simp, rfl⟩, ⟨rfl, rfl, rfl, rfl, trivial⟩⟩ ?_))))))))
 rintro nw1_ lw1_ w1 ⟨i, x, rfl, rfl, hw, hi, hx, heq⟩
 refine W_seq (W_block (W_seq (W_rs (sm rfl rfl (sm rfl rfl (st (X.lenS rfl rfl Tryz.underlying9) rfl (st (X.geq rfl rfl) rfl (Wn (tN (W_if rfl (fun h14 => ?_) (fun h14 => ?_)))))))))))
 ·first | replace h14 := of_decide_eq_true h14 | replace h14 := of_decide_eq_false (notT h14) | replace h14 := notT h14 | skip
  have hres : uvM 0 0 s = (0, 0, 10) := by rw [heq, List.drop_of_length_le (by omega)]; rfl
  rw [hres]
  refine W_rs (sa rfl rfl (sa rfl rfl (sa rfl rfl (Wn (tN (W_ret (tR (bR (tR (tR (bR ?_)))))))))))
  exact (rTTT rfl rfl rfl rfl ⟨rfl, hw.symm⟩).1
 ·first | replace h14 := of_decide_eq_false h14 | replace h14 := of_decide_eq_true (notF h14) | replace h14 := notF h14 | skip
  obtain ⟨b, hb⟩ : ∃ b, s[i]? = some b := ⟨_, List.getElem?_eq_getElem (by omega)⟩
  have hgd : s.getD i 0 = b := by rw [List.getD_eq_getElem?_getD, hb]; rfl
  have hdr : s.drop i = b :: s.drop (i + 1) := by
   obtain ⟨hj, rfl⟩ := List.getElem?_eq_some_iff.1 hb
   exact List.drop_eq_getElem_cons hj
  have hb8 := b.toNat_lt
  refine W_skip (tN (W_rs (sm rfl rfl (sm rfl rfl (st (X.idxS (q := i) rfl rfl Tryz.underlying9 rfl (by omega)) rfl ?_)))))
  rw [hgd]
  refine st (X.convI (m := (b.toNat : Int)) (z := (b.toNat : Int)) rfl Tryz.underlying5 Tryz.underlying157 (IntWalk.u64_in _ (by omega))) rfl (sa rfl rfl (Wn (tN (W_seq (W_rs (sm rfl rfl (st (X.eql rfl rfl) rfl (sb rfl rfl (fun h21 => ?_) (fun h21 => ?_)))))))))
  ·first | replace h21 := of_decide_eq_true h21 | replace h21 := of_decide_eq_false (notT h21) | replace h21 := notT h21 | skip
   refine gY (g := 21) rfl rfl rfl (sm rfl rfl (gY (g := 21) rfl rfl rfl (st (X.gtr rfl rfl) rfl (st (X.pickT rfl rfl) rfl (Wn (tN (W_if rfl (fun h24 => ?_) (fun h24 => ?_))))))))
   ·first | replace h24 := of_decide_eq_true h24 | replace h24 := of_decide_eq_false (notT h24) | replace h24 := notT h24 | skip
    refine W_rs (sa rfl rfl (sa rfl rfl (sa rfl rfl (Wn (tN (W_ret (tR (bR (tR (tR (bR ?_)))))))))))
    have hres : uvM 0 0 s = (0, 0, 12) := by
     rw [heq, hdr]
     unfold uvM
     rw [if_pos (by omega)]
    rw [hres]
    exact (rTTT rfl rfl rfl rfl ⟨rfl, hw.symm⟩).1
   ·first | replace h24 := of_decide_eq_false h24 | replace h24 := of_decide_eq_true (notF h24) | replace h24 := notF h24 | skip
    refine W_skip (tN (W_rs ?_))
    have hsh := sh_bound hi hb8 (by omega)
    have hmul : ((2 ^ (7 * i) : Nat) : Int) * ((b.toNat : Int) % 128) = ((b.toNat % 128 * 2 ^ (7 * i) : Nat) : Int) := by
     rw [Int.natCast_mul, Int.mul_comm]
     rfl
    have hmul2 : ((2 ^ (7 * i) : Nat) : Int) * 128 = ((2 ^ (7 * (i + 1)) : Nat) : Int) := by
     rw [show 7 * (i + 1) = 7 * i + 7 by omega, Nat.pow_add, Int.natCast_mul]
     rfl
    refine sm rfl rfl (sm rfl rfl (sm rfl rfl (st (X.rem64 rfl rfl (by omega) (by omega)) rfl (st (X.mul (z := ((b.toNat % 128 * 2 ^ (7 * i) : Nat) : Int)) rfl rfl (by rw [hmul]; exact IntWalk.u64_in _ (by omega))) rfl ?_))))
    refine st (X.add (z := ((x + b.toNat % 128 * 2 ^ (7 * i) : Nat) : Int)) rfl rfl (by rw [← Int.natCast_add]; exact IntWalk.u64_in _ (by omega))) rfl ?_
    refine sa rfl rfl (Wn (tN (W_rs (sm rfl rfl (st (X.mul (z := ((2 ^ (7 * (i + 1)) : Nat) : Int) % 18446744073709551616) rfl rfl (by rw [hmul2]; exact wu64 _)) rfl ?_)))))
    refine sa rfl rfl (Wn (tN (W_rs (sm rfl rfl (st (X.lss rfl rfl) rfl (Wn (tN (W_if rfl (fun h34 => ?_) (fun h34 => ?_)))))))))
    ·first | replace h34 := of_decide_eq_true h34 | replace h34 := of_decide_eq_false (notT h34) | replace h34 := notT h34 | skip
     refine W_seq (W_rs (sm rfl rfl (st (X.eql rfl rfl) rfl (sb rfl rfl (fun h37 => ?_) (fun h37 => ?_)))))
     ·first | replace h37 := of_decide_eq_true h37 | replace h37 := of_decide_eq_false (notT h37) | replace h37 := notT h37 | skip
      refine gY (g := 37) rfl rfl rfl (sm rfl rfl (gY (g := 37) rfl rfl rfl (st (X.gtr rfl rfl) rfl (st (X.pickT rfl rfl) rfl (Wn (tN (W_if rfl (fun h40 => ?_) (fun h40 => ?_))))))))
      ·first | replace h40 := of_decide_eq_true h40 | replace h40 := of_decide_eq_false (notT h40) | replace h40 := notT h40 | skip
       refine W_rs (sa rfl rfl (sa rfl rfl (sa rfl rfl (Wn (tN (W_ret (tR (bR (tR (tR (bR ?_)))))))))))
       have hres : uvM 0 0 s = (0, 0, 12) := by
        rw [heq, hdr]
        unfold uvM
        rw [if_pos (by omega)]
       rw [hres]
       exact (rTTT rfl rfl rfl rfl ⟨rfl, hw.symm⟩).1
      ·first | replace h40 := of_decide_eq_false h40 | replace h40 := of_decide_eq_true (notF h40) | replace h40 := notF h40 | skip
       refine W_skip (tN (W_rs (sm rfl rfl (sm rfl rfl (st (X.add64 rfl rfl (by omega)) rfl (sa rfl rfl (sa rfl rfl (sa rfl rfl (Wn (tN ?_))))))))))
       refine W_ret (bR (tR (tR (bR ?_))))
       have hres : uvM 0 0 s = (x + b.toNat * 2 ^ (7 * i), i + 1, 0) := by
        rw [heq, hdr]
        unfold uvM
        rw [if_neg (by omega), if_pos (by omega)]
       rw [hres, show b.toNat % 128 = b.toNat by omega]
       exact (rTTT rfl rfl rfl rfl ⟨rfl, hw.symm⟩).1
     ·first | replace h37 := of_decide_eq_false h37 | replace h37 := of_decide_eq_true (notF h37) | replace h37 := notF h37 | skip
      refine gN (g := 37) rfl rfl rfl rfl (gN (g := 37) rfl rfl rfl rfl (st (X.pickF rfl rfl) rfl (Wn (tN (W_no rfl (rfl) (W_skip (tN (W_rs (sm rfl rfl (sm rfl rfl ?_))))))))))
      refine st (X.add64 rfl rfl (by omega)) rfl (sa rfl rfl (sa rfl rfl (sa rfl rfl (Wn (tN (W_ret (bR (tR (tR (bR ?_))))))))))
      have hres : uvM 0 0 s = (x + b.toNat * 2 ^ (7 * i), i + 1, 0) := by
       rw [heq, hdr]
       unfold uvM
       rw [if_neg (by omega), if_pos (by omega)]
      rw [hres, show b.toNat % 128 = b.toNat by omega]
      exact (rTTT rfl rfl rfl rfl ⟨rfl, hw.symm⟩).1
    ·first | replace h34 := of_decide_eq_false h34 | replace h34 := of_decide_eq_true (notF h34) | replace h34 := notF h34 | skip
     have hxn : x + (b.toNat - 128) * 2 ^ (7 * i) < 2 ^ (7 * (i + 1)) := sh_next hx (by omega)
     have heqn : uvM 0 0 s = uvM (i + 1) (x + (b.toNat - 128) * 2 ^ (7 * i)) (s.drop (i + 1)) := by
      rw [heq, hdr]
      conv => lhs; unfold uvM
      rw [if_neg (by omega), if_neg (by omega)]
     have hun : ((2 ^ (7 * (i + 1)) : Nat) : Int) % 18446744073709551616 = ((2 ^ (7 * (i + 1)) : Nat) : Int) := by
      have h8 : i ≤ 8 := by omega
      have hp : 2 ^ (7 * (i + 1)) ≤ 2 ^ 63 := Nat.pow_le_pow_right (by omega) (by omega)
      omega
     refine W_skip (bN (tN (W_reg (sm rfl rfl (st (X.add64 rfl rfl (by omega)) rfl (sa rfl rfl (Wn (tN ⟨_, _, ?_, ⟨i + 1, x + (b.toNat - 128) * 2 ^ (7 * i), rfl, rfl, hw, by omega, hxn, heqn⟩, ⟨rfl, by rw [show b.toNat % 128 = b.toNat - 128 by omega]; rfl, by rw [hun]; rfl, rfl, trivial⟩⟩))))))))
     omega
  ·first | replace h21 := of_decide_eq_false h21 | replace h21 := of_decide_eq_true (notF h21) | replace h21 := notF h21 | skip
   refine gN (g := 21) rfl rfl rfl rfl (gN (g := 21) rfl rfl rfl rfl (st (X.pickF rfl rfl) rfl (Wn (tN (W_no rfl (rfl) (W_skip (tN (W_rs ?_))))))))
   have hsh := sh_bound hi hb8 (by omega)
   have hmul : ((2 ^ (7 * i) : Nat) : Int) * ((b.toNat : Int) % 128) = ((b.toNat % 128 * 2 ^ (7 * i) : Nat) : Int) := by
    rw [Int.natCast_mul, Int.mul_comm]
    rfl
   have hmul2 : ((2 ^ (7 * i) : Nat) : Int) * 128 = ((2 ^ (7 * (i + 1)) : Nat) : Int) := by
    rw [show 7 * (i + 1) = 7 * i + 7 by omega, Nat.pow_add, Int.natCast_mul]
    rfl
   refine sm rfl rfl (sm rfl rfl (sm rfl rfl (st (X.rem64 rfl rfl (by omega) (by omega)) rfl (st (X.mul (z := ((b.toNat % 128 * 2 ^ (7 * i) : Nat) : Int)) rfl rfl (by rw [hmul]; exact IntWalk.u64_in _ (by omega))) rfl ?_))))
   refine st (X.add (z := ((x + b.toNat % 128 * 2 ^ (7 * i) : Nat) : Int)) rfl rfl (by rw [← Int.natCast_add]; exact IntWalk.u64_in _ (by omega))) rfl ?_
   refine sa rfl rfl (Wn (tN (W_rs (sm rfl rfl (st (X.mul (z := ((2 ^ (7 * (i + 1)) : Nat) : Int) % 18446744073709551616) rfl rfl (by rw [hmul2]; exact wu64 _)) rfl ?_)))))
   refine sa rfl rfl (Wn (tN (W_rs (sm rfl rfl (st (X.lss rfl rfl) rfl (Wn (tN (W_if rfl (fun h34 => ?_) (fun h34 => ?_)))))))))
   ·first | replace h34 := of_decide_eq_true h34 | replace h34 := of_decide_eq_false (notT h34) | replace h34 := notT h34 | skip
    refine W_seq (W_rs (sm rfl rfl (st (X.eql rfl rfl) rfl (sb rfl rfl (fun h37 => ?_) (fun h37 => ?_)))))
    ·first | replace h37 := of_decide_eq_true h37 | replace h37 := of_decide_eq_false (notT h37) | replace h37 := notT h37 | skip
     refine gY (g := 37) rfl rfl rfl (sm rfl rfl (gY (g := 37) rfl rfl rfl (st (X.gtr rfl rfl) rfl (st (X.pickT rfl rfl) rfl (Wn (tN (W_if rfl (fun h40 => ?_) (fun h40 => ?_))))))))
     ·first | replace h40 := of_decide_eq_true h40 | replace h40 := of_decide_eq_false (notT h40) | replace h40 := notT h40 | skip
      refine W_rs (sa rfl rfl (sa rfl rfl (sa rfl rfl (Wn (tN (W_ret (tR (bR (tR (tR (bR ?_)))))))))))
      have hres : uvM 0 0 s = (0, 0, 12) := by
       rw [heq, hdr]
       unfold uvM
       rw [if_pos (by omega)]
      rw [hres]
      exact (rTTT rfl rfl rfl rfl ⟨rfl, hw.symm⟩).1
     ·first | replace h40 := of_decide_eq_false h40 | replace h40 := of_decide_eq_true (notF h40) | replace h40 := notF h40 | skip
      refine W_skip (tN (W_rs (sm rfl rfl (sm rfl rfl (st (X.add64 rfl rfl (by omega)) rfl (sa rfl rfl (sa rfl rfl (sa rfl rfl (Wn (tN ?_))))))))))
      refine W_ret (bR (tR (tR (bR ?_))))
      have hres : uvM 0 0 s = (x + b.toNat * 2 ^ (7 * i), i + 1, 0) := by
       rw [heq, hdr]
       unfold uvM
       rw [if_neg (by omega), if_pos (by omega)]
      rw [hres, show b.toNat % 128 = b.toNat by omega]
      exact (rTTT rfl rfl rfl rfl ⟨rfl, hw.symm⟩).1
    ·first | replace h37 := of_decide_eq_false h37 | replace h37 := of_decide_eq_true (notF h37) | replace h37 := notF h37 | skip
     refine gN (g := 37) rfl rfl rfl rfl (gN (g := 37) rfl rfl rfl rfl (st (X.pickF rfl rfl) rfl (Wn (tN (W_no rfl (rfl) (W_skip (tN (W_rs (sm rfl rfl (sm rfl rfl ?_))))))))))
     refine st (X.add64 rfl rfl (by omega)) rfl (sa rfl rfl (sa rfl rfl (sa rfl rfl (Wn (tN (W_ret (bR (tR (tR (bR ?_))))))))))
     have hres : uvM 0 0 s = (x + b.toNat * 2 ^ (7 * i), i + 1, 0) := by
      rw [heq, hdr]
      unfold uvM
      rw [if_neg (by omega), if_pos (by omega)]
     rw [hres, show b.toNat % 128 = b.toNat by omega]
     exact (rTTT rfl rfl rfl rfl ⟨rfl, hw.symm⟩).1
   ·first | replace h34 := of_decide_eq_false h34 | replace h34 := of_decide_eq_true (notF h34) | replace h34 := notF h34 | skip
    have hxn : x + (b.toNat - 128) * 2 ^ (7 * i) < 2 ^ (7 * (i + 1)) := sh_next hx (by omega)
    have heqn : uvM 0 0 s = uvM (i + 1) (x + (b.toNat - 128) * 2 ^ (7 * i)) (s.drop (i + 1)) := by
     rw [heq, hdr]
     conv => lhs; unfold uvM
     rw [if_neg (by omega), if_neg (by omega)]
    have hun : ((2 ^ (7 * (i + 1)) : Nat) : Int) % 18446744073709551616 = ((2 ^ (7 * (i + 1)) : Nat) : Int) := by
     have h8 : i ≤ 8 := by omega
     have hp : 2 ^ (7 * (i + 1)) ≤ 2 ^ 63 := Nat.pow_le_pow_right (by omega) (by omega)
     omega
    refine W_skip (bN (tN (W_reg (sm rfl rfl (st (X.add64 rfl rfl (by omega)) rfl (sa rfl rfl (Wn (tN ⟨_, _, ?_, ⟨i + 1, x + (b.toNat - 128) * 2 ^ (7 * i), rfl, rfl, hw, by omega, hxn, heqn⟩, ⟨rfl, by rw [show b.toNat % 128 = b.toNat - 128 by omega]; rfl, by rw [hun]; rfl, rfl, trivial⟩⟩))))))))
    omega
def textP (s : List UInt8) (most : Nat) : List UInt8 × Nat × Int :=
  if (uvM 0 0 s).2.2 ≠ 0 then ([], 0, (uvM 0 0 s).2.2) else if most < (uvM 0 0 s).1 then ([], 0, 12) else if s.length - (uvM 0 0 s).2.1 < (uvM 0 0 s).1 then ([], 0, 10) else ((s.drop (uvM 0 0 s).2.1).take (uvM 0 0 s).1, (uvM 0 0 s).2.1 + (uvM 0 0 s).1, 0)
theorem Text_ref (s : List UInt8) (most : Nat) (w : World) (hs : s.length ≤ 1099511627776) (hm : most ≤ 1099511627776) : Calls Tryz.prog 130 #[str s, .int .i64 most] w fun e w' => e = .returned (.tuple #[str (textP s most).1, .int .i64 (textP s most).2.1, .int .i64 (textP s most).2.2]) ∧ w = w' := by
 have hF := Few_ref s w hs
 have hk := uvM_len s 0 0
 unfold textP
 obtain ⟨u, hu⟩ : ∃ u, uvM 0 0 s = u := ⟨_, rfl⟩
 rw [hu] at hF hk ⊢
 obtain ⟨n, k, e⟩ := u
 simp only at hF hk ⊢
 rw [Nat.zero_add] at hk
 refine W_enter (args := [str s, .int .i64 most]) 45 Tryz.func130 rfl rfl rfl (W_sub [(0, str s), (1, .int .i64 most)] ?_ ⟨rfl, rfl, trivial⟩)
 refine W_rs (sa rfl rfl (sa rfl rfl (sa rfl rfl (Wn (tN (W_rs (sm rfl rfl (sc _ Tryz.func158 rfl (by kernel_rfl) rfl rfl ((hF).mono ?_)))))))))
 rintro e_ w_ ⟨rfl, rfl⟩
 refine cR (sm rfl rfl (st (X.ext rfl rfl) rfl (st (X.ext rfl rfl) rfl (st (X.ext rfl rfl) rfl (sa rfl rfl (sa rfl rfl (sa rfl rfl (Wn (tN (W_seq ?_))))))))))
 refine W_rs (sm rfl rfl (st (X.neq rfl rfl) rfl (Wn (tN (W_if rfl (fun h17 => ?_) (fun h17 => ?_))))))
 ·first | replace h17 := of_decide_eq_true h17 | replace h17 := of_decide_eq_false (notT h17) | replace h17 := notT h17 | skip
  rw [if_pos h17]
  refine W_rs (sm rfl rfl (sa rfl rfl (sa rfl rfl (sa rfl rfl (Wn (tN (W_ret (tR ?_))))))))
  exact (rTTT rfl rfl rfl rfl ⟨rfl, rfl⟩).1
 ·first | replace h17 := of_decide_eq_false h17 | replace h17 := of_decide_eq_true (notF h17) | replace h17 := notF h17 | skip
  rw [if_neg h17]
  obtain rfl : e = 0 := Classical.byContradiction h17
  refine W_skip (tN (W_seq (W_rs (sm rfl rfl (st (X.lss rfl rfl) rfl (sbN rfl (decide_eq_false (by omega)) rfl (gY (g := 21) rfl rfl rfl (sm rfl rfl (gY (g := 21) rfl rfl rfl (sm rfl rfl ?_))))))))))
  refine gY (g := 21) rfl rfl rfl (st (X.convI (m := (most : Int)) (z := (most : Int)) rfl Tryz.underlying3 Tryz.underlying157 (IntWalk.u64_in _ (by omega))) rfl (gY (g := 21) rfl rfl rfl (st (X.gtr rfl rfl) rfl (st (X.pickF rfl rfl) rfl (Wn (tN (W_if rfl (fun h26 => ?_) (fun h26 => ?_))))))))
  ·first | replace h26 := of_decide_eq_true h26 | replace h26 := of_decide_eq_false (notT h26) | replace h26 := notT h26 | skip
   rw [if_pos (by have : (most : Int) < (n : Int) := h26; omega)]
   refine W_rs (sa rfl rfl (sa rfl rfl (sa rfl rfl (Wn (tN (W_ret (tR ?_)))))))
   exact (rTTT rfl rfl rfl rfl ⟨rfl, rfl⟩).1
  ·first | replace h26 := of_decide_eq_false h26 | replace h26 := of_decide_eq_true (notF h26) | replace h26 := notF h26 | skip
   have hnm : n ≤ most := by have : ¬ (most : Int) < (n : Int) := h26; omega
   rw [if_neg (by omega)]
   refine W_skip (tN (W_seq (W_rs (sm rfl rfl (st (X.lenS rfl rfl Tryz.underlying9) rfl (sm rfl rfl (st (X.sub64 rfl rfl (by omega)) rfl (st (X.convI (m := (s.length : Int) - (k : Int)) (z := (s.length : Int) - (k : Int)) rfl Tryz.underlying3 Tryz.underlying157 (IntWalk.u64_in _ (by omega))) rfl (sm rfl rfl (st (X.lss rfl rfl) rfl ?_))))))))))
   refine Wn (tN (W_if rfl (fun h33 => ?_) (fun h33 => ?_)))
   ·first | replace h33 := of_decide_eq_true h33 | replace h33 := of_decide_eq_false (notT h33) | replace h33 := notT h33 | skip
    rw [if_pos (by have : (s.length : Int) - (k : Int) < (n : Int) := h33; omega)]
    refine W_rs (sa rfl rfl (sa rfl rfl (sa rfl rfl (Wn (tN (W_ret (tR ?_)))))))
    exact (rTTT rfl rfl rfl rfl ⟨rfl, rfl⟩).1
   ·first | replace h33 := of_decide_eq_false h33 | replace h33 := of_decide_eq_true (notF h33) | replace h33 := notF h33 | skip
    have hsn : ¬ s.length - k < n := by have : ¬ (s.length : Int) - (k : Int) < (n : Int) := h33; omega
    rw [if_neg hsn]
    refine W_skip (tN (W_rs (sm rfl rfl (sm rfl rfl (sm rfl rfl (sm rfl rfl (st (X.convI (m := (n : Int)) (z := (n : Int)) rfl Tryz.underlying157 Tryz.underlying3 (w64 (by omega))) rfl (st (X.add64 rfl rfl (by omega)) rfl (st (X.cutS (s := s) (i := k) (j := k + n) rfl rfl rfl Tryz.underlying9 rfl (by omega) (by omega) (by omega)) rfl (sm rfl rfl ?_))))))))))
    refine sm rfl rfl (st (X.convI (m := (n : Int)) (z := (n : Int)) rfl Tryz.underlying157 Tryz.underlying3 (w64 (by omega))) rfl (st (X.add64 rfl rfl (by omega)) rfl (sa rfl rfl (sa rfl rfl (sa rfl rfl (Wn (tN (W_ret ((rTTT rfl rfl rfl rfl ⟨?_, rfl⟩).1)))))))))
    rw [List.drop_take, Nat.add_sub_cancel_left]
    rfl
theorem Fixed_ref (x : Nat) (w : World) (hx : x < 4294967296) : Calls Tryz.prog 131 #[.int .u64 x, .int .i64 4] w fun e w' => e = .returned (str (fixB x 4)) ∧ Below w.heap.size w w' := by
 refine W_enter (args := [.int .u64 x, .int .i64 4]) 22 Tryz.func131 rfl rfl rfl (W_sub [(0, .int .u64 x), (1, .int .i64 4)] ?_ ⟨rfl, rfl, trivial⟩)
 have hbw := Below.refl w.heap.size w
 refine W_rs (sa rfl rfl (Wn (tN (W_rs (sa rfl rfl (Wn (tN (W_seq (W_rs (sa rfl rfl ?_))))))))))
 refine Wn (tN (W_block (W_lp (fun nw1_ lw1_ w1 => ∃ i : Nat, ∃ v : Value, nw1_ = 4 - i ∧ lw1_ = ([(0, .int .u64 (x / 256 ^ i : Nat)), (1, .int .i64 4), (5, v), (6, .int .i64 i)] : Env) ∧ (i ≤ 4) ∧ (Below w.heap.size w w1) ∧ (Row w1 5 1 v i ((fixB x i).map bv)) ∧ (∀ k, v.ownBlock = some k → w.heap.size ≤ k)) _ ⟨_, ⟨0, .slice none 0 0, rfl, rfl, by omega, hbw, Row.nil _ _ _, (fun k hk => by simp [Value.ownBlock] at hk)⟩, ⟨by rw [Nat.pow_zero, Nat.div_one]; rfl, rfl, rfl, rfl, trivial⟩⟩ ?_)))
 clear hbw
 rintro nw1_ lw1_ w1 ⟨i, v, rfl, rfl, hi, hbw, hR, hO⟩
 have hz_w1 := hbw.size
 refine W_seq (W_rs (sm rfl rfl (sm rfl rfl (st (X.lss rfl rfl) rfl (Wn (tN (W_if rfl (fun h9 => ?_) (fun h9 => ?_))))))))
 ·first | replace h9 := of_decide_eq_true h9 | replace h9 := of_decide_eq_false (notT h9) | replace h9 := notT h9 | skip
  obtain ⟨y, hy⟩ : ∃ y, x / 256 ^ i = y := ⟨_, rfl⟩
  have hxi : y ≤ 4294967295 := by have := Nat.div_le_self x (256 ^ i); omega
  rw [hy]
  have hbt : (UInt8.ofNat (y % 256)).toNat = y % 256 := by simp
  refine W_skip (tN (W_seq (W_block (W_rs (sm rfl rfl (sm rfl rfl (st (X.rem64 rfl rfl (by omega) (by omega)) rfl (st (X.convI (m := (y : Int) % 256) (z := ((UInt8.ofNat (y % 256)).toNat : Int)) rfl Tryz.underlying157 Tryz.underlying5 (by rw [hbt]; exact IntWalk.u8_in _ (by omega))) rfl ?_))))))))
  refine sbs1 rfl Tryz.underlying94 inf5 rfl rfl (by decide) (by decide) rfl (fun g16 w2 hR16 hg16 hb => ?_)
  replace hbw := bthen hbw hb
  replace hR := hR.bel hb
  have hz_w2 := hb.size
  clear hb
  have hl16 := hR16.blt (by decide)
  refine sapp rfl rfl Tryz.underlying94 inf5 rfl (by decide) hR (hR16.reads.src Tryz.underlying94 (by intro u hu; simp [Value.cells] at hu; subst hu; rfl)) (by simp only [maxLen]; omega) (by omega) rfl (fun v' w3 hR' hC hv' => ?_)
  have hbn := bapp hbw hC hO
  have hOn := own_next hv' hO (by have := hbw.size; omega)
  have hRn : Row w3 5 1 v' (i + 1) ((fixB x (i + 1)).map bv) := by
   rw [← fixB_snoc, hy, List.map_append]
   exact hR'
  clear hbw hR hR16
  have hbw := hbn
  refine sa rfl rfl (Wn (tN (W_reg (sm rfl rfl ?_))))
  have hdv : (y : Int) / 256 = ((x / 256 ^ (i + 1) : Nat) : Int) := by
   rw [Nat.pow_succ, ← Nat.div_div_eq_div_mul, hy]
   rfl
  refine st (X.quo (z := (y : Int) / 256) rfl rfl (by omega) (by rw [Int.tdiv_eq_ediv_of_nonneg (by omega)]; exact IntWalk.u64_in _ (by omega))) rfl ?_
  refine sa rfl rfl (Wn (bN (tN (W_reg (sm rfl rfl (st (X.add64 rfl rfl (by omega)) rfl (sa rfl rfl (Wn (tN ⟨_, _, ?_, ⟨i + 1, v', rfl, rfl, by omega, hbw, hRn, hOn⟩, ⟨by rw [hdv]; rfl, rfl, rfl, rfl, trivial⟩⟩)))))))))
  omega
 ·first | replace h9 := of_decide_eq_false h9 | replace h9 := of_decide_eq_true (notF h9) | replace h9 := notF h9 | skip
  obtain rfl : i = 4 := by omega
  refine W_exit (tE (tE (bH (tN (W_rs (sm rfl rfl (st (X.strOf (s := fixB x 4) rfl Tryz.underlying94 Tryz.underlying5 Tryz.underlying9 hR.reads) rfl (sa rfl rfl (Wn (tN (W_ret ?_)))))))))))
  exact (rT rfl rfl ⟨rfl, hbw⟩).1
theorem text_same {k : UInt8} {s1 : List UInt8} {m : Nat} : ((textP s1 m).2.2 ≠ 0 → (textR (k :: s1) 1 m).2.2 = (textP s1 m).2.2) ∧ ((textP s1 m).2.2 = 0 → textR (k :: s1) 1 m = ((textP s1 m).1, 1 + (textP s1 m).2.1, 0)) := by
 have hk := uvM_len s1 0 0
 have hd : (k :: s1).drop 1 = s1 := rfl
 obtain ⟨u, hu⟩ : ∃ u, uvM 0 0 s1 = u := ⟨_, rfl⟩
 rw [hu] at hk
 obtain ⟨n, q, e⟩ := u
 simp only at hk
 by_cases he : e = 0
 ·subst he
  have hR : uvR (k :: s1) 1 0 = (n, 1 + q, 0) := by unfold uvR; rw [if_neg (by simp), hd, hu]; exact if_pos rfl
  have hP : textP s1 m = if m < n then ([], 0, 12) else if s1.length - q < n then ([], 0, 10) else ((s1.drop q).take n, q + n, 0) := by unfold textP; rw [hu]; exact if_neg (by simp)
  have hX : textR (k :: s1) 1 m = if m < n then ([], 1, 12) else if (k :: s1).length - (1 + q) < n then ([], 1, 10) else takeM (k :: s1) (1 + q) 0 n := by unfold textR; rw [hR]; exact if_neg (by simp)
  have hl : (k :: s1).length - (1 + q) = s1.length - q := by simp only [List.length_cons]; omega
  rw [hP, hX, hl]
  by_cases h1 : m < n
  ·rw [if_pos h1, if_pos h1]
   exact ⟨fun _ => rfl, fun h => absurd h (by simp)⟩
  ·rw [if_neg h1, if_neg h1]
   by_cases h2 : s1.length - q < n
   ·rw [if_pos h2, if_pos h2]
    exact ⟨fun _ => rfl, fun h => absurd h (by simp)⟩
   ·rw [if_neg h2, if_neg h2]
    refine ⟨fun h => absurd rfl h, fun _ => ?_⟩
    unfold takeM
    rw [if_neg (by simp), hl, if_neg h2, show 1 + q = q + 1 by omega, List.drop_succ_cons]
    show (_, _, _) = (_, _, _)
    rw [show q + 1 + n = 1 + (q + n) by omega]
 ·have hR : uvR (k :: s1) 1 0 = (0, 1, e) := by unfold uvR; rw [if_neg (by simp), hd, hu]; exact if_neg he
  have hP : textP s1 m = ([], 0, e) := by unfold textP; rw [hu]; exact if_pos he
  have hX : textR (k :: s1) 1 m = ([], 1, e) := by unfold textR; rw [hR]; exact if_pos he
  rw [hP, hX]
  exact ⟨fun _ => rfl, fun h => absurd h he⟩
set_option maxRecDepth 10000 in
theorem Next_ref (s : List UInt8) (w : World) (hs : s.length ≤ 1099511627776) : Calls Tryz.prog 111 #[str s] w fun e w' => e = .returned (nextV (nextM s)) ∧ Below w.heap.size w w' := by
 unfold nextM
 cases hse : s with
 | nil =>
  rw [if_pos rfl]
  refine W_enter (args := [str []]) 51 Tryz.func111 rfl rfl rfl (W_sub [(0, str [])] ?_ ⟨rfl, trivial⟩)
  have hbw := Below.refl w.heap.size w
  refine W_rs (sa rfl rfl (sa rfl rfl (sa rfl rfl (sa rfl rfl (Wn (tN (W_seq (W_rs (sm rfl rfl (st (X.eqS rfl rfl) rfl ?_))))))))))
  refine Wn (tN (W_yes rfl (rfl) (W_rs (sa rfl rfl (sa rfl rfl (sa rfl rfl (sa rfl rfl (Wn (tN (W_ret (tR ?_)))))))))))
  exact (r4T rfl rfl rfl rfl rfl ⟨rfl, hbw⟩).1
 | cons k s1 =>
  have hsame := text_same (k := k) (s1 := s1) (m := 1048576)
  rw [← hse] at hsame ⊢
  have hne : s ≠ [] := by rw [hse]; simp
  have hk : s.headD 0 = k := by rw [hse]; rfl
  have hg0 : s.getD 0 0 = k := by rw [hse]; rfl
  have hd1 : s.drop 1 = s1 := by rw [hse]; rfl
  have hsl : s.length = s1.length + 1 := by rw [hse]; rfl
  have hT := Text_ref s1 1048576 w (by omega) (by omega)
  rw [if_neg hne, hk]
  obtain ⟨p, hp⟩ : ∃ p, textP s1 1048576 = p := ⟨_, rfl⟩
  have hpn : p.2.1 ≤ s1.length := by
   rw [← hp]
   have hk := uvM_len s1 0 0
   unfold textP
   split
   ·exact Nat.zero_le _
   split
   ·exact Nat.zero_le _
   split
   ·exact Nat.zero_le _
   ·simp only
    omega
  rw [hp] at hT hsame
  obtain ⟨body, n, e⟩ := p
  simp only at hT hsame hpn
  refine W_enter (args := [str s]) 51 Tryz.func111 rfl rfl rfl (W_sub [(0, str s)] ?_ ⟨rfl, trivial⟩)
  have hbw := Below.refl w.heap.size w
  refine W_rs (sa rfl rfl (sa rfl rfl (sa rfl rfl (sa rfl rfl (Wn (tN (W_seq (W_rs (sm rfl rfl (st (X.eqS rfl rfl) rfl ?_))))))))))
  refine Wn (tN (W_no rfl (decide_eq_false hne) (W_skip (tN (W_seq (W_rs (sm rfl rfl (st (X.idxS (q := 0) rfl rfl Tryz.underlying9 rfl (by omega)) rfl ?_))))))))
  rw [hg0]
  refine st (X.eql rfl rfl) rfl (Wn (tN (W_if rfl (fun h13 => ?_) (fun h13 => ?_))))
  ·first | replace h13 := of_decide_eq_true h13 | replace h13 := of_decide_eq_false (notT h13) | replace h13 := notT h13 | skip
   rw [if_pos (by apply UInt8.toNat.inj; show k.toNat = 0; omega)]
   refine W_rs (sa rfl rfl (sa rfl rfl (sa rfl rfl (sa rfl rfl (Wn (tN (W_ret (tR ?_))))))))
   exact (r4T rfl rfl rfl rfl rfl ⟨rfl, hbw⟩).1
  ·first | replace h13 := of_decide_eq_false h13 | replace h13 := of_decide_eq_true (notF h13) | replace h13 := notF h13 | skip
   rw [if_neg (fun e => h13 (by rw [e]; rfl))]
   refine W_skip (tN (W_rs (sm rfl rfl (st (X.fromS (s := s) (i := 1) rfl rfl Tryz.underlying9 rfl (by omega)) rfl ?_))))
   rw [hd1]
   refine sc _ Tryz.func130 rfl (by kernel_rfl) rfl rfl ((hT).mono ?_)
   rintro e_ w_ ⟨rfl, rfl⟩
   refine cR (sm rfl rfl (st (X.ext rfl rfl) rfl (st (X.ext rfl rfl) rfl (st (X.ext rfl rfl) rfl (sa rfl rfl (sa rfl rfl (sa rfl rfl (Wn (tN (W_seq ?_))))))))))
   refine W_rs (sm rfl rfl (st (X.neq rfl rfl) rfl (Wn (tN (W_if rfl (fun h22 => ?_) (fun h22 => ?_))))))
   ·first | replace h22 := of_decide_eq_true h22 | replace h22 := of_decide_eq_false (notT h22) | replace h22 := notT h22 | skip
    rw [if_pos (by rw [hsame.1 h22]; exact h22), hsame.1 h22]
    refine W_rs (sm rfl rfl (sa rfl rfl (sa rfl rfl (sa rfl rfl (sa rfl rfl (Wn (tN (W_ret (tR ?_)))))))))
    exact (r4T rfl rfl rfl rfl rfl ⟨rfl, hbw⟩).1
   ·first | replace h22 := of_decide_eq_false h22 | replace h22 := of_decide_eq_true (notF h22) | replace h22 := notF h22 | skip
    obtain rfl : e = 0 := Classical.byContradiction h22
    rw [hsame.2 rfl]
    simp only [ne_eq, not_true_eq_false, if_false]
    refine W_skip (tN (W_seq (W_rs (sm rfl rfl (st (X.lenS rfl rfl Tryz.underlying9) rfl (sm rfl rfl (st (X.add64 rfl rfl (by omega)) rfl (st (X.add64 rfl rfl (by omega)) rfl (st (X.lss rfl rfl) rfl (Wn ?_))))))))))
    refine tN (W_if rfl (fun h29 => ?_) (fun h29 => ?_))
    ·first | replace h29 := of_decide_eq_true h29 | replace h29 := of_decide_eq_false (notT h29) | replace h29 := notT h29 | skip
     rw [if_pos (by omega)]
     refine W_rs (sa rfl rfl (sa rfl rfl (sa rfl rfl (sa rfl rfl (Wn (tN (W_ret (tR ?_))))))))
     exact (r4T rfl rfl rfl rfl rfl ⟨rfl, hbw⟩).1
    ·first | replace h29 := of_decide_eq_false h29 | replace h29 := of_decide_eq_true (notF h29) | replace h29 := notF h29 | skip
     have hl4 : ¬ s.length - (1 + n) < 4 := by omega
     rw [if_neg hl4]
     have hcl := (Crc.crc (s.take (1 + n))).toNat_lt
     have hx4 : ((s.drop (1 + n)).take 4).length = 4 := by rw [List.length_take, List.length_drop]; omega
     refine W_skip (tN (W_seq (W_drsN (fun _ => True) [0, 1, 2, 3, 7, 8, 9, 10, 11, 12, 13, 4, 5, 6, 14] [true, true, true, true, true, true, true, true, true, true, true, false, true, false, true] (by kernel_rfl) (by kernel_rfl) (trivial) ?_)))
     obtain ⟨w1, hw_⟩ : ∃ w1 : World, w1 = World.drew w := ⟨_, rfl⟩
     rw [← hw_]
     have hb : Below w.heap.size w w1 := by rw [hw_]; exact bdrew (Below.refl _ _)
     clear hw_
     have hS : True := trivial
     replace hbw := bthen hbw hb
     have hz_w1 := hb.size
     clear hb
     refine oY rfl (fun W_ hW_ => (X.move rfl)) rfl (oY rfl (fun W_ hW_ => (X.move rfl)) rfl (oY rfl (fun W_ hW_ => (X.add64 rfl rfl (by omega))) rfl (oY rfl (fun W_ hW_ => (X.toS (s := s) (j := 1 + n) rfl rfl Tryz.underlying9 (by omega) (by omega))) rfl (oY rfl (fun W_ hW_ => (X.move rfl)) rfl (oY rfl (fun W_ hW_ => (X.move rfl)) rfl (oY rfl (fun W_ hW_ => (X.add64 rfl rfl (by omega))) rfl (oY rfl (fun W_ hW_ => (X.move rfl)) rfl (oY rfl (fun W_ hW_ => (X.add64 rfl rfl (by omega))) rfl (oY rfl (fun W_ hW_ => (X.add64 rfl rfl (by omega))) rfl (oY rfl (fun W_ hW_ => (X.cutS (s := s) (i := 1 + n) (j := 1 + n + 4) rfl rfl rfl Tryz.underlying9 (by omega) (by omega) (by omega) (by omega))) rfl ?_))))))))))
     refine oL rfl (fun Q_ hQ_ hP_ => (sc _ Tryz.func132 rfl (by kernel_rfl) rfl rfl ((refCrc_any (s.take (1 + n)) _ (by rw [List.length_take]; omega)).mono ?_)))
     rintro e_ w_ ⟨rfl, rfl⟩
     refine cR (Wn (hQ_ _ _ trivial ?_))
     clear hQ_ hP_ Q_
     refine oY rfl (fun W_ hW_ => (X.convI (m := ((Crc.crc (s.take (1 + n))).toNat : Int)) (z := ((Crc.crc (s.take (1 + n))).toNat : Int)) rfl Tryz.underlying118 Tryz.underlying157 (IntWalk.u64_in _ (by omega)))) rfl (oL rfl (fun Q_ hQ_ hP_ => (sc _ Tryz.func131 rfl (by kernel_rfl) rfl rfl ((Fixed_ref (Crc.crc (s.take (1 + n))).toNat _ (by omega)).mono ?_))))
     rintro e_ w2 ⟨rfl, hb⟩
     refine cR ?_
     replace hbw := bthen hbw hb
     have hz_w2 := hb.size
     clear hb
     refine Wn (hQ_ _ _ trivial ?_)
     clear hQ_ hP_ Q_
     refine oY rfl (fun W_ hW_ => (X.neS rfl rfl)) rfl (oN (nN (W_if rfl (fun h44 => ?_) (fun h44 => ?_))))
     ·first | replace h44 := of_decide_eq_true h44 | replace h44 := of_decide_eq_false (notT h44) | replace h44 := notT h44 | skip
      have hsum : leN ((s.drop (1 + n)).take 4) ≠ (Crc.crc (s.take (1 + n))).toNat := fun e => h44 (by rw [List.drop_take, Nat.add_sub_cancel_left]; exact (fixB_eq hx4 (by omega)).2 e)
      rw [if_pos hsum]
      refine W_rs (sa rfl rfl (sa rfl rfl (sa rfl rfl (sa rfl rfl (Wn (tN (W_ret (tR ?_))))))))
      exact (r4T rfl rfl rfl rfl rfl ⟨rfl, hbw⟩).1
     ·first | replace h44 := of_decide_eq_false h44 | replace h44 := of_decide_eq_true (notF h44) | replace h44 := notF h44 | skip
      have hsum : leN ((s.drop (1 + n)).take 4) = (Crc.crc (s.take (1 + n))).toNat := (fixB_eq hx4 (by omega)).1 (by have h := Decidable.of_not_not h44; rw [List.drop_take, Nat.add_sub_cancel_left] at h; exact h)
      rw [if_neg (fun h => h hsum)]
      refine W_skip (tN (W_rs (sm rfl rfl (st (X.idxS (q := 0) rfl rfl Tryz.underlying9 rfl (by omega)) rfl ?_))))
      rw [hg0]
      refine sm rfl rfl (sm rfl rfl (st (X.add64 rfl rfl (by omega)) rfl (st (X.add64 rfl rfl (by omega)) rfl (sa rfl rfl (sa rfl rfl (sa rfl rfl (sa rfl rfl (Wn (tN (W_ret ?_))))))))))
      exact (r4T rfl rfl rfl rfl rfl ⟨rfl, hbw⟩).1
end Go.Proofs.YtnijmegalgoipaaGreatDoor
namespace Go.Proofs.YtnijmegalgoipaaGreatDoor
open Go.RowKit
def uvF : Nat → Nat → List UInt8
  | 0, _ => []
  | n + 1, x => if x < 128 then [UInt8.ofNat (x % 256)] else (UInt8.ofNat (x % 256) ||| 128) :: uvF n (x / 128)
def uvB (x : Nat) : List UInt8 := uvF 10 x
theorem uvF_lt {n x : Nat} (hn : 0 < n) (h : x < 128) : uvF n x = [UInt8.ofNat (x % 256)] := by
 obtain ⟨m, rfl⟩ : ∃ m, n = m + 1 := ⟨n - 1, by omega⟩
 rw [uvF, if_pos h]
theorem uvF_ge {n x : Nat} (hn : 0 < n) (h : ¬ x < 128) : uvF n x = [UInt8.ofNat (x % 256) ||| 128] ++ uvF (n - 1) (x / 128) := by
 obtain ⟨m, rfl⟩ : ∃ m, n = m + 1 := ⟨n - 1, by omega⟩
 rw [uvF, if_neg h]
 rfl
theorem uv_step {k x : Nat} (hk : k ≤ 9) (h : x < 2 ^ (64 - 7 * k)) (h8 : 128 ≤ x) : k + 1 ≤ 9 ∧ x / 128 < 2 ^ (64 - 7 * (k + 1)) := by
 have : k = 0 ∨ k = 1 ∨ k = 2 ∨ k = 3 ∨ k = 4 ∨ k = 5 ∨ k = 6 ∨ k = 7 ∨ k = 8 ∨ k = 9 := by omega
 rcases this with rfl | rfl | rfl | rfl | rfl | rfl | rfl | rfl | rfl | rfl
 all_goals (simp only [Nat.reduceMul, Nat.reduceSub, Nat.reducePow, Nat.reduceAdd] at h ⊢; omega)
section
variable {l : Env} {x : Operand} {p : Option Addr} {t' ty : TypeId} {w : World}
theorem wrNeP (w : World) (a : Addr) : (binOp .neq 154 (.pointer (some a)) (.pointer none)).run Tryz.prog w = .ok (.bool true) w := by kernel_rfl
theorem wrEqP (w : World) (a : Addr) : (binOp .eql 154 (.pointer (some a)) (.pointer none)).run Tryz.prog w = .ok (.bool false) w := by kernel_rfl
theorem X.wrNe {a : Addr} (hx : ev l x = some (.pointer (some a))) : X Tryz.prog l (.binOp .neq 154 x (.const (.pointer none)) t') ty w (.bool true) w :=
 X.bin hx rfl guard_ptr (wrNeP w a)
theorem X.wrEq {a : Addr} (hx : ev l x = some (.pointer (some a))) : X Tryz.prog l (.binOp .eql 154 x (.const (.pointer none)) t') ty w (.bool false) w :=
 X.bin hx rfl guard_ptr (wrEqP w a)
end
theorem uvB_length : ∀ (x : Nat), x < 100000000 → (uvB x).length ≤ 4 := by
 intro x hx
 unfold uvB
 rw [uvF]
 split
 ·simp
 rw [uvF]
 split
 ·simp
 rw [uvF]
 split
 ·simp
 rw [uvF]
 split
 ·simp
 ·omega
structure WrAt (w : World) (B g : Nat) (t : List UInt8) : Prop where
  ge : B ≤ g
  is : ∃ v, Blk w g 114 #[v] ∧ Row w 5 1 v t.length (t.map bv) ∧ ∀ k, v.ownBlock = some k → B ≤ k
theorem WrAt.bel {w w' : World} {B g : Nat} {t : List UInt8} (h : WrAt w B g t) (hb : Below w.heap.size w w') : WrAt w' B g t := by
 obtain ⟨h1, v, h2, h3, h4⟩ := h
 exact ⟨h1, v, h2.bel hb, h3.bel hb, h4⟩
theorem WrAt.lt {w : World} {B g : Nat} {t : List UInt8} (h : WrAt w B g t) : g < w.heap.size := by
 obtain ⟨h1, v, h2, h3, h4⟩ := h
 exact h2.lt
theorem wput_any (B g : Nat) (t m : List UInt8) (u : Value) (w : World) (h : WrAt w B g t) (hu : Reads w 1 u m.length (m.map bv)) (hl : t.length + m.length ≤ 4398046511104) :
  Calls Tryz.prog 103 #[.pointer (some ⟨g, 0, none⟩), u] w fun e w' => e = .returned (.tuple #[]) ∧ WrAt w' B g (t ++ m) ∧ Chg (fun k => B ≤ k) w w' := by
 obtain ⟨hge, v, hB, hR, hvo⟩ := h
 have hlt := hB.lt
 refine W_enter (args := [.pointer (some ⟨g, 0, none⟩), u]) 15 Tryz.func103 rfl rfl rfl (W_sub [(0, .pointer (some ⟨g, 0, none⟩)), (1, u)] ?_ ⟨rfl, rfl, trivial⟩)
 have hcw := Chg.refl (fun k => B ≤ k) w
 refine W_rs (sm rfl rfl (st (X.wrNe rfl) rfl (Wn (tN (W_yes rfl (rfl) (W_reg (sm rfl rfl (sm rfl rfl (st (X.nilChk rfl) rfl (st (X.fa fa114_0 rfl) rfl ?_))))))))))
 refine st (X.ldL rfl hB Tryz.underlying94 rfl rfl) rfl (sm rfl rfl (sapp rfl rfl Tryz.underlying94 inf5 rfl (by decide) hR (hu.src Tryz.underlying94 (bv_one m)) (by simp only [maxLen]; omega) (by omega) rfl (fun v' w1 hR2 hC2 hv => ?_)))
 obtain ⟨a', c', rfl, _, _⟩ := hR2.shape
 have hz_w1 := hC2.size
 replace hB := hB.chg hC2 (fun hk => hR.ne2 hB (by decide) _ hk rfl)
 have hne := hR2.ne2 hB (by decide)
 replace hcw := hcw.next hC2 (fun i hi => .inl (hvo i hi))
 replace hR := hR2
 clear hC2 hR2
 refine st (X.nilChk rfl) rfl (st (X.fa fa114_0 rfl) rfl (ssB rfl rfl hB siz94 rfl (by first | decide | simp) (fun w2 hB_ hc_ => ?_)))
 replace hB := hB_
 clear hB_
 replace hR := hR.chg hc_ (by first | (show ¬ _ = _; omega) | (intro k_ hk_; simp [Value.ownBlock] at hk_; subst hk_; show ¬ _ = _; omega) | assumption | trivial)
 replace hcw := hcw.next hc_ (fun i_ hi_ => by first | exact .inl hi_ | exact .inl (.inl hi_) | (right; subst hi_; omega) | (left; subst hi_; show _ ≤ _; omega) | (left; subst hi_; assumption))
 have hz_w2 := hc_.size
 clear hc_
 refine Wn ((r0 rfl ⟨rfl, ⟨hge, _, hB, ?_, ?_⟩, hcw⟩).2)
 ·rw [List.map_append, List.length_append]; exact hR
 ·intro k hk
  rcases hv with hv | hv
  ·exact hvo k (hv ▸ hk)
  ·rw [hv] at hk
   injection hk with hk
   omega
section
variable (B g : Nat) (t : List UInt8) (w : World) (h : WrAt w B g t)
include h
theorem WU8_any (x : UInt8) (hl : t.length ≤ 1099511627776) : Calls Tryz.prog 73 #[.pointer (some ⟨g, 0, none⟩), .int .u8 x.toNat] w fun e w' => e = .returned (.tuple #[]) ∧ WrAt w' B g (t ++ [x]) ∧ Chg (fun k => B ≤ k) w w' := by
 have hlt := h.lt
 have hge := h.ge
 refine W_enter (args := [.pointer (some ⟨g, 0, none⟩), .int .u8 x.toNat]) 8 Tryz.func73 rfl rfl rfl (W_sub [(0, .pointer (some ⟨g, 0, none⟩)), (1, .int .u8 x.toNat)] ?_ ⟨rfl, rfl, trivial⟩)
 have hcw := Chg.refl (fun k => B ≤ k) w
 refine W_reg (sm rfl rfl (sm rfl rfl (sbs1 rfl Tryz.underlying94 inf5 rfl rfl (by decide) (by decide) rfl (fun g6 w1 hR6 hg6 hb => ?_))))
 replace hcw := hcw.then_below hb
 replace h := h.bel hb
 have hz_w1 := hb.size
 clear hb
 have hl6 := hR6.blt (by decide)
 refine sc _ Tryz.func103 rfl (by kernel_rfl) rfl rfl ((wput_any B g t [x] _ _ h hR6.reads (by simp; omega)).mono ?_)
 clear h
 rintro e_ w2 ⟨rfl, h, hC⟩
 refine cR ?_
 replace hcw := hcw.next hC (fun i_ hi_ => by first | exact .inl hi_ | exact .inl (.inl hi_) | (right; subst hi_; omega) | (left; subst hi_; show _ ≤ _; omega) | (left; subst hi_; assumption))
 have hz_w2 := hC.size
 clear hC
 refine Wn ?_
 exact (r0 rfl ⟨rfl, h, hcw⟩).2
theorem WRaw_any (m : List UInt8) (hl : t.length ≤ 1099511627776) (hm : m.length ≤ 1099511627776) : Calls Tryz.prog 105 #[.pointer (some ⟨g, 0, none⟩), str m] w fun e w' => e = .returned (.tuple #[]) ∧ WrAt w' B g (t ++ m) ∧ Chg (fun k => B ≤ k) w w' := by
 have hlt := h.lt
 have hge := h.ge
 refine W_enter (args := [.pointer (some ⟨g, 0, none⟩), str m]) 8 Tryz.func105 rfl rfl rfl (W_sub [(0, .pointer (some ⟨g, 0, none⟩)), (1, str m)] ?_ ⟨rfl, rfl, trivial⟩)
 have hcw := Chg.refl (fun k => B ≤ k) w
 refine W_reg (sm rfl rfl (sm rfl rfl (scb (s := m) rfl Tryz.underlying9 Tryz.underlying94 Tryz.underlying5 (by omega) rfl (fun gv cv w1 hR hgv hgl hb => ?_))))
 replace h := h.bel hb
 replace hcw := hcw.then_below hb
 have hz_w1 := hb.size
 clear hb
 refine sc _ Tryz.func103 rfl (by kernel_rfl) rfl rfl ((wput_any B g t m _ _ h hR (by omega)).mono ?_)
 clear h
 rintro e_ w2 ⟨rfl, h, hC⟩
 refine cR ?_
 replace hcw := hcw.next hC (fun i_ hi_ => by first | exact .inl hi_ | exact .inl (.inl hi_) | (right; subst hi_; omega) | (left; subst hi_; show _ ≤ _; omega) | (left; subst hi_; assumption))
 have hz_w2 := hC.size
 clear hC
 refine Wn ?_
 exact (r0 rfl ⟨rfl, h, hcw⟩).2
theorem WUvar_any (x : Nat) (hl : t.length ≤ 1099511627776) (hx : x < 18446744073709551616) : Calls Tryz.prog 104 #[.pointer (some ⟨g, 0, none⟩), .int .u64 x] w fun e w' => e = .returned (.tuple #[]) ∧ WrAt w' B g (t ++ uvB x) ∧ Chg (fun k => B ≤ k) w w' := by
 have hlt := h.lt
 have hge := h.ge
 refine W_enter (args := [.pointer (some ⟨g, 0, none⟩), .int .u64 x]) 19 Tryz.func104 rfl rfl rfl (W_sub [(0, .pointer (some ⟨g, 0, none⟩)), (1, .int .u64 x)] ?_ ⟨rfl, rfl, trivial⟩)
 have hcw := Chg.refl (fun k => B ≤ k) w
 refine W_seq (W_block (W_lp (fun nw1_ lw1_ w1 => ∃ y : Nat, ∃ m : List UInt8, nw1_ = 0 + y ∧ lw1_ = ([(0, .pointer (some ⟨g, 0, none⟩)), (1, .int .u64 y)] : Env) ∧ (y < 2 ^ (64 - 7 * m.length)) ∧ (m.length ≤ 9) ∧ (uvB x = m ++ uvF (10 - m.length) y) ∧ (WrAt w1 B g (t ++ m)) ∧ (Chg (fun k => B ≤ k) w w1)) _ ⟨_, ⟨x, [], rfl, rfl, by simpa using hx, by simp, rfl, by rw [List.append_nil]; exact h, hcw⟩, ⟨rfl, rfl, trivial⟩⟩ ?_))
 clear hcw
 rintro nw1_ lw1_ w1 ⟨y, m, rfl, rfl, hy, hm9, hub, h, hcw⟩
 have hlt2 := h.lt
 have hz_w1 := hcw.size
 have hml : (t ++ m).length = t.length + m.length := List.length_append
 have hy64 : y < 18446744073709551616 := Nat.lt_of_lt_of_le hy (Nat.pow_le_pow_right (by decide) (show 64 - 7 * m.length ≤ 64 by omega))
 have hbt : (UInt8.ofNat (y % 256)).toNat = y % 256 := by simp
 refine W_seq (W_rs (sm rfl rfl (st (X.geq rfl rfl) rfl (Wn (tN (W_if rfl (fun h5 => ?_) (fun h5 => ?_)))))))
 ·first | replace h5 := of_decide_eq_true h5 | replace h5 := of_decide_eq_false (notT h5) | replace h5 := notT h5 | skip
  have hst := uv_step hm9 hy (by omega)
  refine W_skip (tN (W_seq (W_block (W_reg (sm rfl rfl (sm rfl rfl (st (X.convI (m := (y : Int)) (z := ((UInt8.ofNat (y % 256)).toNat : Int)) rfl Tryz.underlying157 Tryz.underlying5 (by rw [hbt, w8]; omega)) rfl ?_)))))))
  refine st (X.bits (by simp) rfl rfl (or_u8 _ 128)) rfl ?_
  refine sbs1 rfl Tryz.underlying94 inf5 rfl rfl (by decide) (by decide) rfl (fun g12 w2 hR12 hg12 hb => ?_)
  replace hcw := hcw.then_below hb
  replace h := h.bel hb
  have hz_w2 := hb.size
  clear hb
  have hl12 := hR12.blt (by decide)
  refine sc _ Tryz.func103 rfl (by kernel_rfl) rfl rfl ((wput_any B g (t ++ m) [UInt8.ofNat (y % 256) ||| 128] _ _ h hR12.reads (by simp; omega)).mono ?_)
  clear h
  rintro e_ w3 ⟨rfl, h, hC⟩
  refine cR ?_
  replace hcw := hcw.next hC (fun i_ hi_ => by first | exact .inl hi_ | exact .inl (.inl hi_) | (right; subst hi_; omega) | (left; subst hi_; show _ ≤ _; omega) | (left; subst hi_; assumption))
  have hz_w3 := hC.size
  clear hC
  refine Wn (bN (tN (W_reg (sm rfl rfl (st (X.shr (q := 128) rfl rfl (by decide) (by decide) rfl rfl) rfl (sa rfl rfl (Wn (tN ⟨_, _, ?_, ⟨y / 128, m ++ [UInt8.ofNat (y % 256) ||| 128], rfl, rfl, by rw [List.length_append]; exact hst.2, by rw [List.length_append]; exact hst.1, by rw [hub, uvF_ge (by omega) (by omega), List.append_assoc, List.length_append, Nat.sub_sub]; rfl, by rw [← List.append_assoc]; exact h, hcw⟩, ⟨rfl, rfl, trivial⟩⟩))))))))
  omega
 ·first | replace h5 := of_decide_eq_false h5 | replace h5 := of_decide_eq_true (notF h5) | replace h5 := notF h5 | skip
  refine W_exit (tE (tE (bH (tN (W_reg (sm rfl rfl (sm rfl rfl (st (X.convI (m := (y : Int)) (z := ((UInt8.ofNat (y % 256)).toNat : Int)) rfl Tryz.underlying157 Tryz.underlying5 (by rw [hbt, w8]; omega)) rfl ?_))))))))
  refine sbs1 rfl Tryz.underlying94 inf5 rfl rfl (by decide) (by decide) rfl (fun g17 w4 hR17 hg17 hb => ?_)
  replace hcw := hcw.then_below hb
  replace h := h.bel hb
  have hz_w4 := hb.size
  clear hb
  have hl17 := hR17.blt (by decide)
  refine sc _ Tryz.func103 rfl (by kernel_rfl) rfl rfl ((wput_any B g (t ++ m) [UInt8.ofNat (y % 256)] _ _ h hR17.reads (by simp; omega)).mono ?_)
  clear h
  rintro e_ w5 ⟨rfl, h, hC⟩
  refine cR ?_
  replace hcw := hcw.next hC (fun i_ hi_ => by first | exact .inl hi_ | exact .inl (.inl hi_) | (right; subst hi_; omega) | (left; subst hi_; show _ ≤ _; omega) | (left; subst hi_; assumption))
  have hz_w5 := hC.size
  clear hC
  refine Wn ?_
  have hub2 : uvB x = m ++ [UInt8.ofNat (y % 256)] := by rw [hub, uvF_lt (by omega) (by omega)]
  rw [List.append_assoc, ← hub2] at h
  exact (r0 rfl ⟨rfl, h, hcw⟩).2
theorem WText_any (m : List UInt8) (hl : t.length ≤ 1000000) (hm : m.length ≤ 10000000) : Calls Tryz.prog 74 #[.pointer (some ⟨g, 0, none⟩), str m] w fun e w' => e = .returned (.tuple #[]) ∧ WrAt w' B g (t ++ (uvB m.length ++ m)) ∧ Chg (fun k => B ≤ k) w w' := by
 have hlt := h.lt
 have hge := h.ge
 have hul := uvB_length m.length (by omega)
 refine W_enter (args := [.pointer (some ⟨g, 0, none⟩), str m]) 12 Tryz.func74 rfl rfl rfl (W_sub [(0, .pointer (some ⟨g, 0, none⟩)), (1, str m)] ?_ ⟨rfl, rfl, trivial⟩)
 have hcw := Chg.refl (fun k => B ≤ k) w
 refine W_rs (sm rfl rfl (sm rfl rfl (st (X.lenS rfl rfl Tryz.underlying9) rfl (st (X.convI (m := (m.length : Int)) (z := (m.length : Int)) rfl Tryz.underlying3 Tryz.underlying157 (IntWalk.u64_in _ (by omega))) rfl (sc _ Tryz.func104 rfl (by kernel_rfl) rfl rfl ((WUvar_any B g t _ h m.length (by omega) (by omega)).mono ?_))))))
 clear h
 rintro e_ w1 ⟨rfl, h, hC⟩
 refine cR ?_
 replace hcw := hcw.next hC (fun i_ hi_ => by first | exact .inl hi_ | exact .inl (.inl hi_) | (right; subst hi_; omega) | (left; subst hi_; show _ ≤ _; omega) | (left; subst hi_; assumption))
 have hz_w1 := hC.size
 clear hC
 refine Wn (tN (W_reg (sm rfl rfl (sm rfl rfl (sc _ Tryz.func105 rfl (by kernel_rfl) rfl rfl ((WRaw_any B g (t ++ uvB m.length) _ h m (by rw [List.length_append]; omega) (by omega)).mono ?_))))))
 clear h
 rintro e_ w2 ⟨rfl, h, hC⟩
 refine cR ?_
 replace hcw := hcw.next hC (fun i_ hi_ => by first | exact .inl hi_ | exact .inl (.inl hi_) | (right; subst hi_; omega) | (left; subst hi_; show _ ≤ _; omega) | (left; subst hi_; assumption))
 have hz_w2 := hC.size
 clear hC
 refine Wn ?_
 rw [List.append_assoc] at h
 exact (r0 rfl ⟨rfl, h, hcw⟩).2
theorem Wfixed_any (x n : Nat) (hl : t.length ≤ 1099511627776) (hn : n ≤ 8) (hx : x < 18446744073709551616) : Calls Tryz.prog 106 #[.pointer (some ⟨g, 0, none⟩), .int .u64 x, .int .i64 n] w fun e w' => e = .returned (.tuple #[]) ∧ WrAt w' B g (t ++ fixB x n) ∧ Chg (fun k => B ≤ k) w w' := by
 have hlt := h.lt
 have hge := h.ge
 refine W_enter (args := [.pointer (some ⟨g, 0, none⟩), .int .u64 x, .int .i64 n]) 17 Tryz.func106 rfl rfl rfl (W_sub [(0, .pointer (some ⟨g, 0, none⟩)), (1, .int .u64 x), (2, .int .i64 n)] ?_ ⟨rfl, rfl, rfl, trivial⟩)
 have hcw := Chg.refl (fun k => B ≤ k) w
 refine W_rs (sm rfl rfl (sm rfl rfl (Wn (tN (W_block (W_lp (fun nw1_ lw1_ w1 => ∃ i : Nat, nw1_ = n - i ∧ lw1_ = ([(0, .pointer (some ⟨g, 0, none⟩)), (1, .int .u64 (x / 256 ^ i : Nat)), (6, .int .i64 n), (7, .int .i64 i)] : Env) ∧ (i ≤ n) ∧ (WrAt w1 B g (t ++ fixB x i)) ∧ (Chg (fun k => B ≤ k) w w1)) _ ⟨_, ⟨0, rfl, rfl, by omega, by rw [fixB, List.append_nil]; exact h, hcw⟩, ⟨rfl, by rw [Nat.pow_zero, Nat.div_one]; rfl, rfl, rfl, trivial⟩⟩ ?_))))))
 clear hcw
 rintro nw1_ lw1_ w1 ⟨i, rfl, rfl, hi, h, hcw⟩
 have hlt2 := h.lt
 have hz_w1 := hcw.size
 have hml : (t ++ fixB x i).length = t.length + i := by rw [List.length_append, fixB_length]
 have hfl := fixB_length x i
 refine W_rs (st (X.lss rfl rfl) rfl (Wn (tN (W_seq (W_if rfl (fun h8 => ?_) (fun h8 => ?_))))))
 ·first | replace h8 := of_decide_eq_true h8 | replace h8 := of_decide_eq_false (notT h8) | replace h8 := notT h8 | skip
  obtain ⟨y, hy⟩ : ∃ y, x / 256 ^ i = y := ⟨_, rfl⟩
  have hxi : y < 18446744073709551616 := by have := Nat.div_le_self x (256 ^ i); omega
  rw [hy]
  have hbt : (UInt8.ofNat (y % 256)).toNat = y % 256 := by simp
  refine W_skip (tN (W_seq (W_block (W_rs (sm rfl rfl (sm rfl rfl (st (X.convI (m := (y : Int)) (z := ((UInt8.ofNat (y % 256)).toNat : Int)) rfl Tryz.underlying157 Tryz.underlying5 (by rw [hbt, w8]; omega)) rfl ?_)))))))
  refine sbs1 rfl Tryz.underlying94 inf5 rfl rfl (by decide) (by decide) rfl (fun g12 w2 hR12 hg12 hb => ?_)
  replace hcw := hcw.then_below hb
  replace h := h.bel hb
  have hz_w2 := hb.size
  clear hb
  have hl12 := hR12.blt (by decide)
  refine sc _ Tryz.func103 rfl (by kernel_rfl) rfl rfl ((wput_any B g (t ++ fixB x i) [UInt8.ofNat (y % 256)] _ _ h hR12.reads (by simp; omega)).mono ?_)
  clear h
  rintro e_ w3 ⟨rfl, h, hC⟩
  refine cR ?_
  replace hcw := hcw.next hC (fun i_ hi_ => by first | exact .inl hi_ | exact .inl (.inl hi_) | (right; subst hi_; omega) | (left; subst hi_; show _ ≤ _; omega) | (left; subst hi_; assumption))
  have hz_w3 := hC.size
  clear hC
  rw [← hy] at h ⊢
  refine Wn (tN (W_reg (sm rfl rfl (st (X.shr (q := 256) rfl rfl (by decide) (by decide) rfl rfl) rfl (sa rfl rfl (Wn (bN (tN (W_reg (st (X.add64 rfl rfl (by omega)) rfl ?_))))))))))
  refine sm rfl rfl (Wn (tN ⟨_, _, ?_, ⟨i + 1, rfl, rfl, by omega, by rw [← fixB_snoc, ← List.append_assoc]; exact h, hcw⟩, ⟨rfl, by rw [Nat.pow_succ, ← Nat.div_div_eq_div_mul]; rfl, rfl, rfl, trivial⟩⟩))
  omega
 ·first | replace h8 := of_decide_eq_false h8 | replace h8 := of_decide_eq_true (notF h8) | replace h8 := notF h8 | skip
  refine W_exit (tE (tE (bH ?_)))
  obtain rfl : i = n := by omega
  exact (r0 rfl ⟨rfl, h, hcw⟩).2
theorem WU32_any (x : Nat) (hl : t.length ≤ 1099511627776) (hx : x < 4294967296) : Calls Tryz.prog 75 #[.pointer (some ⟨g, 0, none⟩), .int .u32 x] w fun e w' => e = .returned (.tuple #[]) ∧ WrAt w' B g (t ++ fixB x 4) ∧ Chg (fun k => B ≤ k) w w' := by
 have hlt := h.lt
 have hge := h.ge
 refine W_enter (args := [.pointer (some ⟨g, 0, none⟩), .int .u32 x]) 8 Tryz.func75 rfl rfl rfl (W_sub [(0, .pointer (some ⟨g, 0, none⟩)), (1, .int .u32 x)] ?_ ⟨rfl, rfl, trivial⟩)
 have hcw := Chg.refl (fun k => B ≤ k) w
 refine W_reg (sm rfl rfl (sm rfl rfl (st (X.convI (m := (x : Int)) (z := (x : Int)) rfl Tryz.underlying118 Tryz.underlying157 (IntWalk.u64_in _ (by omega))) rfl (sc _ Tryz.func106 rfl (by kernel_rfl) rfl rfl ((Wfixed_any B g t _ h x 4 hl (by omega) (by omega)).mono ?_)))))
 clear h
 rintro e_ w1 ⟨rfl, h, hC⟩
 refine cR ?_
 replace hcw := hcw.next hC (fun i_ hi_ => by first | exact .inl hi_ | exact .inl (.inl hi_) | (right; subst hi_; omega) | (left; subst hi_; show _ ≤ _; omega) | (left; subst hi_; assumption))
 have hz_w1 := hC.size
 clear hC
 refine Wn ?_
 exact (r0 rfl ⟨rfl, h, hcw⟩).2
theorem WString_any : Calls Tryz.prog 77 #[.pointer (some ⟨g, 0, none⟩)] w fun e w' => e = .returned (str t) ∧ w = w' := by
 obtain ⟨hge, v, hB, hR, hvo⟩ := h
 refine W_enter (args := [.pointer (some ⟨g, 0, none⟩)]) 10 Tryz.func77 rfl rfl rfl (W_sub [(0, .pointer (some ⟨g, 0, none⟩))] ?_ ⟨rfl, trivial⟩)
 refine W_rs (sa rfl rfl (Wn (tN (W_seq (W_rs (sm rfl rfl (st (X.wrEq rfl) rfl (Wn (tN (W_no rfl (rfl) ?_))))))))))
 refine W_skip (tN (W_rs (sm rfl rfl (st (X.nilChk rfl) rfl (st (X.fa fa114_0 rfl) rfl (st (X.ldL rfl hB Tryz.underlying94 rfl rfl) rfl (st (X.strOf (s := t) rfl Tryz.underlying94 Tryz.underlying5 Tryz.underlying9 hR.reads) rfl (sa rfl rfl (Wn (tN ?_))))))))))
 refine W_ret ?_
 exact (rT rfl rfl ⟨rfl, rfl⟩).1
end
def sealM (k : UInt8) (b : List UInt8) : List UInt8 := if k = 0 ∨ 1048576 < b.length then [] else ([k] ++ (uvB b.length ++ b)) ++ fixB (Crc.crc ([k] ++ (uvB b.length ++ b))).toNat 4
theorem Seal_any (k : UInt8) (b : List UInt8) (w : World) (hl : b.length ≤ 1099511627776) : Calls Tryz.prog 24 #[.int .u8 k.toNat, str b] w fun e w' => e = .returned (str (sealM k b)) ∧ Below w.heap.size w w' := by
 unfold sealM
 refine W_enter (args := [.int .u8 k.toNat, str b]) 21 Tryz.func24 rfl rfl rfl (W_sub [(0, .int .u8 k.toNat), (1, str b)] ?_ ⟨rfl, rfl, trivial⟩)
 have hcw := Chg.refl (fun k => w.heap.size ≤ k) w
 refine W_rs (sa rfl rfl (Wn (tN (W_seq (W_rs (sm rfl rfl (st (X.eql rfl rfl) rfl (sb rfl rfl (fun h8 => ?_) (fun h8 => ?_)))))))))
 ·first | replace h8 := of_decide_eq_true h8 | replace h8 := of_decide_eq_false (notT h8) | replace h8 := notT h8 | skip
  rw [if_pos (.inl (by apply UInt8.toNat.inj; show k.toNat = 0; omega))]
  refine gN (g := 8) rfl rfl rfl rfl (gN (g := 8) rfl rfl rfl rfl (gN (g := 8) rfl rfl rfl rfl (st (X.pickT rfl rfl) rfl (Wn (tN (W_yes rfl (rfl) (W_rs (sa rfl rfl (Wn (tN ?_))))))))))
  refine W_ret (tR ?_)
  exact (rT rfl rfl ⟨rfl, hcw.below (Nat.le_refl _) (fun _ h => h)⟩).1
 ·first | replace h8 := of_decide_eq_false h8 | replace h8 := of_decide_eq_true (notF h8) | replace h8 := notF h8 | skip
  have hk0 : k ≠ 0 := fun e => h8 (by rw [e]; rfl)
  refine gY (g := 8) rfl rfl rfl (sm rfl rfl (gY (g := 8) rfl rfl rfl (st (X.lenS rfl rfl Tryz.underlying9) rfl (gY (g := 8) rfl rfl rfl (st (X.gtr rfl rfl) rfl (st (X.pickF rfl rfl) rfl (Wn (tN (W_if rfl (fun h12 => ?_) (fun h12 => ?_))))))))))
  ·first | replace h12 := of_decide_eq_true h12 | replace h12 := of_decide_eq_false (notT h12) | replace h12 := notT h12 | skip
   rw [if_pos (.inr (by omega))]
   refine W_rs (sa rfl rfl (Wn (tN (W_ret (tR ?_)))))
   exact (rT rfl rfl ⟨rfl, hcw.below (Nat.le_refl _) (fun _ h => h)⟩).1
  ·first | replace h12 := of_decide_eq_false h12 | replace h12 := of_decide_eq_true (notF h12) | replace h12 := notF h12 | skip
   rw [if_neg (fun e => by rcases e with e | e; exact hk0 e; omega)]
   refine W_skip (tN (W_rs (salA inf114 rfl (fun g5 w1 hB5 hg5 hb hl5 => ?_))))
   replace hcw := hcw.then_below hb
   have hz_w1 := hb.size
   clear hb
   refine Wn (tN (W_rs ?_))
   have h : WrAt w1 w.heap.size g5 [] := ⟨by omega, _, hB5, Row.nil _ _ _, by simp [Value.ownBlock]⟩
   have hul := uvB_length b.length (by omega)
   clear hB5
   refine sm rfl rfl (sc _ Tryz.func73 rfl (by kernel_rfl) rfl rfl ((WU8_any _ _ [] _ h k (by simp)).mono ?_))
   clear h
   rintro e_ w2 ⟨rfl, h, hC⟩
   refine cR ?_
   replace hcw := hcw.next hC (fun i_ hi_ => by first | exact .inl hi_ | exact .inl (.inl hi_) | (right; subst hi_; omega) | (left; subst hi_; show _ ≤ _; omega) | (left; subst hi_; assumption))
   have hz_w2 := hC.size
   clear hC
   refine Wn (tN (W_rs (sm rfl rfl (sc _ Tryz.func74 rfl (by kernel_rfl) rfl rfl ((WText_any _ _ ([] ++ [k]) _ h b (by simp) (by omega)).mono ?_)))))
   clear h
   rintro e_ w3 ⟨rfl, h, hC⟩
   refine cR ?_
   replace hcw := hcw.next hC (fun i_ hi_ => by first | exact .inl hi_ | exact .inl (.inl hi_) | (right; subst hi_; omega) | (left; subst hi_; show _ ≤ _; omega) | (left; subst hi_; assumption))
   have hz_w3 := hC.size
   clear hC
   obtain ⟨p, hp⟩ : ∃ p, [k] ++ (uvB b.length ++ b) = p := ⟨_, rfl⟩
   have hpl : p.length = 1 + ((uvB b.length).length + b.length) := by rw [← hp]; simp; omega
   rw [List.nil_append, hp] at h
   rw [hp]
   refine Wn (tN (W_rs (sc _ Tryz.func77 rfl (by kernel_rfl) rfl rfl ((WString_any _ _ _ _ h).mono ?_))))
   rintro e_ w_ ⟨rfl, rfl⟩
   refine cR (sc _ Tryz.func76 rfl (by kernel_rfl) rfl rfl ((Crc_any p _ (by omega)).mono ?_))
   rintro e_ w4 ⟨rfl, hb⟩
   refine cR ?_
   replace hcw := hcw.then_below hb
   replace h := h.bel hb
   have hz_w4 := hb.size
   clear hb
   have hcl := (Crc.crc p).toNat_lt
   refine sc _ Tryz.func75 rfl (by kernel_rfl) rfl rfl ((WU32_any _ _ p _ h (Crc.crc p).toNat (by omega) (by omega)).mono ?_)
   clear h
   rintro e_ w5 ⟨rfl, h, hC⟩
   refine cR ?_
   replace hcw := hcw.next hC (fun i_ hi_ => by first | exact .inl hi_ | exact .inl (.inl hi_) | (right; subst hi_; omega) | (left; subst hi_; show _ ≤ _; omega) | (left; subst hi_; assumption))
   have hz_w5 := hC.size
   clear hC
   refine Wn (tN (W_rs (sc _ Tryz.func77 rfl (by kernel_rfl) rfl rfl ((WString_any _ _ _ _ h).mono ?_))))
   rintro e_ w_ ⟨rfl, rfl⟩
   refine cR (sa rfl rfl (Wn (tN (W_ret ?_))))
   exact (rT rfl rfl ⟨rfl, hcw.below (Nat.le_refl _) (fun _ h => h)⟩).1
end Go.Proofs.YtnijmegalgoipaaGreatDoor
namespace Go.Proofs.YtnijmegalgoipaaGreatDoor
open Go.RowKit
def numTop (s : List UInt8) (i : Nat) : Nat → Nat
  | 4 => 0
  | 3 => (s.getD (i + 3) 0).toNat
  | 2 => 256 * (s.getD (i + 3) 0).toNat + (s.getD (i + 2) 0).toNat
  | 1 => 256 * (256 * (s.getD (i + 3) 0).toNat + (s.getD (i + 2) 0).toNat) + (s.getD (i + 1) 0).toNat
  | _ => num (s.drop i)
theorem numTop_next (s : List UInt8) (i k : Nat) (hk : k < 4) : 256 * numTop s i (k + 1) + (s.getD (i + k) 0).toNat = numTop s i k := by
 match k, hk with
 | 3, _ => simp [numTop]
 | 2, _ => simp [numTop]
 | 1, _ => simp [numTop]
 | 0, _ => simp only [numTop, numAt, num4, Nat.add_zero]; omega
theorem numTop_lt (s : List UInt8) (i k : Nat) (hk : 0 < k) (h4 : k ≤ 4) : numTop s i k < 16777216 := by
 have h1 := (s.getD (i + 1) 0).toNat_lt
 have h2 := (s.getD (i + 2) 0).toNat_lt
 have h3 := (s.getD (i + 3) 0).toNat_lt
 match k, hk, h4 with
 | 4, _, _ => simp [numTop]
 | 3, _, _ => simp only [numTop]; omega
 | 2, _, _ => simp only [numTop]; omega
 | 1, _, _ => simp only [numTop]; omega
theorem Of_any (s : List UInt8) (i : Nat) (w : World) (hi : i + 4 ≤ s.length) (hs : s.length ≤ 1099511627776) :
  Calls Tryz.prog 112 #[str s, .int .i64 i] w fun e w' => e = .returned (.int .i64 (num (s.drop i) : Nat)) ∧ Below w.heap.size w w' := by
 refine W_enter (args := [str s, .int .i64 i]) 21 Tryz.func112 rfl rfl rfl (W_sub [(0, str s), (1, .int .i64 i)] ?_ ⟨rfl, rfl, trivial⟩)
 have hbw := Below.refl w.heap.size w
 refine W_rs (sa rfl rfl (Wn (tN (W_rs (sa rfl rfl (Wn (tN (W_seq (W_rs (sa rfl rfl ?_))))))))))
 refine Wn (tN (W_block (W_lp (fun nw1_ lw1_ w1 => ∃ k : Nat, nw1_ = k + 1 ∧ lw1_ = ([(0, str s), (1, .int .i64 i), (5, .int .i64 (numTop s i k)), (6, .int .i64 ((k : Int) - 1))] : Env) ∧ (k ≤ 4) ∧ (Below w.heap.size w w1)) _ ⟨_, ⟨4, rfl, rfl, by omega, hbw⟩, ⟨rfl, rfl, rfl, rfl, trivial⟩⟩ ?_)))
 clear hbw
 rintro nw1_ lw1_ w1 ⟨k, rfl, rfl, hk, hbw⟩
 have hz_w1 := hbw.size
 refine W_seq (W_rs (sm rfl rfl (st (X.geq rfl rfl) rfl (Wn (tN (W_if rfl (fun h8 => ?_) (fun h8 => ?_)))))))
 ·first | replace h8 := of_decide_eq_true h8 | replace h8 := of_decide_eq_false (notT h8) | replace h8 := notT h8 | skip
  have hlt := numTop_lt s i k (by omega) hk
  have hk1 : k - 1 + 1 = k := by omega
  have hb8 := (s.getD (i + (k - 1)) 0).toNat_lt
  refine W_skip (tN (W_seq (W_block (W_reg (sm rfl rfl (st (X.mul64 rfl rfl (by omega)) rfl (sm rfl rfl (sm rfl rfl (sm rfl rfl (st (X.add64 rfl rfl (by omega)) rfl ?_))))))))))
  refine st (X.idxS (q := i + (k - 1)) rfl rfl Tryz.underlying9 (by omega) (by omega)) rfl (st (X.convI rfl Tryz.underlying5 Tryz.underlying3 (w64 (by omega))) rfl (st (X.add64 rfl rfl (by omega)) rfl (sa rfl rfl (Wn (bN (tN (W_reg (sm rfl rfl (st (X.sub64 rfl rfl (by omega)) rfl (sa rfl rfl ?_))))))))))
  refine Wn (tN ⟨_, _, ?_, ⟨k - 1, rfl, rfl, by omega, hbw⟩, ⟨rfl, rfl, by rw [← numTop_next s i (k - 1) (by omega), hk1]; rfl, by show some (Value.int .i64 _) = some (Value.int .i64 _); congr 2; omega, trivial⟩⟩)
  omega
 ·first | replace h8 := of_decide_eq_false h8 | replace h8 := of_decide_eq_true (notF h8) | replace h8 := notF h8 | skip
  refine W_exit (tE (tE (bH (tN (W_rs (sm rfl rfl (sa rfl rfl (Wn (tN (W_ret ?_))))))))))
  obtain rfl : k = 0 := by omega
  exact (rT rfl rfl ⟨rfl, hbw⟩).1
end Go.Proofs.YtnijmegalgoipaaGreatDoor
namespace Go.Proofs.YtnijmegalgoipaaGreatDoor
open Go.RowKit
structure ScM where
  state : List UInt8
  done : List (List UInt8)
  next : Nat
  good : Nat
  open_ : Nat
  last : List UInt8
def scNew : ScM := ⟨[], [], 1, 0, 0, []⟩
def doM (kind n : Nat) (rest : List UInt8) (x : ScM) : Option ScM :=
  if kind = 4 then (if n = x.next then some { x with open_ := n, last := rest, next := x.next + 1 } else none)
  else if kind = 5 then (if n ≠ 0 ∧ n = x.open_ ∧ rest = [] then some { x with done := x.done ++ [x.last], open_ := 0 } else none)
  else if kind = 6 then (if x.good = 0 ∧ 1 ≤ n then some { x with state := rest, next := n } else none)
  else none
def stepM (s : List UInt8) (x : ScM) : Option ScM :=
  if (nextM (s.drop x.good)).2.2.2 ≠ 0 ∨ (nextM (s.drop x.good)).2.1.length < 4 then none
  else (doM (nextM (s.drop x.good)).1.toNat (num (nextM (s.drop x.good)).2.1) ((nextM (s.drop x.good)).2.1.drop 4) x).map fun y => { y with good := y.good + (nextM (s.drop x.good)).2.2.1 }
def scanN : Nat → List UInt8 → ScM → ScM
  | 0, _, x => x
  | n + 1, s, x => match stepM s x with
    | none => x
    | some y => scanN n s y
def scanM (s : List UInt8) : ScM := scanN (s.length + 1) s scNew
theorem takeM_ge {s : List UInt8} {t n : Nat} {e : Int} (h : 1 ≤ t) : 1 ≤ (takeM s t e n).2.1 := by
 unfold takeM
 by_cases he : e ≠ 0
 ·rw [if_pos he]; exact h
 ·rw [if_neg he]
  by_cases hl : s.length - t < n
  ·rw [if_pos hl]; exact h
  ·rw [if_neg hl]; simp only; omega
theorem nextM_len {s : List UInt8} (h : (nextM s).2.2.2 = 0) : 5 ≤ (nextM s).2.2.1 ∧ (nextM s).2.2.1 ≤ s.length := by
 unfold nextM at h ⊢
 split at h
 ·simp at h
 rename_i h1
 rw [if_neg h1]
 split at h
 ·simp at h
 rename_i h2
 rw [if_neg h2]
 split at h
 ·rename_i h3
  exact absurd h h3
 rename_i h3
 rw [if_neg h3]
 split at h
 ·simp at h
 rename_i h4
 rw [if_neg h4]
 split at h
 ·simp at h
 rename_i h5
 rw [if_neg h5]
 have hl : 1 ≤ s.length := by
  cases s with
  | nil => exact absurd rfl h1
  | cons x l => simp
 have ha : 1 ≤ (textR s 1 1048576).2.1 := by
  unfold textR
  have hu : 1 ≤ (uvR s 1 0).2.1 := by
   unfold uvR
   rw [if_neg (by simp)]
   split
   ·simp only; omega
   ·exact Nat.le_refl _
  split
  ·exact hu
  ·split
   ·exact Nat.le_refl _
   ·split
    ·exact Nat.le_refl _
    ·exact takeM_ge hu
 simp only
 omega
theorem doM_good {k n : Nat} {r : List UInt8} {x y : ScM} (h : doM k n r x = some y) : y.good = x.good ∧ (y.next ≤ x.next + 1 ∨ y.next = n) ∧ (y.open_ = n ∨ y.open_ = 0 ∨ y.open_ = x.open_) ∧ y.done.length ≤ x.done.length + 1 := by
 unfold doM at h
 split at h
 ·split at h
  ·injection h with h
   subst h
   exact ⟨rfl, .inl (Nat.le_refl _), .inl rfl, by simp⟩
  ·cases h
 split at h
 ·split at h
  ·injection h with h
   subst h
   exact ⟨rfl, .inl (by simp), .inr (.inl rfl), by simp⟩
  ·cases h
 split at h
 ·split at h
  ·injection h with h
   subst h
   exact ⟨rfl, .inr rfl, .inr (.inr rfl), by simp⟩
  ·cases h
 ·cases h
structure ScOk (s : List UInt8) (x : ScM) : Prop where
  good : x.good ≤ s.length
  next : x.next ≤ 4294967296 + x.good
  open_ : x.open_ ≤ 4294967296 + x.good
  done : x.done.length ≤ x.good
theorem ScOk.new (s : List UInt8) : ScOk s scNew := ⟨Nat.zero_le _, by simp [scNew], by simp [scNew], by simp [scNew]⟩
theorem stepM_ok {s : List UInt8} {x y : ScM} (h : stepM s x = some y) (hx : ScOk s x) : ScOk s y ∧ x.good + 5 ≤ y.good := by
 unfold stepM at h
 split at h
 ·cases h
 rename_i hc
 have he : (nextM (s.drop x.good)).2.2.2 = 0 := Classical.byContradiction fun e => hc (.inl e)
 obtain ⟨h5, hl⟩ := nextM_len he
 rw [List.length_drop] at hl
 obtain ⟨z, hz, rfl⟩ := Option.map_eq_some_iff.1 h
 obtain ⟨h1, h2, h3, h4⟩ := doM_good hz
 have hn := num_lt (nextM (s.drop x.good)).2.1
 have := hx.good
 have := hx.next
 have := hx.open_
 have := hx.done
 refine ⟨⟨?_, ?_, ?_, ?_⟩, ?_⟩ <;> simp only [h1]
 ·omega
 ·omega
 ·omega
 ·omega
 ·omega
end Go.Proofs.YtnijmegalgoipaaGreatDoor
namespace Go.Proofs.YtnijmegalgoipaaGreatDoor
open Go.RowKit
section
variable {P : Program} {N : Nat} {ds : List Deferred} {Q : Post} {l : Env} {w : World} {ops : Array Oper} {rest : List Oper} {ty : TypeId} {pos : String} {aft : Array Edge} {d : Nat}
theorem scvF {f : FuncId} {x : Operand} {args : List Operand} {ats : Array TypeId} (vs : List Value) (hx : ev l x = some (.func (.func f) #[] #[])) (he : ∀ args w, (callFunc f args).run P w = .ok (.enter f args) w)
  (hvs : evs l args = some vs) (hd : Nat.blt d N = true)
  (hc : Calls P f vs.toArray w (CP (fun v w' => WL P N ds ops Q rest ((d, v) :: l) w') (fun c w' => Q (.panic c) l w'))) :
  WL P N ds ops Q (⟨some d, .call { callee := .value x, args := args.toArray, argTypes := ats }, ty, pos, aft, none⟩ :: rest) l w := by
 intro a ha
 refine wpList_plain rfl fun K hK => ?_
 have hvs' := evs_map ha.knows hvs
 have hx' := ha.knows _ _ hx
 have e : List.map (fun x => a.eval x) args = vs := hvs'
 have hr : (execOp a.eval ⟨some d, .call { callee := .value x, args := args.toArray, argTypes := ats }, ty, pos, aft, none⟩).run P w = .ok (.enter f vs.toArray) w := by
  unfold execOp
  simp only [resolve, invoke, hx']
  simp [Deferred.ofValue, e, he]
 unfold Oper.wp
 rw [hr]
 refine Calls.mono hc fun e w' h => ?_
 cases e with
 | returned v => exact hK _ _ (h _ (ha.put hd v))
 | panicked c => exact ⟨l, ha, h⟩
 | outgrown => exact h.elim
end
theorem number_any (s : List UInt8) (w : World) (hs : s.length ≤ 1099511627776) : Calls Tryz.prog 101 #[str s] w fun e w' =>
  e = .returned (.tuple #[.int .i64 (if s.length < 4 then 0 else num s : Nat), str (if s.length < 4 then [] else s.drop 4), .bool (decide (4 ≤ s.length))]) ∧ Below w.heap.size w w' := by
 by_cases h4 : s.length < 4
 ·rw [if_pos h4, if_pos h4, decide_eq_false (by omega)]
  refine W_enter (args := [str s]) 28 Tryz.func101 rfl rfl rfl (W_sub [(0, str s)] ?_ ⟨rfl, trivial⟩)
  have hbw := Below.refl w.heap.size w
  refine W_rs (sa rfl rfl (sa rfl rfl (sa rfl rfl (Wn (tN (W_seq (W_rs (sm rfl rfl (st (X.lenS rfl rfl Tryz.underlying9) rfl (st (X.lss rfl rfl) rfl ?_))))))))))
  refine Wn (tN (W_yes rfl (decide_eq_true (by omega)) (W_rs (sa rfl rfl (sa rfl rfl (sa rfl rfl (Wn (tN (W_ret (tR ?_))))))))))
  exact (rTTT rfl rfl rfl rfl ⟨rfl, hbw⟩).1
 rw [if_neg h4, if_neg h4, decide_eq_true (by omega)]
 obtain ⟨a, ha⟩ : ∃ a, s.getD 0 0 = a := ⟨_, rfl⟩
 obtain ⟨b, hb_⟩ : ∃ b, s.getD 1 0 = b := ⟨_, rfl⟩
 obtain ⟨c, hc⟩ : ∃ c, s.getD 2 0 = c := ⟨_, rfl⟩
 obtain ⟨d, hd⟩ : ∃ d, s.getD 3 0 = d := ⟨_, rfl⟩
 have la := a.toNat_lt
 have lb := b.toNat_lt
 have lc := c.toNat_lt
 have ld := d.toNat_lt
 have o1 := or_add a.toNat b.toNat 8 (by omega) (by omega)
 have o2 := or_add (a.toNat + b.toNat * 256) c.toNat 16 (by omega) (by omega)
 have o3 := or_add (a.toNat + b.toNat * 256 + c.toNat * 65536) d.toNat 24 (by omega) (by omega)
 have hz : ((a.toNat + b.toNat * 256 + c.toNat * 65536 + d.toNat * 16777216 : Nat) : Int) = ((num s : Nat) : Int) := by
  unfold num
  rw [ha, hb_, hc, hd]
  unfold num4
  omega
 refine W_enter (args := [str s]) 28 Tryz.func101 rfl rfl rfl (W_sub [(0, str s)] ?_ ⟨rfl, trivial⟩)
 have hbw := Below.refl w.heap.size w
 refine W_rs (sa rfl rfl (sa rfl rfl (sa rfl rfl (Wn (tN (W_seq (W_rs (sm rfl rfl (st (X.lenS rfl rfl Tryz.underlying9) rfl (st (X.lss rfl rfl) rfl ?_))))))))))
 refine Wn (tN (W_no rfl (decide_eq_false (by omega)) (W_skip (tN (W_drsN (fun _ => True) [0, 1, 2, 3, 4, 5, 6, 7, 8, 9, 10, 11, 12, 13, 14, 15, 16, 17, 18, 19, 20, 21, 22] [true, true, true, true, true, true, true, true, true, true, true, true, true, true, true, true, true, true, true, true, true, true, true] (by kernel_rfl) (by kernel_rfl) (trivial) ?_)))))
 obtain ⟨w1, hw_⟩ : ∃ w1 : World, w1 = World.drew w := ⟨_, rfl⟩
 rw [← hw_]
 have hb : Below w.heap.size w w1 := by rw [hw_]; exact bdrew (Below.refl _ _)
 clear hw_
 have hS : True := trivial
 replace hbw := bthen hbw hb
 have hz_w1 := hb.size
 clear hb
 refine oY rfl (fun W_ hW_ => (X.move rfl)) rfl (oY rfl (fun W_ hW_ => (X.idxS (q := 0) rfl rfl Tryz.underlying9 rfl (by omega))) rfl (oY rfl (fun W_ hW_ => (X.convI (z := (a.toNat : Int)) rfl Tryz.underlying5 Tryz.underlying3 (by rw [ha]; exact w64 (by omega)))) rfl ?_))
 refine oY rfl (fun W_ hW_ => (X.move rfl)) rfl (oY rfl (fun W_ hW_ => (X.idxS (q := 1) rfl rfl Tryz.underlying9 rfl (by omega))) rfl (oY rfl (fun W_ hW_ => (X.convI (z := (b.toNat : Int)) rfl Tryz.underlying5 Tryz.underlying3 (by rw [hb_]; exact w64 (by omega)))) rfl ?_))
 refine oY rfl (fun W_ hW_ => (X.shl (q := 256) (z := (b.toNat : Int) * 256) rfl rfl (by decide) (by decide) rfl rfl (w64 (by omega)))) rfl (oY rfl (fun W_ hW_ => (X.bits (by simp) rfl rfl o1)) rfl ?_)
 refine oY rfl (fun W_ hW_ => (X.move rfl)) rfl (oY rfl (fun W_ hW_ => (X.idxS (q := 2) rfl rfl Tryz.underlying9 rfl (by omega))) rfl (oY rfl (fun W_ hW_ => (X.convI (z := (c.toNat : Int)) rfl Tryz.underlying5 Tryz.underlying3 (by rw [hc]; exact w64 (by omega)))) rfl ?_))
 refine oY rfl (fun W_ hW_ => (X.shl (q := 65536) (z := (c.toNat : Int) * 65536) rfl rfl (by decide) (by decide) rfl rfl (w64 (by omega)))) rfl (oY rfl (fun W_ hW_ => (X.bits (by simp) rfl rfl o2)) rfl ?_)
 refine oY rfl (fun W_ hW_ => (X.move rfl)) rfl (oY rfl (fun W_ hW_ => (X.idxS (q := 3) rfl rfl Tryz.underlying9 rfl (by omega))) rfl (oY rfl (fun W_ hW_ => (X.convI (z := (d.toNat : Int)) rfl Tryz.underlying5 Tryz.underlying3 (by rw [hd]; exact w64 (by omega)))) rfl ?_))
 refine oY rfl (fun W_ hW_ => (X.shl (q := 16777216) (z := (d.toNat : Int) * 16777216) rfl rfl (by decide) (by decide) rfl rfl (w64 (by omega)))) rfl (oY rfl (fun W_ hW_ => (X.bits (by simp) rfl rfl o3)) rfl ?_)
 refine oY rfl (fun W_ hW_ => (X.move rfl)) rfl (oY rfl (fun W_ hW_ => (X.fromS (s := s) (i := 4) rfl rfl Tryz.underlying9 rfl (by omega))) rfl (oY rfl (fun W_ hW_ => (X.assign rfl)) rfl (oY rfl (fun W_ hW_ => (X.assign rfl)) rfl (oY rfl (fun W_ hW_ => (X.assign rfl)) rfl (oN (nN (W_ret ((rTTT rfl rfl rfl rfl ⟨?_, hbw⟩).1))))))))
 rw [← hz]
structure ScAt (w : World) (g : Nat) (x : ScM) (v : Value) : Prop where
  blk : Blk w g 144 #[str x.state, v, .int .i64 x.next, .int .i64 x.good, .bool (decide (x.good = 0)), .int .i64 x.open_, str x.last]
  row : Row w 9 1 v x.done.length (x.done.map str)
def ScPost (w : World) (g : Nat) (v : Value) (x : ScM) (r : Option ScM) (e : Ending) (w' : World) : Prop :=
  e = .returned (.bool r.isSome) ∧ ∃ v', ScAt w' g (r.getD x) v' ∧ (∀ k, v'.ownBlock = some k → v.ownBlock = some k ∨ w.heap.size ≤ k) ∧ Chg (fun k => k = g ∨ v.ownBlock = some k) w w'
section
variable (g : Nat) (x : ScM) (v : Value) (n : Nat) (rest : List UInt8) (w : World) (h : ScAt w g x v) (hn : n ≤ 4294967296) (hdn : x.done.length ≤ 1099511627776)
include h
include hn in
theorem sc_intent (_hx : x.next ≤ 1152921504606846976) : Calls Tryz.prog 117 #[.pointer (some ⟨g, 0, none⟩), .int .i64 n, str rest] w (ScPost w g v x (doM 4 n rest x)) := by
 have hB := h.blk
 have hR := h.row
 have hlt := hB.lt
 obtain ⟨a, c, rfl, hc1, hc2⟩ := hR.shape
 unfold doM
 rw [if_pos rfl]
 by_cases he : n = x.next
 ·rw [if_pos he]
  refine W_enter (args := [.pointer (some ⟨g, 0, none⟩), .int .i64 n, str rest]) 31 Tryz.func117 rfl rfl rfl (W_sub [(0, .pointer (some ⟨g, 0, none⟩)), (1, .int .i64 n), (2, str rest)] ?_ ⟨rfl, rfl, rfl, trivial⟩)
  have hcw := Chg.refl (fun k => k = g) w
  refine W_rs (sa rfl rfl (Wn (tN (W_seq (W_rs (sm rfl rfl (sm rfl rfl (st (X.nilChk rfl) rfl (st (X.fa fa144_0 rfl) rfl (st (X.fa fa103_2 rfl) rfl ?_))))))))))
  refine st (X.ldL rfl hB Tryz.underlying3 rfl rfl) rfl (st (X.neq rfl rfl) rfl (Wn (tN (W_no rfl (decide_eq_false (by omega)) (W_skip (tN (W_rs (sm rfl rfl (sm rfl rfl (sm rfl rfl ?_))))))))))
  refine sm rfl rfl (st (X.nilChk rfl) rfl (st (X.fa fa144_2 rfl) rfl (ssB rfl rfl hB siz3 rfl (by first | decide | simp) (fun w1 hB_ hc_ => ?_))))
  replace hB := hB_
  clear hB_
  replace hcw := hcw.next hc_ (fun i_ hi_ => by first | exact .inl hi_ | exact .inl (.inl hi_) | (right; subst hi_; omega) | (left; subst hi_; show _ ≤ _; omega) | (left; subst hi_; assumption))
  have hz_w1 := hc_.size
  clear hc_
  refine st (X.nilChk rfl) rfl (st (X.fa fa144_3 rfl) rfl (ssB rfl rfl hB siz9 rfl (by first | decide | simp) (fun w2 hB_ hc_ => ?_)))
  replace hB := hB_
  clear hB_
  replace hcw := hcw.next hc_ (fun i_ hi_ => by first | exact .inl hi_ | exact .inl (.inl hi_) | (right; subst hi_; omega) | (left; subst hi_; show _ ≤ _; omega) | (left; subst hi_; assumption))
  have hz_w2 := hc_.size
  clear hc_
  refine Wn (tN (W_rs (sm rfl rfl (st (X.nilChk rfl) rfl (st (X.fa fa144_0 rfl) rfl (st (X.fa fa103_2 rfl) rfl (st (X.ldL rfl hB Tryz.underlying3 rfl rfl) rfl (st (X.add64 rfl rfl (by omega)) rfl (st (X.nilChk rfl) rfl (st (X.fa fa144_0 rfl) rfl ?_))))))))))
  refine st (X.fa fa103_2 rfl) rfl (ssB rfl rfl hB siz3 rfl (by first | decide | simp) (fun w3 hB_ hc_ => ?_))
  replace hB := hB_
  clear hB_
  replace hcw := hcw.next hc_ (fun i_ hi_ => by first | exact .inl hi_ | exact .inl (.inl hi_) | (right; subst hi_; omega) | (left; subst hi_; show _ ≤ _; omega) | (left; subst hi_; assumption))
  have hz_w3 := hc_.size
  clear hc_
  refine Wn (tN (W_rs (sa rfl rfl (Wn (tN (W_ret ((rT rfl rfl ⟨rfl, _, ⟨hB, hR.chg hcw (hR.ne2 h.blk (by decide))⟩, fun k hk => .inl hk, hcw.mono (fun k _ hk => .inl hk)⟩).1)))))))
 ·rw [if_neg he]
  refine W_enter (args := [.pointer (some ⟨g, 0, none⟩), .int .i64 n, str rest]) 31 Tryz.func117 rfl rfl rfl (W_sub [(0, .pointer (some ⟨g, 0, none⟩)), (1, .int .i64 n), (2, str rest)] ?_ ⟨rfl, rfl, rfl, trivial⟩)
  have hcw := Chg.refl (fun k => k = g) w
  refine W_rs (sa rfl rfl (Wn (tN (W_seq (W_rs (sm rfl rfl (sm rfl rfl (st (X.nilChk rfl) rfl (st (X.fa fa144_0 rfl) rfl (st (X.fa fa103_2 rfl) rfl ?_))))))))))
  refine st (X.ldL rfl hB Tryz.underlying3 rfl rfl) rfl (st (X.neq rfl rfl) rfl (Wn (tN (W_yes rfl (decide_eq_true (by omega)) (W_rs (sa rfl rfl (Wn (tN (W_ret (tR ?_))))))))))
  exact (rT rfl rfl ⟨rfl, _, ⟨hB, hR⟩, fun k hk => .inl hk, hcw.mono (fun k _ hk => .inl hk)⟩).1
include hdn in
theorem sc_commit : Calls Tryz.prog 118 #[.pointer (some ⟨g, 0, none⟩), .int .i64 n, str rest] w (ScPost w g v x (doM 5 n rest x)) := by
 have hB := h.blk
 have hR := h.row
 have hlt := hB.lt
 obtain ⟨a, c, rfl, hc1, hc2⟩ := hR.shape
 unfold doM
 rw [if_neg (by decide), if_pos rfl]
 by_cases h0 : n = 0
 ·rw [if_neg (fun e => e.1 h0)]
  refine W_enter (args := [.pointer (some ⟨g, 0, none⟩), .int .i64 n, str rest]) 39 Tryz.func118 rfl rfl rfl (W_sub [(0, .pointer (some ⟨g, 0, none⟩)), (1, .int .i64 n), (2, str rest)] ?_ ⟨rfl, rfl, rfl, trivial⟩)
  have hcw := Chg.refl (fun k => k = g) w
  refine W_rs (sa rfl rfl (Wn (tN (W_seq (W_rs (sm rfl rfl (st (X.eql rfl rfl) rfl (sbY rfl (decide_eq_true (by omega)) rfl (gN (g := 9) rfl rfl rfl rfl (gN (g := 9) rfl rfl rfl rfl ?_))))))))))
  refine gN (g := 9) rfl rfl rfl rfl (gN (g := 9) rfl rfl rfl rfl (gN (g := 9) rfl rfl rfl rfl (gN (g := 9) rfl rfl rfl rfl (st (X.pickT rfl rfl) rfl (sm rfl rfl (gN (g := 17) rfl rfl rfl rfl (gN (g := 17) rfl rfl rfl rfl (st (X.pickT rfl rfl) rfl (Wn (tN ?_))))))))))
  refine W_yes rfl (rfl) (W_rs (sa rfl rfl (Wn (tN (W_ret (tR ?_))))))
  exact (rT rfl rfl ⟨rfl, _, ⟨hB, hR⟩, fun k hk => .inl hk, hcw.mono (fun k _ hk => .inl hk)⟩).1
 by_cases h1 : n = x.open_
 ·by_cases h2 : rest = []
  ·rw [if_pos ⟨h0, h1, h2⟩]
   subst h2
   refine W_enter (args := [.pointer (some ⟨g, 0, none⟩), .int .i64 n, str []]) 39 Tryz.func118 rfl rfl rfl (W_sub [(0, .pointer (some ⟨g, 0, none⟩)), (1, .int .i64 n), (2, str [])] ?_ ⟨rfl, rfl, rfl, trivial⟩)
   have hcw := Chg.refl (fun k => k = g ∨ (Value.slice a x.done.length c).ownBlock = some k) w
   refine W_rs (sa rfl rfl (Wn (tN (W_seq (W_rs (sm rfl rfl (st (X.eql rfl rfl) rfl (sbN rfl (decide_eq_false (by omega)) rfl (gY (g := 9) rfl rfl rfl (sm rfl rfl ?_))))))))))
   refine gY (g := 9) rfl rfl rfl (sm rfl rfl (gY (g := 9) rfl rfl rfl (st (X.nilChk rfl) rfl (gY (g := 9) rfl rfl rfl (st (X.fa fa144_2 rfl) rfl (gY (g := 9) rfl rfl rfl (st (X.ldL rfl hB Tryz.underlying3 rfl rfl) rfl (gY (g := 9) rfl rfl rfl (st (X.neq rfl rfl) rfl (st (X.pickF rfl rfl) rfl ?_))))))))))
   refine sbN rfl (decide_eq_false (by omega)) rfl (gY (g := 17) rfl rfl rfl (sm rfl rfl (gY (g := 17) rfl rfl rfl (st (X.neS rfl rfl) rfl (st (X.pickF rfl rfl) rfl (Wn (tN (W_no rfl (rfl) (W_skip (tN ?_))))))))))
   have hB0 := hB
   refine W_phase_s (fun W_ => Below w.heap.size w W_) 11 [true, true, true, true, true, true, true, true, true, true, false] (by kernel_rfl) (by kernel_rfl) (bdrew (Below.refl _ _)) ?_
   obtain ⟨w1, hw_⟩ : ∃ w1 : World, w1 = World.drew w := ⟨_, rfl⟩
   rw [← hw_]
   have hb : Below w.heap.size w w1 := by rw [hw_]; exact bdrew (Below.refl _ _)
   clear hw_
   have hS := hb
   replace hcw := hcw.then_below hb
   replace hB := hB.bel hb
   replace hR := hR.bel hb
   have hz_w1 := hb.size
   clear hb
   refine pY (fun W_ hW_ => (X.move rfl)) rfl (pY (fun W_ hW_ => (X.move rfl)) rfl (pY (fun W_ hW_ => (X.nilChk rfl)) rfl (pY (fun W_ hW_ => (X.fa fa144_0 rfl)) rfl (pY (fun W_ hW_ => (X.fa fa103_1 rfl)) rfl (pY (fun W_ hW_ => (X.ldL rfl (hB0.bel hW_) Tryz.underlying42 rfl rfl)) rfl (pY (fun W_ hW_ => (X.move rfl)) rfl (pY (fun W_ hW_ => (X.nilChk rfl)) rfl (pY (fun W_ hW_ => (X.fa fa144_3 rfl)) rfl (pY (fun W_ hW_ => (X.ldL rfl (hB0.bel hW_) Tryz.underlying9 rfl rfl)) rfl (pL (fun Q_ hQ_ hP_ => ?_)))))))))))
   refine sbs1 rfl Tryz.underlying42 inf9 rfl rfl (by decide) (by decide) rfl (fun g31 w2 hR31 hg31 hb => ?_)
   replace hS := bthen hS hb
   replace hcw := hcw.then_below hb
   replace hB := hB.bel hb
   replace hR := hR.bel hb
   have hz_w2 := hb.size
   clear hb
   have hl31 := hR31.blt (by decide)
   refine Wn (hQ_ _ _ hS ?_)
   clear hQ_ hP_ Q_
   refine pN (sapp rfl rfl Tryz.underlying42 inf9 rfl (by decide) hR (hR31.src Tryz.underlying42 (by intro u hu; rw [show u = str x.last by simpa [Value.cells, str] using hu]; rfl)) (by simp only [maxLen]; omega) (by omega) rfl (fun v' w3 hR2 hC2 hv => ?_))
   obtain ⟨a', c', rfl, _, _⟩ := hR2.shape
   have hne := hR2.ne2 (hB.chg hC2 (fun hk => hR.ne2 hB (by decide) _ hk rfl)) (by decide)
   replace hB := hB.chg hC2 (fun hk => hR.ne2 hB (by decide) _ hk rfl)
   replace hcw := hcw.next hC2 (fun i hi => .inl (.inr hi))
   have hz_w3 := hC2.size
   replace hR := hR2
   clear hC2 hR2
   refine st (X.nilChk rfl) rfl (st (X.fa fa144_0 rfl) rfl (st (X.fa fa103_1 rfl) rfl (ssB rfl rfl hB siz42 rfl (by first | decide | simp) (fun w4 hB_ hc_ => ?_))))
   replace hB := hB_
   clear hB_
   replace hR := hR.chg hc_ (by first | (show ¬ _ = _; omega) | (intro k_ hk_; simp [Value.ownBlock] at hk_; subst hk_; show ¬ _ = _; omega) | assumption | trivial)
   replace hcw := hcw.next hc_ (fun i_ hi_ => by first | exact .inl hi_ | exact .inl (.inl hi_) | (right; subst hi_; omega) | (left; subst hi_; show _ ≤ _; omega) | (left; subst hi_; assumption))
   have hz_w4 := hc_.size
   clear hc_
   refine Wn (nN (W_rs (sm rfl rfl (st (X.nilChk rfl) rfl (st (X.fa fa144_2 rfl) rfl (ssB rfl rfl hB siz3 rfl (by first | decide | simp) (fun w5 hB_ hc_ => ?_)))))))
   replace hB := hB_
   clear hB_
   replace hR := hR.chg hc_ (by first | (show ¬ _ = _; omega) | (intro k_ hk_; simp [Value.ownBlock] at hk_; subst hk_; show ¬ _ = _; omega) | assumption | trivial)
   replace hcw := hcw.next hc_ (fun i_ hi_ => by first | exact .inl hi_ | exact .inl (.inl hi_) | (right; subst hi_; omega) | (left; subst hi_; show _ ≤ _; omega) | (left; subst hi_; assumption))
   have hz_w5 := hc_.size
   clear hc_
   refine Wn (tN (W_rs (sa rfl rfl (Wn (tN (W_ret ((rT rfl rfl ⟨rfl, _, ⟨hB, ?_⟩, fun k hk => ?_, hcw⟩).1)))))))
   ·simpa [str, Value.cells] using hR
   ·rcases hv with hv | hv
    ·exact .inl (hv ▸ hk)
    ·rw [hv] at hk
     injection hk with hk
     omega
  ·rw [if_neg (fun e => h2 e.2.2)]
   refine W_enter (args := [.pointer (some ⟨g, 0, none⟩), .int .i64 n, str rest]) 39 Tryz.func118 rfl rfl rfl (W_sub [(0, .pointer (some ⟨g, 0, none⟩)), (1, .int .i64 n), (2, str rest)] ?_ ⟨rfl, rfl, rfl, trivial⟩)
   have hcw := Chg.refl (fun k => k = g) w
   refine W_rs (sa rfl rfl (Wn (tN (W_seq (W_rs (sm rfl rfl (st (X.eql rfl rfl) rfl (sbN rfl (decide_eq_false (by omega)) rfl (gY (g := 9) rfl rfl rfl (sm rfl rfl ?_))))))))))
   refine gY (g := 9) rfl rfl rfl (sm rfl rfl (gY (g := 9) rfl rfl rfl (st (X.nilChk rfl) rfl (gY (g := 9) rfl rfl rfl (st (X.fa fa144_2 rfl) rfl (gY (g := 9) rfl rfl rfl (st (X.ldL rfl hB Tryz.underlying3 rfl rfl) rfl (gY (g := 9) rfl rfl rfl (st (X.neq rfl rfl) rfl (st (X.pickF rfl rfl) rfl ?_))))))))))
   refine sbN rfl (decide_eq_false (by omega)) rfl (gY (g := 17) rfl rfl rfl (sm rfl rfl (gY (g := 17) rfl rfl rfl (st (X.neS rfl rfl) rfl (st (X.pickF rfl rfl) rfl (Wn (tN (W_yes rfl (decide_eq_true (by intro e; exact h2 e)) ?_))))))))
   refine W_rs (sa rfl rfl (Wn (tN (W_ret (tR ?_)))))
   exact (rT rfl rfl ⟨rfl, _, ⟨hB, hR⟩, fun k hk => .inl hk, hcw.mono (fun k _ hk => .inl hk)⟩).1
 ·rw [if_neg (fun e => h1 e.2.1)]
  refine W_enter (args := [.pointer (some ⟨g, 0, none⟩), .int .i64 n, str rest]) 39 Tryz.func118 rfl rfl rfl (W_sub [(0, .pointer (some ⟨g, 0, none⟩)), (1, .int .i64 n), (2, str rest)] ?_ ⟨rfl, rfl, rfl, trivial⟩)
  have hcw := Chg.refl (fun k => k = g) w
  refine W_rs (sa rfl rfl (Wn (tN (W_seq (W_rs (sm rfl rfl (st (X.eql rfl rfl) rfl (sbN rfl (decide_eq_false (by omega)) rfl (gY (g := 9) rfl rfl rfl (sm rfl rfl ?_))))))))))
  refine gY (g := 9) rfl rfl rfl (sm rfl rfl (gY (g := 9) rfl rfl rfl (st (X.nilChk rfl) rfl (gY (g := 9) rfl rfl rfl (st (X.fa fa144_2 rfl) rfl (gY (g := 9) rfl rfl rfl (st (X.ldL rfl hB Tryz.underlying3 rfl rfl) rfl (gY (g := 9) rfl rfl rfl (st (X.neq rfl rfl) rfl (st (X.pickF rfl rfl) rfl ?_))))))))))
  refine sbY rfl (decide_eq_true (by omega)) rfl (gN (g := 17) rfl rfl rfl rfl (gN (g := 17) rfl rfl rfl rfl (st (X.pickT rfl rfl) rfl (Wn (tN (W_yes rfl (rfl) (W_rs (sa rfl rfl (Wn (tN ?_))))))))))
  refine W_ret (tR ?_)
  exact (rT rfl rfl ⟨rfl, _, ⟨hB, hR⟩, fun k hk => .inl hk, hcw.mono (fun k _ hk => .inl hk)⟩).1
include hn in
theorem sc_checkpoint : Calls Tryz.prog 119 #[.pointer (some ⟨g, 0, none⟩), .int .i64 n, str rest] w (ScPost w g v x (doM 6 n rest x)) := by
 have hB := h.blk
 have hR := h.row
 have hlt := hB.lt
 obtain ⟨a, c, rfl, hc1, hc2⟩ := hR.shape
 unfold doM
 rw [if_neg (by decide), if_neg (by decide), if_pos rfl]
 by_cases hg0 : x.good = 0
 ·rw [decide_eq_true hg0] at hB
  by_cases hn1 : 1 ≤ n
  ·rw [if_pos ⟨hg0, hn1⟩]
   refine W_enter (args := [.pointer (some ⟨g, 0, none⟩), .int .i64 n, str rest]) 26 Tryz.func119 rfl rfl rfl (W_sub [(0, .pointer (some ⟨g, 0, none⟩)), (1, .int .i64 n), (2, str rest)] ?_ ⟨rfl, rfl, rfl, trivial⟩)
   have hcw := Chg.refl (fun k => k = g) w
   refine W_rs (sa rfl rfl (Wn (tN (W_seq (W_rs (sm rfl rfl (st (X.nilChk rfl) rfl (st (X.fa fa144_1 rfl) rfl (st (X.ldL rfl hB Tryz.underlying4 rfl rfl) rfl (st (X.not rfl) rfl ?_))))))))))
   refine sbN rfl (rfl) rfl (gY (g := 12) rfl rfl rfl (sm rfl rfl (gY (g := 12) rfl rfl rfl (st (X.lss rfl rfl) rfl (st (X.pickF rfl rfl) rfl (Wn (tN (W_no rfl (decide_eq_false (by omega)) (W_skip (tN ?_))))))))))
   refine W_rs (sm rfl rfl (sm rfl rfl (sm rfl rfl (sm rfl rfl (st (X.nilChk rfl) rfl (st (X.fa fa144_0 rfl) rfl (st (X.fa fa103_0 rfl) rfl (ssB rfl rfl hB siz9 rfl (by first | decide | simp) (fun w1 hB_ hc_ => ?_)))))))))
   replace hB := hB_
   clear hB_
   replace hcw := hcw.next hc_ (fun i_ hi_ => by first | exact .inl hi_ | exact .inl (.inl hi_) | (right; subst hi_; omega) | (left; subst hi_; show _ ≤ _; omega) | (left; subst hi_; assumption))
   have hz_w1 := hc_.size
   clear hc_
   refine st (X.nilChk rfl) rfl (st (X.fa fa144_0 rfl) rfl (st (X.fa fa103_2 rfl) rfl (ssB rfl rfl hB siz3 rfl (by first | decide | simp) (fun w2 hB_ hc_ => ?_))))
   replace hB := hB_
   clear hB_
   replace hcw := hcw.next hc_ (fun i_ hi_ => by first | exact .inl hi_ | exact .inl (.inl hi_) | (right; subst hi_; omega) | (left; subst hi_; show _ ≤ _; omega) | (left; subst hi_; assumption))
   have hz_w2 := hc_.size
   clear hc_
   refine Wn (tN (W_rs (sa rfl rfl (Wn (tN (W_ret ((rT rfl rfl ⟨rfl, _, ⟨by rw [Option.getD_some, decide_eq_true (show ({ x with state := rest, next := n } : ScM).good = 0 from hg0)]; exact hB, hR.chg hcw (hR.ne2 h.blk (by decide))⟩, fun k hk => .inl hk, hcw.mono (fun k _ hk => .inl hk)⟩).1)))))))
  ·rw [if_neg (fun e => hn1 e.2)]
   refine W_enter (args := [.pointer (some ⟨g, 0, none⟩), .int .i64 n, str rest]) 26 Tryz.func119 rfl rfl rfl (W_sub [(0, .pointer (some ⟨g, 0, none⟩)), (1, .int .i64 n), (2, str rest)] ?_ ⟨rfl, rfl, rfl, trivial⟩)
   have hcw := Chg.refl (fun k => k = g) w
   refine W_rs (sa rfl rfl (Wn (tN (W_seq (W_rs (sm rfl rfl (st (X.nilChk rfl) rfl (st (X.fa fa144_1 rfl) rfl (st (X.ldL rfl hB Tryz.underlying4 rfl rfl) rfl (st (X.not rfl) rfl ?_))))))))))
   refine sbN rfl (rfl) rfl (gY (g := 12) rfl rfl rfl (sm rfl rfl (gY (g := 12) rfl rfl rfl (st (X.lss rfl rfl) rfl (st (X.pickF rfl rfl) rfl (Wn (tN (W_yes rfl (decide_eq_true (by omega)) (W_rs (sa rfl rfl ?_))))))))))
   refine Wn (tN (W_ret (tR ?_)))
   exact (rT rfl rfl ⟨rfl, _, h, fun k hk => .inl hk, hcw.mono (fun k _ hk => .inl hk)⟩).1
 ·rw [if_neg (fun e => hg0 e.1)]
  rw [decide_eq_false hg0] at hB
  refine W_enter (args := [.pointer (some ⟨g, 0, none⟩), .int .i64 n, str rest]) 26 Tryz.func119 rfl rfl rfl (W_sub [(0, .pointer (some ⟨g, 0, none⟩)), (1, .int .i64 n), (2, str rest)] ?_ ⟨rfl, rfl, rfl, trivial⟩)
  have hcw := Chg.refl (fun k => k = g) w
  refine W_rs (sa rfl rfl (Wn (tN (W_seq (W_rs (sm rfl rfl (st (X.nilChk rfl) rfl (st (X.fa fa144_1 rfl) rfl (st (X.ldL rfl hB Tryz.underlying4 rfl rfl) rfl (st (X.not rfl) rfl ?_))))))))))
  refine sbY rfl (rfl) rfl (gN (g := 12) rfl rfl rfl rfl (gN (g := 12) rfl rfl rfl rfl (st (X.pickT rfl rfl) rfl (Wn (tN (W_yes rfl (rfl) (W_rs (sa rfl rfl (Wn (tN ?_))))))))))
  refine W_ret (tR ?_)
  exact (rT rfl rfl ⟨rfl, _, h, fun k hk => .inl hk, hcw.mono (fun k _ hk => .inl hk)⟩).1
end
end Go.Proofs.YtnijmegalgoipaaGreatDoor
namespace Go.Proofs.YtnijmegalgoipaaGreatDoor
open Go.RowKit
def takesV : Array Value := #[.nilFunc, .nilFunc, .nilFunc, .nilFunc, .func (.func 117) #[] #[], .func (.func 118) #[] #[], .func (.func 119) #[] #[]]
theorem btakes (w : World) : (Instr.build 146 #[(4, .func (.func 117) #[] #[]), (5, .func (.func 118) #[] #[]), (6, .func (.func 119) #[] #[])]).run Tryz.prog w = .ok (.agg takesV) w := by kernel_rfl
theorem takes_any (w : World) : Calls Tryz.prog 99 #[] w fun e w' => e = .returned (.agg takesV) ∧ Below w.heap.size w w' := by
 refine W_enter (args := []) 2 Tryz.func99 rfl rfl rfl ?_
 have hbw := Below.refl w.heap.size w
 refine W_rs (salA inf146 rfl (fun g0 w1 hB0 hg0 hb hl0 => ?_))
 replace hbw := bthen hbw hb
 have hz_w1 := hb.size
 clear hb
 refine Wn (tN (W_rs (st (X.bld rfl (btakes _)) rfl (ssBN rfl rfl hB0 siz146 rfl rfl (fun w2 hB_ hc_ => ?_)))))
 replace hB0 := hB_
 clear hB_
 replace hbw := bset hbw hc_ (by omega)
 have hz_w2 := hc_.size
 clear hc_
 refine Wn (tN (W_ret ((rC rfl rfl hB0 Tryz.underlying146 rfl siz146 ⟨rfl, hbw⟩).1)))
theorem bSeen (w : World) : (Instr.build 103 #[(2, .int .i64 1)]).run Tryz.prog w = .ok (.agg #[str [], .slice none 0 0, .int .i64 1, .int .i64 0]) w := by kernel_rfl
theorem bScanner (w : World) : (Instr.build 144 #[(0, .agg #[str [], .slice none 0 0, .int .i64 1, .int .i64 0]), (1, .bool true)]).run Tryz.prog w = .ok (.agg #[str [], .slice none 0 0, .int .i64 1, .int .i64 0, .bool true, .int .i64 0, str []]) w := by kernel_rfl
theorem Blk.firsts {w : World} {g : Nat} {t : TypeId} {cs : Array Value} (h : Blk w g t cs) {ds : List Value} (hd : ds <+: cs.toList) : w.rangeAt g 0 ds := fun j v hv => by
 refine h.range j v ?_
 obtain ⟨es, he⟩ := hd
 rw [← he, List.getElem?_append_left (List.getElem?_eq_some_iff.1 hv).1]
 exact hv
def kindF (k : Nat) : FuncId := if k = 4 then 117 else if k = 5 then 118 else 119
theorem callFunc_of {P : Program} {f : FuncId} {fn : Func} {c : Code} (hf : P.funcs[f]? = some fn) (hb : fn.body = some c) (hname : (fn.name == "runtime.NumGoroutine") = false) (args : Array Value) (w : World) : (callFunc f args).run P w = .ok (.enter f args) w := by
 have h2 : fn.name ≠ "runtime.NumGoroutine" := by simpa using hname
 simp [callFunc, hf, hb, h2, mark]
theorem kindF_enters {k : Nat} (h4 : 4 ≤ k) (h7 : k < 7) (args : Array Value) (w : World) : (callFunc (kindF k) args).run Tryz.prog w = .ok (.enter (kindF k) args) w := by
 obtain rfl | rfl | rfl : k = 4 ∨ k = 5 ∨ k = 6 := by omega
 ·exact callFunc_of Tryz.func117 rfl (by kernel_rfl) args w
 ·exact callFunc_of Tryz.func118 rfl (by kernel_rfl) args w
 ·exact callFunc_of Tryz.func119 rfl (by kernel_rfl) args w
theorem kindF_cell {k : Nat} (h4 : 4 ≤ k) (h7 : k < 7) : takesV.toList[k]? = some (.func (.func (kindF k)) #[] #[]) := by
 obtain rfl | rfl | rfl : k = 4 ∨ k = 5 ∨ k = 6 := by omega
 all_goals rfl
theorem kindF_any {k : Nat} (h4 : 4 ≤ k) (h7 : k < 7) (g : Nat) (x : ScM) (v : Value) (n : Nat) (rest : List UInt8) (w : World) (h : ScAt w g x v) (hn : n ≤ 4294967296) (hx : x.next ≤ 1152921504606846976) (hd : x.done.length ≤ 1099511627776) :
  Calls Tryz.prog (kindF k) #[.pointer (some ⟨g, 0, none⟩), .int .i64 n, str rest] w (ScPost w g v x (doM k n rest x)) := by
 obtain rfl | rfl | rfl : k = 4 ∨ k = 5 ∨ k = 6 := by omega
 ·exact sc_intent g x v n rest w h hn hx
 ·exact sc_commit g x v n rest w h hd
 ·exact sc_checkpoint g x v n rest w h hn
theorem scanN_none {n : Nat} {s : List UInt8} {x : ScM} (h : stepM s x = none) (hm : 0 < n) : scanN n s x = x := by
 obtain ⟨m, rfl⟩ : ∃ m, n = m + 1 := ⟨n - 1, by omega⟩
 unfold scanN
 rw [h]
theorem scanN_some {n : Nat} {s : List UInt8} {x y : ScM} (h : stepM s x = some y) (hm : 0 < n) : scanN n s x = scanN (n - 1) s y := by
 obtain ⟨m, rfl⟩ : ∃ m, n = m + 1 := ⟨n - 1, by omega⟩
 rw [Nat.add_sub_cancel]
 show (match stepM s x with | none => x | some y => scanN m s y) = _
 rw [h]
theorem doM_kind {k n : Nat} {r : List UInt8} {x : ScM} (h : k < 4 ∨ 7 ≤ k) : doM k n r x = none := by
 unfold doM
 rw [if_neg (by omega), if_neg (by omega), if_neg (by omega)]
theorem nextM_body (s : List UInt8) : (nextM s).2.1.length ≤ s.length := by
 unfold nextM
 split
 ·simp
 split
 ·simp
 split
 ·simp
 split
 ·simp
 split
 ·simp
 ·simp only
  unfold textR
  split
  ·simp
  split
  ·simp
  split
  ·simp
  unfold takeM
  split
  ·simp
  ·simp only [List.length_take, List.length_drop]
   omega
theorem seen_one {a : List UInt8} {v : Value} {b c : Int} (h : v.oneCell' = true) : (#[str a, v, .int .i64 b, .int .i64 c].toList.all (fun x => x.oneCell')) = true := by
 show (true && (v.oneCell' && (true && (true && true)))) = true
 rw [h]
 rfl
def seenV (x : ScM) (v : Value) : Value := .agg #[str x.state, v, .int .i64 x.next, .int .i64 x.good]
theorem Scan_any (s : List UInt8) (w : World) (hs : s.length ≤ 1099511627776) : Calls Tryz.prog 65 #[str s] w fun e w' =>
  (∃ v, e = .returned (seenV (scanM s) v) ∧ Row w' 9 1 v (scanM s).done.length ((scanM s).done.map str) ∧ ∀ k, v.ownBlock = some k → w.heap.size ≤ k) ∧ Below w.heap.size w w' := by
 refine W_enter (args := [str s]) 74 Tryz.func65 rfl rfl rfl (W_sub [(0, str s)] ?_ ⟨rfl, trivial⟩)
 have hbw := Below.refl w.heap.size w
 refine W_rs (salA inf103 rfl (fun g2 w1 hB2 hg2 hb hl2 => ?_))
 replace hbw := bthen hbw hb
 have hz_w1 := hb.size
 clear hb
 refine Wn (tN (W_scope0 (W_rs (st (X.bld rfl (bSeen _)) rfl (st (X.bld rfl (bScanner _)) rfl (sboxA rfl rfl (fun g14 w2 hB14 hg14 hb hl14 => ?_)))))))
 replace hbw := bthen hbw hb
 replace hB2 := hB2.bel hb
 have hz_w2 := hb.size
 clear hb
 refine sa rfl rfl (Wn (tN (W_rs (sc _ Tryz.func99 rfl (by kernel_rfl) rfl rfl ((takes_any _).mono ?_)))))
 rintro e_ w3 ⟨rfl, hb⟩
 refine cR ?_
 replace hbw := bthen hbw hb
 replace hB2 := hB2.bel hb
 replace hB14 := hB14.bel hb
 have hz_w3 := hb.size
 clear hb
 refine salA inf146 rfl (fun g4 w4 hB4 hg4 hb hl4 => ?_)
 replace hbw := bthen hbw hb
 replace hB2 := hB2.bel hb
 replace hB14 := hB14.bel hb
 have hz_w4 := hb.size
 clear hb
 refine ssBN rfl rfl hB4 siz146 rfl rfl (fun w5 hB_ hc_ => ?_)
 replace hB4 := hB_
 clear hB_
 replace hB2 := hB2.chg hc_ (by first | (show ¬ _ = _; omega) | (intro k_ hk_; simp [Value.ownBlock] at hk_; subst hk_; show ¬ _ = _; omega) | assumption | trivial)
 replace hB14 := hB14.chg hc_ (by first | (show ¬ _ = _; omega) | (intro k_ hk_; simp [Value.ownBlock] at hk_; subst hk_; show ¬ _ = _; omega) | assumption | trivial)
 replace hbw := bset hbw hc_ (by omega)
 have hz_w5 := hc_.size
 clear hc_
 have hs0 : ScOk s scNew := ScOk.new s
 refine Wn (tN (W_label_s (W_seq (W_block (W_lp (fun nw6_ lw6_ w6 => ∃ x : ScM, ∃ v : Value, ∃ m : Nat, nw6_ = s.length - x.good ∧ lw6_ = ([(0, str s), (2, .pointer (some ⟨g2, 0, none⟩)), (3, .pointer (some ⟨g14, 0, none⟩)), (4, .pointer (some ⟨g4, 0, none⟩))] : Env) ∧ (Blk w6 g2 103 #[str [], .slice none 0 0, .int .i64 0, .int .i64 0]) ∧ (Blk w6 g14 144 #[str x.state, v, .int .i64 x.next, .int .i64 x.good, .bool (decide (x.good = 0)), .int .i64 x.open_, str x.last]) ∧ (Row w6 9 1 v x.done.length (x.done.map str)) ∧ (Blk w6 g4 146 takesV) ∧ (ScOk s x) ∧ (scanM s = scanN m s x) ∧ (s.length < m + x.good) ∧ (∀ k, v.ownBlock = some k → w.heap.size ≤ k) ∧ (Below w.heap.size w w6)) _ ⟨_, ⟨scNew, .slice none 0 0, s.length + 1, rfl, rfl, hB2, hB14, Row.nil _ _ _, hB4, hs0, rfl, by simp [scNew], by simp [Value.ownBlock], hbw⟩, ⟨rfl, rfl, rfl, rfl, trivial⟩⟩ ?_)))))
 clear hB2 hB14 hB4 hbw
 rintro nw6_ lw6_ w6 ⟨x, v, m, rfl, rfl, hB2, hB14, hR, hB4, hok, heqm, hm, hvo, hbw⟩
 have hz_w6 := hbw.size
 have hlt_hB2_w6 := hB2.lt
 have hlt_hB14_w6 := hB14.lt
 have hlt_hB4_w6 := hB4.lt
 have hgd := hok.good
 have hnx_ := hok.next
 have hop_ := hok.open_
 have hdn_ := hok.done
 obtain ⟨⟨k, b, n, e⟩, hnm⟩ : ∃ r, nextM (s.drop x.good) = r := ⟨_, rfl⟩
 have hst : stepM s x = if e ≠ 0 ∨ b.length < 4 then none else (doM k.toNat (num b) (b.drop 4) x).map fun y => { y with good := y.good + n } := by unfold stepM; rw [hnm]
 have hm0 : 0 < m := by omega
 have hnum := num_lt b
 have hk8 := k.toNat_lt
 refine W_block (W_rs (sm rfl rfl (sm rfl rfl (st (X.nilChk rfl) rfl (st (X.fa fa144_0 rfl) rfl (st (X.fa fa103_3 rfl) rfl (st (X.ldL rfl hB14 Tryz.underlying3 rfl rfl) rfl (st (X.fromS rfl rfl Tryz.underlying9 rfl (by omega)) rfl ?_))))))))
 have hN := Next_any (s.drop x.good) w6 (by rw [List.length_drop]; omega)
 rw [hnm] at hN
 simp only [nextV] at hN
 refine sc _ Tryz.func100 rfl (by kernel_rfl) rfl rfl ((hN).mono ?_)
 rintro e_ w7 ⟨rfl, hb⟩
 refine cR ?_
 replace hbw := bthen hbw hb
 replace hB2 := hB2.bel hb
 replace hB14 := hB14.bel hb
 replace hB4 := hB4.bel hb
 replace hR := hR.bel hb
 have hz_w7 := hb.size
 clear hb
 refine sm rfl rfl (st (X.ext rfl rfl) rfl (st (X.ext rfl rfl) rfl (st (X.ext rfl rfl) rfl (st (X.ext rfl rfl) rfl (sa rfl rfl (sa rfl rfl (sa rfl rfl (sa rfl rfl (Wn (tN ?_))))))))))
 refine W_seq (W_rs (sm rfl rfl (st (X.neq rfl rfl) rfl (sb rfl rfl (fun h31 => ?_) (fun h31 => ?_)))))
 ·first | replace h31 := of_decide_eq_true h31 | replace h31 := of_decide_eq_false (notT h31) | replace h31 := notT h31 | skip
  have heq : scanM s = x := by rw [heqm]; exact scanN_none (by rw [hst, if_pos (.inl h31)]) hm0
  refine gN (g := 31) rfl rfl rfl rfl (gN (g := 31) rfl rfl rfl rfl (st (X.pickT rfl rfl) rfl (sm rfl rfl (gN (g := 35) rfl rfl rfl rfl (gN (g := 35) rfl rfl rfl rfl (st (X.pickT rfl rfl) rfl (Wn (tN (W_yes rfl (rfl) (W_exit (tE (bM rfl (tE (bH ?_))))))))))))))
  refine tN (W_rs (sm rfl rfl (st (X.nilChk rfl) rfl (st (X.fa fa144_0 rfl) rfl (st (X.ldN (cs := [str x.state, v, .int .i64 x.next, .int .i64 x.good]) rfl Tryz.underlying103 rfl siz103 (hB14.firsts ⟨_, rfl⟩)) rfl ?_)))))
  have hne2 := hR.ne2 hB2 (by decide)
  refine ssBN rfl rfl hB2 siz103 rfl (seen_one hR.one1) (fun w8 hB_ hc_ => ?_)
  replace hB2 := hB_
  clear hB_
  replace hB14 := hB14.chg hc_ (by first | (show ¬ _ = _; omega) | (intro k_ hk_; simp [Value.ownBlock] at hk_; subst hk_; show ¬ _ = _; omega) | assumption | trivial)
  replace hB4 := hB4.chg hc_ (by first | (show ¬ _ = _; omega) | (intro k_ hk_; simp [Value.ownBlock] at hk_; subst hk_; show ¬ _ = _; omega) | assumption | trivial)
  replace hR := hR.chg hc_ (by first | (show ¬ _ = _; omega) | (intro k_ hk_; simp [Value.ownBlock] at hk_; subst hk_; show ¬ _ = _; omega) | assumption | trivial)
  replace hbw := bset hbw hc_ (by omega)
  have hz_w8 := hc_.size
  clear hc_
  refine Wn (tN (W_ret (njR ((rC rfl rfl hB2 Tryz.underlying103 rfl siz103 ⟨⟨v, ?_, ?_, hvo⟩, hbw⟩).1))))
  ·rw [heq]; rfl
  ·rw [heq]; exact hR
 ·first | replace h31 := of_decide_eq_false h31 | replace h31 := of_decide_eq_true (notF h31) | replace h31 := notF h31 | skip
  have he0 : e = 0 := Decidable.of_not_not h31
  have hb5 : b.length ≤ s.length := by
   have hl : (nextM (s.drop x.good)).2.1.length ≤ (s.drop x.good).length := nextM_body _
   rw [hnm, List.length_drop] at hl
   simp only at hl
   omega
  refine gY (g := 31) rfl rfl rfl (sm rfl rfl (gY (g := 31) rfl rfl rfl (st (X.lss rfl rfl) rfl (st (X.pickF rfl rfl) rfl (sb rfl rfl (fun h35 => ?_) (fun h35 => ?_))))))
  ·first | replace h35 := of_decide_eq_true h35 | replace h35 := of_decide_eq_false (notT h35) | replace h35 := notT h35 | skip
   have heq : scanM s = x := by rw [heqm]; exact scanN_none (by rw [hst]; split; rfl; rw [doM_kind (by omega)]; rfl) hm0
   refine gN (g := 35) rfl rfl rfl rfl (gN (g := 35) rfl rfl rfl rfl (st (X.pickT rfl rfl) rfl (Wn (tN (W_yes rfl (rfl) (W_exit (tE (bM rfl (tE (bH (tN (W_rs (sm rfl rfl (st (X.nilChk rfl) rfl ?_))))))))))))))
   refine st (X.fa fa144_0 rfl) rfl (st (X.ldN (cs := [str x.state, v, .int .i64 x.next, .int .i64 x.good]) rfl Tryz.underlying103 rfl siz103 (hB14.firsts ⟨_, rfl⟩)) rfl ?_)
   have hne2 := hR.ne2 hB2 (by decide)
   refine ssBN rfl rfl hB2 siz103 rfl (seen_one hR.one1) (fun w9 hB_ hc_ => ?_)
   replace hB2 := hB_
   clear hB_
   replace hB14 := hB14.chg hc_ (by first | (show ¬ _ = _; omega) | (intro k_ hk_; simp [Value.ownBlock] at hk_; subst hk_; show ¬ _ = _; omega) | assumption | trivial)
   replace hB4 := hB4.chg hc_ (by first | (show ¬ _ = _; omega) | (intro k_ hk_; simp [Value.ownBlock] at hk_; subst hk_; show ¬ _ = _; omega) | assumption | trivial)
   replace hR := hR.chg hc_ (by first | (show ¬ _ = _; omega) | (intro k_ hk_; simp [Value.ownBlock] at hk_; subst hk_; show ¬ _ = _; omega) | assumption | trivial)
   replace hbw := bset hbw hc_ (by omega)
   have hz_w9 := hc_.size
   clear hc_
   refine Wn (tN (W_ret (njR ((rC rfl rfl hB2 Tryz.underlying103 rfl siz103 ⟨⟨v, ?_, ?_, hvo⟩, hbw⟩).1))))
   ·rw [heq]; rfl
   ·rw [heq]; exact hR
  ·first | replace h35 := of_decide_eq_false h35 | replace h35 := of_decide_eq_true (notF h35) | replace h35 := notF h35 | skip
   refine gY (g := 35) rfl rfl rfl (sm rfl rfl (gY (g := 35) rfl rfl rfl (st (X.geq rfl rfl) rfl (st (X.pickF rfl rfl) rfl (Wn (tN (W_if rfl (fun h38 => ?_) (fun h38 => ?_))))))))
   ·first | replace h38 := of_decide_eq_true h38 | replace h38 := of_decide_eq_false (notT h38) | replace h38 := notT h38 | skip
    have heq : scanM s = x := by rw [heqm]; exact scanN_none (by rw [hst]; split; rfl; rw [doM_kind (by omega)]; rfl) hm0
    refine W_exit (tE (bM rfl (tE (bH (tN (W_rs (sm rfl rfl (st (X.nilChk rfl) rfl (st (X.fa fa144_0 rfl) rfl (st (X.ldN (cs := [str x.state, v, .int .i64 x.next, .int .i64 x.good]) rfl Tryz.underlying103 rfl siz103 (hB14.firsts ⟨_, rfl⟩)) rfl ?_))))))))))
    have hne2 := hR.ne2 hB2 (by decide)
    refine ssBN rfl rfl hB2 siz103 rfl (seen_one hR.one1) (fun w10 hB_ hc_ => ?_)
    replace hB2 := hB_
    clear hB_
    replace hB14 := hB14.chg hc_ (by first | (show ¬ _ = _; omega) | (intro k_ hk_; simp [Value.ownBlock] at hk_; subst hk_; show ¬ _ = _; omega) | assumption | trivial)
    replace hB4 := hB4.chg hc_ (by first | (show ¬ _ = _; omega) | (intro k_ hk_; simp [Value.ownBlock] at hk_; subst hk_; show ¬ _ = _; omega) | assumption | trivial)
    replace hR := hR.chg hc_ (by first | (show ¬ _ = _; omega) | (intro k_ hk_; simp [Value.ownBlock] at hk_; subst hk_; show ¬ _ = _; omega) | assumption | trivial)
    replace hbw := bset hbw hc_ (by omega)
    have hz_w10 := hc_.size
    clear hc_
    refine Wn (tN (W_ret (njR ((rC rfl rfl hB2 Tryz.underlying103 rfl siz103 ⟨⟨v, ?_, ?_, hvo⟩, hbw⟩).1))))
    ·rw [heq]; rfl
    ·rw [heq]; exact hR
   ·first | replace h38 := of_decide_eq_false h38 | replace h38 := of_decide_eq_true (notF h38) | replace h38 := notF h38 | skip
    refine W_skip (tN (W_rs (sm rfl rfl (sc _ Tryz.func101 rfl (by kernel_rfl) rfl rfl ((number_any b _ (by omega)).mono ?_)))))
    rintro e_ w11 ⟨rfl, hb⟩
    refine cR ?_
    replace hbw := bthen hbw hb
    replace hB2 := hB2.bel hb
    replace hB14 := hB14.bel hb
    replace hB4 := hB4.bel hb
    replace hR := hR.bel hb
    have hz_w11 := hb.size
    clear hb
    refine sm rfl rfl (st (X.ext rfl rfl) rfl (st (X.ext rfl rfl) rfl (st (X.ext rfl rfl) rfl (sa rfl rfl (sa rfl rfl (sa rfl rfl (Wn (tN (W_seq (W_rs ?_))))))))))
    refine sm rfl rfl (st (X.not rfl) rfl (sb rfl rfl (fun h47 => ?_) (fun h47 => ?_)))
    ·first | replace h47 := of_decide_eq_true h47 | replace h47 := of_decide_eq_false (notT h47) | replace h47 := notT h47 | skip
     have heq : scanM s = x := by rw [heqm]; exact scanN_none (by rw [hst, if_pos (.inr (by omega))]) hm0
     refine gN (g := 47) rfl rfl rfl rfl (gN (g := 47) rfl rfl rfl rfl (gN (g := 47) rfl rfl rfl rfl (gN (g := 47) rfl rfl rfl rfl (gN (g := 47) rfl rfl rfl rfl (gN (g := 47) rfl rfl rfl rfl (gN (g := 47) rfl rfl rfl rfl (gN (g := 47) rfl rfl rfl rfl (st (X.pickT rfl rfl) rfl (Wn (tN ?_))))))))))
     refine W_yes rfl (rfl) (W_exit (tE (bM rfl (tE (bH (tN (W_rs (sm rfl rfl (st (X.nilChk rfl) rfl (st (X.fa fa144_0 rfl) rfl (st (X.ldN (cs := [str x.state, v, .int .i64 x.next, .int .i64 x.good]) rfl Tryz.underlying103 rfl siz103 (hB14.firsts ⟨_, rfl⟩)) rfl ?_)))))))))))
     have hne2 := hR.ne2 hB2 (by decide)
     refine ssBN rfl rfl hB2 siz103 rfl (seen_one hR.one1) (fun w12 hB_ hc_ => ?_)
     replace hB2 := hB_
     clear hB_
     replace hB14 := hB14.chg hc_ (by first | (show ¬ _ = _; omega) | (intro k_ hk_; simp [Value.ownBlock] at hk_; subst hk_; show ¬ _ = _; omega) | assumption | trivial)
     replace hB4 := hB4.chg hc_ (by first | (show ¬ _ = _; omega) | (intro k_ hk_; simp [Value.ownBlock] at hk_; subst hk_; show ¬ _ = _; omega) | assumption | trivial)
     replace hR := hR.chg hc_ (by first | (show ¬ _ = _; omega) | (intro k_ hk_; simp [Value.ownBlock] at hk_; subst hk_; show ¬ _ = _; omega) | assumption | trivial)
     replace hbw := bset hbw hc_ (by omega)
     have hz_w12 := hc_.size
     clear hc_
     refine Wn (tN (W_ret (njR ((rC rfl rfl hB2 Tryz.underlying103 rfl siz103 ⟨⟨v, ?_, ?_, hvo⟩, hbw⟩).1))))
     ·rw [heq]; rfl
     ·rw [heq]; exact hR
    ·first | replace h47 := of_decide_eq_false h47 | replace h47 := of_decide_eq_true (notF h47) | replace h47 := notF h47 | skip
     have hb4 : ¬ b.length < 4 := by omega
     rw [if_neg hb4, if_neg hb4]
     refine gY (g := 47) rfl rfl rfl (sm rfl rfl (gY (g := 47) rfl rfl rfl (st (X.idxArr (j := k.toNat) rfl rfl Tryz.underlying146 siz145 rfl (by omega)) rfl (gY (g := 47) rfl rfl rfl (st (X.ldL rfl hB4 Tryz.underlying145 rfl (by rw [Nat.mul_one, Nat.zero_add]; exact kindF_cell (by omega) (by omega))) rfl ?_)))))
     refine gY (g := 47) rfl rfl rfl (sm rfl rfl (gY (g := 47) rfl rfl rfl (sm rfl rfl (gY (g := 47) rfl rfl rfl (sm rfl rfl (gY (g := 47) rfl rfl rfl (scvF [.pointer (some ⟨g14, 0, none⟩), .int .i64 (num b), str (b.drop 4)] rfl (kindF_enters (k := k.toNat) (by omega) (by omega)) rfl rfl ((kindF_any (by omega) (by omega) g14 x v (num b) (b.drop 4) _ ⟨hB14, hR⟩ (by omega) (by omega) (by omega)).mono ?_))))))))
     rintro e_ w13 ⟨rfl, v', hSc, hv', hC⟩
     refine cR ?_
     replace hbw := bchg hbw hC (by rintro k (rfl | hk); omega; exact hvo k hk)
     replace hB2 := hB2.chg hC (by rintro (hk | hk); omega; exact hR.ne2 hB2 (by decide) _ hk rfl)
     replace hB4 := hB4.chg hC (by rintro (hk | hk); omega; exact hR.ne2 hB4 (by decide) _ hk rfl)
     have hvn : ∀ k, v'.ownBlock = some k → w.heap.size ≤ k := fun k hk => by
      rcases hv' k hk with h | h
      ·exact hvo k h
      ·omega
     have hz_w13 := hC.size
     clear hC hv' hB14 hR
     refine gY (g := 47) rfl rfl rfl (st (X.not rfl) rfl (st (X.pickF rfl rfl) rfl (Wn (tN (W_if rfl (fun h56 => ?_) (fun h56 => ?_))))))
     ·first | replace h56 := of_decide_eq_true h56 | replace h56 := of_decide_eq_false (notT h56) | replace h56 := notT h56 | skip
      have hnone : doM k.toNat (num b) (b.drop 4) x = none := by simpa using h56
      have heq : scanM s = x := by rw [heqm]; exact scanN_none (by rw [hst, hnone]; split <;> rfl) hm0
      rw [hnone] at hSc
      simp only [Option.getD_none] at hSc
      have hB14 := hSc.blk
      have hR := hSc.row
      refine W_exit (tE (bM rfl (tE (bH (tN (W_rs (sm rfl rfl (st (X.nilChk rfl) rfl (st (X.fa fa144_0 rfl) rfl (st (X.ldN (cs := [str x.state, v', .int .i64 x.next, .int .i64 x.good]) rfl Tryz.underlying103 rfl siz103 (hB14.firsts ⟨_, rfl⟩)) rfl ?_))))))))))
      have hne2 := hR.ne2 hB2 (by decide)
      refine ssBN rfl rfl hB2 siz103 rfl (seen_one hR.one1) (fun w14 hB_ hc_ => ?_)
      replace hB2 := hB_
      clear hB_
      replace hB14 := hB14.chg hc_ (by first | (show ¬ _ = _; omega) | (intro k_ hk_; simp [Value.ownBlock] at hk_; subst hk_; show ¬ _ = _; omega) | assumption | trivial)
      replace hB4 := hB4.chg hc_ (by first | (show ¬ _ = _; omega) | (intro k_ hk_; simp [Value.ownBlock] at hk_; subst hk_; show ¬ _ = _; omega) | assumption | trivial)
      replace hR := hR.chg hc_ (by first | (show ¬ _ = _; omega) | (intro k_ hk_; simp [Value.ownBlock] at hk_; subst hk_; show ¬ _ = _; omega) | assumption | trivial)
      replace hbw := bset hbw hc_ (by omega)
      have hz_w14 := hc_.size
      clear hc_
      refine Wn (tN (W_ret (njR ((rC rfl rfl hB2 Tryz.underlying103 rfl siz103 ⟨⟨v', ?_, ?_, hvn⟩, hbw⟩).1))))
      ·rw [heq]; rfl
      ·rw [heq]; exact hR
     ·first | replace h56 := of_decide_eq_false h56 | replace h56 := of_decide_eq_true (notF h56) | replace h56 := notF h56 | skip
      obtain ⟨y, hy⟩ : ∃ y, doM k.toNat (num b) (b.drop 4) x = some y := Option.isSome_iff_exists.1 h56
      rw [hy] at hSc
      simp only [Option.getD_some] at hSc
      have hB14 := hSc.blk
      have hR := hSc.row
      have hne := hR.ne2 hB14 (by decide)
      have hstep : stepM s x = some { y with good := y.good + n } := by rw [hst, if_neg (by omega), hy]; rfl
      obtain ⟨hokn, h5_⟩ := stepM_ok hstep hok
      have hyg : y.good = x.good := (doM_good hy).1
      have hgn := hokn.good
      simp only at hgn h5_
      have heqn : scanM s = scanN (m - 1) s { y with good := y.good + n } := by rw [heqm]; exact scanN_some hstep hm0
      have hmn : s.length < m - 1 + (y.good + n) := by omega
      refine W_skip (tN (W_rs (sm rfl rfl (st (X.nilChk rfl) rfl (st (X.fa fa144_1 rfl) rfl (ssB rfl rfl hB14 siz4 rfl (by first | decide | simp) (fun w15 hB_ hc_ => ?_)))))))
      replace hB14 := hB_
      clear hB_
      replace hB2 := hB2.chg hc_ (by first | (show ¬ _ = _; omega) | (intro k_ hk_; simp [Value.ownBlock] at hk_; subst hk_; show ¬ _ = _; omega) | assumption | trivial)
      replace hB4 := hB4.chg hc_ (by first | (show ¬ _ = _; omega) | (intro k_ hk_; simp [Value.ownBlock] at hk_; subst hk_; show ¬ _ = _; omega) | assumption | trivial)
      replace hR := hR.chg hc_ (by first | (show ¬ _ = _; omega) | (intro k_ hk_; simp [Value.ownBlock] at hk_; subst hk_; show ¬ _ = _; omega) | assumption | trivial)
      replace hbw := bset hbw hc_ (by omega)
      have hz_w15 := hc_.size
      clear hc_
      refine Wn (tN (W_reg (sm rfl rfl (st (X.nilChk rfl) rfl (st (X.fa fa144_0 rfl) rfl (st (X.fa fa103_3 rfl) rfl (st (X.ldL rfl hB14 Tryz.underlying3 rfl rfl) rfl (sm rfl rfl (st (X.add64 rfl rfl (by omega)) rfl (st (X.nilChk rfl) rfl ?_))))))))))
      refine st (X.fa fa144_0 rfl) rfl (st (X.fa fa103_3 rfl) rfl (ssB rfl rfl hB14 siz3 rfl (by first | decide | simp) (fun w16 hB_ hc_ => ?_)))
      replace hB14 := hB_
      clear hB_
      replace hB2 := hB2.chg hc_ (by first | (show ¬ _ = _; omega) | (intro k_ hk_; simp [Value.ownBlock] at hk_; subst hk_; show ¬ _ = _; omega) | assumption | trivial)
      replace hB4 := hB4.chg hc_ (by first | (show ¬ _ = _; omega) | (intro k_ hk_; simp [Value.ownBlock] at hk_; subst hk_; show ¬ _ = _; omega) | assumption | trivial)
      replace hR := hR.chg hc_ (by first | (show ¬ _ = _; omega) | (intro k_ hk_; simp [Value.ownBlock] at hk_; subst hk_; show ¬ _ = _; omega) | assumption | trivial)
      replace hbw := bset hbw hc_ (by omega)
      have hz_w16 := hc_.size
      clear hc_
      refine Wn (bN (tN ⟨_, _, ?_, ⟨{ y with good := y.good + n }, v', m - 1, rfl, rfl, hB2, by show Blk _ _ _ #[_, _, _, .int .i64 ((y.good + n : Nat) : Int), .bool (decide (y.good + n = 0)), _, _]; rw [decide_eq_false (by omega), Int.natCast_add]; exact hB14, hR, hB4, hokn, heqn, hmn, hvn, hbw⟩, ⟨rfl, rfl, rfl, rfl, trivial⟩⟩))
      show s.length - (y.good + n) < s.length - x.good; omega
end Go.Proofs.YtnijmegalgoipaaGreatDoor
namespace Go.Proofs.YtnijmegalgoipaaGreatDoor
open Go.RowKit
theorem doM_none {k n : Nat} {r : List UInt8} {x : ScM} (h4 : k = 4 → n ≠ x.next) (h5 : k = 5 → ¬ (n ≠ 0 ∧ n = x.open_ ∧ r.length = 0)) (h6 : k = 6 → ¬ (x.good = 0 ∧ 1 ≤ n)) : doM k n r x = none := by
 unfold doM
 by_cases a4 : k = 4
 ·rw [if_pos a4, if_neg (h4 a4)]
 rw [if_neg a4]
 by_cases a5 : k = 5
 ·rw [if_pos a5, if_neg (fun e => h5 a5 ⟨e.1, e.2.1, by rw [e.2.2]; rfl⟩)]
 rw [if_neg a5]
 by_cases a6 : k = 6
 ·rw [if_pos a6, if_neg (h6 a6)]
 rw [if_neg a6]
theorem bSeenR (w : World) : (Instr.build 126 #[(2, .int .i64 1)]).run Tryz.prog w = .ok (.agg #[str [], .slice none 0 0, .int .i64 1, .int .i64 0]) w := by kernel_rfl
set_option maxRecDepth 10000 in
theorem Scan_ref (s : List UInt8) (w : World) (hs : s.length ≤ 1099511627776) : Calls Tryz.prog 82 #[str s] w fun e w' =>
  (∃ v, e = .returned (seenV (scanM s) v) ∧ Row w' 9 1 v (scanM s).done.length ((scanM s).done.map str) ∧ ∀ k, v.ownBlock = some k → w.heap.size ≤ k) ∧ Below w.heap.size w w' := by
 refine W_enter (args := [str s]) 91 Tryz.func82 rfl rfl rfl (W_sub [(0, str s)] ?_ ⟨rfl, trivial⟩)
 have hbw := Below.refl w.heap.size w
 refine W_rs (salA inf126 rfl (fun g2 w1 hB2 hg2 hb hl2 => ?_))
 replace hbw := bthen hbw hb
 have hz_w1 := hb.size
 clear hb
 refine Wn (tN (W_rs (st (X.bld rfl (bSeenR _)) rfl (salA inf126 rfl (fun g3 w2 hB3 hg3 hb hl3 => ?_)))))
 replace hbw := bthen hbw hb
 replace hB2 := hB2.bel hb
 have hz_w2 := hb.size
 clear hb
 refine ssBN rfl rfl hB3 siz126 rfl rfl (fun w3 hB_ hc_ => ?_)
 replace hB3 := hB_
 clear hB_
 replace hB2 := hB2.chg hc_ (by first | (show ¬ _ = _; omega) | (intro k_ hk_; simp [Value.ownBlock] at hk_; subst hk_; show ¬ _ = _; omega) | assumption | trivial)
 replace hbw := bset hbw hc_ (by omega)
 have hz_w3 := hc_.size
 clear hc_
 refine Wn (tN (W_rs (sa rfl rfl (Wn (tN (W_rs ?_))))))
 have hs0 : ScOk s scNew := ScOk.new s
 refine sa rfl rfl (Wn (tN (W_block (W_lp (fun nw4_ lw4_ w4 => ∃ x : ScM, ∃ v : Value, ∃ m : Nat, nw4_ = s.length - x.good ∧ lw4_ = ([(0, str s), (2, .pointer (some ⟨g2, 0, none⟩)), (3, .pointer (some ⟨g3, 0, none⟩)), (4, .int .i64 x.open_), (5, str x.last)] : Env) ∧ (∀ k, v.ownBlock = some k → w.heap.size ≤ k) ∧ (Blk w4 g2 126 #[str [], .slice none 0 0, .int .i64 0, .int .i64 0]) ∧ (Blk w4 g3 126 #[str x.state, v, .int .i64 x.next, .int .i64 x.good]) ∧ (Row w4 9 1 v x.done.length (x.done.map str)) ∧ (ScOk s x) ∧ (scanM s = scanN m s x) ∧ (s.length < m + x.good) ∧ (Below w.heap.size w w4)) _ ⟨_, ⟨scNew, .slice none 0 0, s.length + 1, rfl, rfl, by simp [Value.ownBlock], hB2, hB3, Row.nil _ _ _, hs0, rfl, by simp [scNew], hbw⟩, ⟨rfl, rfl, rfl, rfl, rfl, trivial⟩⟩ ?_))))
 clear hB2 hB3 hbw
 rintro nw4_ lw4_ w4 ⟨x, v, m, rfl, rfl, hvo, hB2, hB3, hR, hok, heqm, hm, hbw⟩
 have hz_w4 := hbw.size
 have hlt_hB2_w4 := hB2.lt
 have hlt_hB3_w4 := hB3.lt
 have hgd := hok.good
 have hnx_ := hok.next
 have hop_ := hok.open_
 have hdn_ := hok.done
 obtain ⟨⟨k, b, n, e⟩, hnm⟩ : ∃ r, nextM (s.drop x.good) = r := ⟨_, rfl⟩
 have hst : stepM s x = if e ≠ 0 ∨ b.length < 4 then none else (doM k.toNat (num b) (b.drop 4) x).map fun y => { y with good := y.good + n } := by unfold stepM; rw [hnm]
 have hm0 : 0 < m := by omega
 have hnum := num_lt b
 have hk8 := k.toNat_lt
 have hb5 : b.length ≤ s.length := by
  have hl : (nextM (s.drop x.good)).2.1.length ≤ (s.drop x.good).length := nextM_body _
  rw [hnm, List.length_drop] at hl
  simp only at hl
  omega
 refine W_block (W_rs (sm rfl rfl (st (X.fa fa126_3 rfl) rfl (st (X.ldL rfl hB3 Tryz.underlying3 rfl rfl) rfl (st (X.fromS rfl rfl Tryz.underlying9 rfl (by omega)) rfl ?_)))))
 have hN := Next_ref (s.drop x.good) w4 (by rw [List.length_drop]; omega)
 rw [hnm] at hN
 simp only [nextV] at hN
 refine sc _ Tryz.func111 rfl (by kernel_rfl) rfl rfl ((hN).mono ?_)
 rintro e_ w5 ⟨rfl, hb⟩
 refine cR ?_
 replace hbw := bthen hbw hb
 replace hB2 := hB2.bel hb
 replace hB3 := hB3.bel hb
 replace hR := hR.bel hb
 have hz_w5 := hb.size
 clear hb
 refine sm rfl rfl (st (X.ext rfl rfl) rfl (st (X.ext rfl rfl) rfl (st (X.ext rfl rfl) rfl (st (X.ext rfl rfl) rfl (sa rfl rfl (sa rfl rfl (sa rfl rfl (sa rfl rfl (Wn (tN ?_))))))))))
 refine W_seq (W_rs (sm rfl rfl (st (X.neq rfl rfl) rfl (sb rfl rfl (fun h24 => ?_) (fun h24 => ?_)))))
 ·first | replace h24 := of_decide_eq_true h24 | replace h24 := of_decide_eq_false (notT h24) | replace h24 := notT h24 | skip
  have heq : scanM s = x := by rw [heqm]; exact scanN_none (by rw [hst, if_pos (.inl h24)]) hm0
  refine gN (g := 24) rfl rfl rfl rfl (gN (g := 24) rfl rfl rfl rfl (gN (g := 24) rfl rfl rfl rfl (st (X.pickT rfl rfl) rfl (Wn (tN (W_yes rfl (rfl) (W_rs (st (X.ldBN rfl hB3 Tryz.underlying126 rfl siz126) rfl ?_))))))))
  have hne2 := hR.ne2 hB2 (by decide)
  refine ssBN rfl rfl hB2 siz126 rfl (seen_one hR.one1) (fun w6 hB_ hc_ => ?_)
  replace hB2 := hB_
  clear hB_
  replace hB3 := hB3.chg hc_ (by first | (show ¬ _ = _; omega) | (intro k_ hk_; simp [Value.ownBlock] at hk_; subst hk_; show ¬ _ = _; omega) | assumption | trivial)
  replace hR := hR.chg hc_ (by first | (show ¬ _ = _; omega) | (intro k_ hk_; simp [Value.ownBlock] at hk_; subst hk_; show ¬ _ = _; omega) | assumption | trivial)
  replace hbw := bset hbw hc_ (by omega)
  have hz_w6 := hc_.size
  clear hc_
  refine Wn (tN (W_ret (tR (bR (tR (bR ((rC rfl rfl hB2 Tryz.underlying126 rfl siz126 ⟨⟨v, ?_, ?_, hvo⟩, hbw⟩).1)))))))
  ·rw [heq]; rfl
  ·rw [heq]; exact hR
 ·first | replace h24 := of_decide_eq_false h24 | replace h24 := of_decide_eq_true (notF h24) | replace h24 := notF h24 | skip
  have he0 : e = 0 := Decidable.of_not_not h24
  refine gY (g := 24) rfl rfl rfl (sm rfl rfl (gY (g := 24) rfl rfl rfl (st (X.lenS rfl rfl Tryz.underlying9) rfl (gY (g := 24) rfl rfl rfl (st (X.lss rfl rfl) rfl (st (X.pickF rfl rfl) rfl (Wn (tN (W_if rfl (fun h28 => ?_) (fun h28 => ?_))))))))))
  ·first | replace h28 := of_decide_eq_true h28 | replace h28 := of_decide_eq_false (notT h28) | replace h28 := notT h28 | skip
   have heq : scanM s = x := by rw [heqm]; exact scanN_none (by rw [hst, if_pos (.inr (by omega))]) hm0
   refine W_rs (st (X.ldBN rfl hB3 Tryz.underlying126 rfl siz126) rfl ?_)
   have hne2 := hR.ne2 hB2 (by decide)
   refine ssBN rfl rfl hB2 siz126 rfl (seen_one hR.one1) (fun w7 hB_ hc_ => ?_)
   replace hB2 := hB_
   clear hB_
   replace hB3 := hB3.chg hc_ (by first | (show ¬ _ = _; omega) | (intro k_ hk_; simp [Value.ownBlock] at hk_; subst hk_; show ¬ _ = _; omega) | assumption | trivial)
   replace hR := hR.chg hc_ (by first | (show ¬ _ = _; omega) | (intro k_ hk_; simp [Value.ownBlock] at hk_; subst hk_; show ¬ _ = _; omega) | assumption | trivial)
   replace hbw := bset hbw hc_ (by omega)
   have hz_w7 := hc_.size
   clear hc_
   refine Wn (tN (W_ret (tR (bR (tR (bR ((rC rfl rfl hB2 Tryz.underlying126 rfl siz126 ⟨⟨v, ?_, ?_, hvo⟩, hbw⟩).1)))))))
   ·rw [heq]; rfl
   ·rw [heq]; exact hR
  ·first | replace h28 := of_decide_eq_false h28 | replace h28 := of_decide_eq_true (notF h28) | replace h28 := notF h28 | skip
   have hb4 : ¬ b.length < 4 := by omega
   have hrl : (b.drop 4).length = b.length - 4 := by rw [List.length_drop]
   refine W_skip (tN (W_rs (sm rfl rfl (sc _ Tryz.func112 rfl (by kernel_rfl) rfl rfl ((Of_any b 0 _ (by omega) (by omega)).mono ?_)))))
   rintro e_ w8 ⟨rfl, hb⟩
   refine cR ?_
   replace hbw := bthen hbw hb
   replace hB2 := hB2.bel hb
   replace hB3 := hB3.bel hb
   replace hR := hR.bel hb
   have hz_w8 := hb.size
   clear hb
   rw [List.drop_zero]
   refine sa rfl rfl (Wn (tN (W_seq (W_rs (sm rfl rfl (st (X.eql rfl rfl) rfl (sb rfl rfl (fun h34 => ?_) (fun h34 => ?_))))))))
   ·first | replace h34 := of_decide_eq_true h34 | replace h34 := of_decide_eq_false (notT h34) | replace h34 := notT h34 | skip
    refine gY (g := 34) rfl rfl rfl (st (X.fa fa126_3 rfl) rfl (gY (g := 34) rfl rfl rfl (st (X.ldL rfl hB3 Tryz.underlying3 rfl rfl) rfl (gY (g := 34) rfl rfl rfl (st (X.eql rfl rfl) rfl (st (X.pickT rfl rfl) rfl (sb rfl rfl (fun h39 => ?_) (fun h39 => ?_))))))))
    ·first | replace h39 := of_decide_eq_true h39 | replace h39 := of_decide_eq_false (notT h39) | replace h39 := notT h39 | skip
     refine gY (g := 39) rfl rfl rfl (sm rfl rfl (gY (g := 39) rfl rfl rfl (st (X.gtr rfl rfl) rfl (st (X.pickT rfl rfl) rfl (Wn (tN (W_if rfl (fun h42 => ?_) (fun h42 => ?_))))))))
     ·first | replace h42 := of_decide_eq_true h42 | replace h42 := of_decide_eq_false (notT h42) | replace h42 := notT h42 | skip
      refine W_rs ?_
      have hvn := hvo
      obtain ⟨y, hyd⟩ : ∃ y : ScM, y = { x with state := b.drop 4, next := num b } := ⟨_, rfl⟩
      have hy : doM k.toNat (num b) (b.drop 4) x = some y := by rw [show k.toNat = 6 by omega, hyd]; unfold doM; rw [if_neg (by decide), if_neg (by decide), if_pos rfl, if_pos ⟨by omega, by omega⟩]
      have hstep : stepM s x = some { y with good := y.good + n } := by rw [hst, if_neg (by omega), hy]; rfl
      obtain ⟨hokn, h5_⟩ := stepM_ok hstep hok
      have hyg : y.good = x.good := (doM_good hy).1
      have hgn := hokn.good
      simp only at hgn h5_
      have heqn : scanM s = scanN (m - 1) s { y with good := y.good + n } := by rw [heqm]; exact scanN_some hstep hm0
      have hmn : s.length < m - 1 + (y.good + n) := by omega
      have hne3 := hR.ne2 hB3 (by decide)
      refine sm rfl rfl (st (X.fromS (i := 4) rfl rfl Tryz.underlying9 rfl (by omega)) rfl (st (X.fa fa126_0 rfl) rfl (ssB rfl rfl hB3 siz9 rfl (by first | decide | simp) (fun w9 hB_ hc_ => ?_))))
      replace hB3 := hB_
      clear hB_
      replace hB2 := hB2.chg hc_ (by first | (show ¬ _ = _; omega) | (intro k_ hk_; simp [Value.ownBlock] at hk_; subst hk_; show ¬ _ = _; omega) | assumption | trivial)
      replace hR := hR.chg hc_ (by first | (show ¬ _ = _; omega) | (intro k_ hk_; simp [Value.ownBlock] at hk_; subst hk_; show ¬ _ = _; omega) | assumption | trivial)
      replace hbw := bset hbw hc_ (by omega)
      have hz_w9 := hc_.size
      clear hc_
      refine Wn (tN (W_reg (sm rfl rfl (st (X.fa fa126_2 rfl) rfl (ssB rfl rfl hB3 siz3 rfl (by first | decide | simp) (fun w10 hB_ hc_ => ?_))))))
      replace hB3 := hB_
      clear hB_
      replace hB2 := hB2.chg hc_ (by first | (show ¬ _ = _; omega) | (intro k_ hk_; simp [Value.ownBlock] at hk_; subst hk_; show ¬ _ = _; omega) | assumption | trivial)
      replace hR := hR.chg hc_ (by first | (show ¬ _ = _; omega) | (intro k_ hk_; simp [Value.ownBlock] at hk_; subst hk_; show ¬ _ = _; omega) | assumption | trivial)
      replace hbw := bset hbw hc_ (by omega)
      have hz_w10 := hc_.size
      clear hc_
      refine Wn (tN (W_reg (st (X.fa fa126_3 rfl) rfl (st (X.ldL rfl hB3 Tryz.underlying3 rfl rfl) rfl (sm rfl rfl (st (X.add64 rfl rfl (by omega)) rfl (st (X.fa fa126_3 rfl) rfl (ssB rfl rfl hB3 siz3 rfl (by first | decide | simp) (fun w11 hB_ hc_ => ?_)))))))))
      replace hB3 := hB_
      clear hB_
      replace hB2 := hB2.chg hc_ (by first | (show ¬ _ = _; omega) | (intro k_ hk_; simp [Value.ownBlock] at hk_; subst hk_; show ¬ _ = _; omega) | assumption | trivial)
      replace hR := hR.chg hc_ (by first | (show ¬ _ = _; omega) | (intro k_ hk_; simp [Value.ownBlock] at hk_; subst hk_; show ¬ _ = _; omega) | assumption | trivial)
      replace hbw := bset hbw hc_ (by omega)
      have hz_w11 := hc_.size
      clear hc_
      refine Wn (bN (tN ⟨_, _, ?_, ⟨{ y with good := y.good + n }, _, m - 1, rfl, rfl, hvn, hB2, by subst hyd; exact hB3, by subst hyd; first | exact hR | simpa [str, Value.cells] using hR, hokn, heqn, hmn, hbw⟩, ⟨rfl, rfl, rfl, by subst hyd; rfl, by subst hyd; rfl, trivial⟩⟩))
      show s.length - (y.good + n) < s.length - x.good; omega
     ·first | replace h42 := of_decide_eq_false h42 | replace h42 := of_decide_eq_true (notF h42) | replace h42 := notF h42 | skip
      refine W_rs (sm rfl rfl (st (X.eql rfl rfl) rfl (sbN rfl (decide_eq_false (by omega)) rfl (gN (g := 50) rfl rfl rfl rfl (gN (g := 50) rfl rfl rfl rfl (gN (g := 50) rfl rfl rfl rfl (gN (g := 50) rfl rfl rfl rfl (st (X.pickF rfl rfl) rfl (Wn (tN ?_))))))))))
      refine W_no rfl (rfl) (W_rs (sm rfl rfl (st (X.eql rfl rfl) rfl (sbN rfl (decide_eq_false (by omega)) rfl (gN (g := 65) rfl rfl rfl rfl (gN (g := 65) rfl rfl rfl rfl (st (X.pickF rfl rfl) rfl (sm rfl rfl (gN (g := 69) rfl rfl rfl rfl (gN (g := 69) rfl rfl rfl rfl ?_))))))))))
      refine gN (g := 69) rfl rfl rfl rfl (st (X.pickF rfl rfl) rfl (sm rfl rfl (gN (g := 74) rfl rfl rfl rfl (gN (g := 74) rfl rfl rfl rfl (gN (g := 74) rfl rfl rfl rfl (st (X.pickF rfl rfl) rfl (Wn (tN (W_no rfl (rfl) (W_rs ?_))))))))))
      have heq : scanM s = x := by rw [heqm]; exact scanN_none (by rw [hst, if_neg (by omega), doM_none (by omega) (by omega) (by omega)]; rfl) hm0
      refine st (X.ldBN rfl hB3 Tryz.underlying126 rfl siz126) rfl ?_
      have hne2 := hR.ne2 hB2 (by decide)
      refine ssBN rfl rfl hB2 siz126 rfl (seen_one hR.one1) (fun w12 hB_ hc_ => ?_)
      replace hB2 := hB_
      clear hB_
      replace hB3 := hB3.chg hc_ (by first | (show ¬ _ = _; omega) | (intro k_ hk_; simp [Value.ownBlock] at hk_; subst hk_; show ¬ _ = _; omega) | assumption | trivial)
      replace hR := hR.chg hc_ (by first | (show ¬ _ = _; omega) | (intro k_ hk_; simp [Value.ownBlock] at hk_; subst hk_; show ¬ _ = _; omega) | assumption | trivial)
      replace hbw := bset hbw hc_ (by omega)
      have hz_w12 := hc_.size
      clear hc_
      refine Wn (tN (W_ret (tR (bR (tR (bR ((rC rfl rfl hB2 Tryz.underlying126 rfl siz126 ⟨⟨v, ?_, ?_, hvo⟩, hbw⟩).1)))))))
      ·rw [heq]; rfl
      ·rw [heq]; exact hR
    ·first | replace h39 := of_decide_eq_false h39 | replace h39 := of_decide_eq_true (notF h39) | replace h39 := notF h39 | skip
     refine gN (g := 39) rfl rfl rfl rfl (gN (g := 39) rfl rfl rfl rfl (st (X.pickF rfl rfl) rfl (Wn (tN (W_no rfl (rfl) (W_rs (sm rfl rfl (st (X.eql rfl rfl) rfl (sbN rfl (decide_eq_false (by omega)) rfl (gN (g := 50) rfl rfl rfl rfl ?_))))))))))
     refine gN (g := 50) rfl rfl rfl rfl (gN (g := 50) rfl rfl rfl rfl (gN (g := 50) rfl rfl rfl rfl (st (X.pickF rfl rfl) rfl (Wn (tN (W_no rfl (rfl) (W_rs (sm rfl rfl (st (X.eql rfl rfl) rfl (sbN rfl (decide_eq_false (by omega)) rfl ?_))))))))))
     refine gN (g := 65) rfl rfl rfl rfl (gN (g := 65) rfl rfl rfl rfl (st (X.pickF rfl rfl) rfl (sm rfl rfl (gN (g := 69) rfl rfl rfl rfl (gN (g := 69) rfl rfl rfl rfl (gN (g := 69) rfl rfl rfl rfl (st (X.pickF rfl rfl) rfl (sm rfl rfl (gN (g := 74) rfl rfl rfl rfl (gN (g := 74) rfl rfl rfl rfl ?_))))))))))
     refine gN (g := 74) rfl rfl rfl rfl (st (X.pickF rfl rfl) rfl (Wn (tN (W_no rfl (rfl) (W_rs ?_)))))
     have heq : scanM s = x := by rw [heqm]; exact scanN_none (by rw [hst, if_neg (by omega), doM_none (by omega) (by omega) (by omega)]; rfl) hm0
     refine st (X.ldBN rfl hB3 Tryz.underlying126 rfl siz126) rfl ?_
     have hne2 := hR.ne2 hB2 (by decide)
     refine ssBN rfl rfl hB2 siz126 rfl (seen_one hR.one1) (fun w13 hB_ hc_ => ?_)
     replace hB2 := hB_
     clear hB_
     replace hB3 := hB3.chg hc_ (by first | (show ¬ _ = _; omega) | (intro k_ hk_; simp [Value.ownBlock] at hk_; subst hk_; show ¬ _ = _; omega) | assumption | trivial)
     replace hR := hR.chg hc_ (by first | (show ¬ _ = _; omega) | (intro k_ hk_; simp [Value.ownBlock] at hk_; subst hk_; show ¬ _ = _; omega) | assumption | trivial)
     replace hbw := bset hbw hc_ (by omega)
     have hz_w13 := hc_.size
     clear hc_
     refine Wn (tN (W_ret (tR (bR (tR (bR ((rC rfl rfl hB2 Tryz.underlying126 rfl siz126 ⟨⟨v, ?_, ?_, hvo⟩, hbw⟩).1)))))))
     ·rw [heq]; rfl
     ·rw [heq]; exact hR
   ·first | replace h34 := of_decide_eq_false h34 | replace h34 := of_decide_eq_true (notF h34) | replace h34 := notF h34 | skip
    refine gN (g := 34) rfl rfl rfl rfl (gN (g := 34) rfl rfl rfl rfl (gN (g := 34) rfl rfl rfl rfl (st (X.pickF rfl rfl) rfl (sm rfl rfl (gN (g := 39) rfl rfl rfl rfl (gN (g := 39) rfl rfl rfl rfl (st (X.pickF rfl rfl) rfl (Wn (tN (W_no rfl (rfl) ?_))))))))))
    refine W_rs (sm rfl rfl (st (X.eql rfl rfl) rfl (sb rfl rfl (fun h50 => ?_) (fun h50 => ?_))))
    ·first | replace h50 := of_decide_eq_true h50 | replace h50 := of_decide_eq_false (notT h50) | replace h50 := notT h50 | skip
     refine gY (g := 50) rfl rfl rfl (sm rfl rfl (gY (g := 50) rfl rfl rfl (st (X.fa fa126_2 rfl) rfl (gY (g := 50) rfl rfl rfl (st (X.ldL rfl hB3 Tryz.underlying3 rfl rfl) rfl (gY (g := 50) rfl rfl rfl (st (X.eql rfl rfl) rfl (st (X.pickT rfl rfl) rfl (Wn (tN ?_))))))))))
     refine W_if rfl (fun h55 => ?_) (fun h55 => ?_)
     ·first | replace h55 := of_decide_eq_true h55 | replace h55 := of_decide_eq_false (notT h55) | replace h55 := notT h55 | skip
      refine W_rs ?_
      have hvn := hvo
      obtain ⟨y, hyd⟩ : ∃ y : ScM, y = { x with open_ := num b, last := b.drop 4, next := x.next + 1 } := ⟨_, rfl⟩
      have hy : doM k.toNat (num b) (b.drop 4) x = some y := by rw [show k.toNat = 4 by omega, hyd]; unfold doM; rw [if_pos rfl, if_pos (by omega)]
      have hstep : stepM s x = some { y with good := y.good + n } := by rw [hst, if_neg (by omega), hy]; rfl
      obtain ⟨hokn, h5_⟩ := stepM_ok hstep hok
      have hyg : y.good = x.good := (doM_good hy).1
      have hgn := hokn.good
      simp only at hgn h5_
      have heqn : scanM s = scanN (m - 1) s { y with good := y.good + n } := by rw [heqm]; exact scanN_some hstep hm0
      have hmn : s.length < m - 1 + (y.good + n) := by omega
      have hne3 := hR.ne2 hB3 (by decide)
      refine sm rfl rfl (sa rfl rfl (Wn (tN (W_rs (sm rfl rfl (st (X.fromS (i := 4) rfl rfl Tryz.underlying9 rfl (by omega)) rfl (sa rfl rfl (Wn (tN (W_reg ?_))))))))))
      refine st (X.fa fa126_2 rfl) rfl (st (X.ldL rfl hB3 Tryz.underlying3 rfl rfl) rfl (st (X.add64 rfl rfl (by omega)) rfl (st (X.fa fa126_2 rfl) rfl (ssB rfl rfl hB3 siz3 rfl (by first | decide | simp) (fun w14 hB_ hc_ => ?_)))))
      replace hB3 := hB_
      clear hB_
      replace hB2 := hB2.chg hc_ (by first | (show ¬ _ = _; omega) | (intro k_ hk_; simp [Value.ownBlock] at hk_; subst hk_; show ¬ _ = _; omega) | assumption | trivial)
      replace hR := hR.chg hc_ (by first | (show ¬ _ = _; omega) | (intro k_ hk_; simp [Value.ownBlock] at hk_; subst hk_; show ¬ _ = _; omega) | assumption | trivial)
      replace hbw := bset hbw hc_ (by omega)
      have hz_w14 := hc_.size
      clear hc_
      refine Wn (tN (W_reg (st (X.fa fa126_3 rfl) rfl (st (X.ldL rfl hB3 Tryz.underlying3 rfl rfl) rfl (sm rfl rfl (st (X.add64 rfl rfl (by omega)) rfl (st (X.fa fa126_3 rfl) rfl (ssB rfl rfl hB3 siz3 rfl (by first | decide | simp) (fun w15 hB_ hc_ => ?_)))))))))
      replace hB3 := hB_
      clear hB_
      replace hB2 := hB2.chg hc_ (by first | (show ¬ _ = _; omega) | (intro k_ hk_; simp [Value.ownBlock] at hk_; subst hk_; show ¬ _ = _; omega) | assumption | trivial)
      replace hR := hR.chg hc_ (by first | (show ¬ _ = _; omega) | (intro k_ hk_; simp [Value.ownBlock] at hk_; subst hk_; show ¬ _ = _; omega) | assumption | trivial)
      replace hbw := bset hbw hc_ (by omega)
      have hz_w15 := hc_.size
      clear hc_
      refine Wn (bN (tN ⟨_, _, ?_, ⟨{ y with good := y.good + n }, _, m - 1, rfl, rfl, hvn, hB2, by subst hyd; exact hB3, by subst hyd; first | exact hR | simpa [str, Value.cells] using hR, hokn, heqn, hmn, hbw⟩, ⟨rfl, rfl, rfl, by subst hyd; rfl, by subst hyd; rfl, trivial⟩⟩))
      show s.length - (y.good + n) < s.length - x.good; omega
     ·first | replace h55 := of_decide_eq_false h55 | replace h55 := of_decide_eq_true (notF h55) | replace h55 := notF h55 | skip
      refine W_rs (sm rfl rfl (st (X.eql rfl rfl) rfl (sbN rfl (decide_eq_false (by omega)) rfl (gN (g := 65) rfl rfl rfl rfl (gN (g := 65) rfl rfl rfl rfl (st (X.pickF rfl rfl) rfl (sm rfl rfl (gN (g := 69) rfl rfl rfl rfl (gN (g := 69) rfl rfl rfl rfl (gN (g := 69) rfl rfl rfl rfl ?_))))))))))
      refine st (X.pickF rfl rfl) rfl (sm rfl rfl (gN (g := 74) rfl rfl rfl rfl (gN (g := 74) rfl rfl rfl rfl (gN (g := 74) rfl rfl rfl rfl (st (X.pickF rfl rfl) rfl (Wn (tN (W_no rfl (rfl) (W_rs ?_)))))))))
      have heq : scanM s = x := by rw [heqm]; exact scanN_none (by rw [hst, if_neg (by omega), doM_none (by omega) (by omega) (by omega)]; rfl) hm0
      refine st (X.ldBN rfl hB3 Tryz.underlying126 rfl siz126) rfl ?_
      have hne2 := hR.ne2 hB2 (by decide)
      refine ssBN rfl rfl hB2 siz126 rfl (seen_one hR.one1) (fun w16 hB_ hc_ => ?_)
      replace hB2 := hB_
      clear hB_
      replace hB3 := hB3.chg hc_ (by first | (show ¬ _ = _; omega) | (intro k_ hk_; simp [Value.ownBlock] at hk_; subst hk_; show ¬ _ = _; omega) | assumption | trivial)
      replace hR := hR.chg hc_ (by first | (show ¬ _ = _; omega) | (intro k_ hk_; simp [Value.ownBlock] at hk_; subst hk_; show ¬ _ = _; omega) | assumption | trivial)
      replace hbw := bset hbw hc_ (by omega)
      have hz_w16 := hc_.size
      clear hc_
      refine Wn (tN (W_ret (tR (bR (tR (bR ((rC rfl rfl hB2 Tryz.underlying126 rfl siz126 ⟨⟨v, ?_, ?_, hvo⟩, hbw⟩).1)))))))
      ·rw [heq]; rfl
      ·rw [heq]; exact hR
    ·first | replace h50 := of_decide_eq_false h50 | replace h50 := of_decide_eq_true (notF h50) | replace h50 := notF h50 | skip
     refine gN (g := 50) rfl rfl rfl rfl (gN (g := 50) rfl rfl rfl rfl (gN (g := 50) rfl rfl rfl rfl (gN (g := 50) rfl rfl rfl rfl (st (X.pickF rfl rfl) rfl (Wn (tN (W_no rfl (rfl) (W_rs (sm rfl rfl (st (X.eql rfl rfl) rfl ?_))))))))))
     refine sb rfl rfl (fun h65 => ?_) (fun h65 => ?_)
     ·first | replace h65 := of_decide_eq_true h65 | replace h65 := of_decide_eq_false (notT h65) | replace h65 := notT h65 | skip
      refine gY (g := 65) rfl rfl rfl (sm rfl rfl (gY (g := 65) rfl rfl rfl (st (X.gtr rfl rfl) rfl (st (X.pickT rfl rfl) rfl (sb rfl rfl (fun h69 => ?_) (fun h69 => ?_))))))
      ·first | replace h69 := of_decide_eq_true h69 | replace h69 := of_decide_eq_false (notT h69) | replace h69 := notT h69 | skip
       refine gY (g := 69) rfl rfl rfl (sm rfl rfl (gY (g := 69) rfl rfl rfl (sm rfl rfl (gY (g := 69) rfl rfl rfl (st (X.eql rfl rfl) rfl (st (X.pickT rfl rfl) rfl (sb rfl rfl (fun h74 => ?_) (fun h74 => ?_))))))))
       ·first | replace h74 := of_decide_eq_true h74 | replace h74 := of_decide_eq_false (notT h74) | replace h74 := notT h74 | skip
        refine gY (g := 74) rfl rfl rfl (sm rfl rfl (gY (g := 74) rfl rfl rfl (st (X.lenS rfl rfl Tryz.underlying9) rfl (gY (g := 74) rfl rfl rfl (st (X.eql rfl rfl) rfl (st (X.pickT rfl rfl) rfl (Wn (tN (W_if rfl (fun h78 => ?_) (fun h78 => ?_))))))))))
        ·first | replace h78 := of_decide_eq_true h78 | replace h78 := of_decide_eq_false (notT h78) | replace h78 := notT h78 | skip
         refine W_rs ?_
         have hr0 : b.drop 4 = [] := List.eq_nil_of_length_eq_zero (by omega)
         obtain ⟨y, hyd⟩ : ∃ y : ScM, y = { x with done := x.done ++ [x.last], open_ := 0 } := ⟨_, rfl⟩
         have hy : doM k.toNat (num b) (b.drop 4) x = some y := by rw [show k.toNat = 5 by omega, hyd]; unfold doM; rw [if_neg (by decide), if_pos rfl, if_pos ⟨by omega, by omega, hr0⟩]
         have hstep : stepM s x = some { y with good := y.good + n } := by rw [hst, if_neg (by omega), hy]; rfl
         obtain ⟨hokn, h5_⟩ := stepM_ok hstep hok
         have hyg : y.good = x.good := (doM_good hy).1
         have hgn := hokn.good
         simp only at hgn h5_
         have heqn : scanM s = scanN (m - 1) s { y with good := y.good + n } := by rw [heqm]; exact scanN_some hstep hm0
         have hmn : s.length < m - 1 + (y.good + n) := by omega
         have hne3 := hR.ne2 hB3 (by decide)
         refine st (X.fa fa126_1 rfl) rfl (st (X.ldL rfl hB3 Tryz.underlying42 rfl rfl) rfl (sm rfl rfl (sbs1 rfl Tryz.underlying42 inf9 rfl rfl (by decide) (by decide) rfl (fun g82 w17 hR82 hg82 hb => ?_))))
         replace hbw := bthen hbw hb
         replace hB2 := hB2.bel hb
         replace hB3 := hB3.bel hb
         replace hR := hR.bel hb
         have hz_w17 := hb.size
         clear hb
         have hl82 := hR82.blt (by decide)
         refine sapp rfl rfl Tryz.underlying42 inf9 rfl (by decide) hR (hR82.src Tryz.underlying42 (by intro u hu; rw [show u = str x.last by simpa [Value.cells, str] using hu]; rfl)) (by simp only [maxLen]; omega) (by omega) rfl (fun v' w18 hR2 hC2 hv => ?_)
         obtain ⟨a', c', rfl, _, _⟩ := hR2.shape
         have hvn : ∀ k, (Value.slice a' (x.done.length + 1) c').ownBlock = some k → w.heap.size ≤ k := fun k hk => by
          rcases hv with hv | hv
          ·exact hvo k (hv ▸ hk)
          ·rw [hv] at hk
           injection hk with hk
           omega
         have hne := hR2.ne2 (hB3.chg hC2 (fun hk => hR.ne2 hB3 (by decide) _ hk rfl)) (by decide)
         replace hB3 := hB3.chg hC2 (fun hk => hR.ne2 hB3 (by decide) _ hk rfl)
         replace hB2 := hB2.chg hC2 (fun hk => hR.ne2 hB2 (by decide) _ hk rfl)
         replace hbw := bchg hbw hC2 hvo
         have hz_w18 := hC2.size
         replace hR := hR2
         clear hC2 hR2
         refine st (X.fa fa126_1 rfl) rfl (ssB rfl rfl hB3 siz42 rfl (by first | decide | simp) (fun w19 hB_ hc_ => ?_))
         replace hB3 := hB_
         clear hB_
         replace hB2 := hB2.chg hc_ (by first | (show ¬ _ = _; omega) | (intro k_ hk_; simp [Value.ownBlock] at hk_; subst hk_; show ¬ _ = _; omega) | assumption | trivial)
         replace hR := hR.chg hc_ (by first | (show ¬ _ = _; omega) | (intro k_ hk_; simp [Value.ownBlock] at hk_; subst hk_; show ¬ _ = _; omega) | assumption | trivial)
         replace hbw := bset hbw hc_ (by omega)
         have hz_w19 := hc_.size
         clear hc_
         refine Wn (tN (W_reg (sa rfl rfl (Wn (tN (W_reg (st (X.fa fa126_3 rfl) rfl (st (X.ldL rfl hB3 Tryz.underlying3 rfl rfl) rfl (sm rfl rfl (st (X.add64 rfl rfl (by omega)) rfl ?_))))))))))
         refine st (X.fa fa126_3 rfl) rfl (ssB rfl rfl hB3 siz3 rfl (by first | decide | simp) (fun w20 hB_ hc_ => ?_))
         replace hB3 := hB_
         clear hB_
         replace hB2 := hB2.chg hc_ (by first | (show ¬ _ = _; omega) | (intro k_ hk_; simp [Value.ownBlock] at hk_; subst hk_; show ¬ _ = _; omega) | assumption | trivial)
         replace hR := hR.chg hc_ (by first | (show ¬ _ = _; omega) | (intro k_ hk_; simp [Value.ownBlock] at hk_; subst hk_; show ¬ _ = _; omega) | assumption | trivial)
         replace hbw := bset hbw hc_ (by omega)
         have hz_w20 := hc_.size
         clear hc_
         refine Wn (bN (tN ⟨_, _, ?_, ⟨{ y with good := y.good + n }, _, m - 1, rfl, rfl, hvn, hB2, by subst hyd; exact hB3, by subst hyd; first | exact hR | simpa [str, Value.cells] using hR, hokn, heqn, hmn, hbw⟩, ⟨rfl, rfl, rfl, by subst hyd; rfl, by subst hyd; rfl, trivial⟩⟩))
         show s.length - (y.good + n) < s.length - x.good; omega
        ·first | replace h78 := of_decide_eq_false h78 | replace h78 := of_decide_eq_true (notF h78) | replace h78 := notF h78 | skip
         refine W_rs ?_
         have heq : scanM s = x := by rw [heqm]; exact scanN_none (by rw [hst, if_neg (by omega), doM_none (by omega) (by omega) (by omega)]; rfl) hm0
         refine st (X.ldBN rfl hB3 Tryz.underlying126 rfl siz126) rfl ?_
         have hne2 := hR.ne2 hB2 (by decide)
         refine ssBN rfl rfl hB2 siz126 rfl (seen_one hR.one1) (fun w21 hB_ hc_ => ?_)
         replace hB2 := hB_
         clear hB_
         replace hB3 := hB3.chg hc_ (by first | (show ¬ _ = _; omega) | (intro k_ hk_; simp [Value.ownBlock] at hk_; subst hk_; show ¬ _ = _; omega) | assumption | trivial)
         replace hR := hR.chg hc_ (by first | (show ¬ _ = _; omega) | (intro k_ hk_; simp [Value.ownBlock] at hk_; subst hk_; show ¬ _ = _; omega) | assumption | trivial)
         replace hbw := bset hbw hc_ (by omega)
         have hz_w21 := hc_.size
         clear hc_
         refine Wn (tN (W_ret (tR (bR (tR (bR ((rC rfl rfl hB2 Tryz.underlying126 rfl siz126 ⟨⟨v, ?_, ?_, hvo⟩, hbw⟩).1)))))))
         ·rw [heq]; rfl
         ·rw [heq]; exact hR
       ·first | replace h74 := of_decide_eq_false h74 | replace h74 := of_decide_eq_true (notF h74) | replace h74 := notF h74 | skip
        refine gN (g := 74) rfl rfl rfl rfl (gN (g := 74) rfl rfl rfl rfl (gN (g := 74) rfl rfl rfl rfl (st (X.pickF rfl rfl) rfl (Wn (tN (W_no rfl (rfl) (W_rs ?_)))))))
        have heq : scanM s = x := by rw [heqm]; exact scanN_none (by rw [hst, if_neg (by omega), doM_none (by omega) (by omega) (by omega)]; rfl) hm0
        refine st (X.ldBN rfl hB3 Tryz.underlying126 rfl siz126) rfl ?_
        have hne2 := hR.ne2 hB2 (by decide)
        refine ssBN rfl rfl hB2 siz126 rfl (seen_one hR.one1) (fun w22 hB_ hc_ => ?_)
        replace hB2 := hB_
        clear hB_
        replace hB3 := hB3.chg hc_ (by first | (show ¬ _ = _; omega) | (intro k_ hk_; simp [Value.ownBlock] at hk_; subst hk_; show ¬ _ = _; omega) | assumption | trivial)
        replace hR := hR.chg hc_ (by first | (show ¬ _ = _; omega) | (intro k_ hk_; simp [Value.ownBlock] at hk_; subst hk_; show ¬ _ = _; omega) | assumption | trivial)
        replace hbw := bset hbw hc_ (by omega)
        have hz_w22 := hc_.size
        clear hc_
        refine Wn (tN (W_ret (tR (bR (tR (bR ((rC rfl rfl hB2 Tryz.underlying126 rfl siz126 ⟨⟨v, ?_, ?_, hvo⟩, hbw⟩).1)))))))
        ·rw [heq]; rfl
        ·rw [heq]; exact hR
      ·first | replace h69 := of_decide_eq_false h69 | replace h69 := of_decide_eq_true (notF h69) | replace h69 := notF h69 | skip
       refine gN (g := 69) rfl rfl rfl rfl (gN (g := 69) rfl rfl rfl rfl (gN (g := 69) rfl rfl rfl rfl (st (X.pickF rfl rfl) rfl (sm rfl rfl (gN (g := 74) rfl rfl rfl rfl (gN (g := 74) rfl rfl rfl rfl (gN (g := 74) rfl rfl rfl rfl (st (X.pickF rfl rfl) rfl (Wn (tN ?_))))))))))
       refine W_no rfl (rfl) (W_rs ?_)
       have heq : scanM s = x := by rw [heqm]; exact scanN_none (by rw [hst, if_neg (by omega), doM_none (by omega) (by omega) (by omega)]; rfl) hm0
       refine st (X.ldBN rfl hB3 Tryz.underlying126 rfl siz126) rfl ?_
       have hne2 := hR.ne2 hB2 (by decide)
       refine ssBN rfl rfl hB2 siz126 rfl (seen_one hR.one1) (fun w23 hB_ hc_ => ?_)
       replace hB2 := hB_
       clear hB_
       replace hB3 := hB3.chg hc_ (by first | (show ¬ _ = _; omega) | (intro k_ hk_; simp [Value.ownBlock] at hk_; subst hk_; show ¬ _ = _; omega) | assumption | trivial)
       replace hR := hR.chg hc_ (by first | (show ¬ _ = _; omega) | (intro k_ hk_; simp [Value.ownBlock] at hk_; subst hk_; show ¬ _ = _; omega) | assumption | trivial)
       replace hbw := bset hbw hc_ (by omega)
       have hz_w23 := hc_.size
       clear hc_
       refine Wn (tN (W_ret (tR (bR (tR (bR ((rC rfl rfl hB2 Tryz.underlying126 rfl siz126 ⟨⟨v, ?_, ?_, hvo⟩, hbw⟩).1)))))))
       ·rw [heq]; rfl
       ·rw [heq]; exact hR
     ·first | replace h65 := of_decide_eq_false h65 | replace h65 := of_decide_eq_true (notF h65) | replace h65 := notF h65 | skip
      refine gN (g := 65) rfl rfl rfl rfl (gN (g := 65) rfl rfl rfl rfl (st (X.pickF rfl rfl) rfl (sm rfl rfl (gN (g := 69) rfl rfl rfl rfl (gN (g := 69) rfl rfl rfl rfl (gN (g := 69) rfl rfl rfl rfl (st (X.pickF rfl rfl) rfl (sm rfl rfl (gN (g := 74) rfl rfl rfl rfl (gN (g := 74) rfl rfl rfl rfl ?_))))))))))
      refine gN (g := 74) rfl rfl rfl rfl (st (X.pickF rfl rfl) rfl (Wn (tN (W_no rfl (rfl) (W_rs ?_)))))
      have heq : scanM s = x := by rw [heqm]; exact scanN_none (by rw [hst, if_neg (by omega), doM_none (by omega) (by omega) (by omega)]; rfl) hm0
      refine st (X.ldBN rfl hB3 Tryz.underlying126 rfl siz126) rfl ?_
      have hne2 := hR.ne2 hB2 (by decide)
      refine ssBN rfl rfl hB2 siz126 rfl (seen_one hR.one1) (fun w24 hB_ hc_ => ?_)
      replace hB2 := hB_
      clear hB_
      replace hB3 := hB3.chg hc_ (by first | (show ¬ _ = _; omega) | (intro k_ hk_; simp [Value.ownBlock] at hk_; subst hk_; show ¬ _ = _; omega) | assumption | trivial)
      replace hR := hR.chg hc_ (by first | (show ¬ _ = _; omega) | (intro k_ hk_; simp [Value.ownBlock] at hk_; subst hk_; show ¬ _ = _; omega) | assumption | trivial)
      replace hbw := bset hbw hc_ (by omega)
      have hz_w24 := hc_.size
      clear hc_
      refine Wn (tN (W_ret (tR (bR (tR (bR ((rC rfl rfl hB2 Tryz.underlying126 rfl siz126 ⟨⟨v, ?_, ?_, hvo⟩, hbw⟩).1)))))))
      ·rw [heq]; rfl
      ·rw [heq]; exact hR
end Go.Proofs.YtnijmegalgoipaaGreatDoor
namespace Go.Proofs.YtnijmegalgoipaaGreatDoor
open Go.RowKit
theorem Same16_any (va vb : Value) (la lb : List (List UInt8)) (w : World) (ha : Reads w 1 va la.length (la.map str)) (hb_ : Reads w 1 vb lb.length (lb.map str)) :
  Calls Tryz.prog 30 #[va, vb] w fun e w' => e = .returned (.bool (decide (la = lb))) ∧ Below w.heap.size w w' := by
 obtain ⟨aa, ca, rfl, han, hac⟩ := ha.shape
 obtain ⟨ab, cb, rfl, hbn, hbc⟩ := hb_.shape
 refine W_enter (args := [.slice aa la.length ca, .slice ab lb.length cb]) 26 Tryz.func30 rfl rfl rfl (W_sub [(0, .slice aa la.length ca), (1, .slice ab lb.length cb)] ?_ ⟨rfl, rfl, trivial⟩)
 have hbw := Below.refl w.heap.size w
 refine W_rs (sa rfl rfl (Wn (tN (W_seq (W_rs (sm rfl rfl (st (X.lenL rfl rfl Tryz.underlying42) rfl (sm rfl rfl (st (X.lenL rfl rfl Tryz.underlying42) rfl (st (X.neq rfl rfl) rfl ?_))))))))))
 refine Wn (tN (W_if rfl (fun h10 => ?_) (fun h10 => ?_)))
 ·first | replace h10 := of_decide_eq_true h10 | replace h10 := of_decide_eq_false (notT h10) | replace h10 := notT h10 | skip
  refine W_rs (sa rfl rfl (Wn (tN (W_ret (tR ((rT rfl rfl ⟨?_, hbw⟩).1))))))
  rw [show decide (la = lb) = false from decide_eq_false (fun h => by subst h; exact h10 rfl)]
 ·first | replace h10 := of_decide_eq_false h10 | replace h10 := of_decide_eq_true (notF h10) | replace h10 := notF h10 | skip
  refine W_skip (tN (W_seq (W_rs (sa rfl rfl (Wn (tN (W_block (W_lp (fun nw1_ lw1_ w1 => ∃ j : Nat, nw1_ = la.length - j ∧ lw1_ = ([(0, .slice aa la.length ca), (1, .slice ab lb.length cb), (5, .int .i64 j)] : Env) ∧ (j ≤ la.length) ∧ (la.take j = lb.take j) ∧ (Below w.heap.size w w1)) _ ⟨_, ⟨0, rfl, rfl, by omega, rfl, hbw⟩, ⟨rfl, rfl, rfl, trivial⟩⟩ ?_))))))))
  clear hbw
  rintro nw1_ lw1_ w1 ⟨j, rfl, rfl, hj, hq, hbw⟩
  have hz_w1 := hbw.size
  refine W_seq (W_rs (sm rfl rfl (sm rfl rfl (st (X.lenL rfl rfl Tryz.underlying42) rfl (st (X.lss rfl rfl) rfl (Wn (tN (W_if rfl (fun h14 => ?_) (fun h14 => ?_)))))))))
  ·first | replace h14 := of_decide_eq_true h14 | replace h14 := of_decide_eq_false (notT h14) | replace h14 := notT h14 | skip
   obtain ⟨x, hx⟩ : ∃ x, la[j]? = some x := ⟨_, List.getElem?_eq_getElem (by omega)⟩
   obtain ⟨y, hy⟩ : ∃ y, lb[j]? = some y := ⟨_, List.getElem?_eq_getElem (by omega)⟩
   have hxs : (la.map str)[j]? = some (str x) := by rw [List.getElem?_map, hx]; rfl
   have hys : (lb.map str)[j]? = some (str y) := by rw [List.getElem?_map, hy]; rfl
   obtain ⟨g1, o1, c', hv, hg1⟩ := (ha.bel hbw).some_ (by omega)
   injection hv with e1 _ e3
   subst e1 e3
   obtain ⟨g2, o2, c', hv, hg2⟩ := (hb_.bel hbw).some_ (by omega)
   injection hv with e1 _ e3
   subst e1 e3
   refine W_skip (tN (W_seq (W_block (W_drsN (fun W_ => W_.cell? ⟨g1, o1 + j * 1, none⟩ = some (str x) ∧ W_.cell? ⟨g2, o2 + j * 1, none⟩ = some (str y)) [0, 1, 2, 3, 4, 5, 6, 7, 8] [true, true, true, true, true, true, true, true, true] (by kernel_rfl) (by kernel_rfl) (⟨by rw [Nat.mul_one]; exact (ha.bel (bdrew hbw)).cellAt (by omega) hxs, by rw [Nat.mul_one]; exact (hb_.bel (bdrew hbw)).cellAt (by omega) hys⟩) ?_))))
   obtain ⟨w2, hw_⟩ : ∃ w2 : World, w2 = World.drew w1 := ⟨_, rfl⟩
   rw [← hw_]
   have hb : Below w1.heap.size w1 w2 := by rw [hw_]; exact bdrew (Below.refl _ _)
   clear hw_
   have hS := hb
   replace hbw := bthen hbw hb
   have hz_w2 := hb.size
   clear hb
   refine oY rfl (fun W_ hW_ => (X.move rfl)) rfl (oY rfl (fun W_ hW_ => (X.move rfl)) rfl (oY rfl (fun W_ hW_ => (X.idxA rfl rfl Tryz.underlying42 siz9 rfl (by omega))) rfl (oY rfl (fun W_ hW_ => (X.ld rfl Tryz.underlying9 rfl hW_.1)) rfl (oY rfl (fun W_ hW_ => (X.move rfl)) rfl (oY rfl (fun W_ hW_ => (X.move rfl)) rfl (oY rfl (fun W_ hW_ => (X.idxA rfl rfl Tryz.underlying42 siz9 rfl (by omega))) rfl (oY rfl (fun W_ hW_ => (X.ld rfl Tryz.underlying9 rfl hW_.2)) rfl (oY rfl (fun W_ hW_ => (X.neS rfl rfl)) rfl (oN (nN ?_))))))))))
   refine W_if rfl (fun h25 => ?_) (fun h25 => ?_)
   ·first | replace h25 := of_decide_eq_true h25 | replace h25 := of_decide_eq_false (notT h25) | replace h25 := notT h25 | skip
    refine W_rs (sa rfl rfl (Wn (tN (W_ret (bR (tR (tR (bR (tR ((rT rfl rfl ⟨?_, hbw⟩).1))))))))))
    rw [show decide (la = lb) = false from decide_eq_false (at_ne hx hy h25)]
   ·first | replace h25 := of_decide_eq_false h25 | replace h25 := of_decide_eq_true (notF h25) | replace h25 := notF h25 | skip
    refine W_skip (bN (tN (W_reg (sm rfl rfl (st (X.add64 rfl rfl (by omega)) rfl (sa rfl rfl (Wn (tN ⟨_, _, ?_, ⟨j + 1, rfl, rfl, by omega, by rw [take_next' hx, take_next' hy, hq, Classical.not_not.1 h25], hbw⟩, ⟨rfl, rfl, rfl, trivial⟩⟩))))))))
    omega
  ·first | replace h14 := of_decide_eq_false h14 | replace h14 := of_decide_eq_true (notF h14) | replace h14 := notF h14 | skip
   refine W_exit (tE (tE (bH (tN (W_rs (sa rfl rfl (Wn (tN (W_ret ?_)))))))))
   obtain rfl : j = la.length := by omega
   refine (rT rfl rfl ⟨?_, hbw⟩).1
   rw [show decide (la = lb) = true from decide_eq_true (take_all (by omega) hq)]
end Go.Proofs.YtnijmegalgoipaaGreatDoor
