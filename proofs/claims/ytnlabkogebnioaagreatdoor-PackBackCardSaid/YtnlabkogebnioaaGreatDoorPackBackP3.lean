/- What PackBack needs, part 3. -/
import Derived.Lib.ItoaNum
import Derived.Test.YtnlabkogebnioaaGreatDoorChecked
import Derived.WalkKit
import Derived.Lib.Hide
import Derived.WalkLawsBesides
import Derived.WalkSpells
import Derived.BigQuiet
import Derived.Deep.QuietTactic
import Derived.Deep.LoopGhost
import Derived.Deep.DeepMust
import Derived.Shelf.Strconv.Itoa3
import Derived.Shelf.Lay
import Derived.Lib.SmallJoins
import Derived.Ground.NamesProg
import Derived.ChangeKeysEq
import Derived.WideKeyRuns
import Derived.Lib.Bytealg
import Derived.Sort.Grow
import Derived.Shelf.SlSortCmp.NoneTotal
import Derived.Lib.SlBytesConst
import Derived.OrdersIn
import Derived.Test.YtnlabkogebnioaaGreatDoorPackBackP2
namespace Go.Proofs.YtnlabkogebnioaaGreatDoor
open Go.RowKit Sha
def rightP (n : Int) : Bool := decide (0 ≤ n ∧ n ≤ 999999)
def d10 (n : Nat) : UInt8 := UInt8.ofNat (48 + n % 10)
def dig : Nat → Nat → List UInt8
  | 0, _ => []
  | k + 1, n => dig k (n / 10) ++ [d10 n]
theorem dig_length : ∀ k n, (dig k n).length = k
 | 0, _ => rfl
 | k + 1, n => by rw [dig, List.length_append, dig_length]; rfl
theorem dig_zero : ∀ k, dig k 0 = List.replicate k 48
 | 0 => rfl
 | k + 1 => by rw [dig, Nat.zero_div, dig_zero k, List.replicate_succ']; rfl
theorem dig_dec : ∀ k n, n < 10 ^ (k + 1) → (Lib.decDigits n).length ≤ k + 1 ∧ List.replicate (k + 1 - (Lib.decDigits n).length) 48 ++ Lib.decDigits n = dig (k + 1) n := by
 intro k
 induction k with
 | zero =>
  intro n h
  rw [Lib.decDigits_one (by simpa using h)]
  refine ⟨Nat.le_refl _, ?_⟩
  simp only [dig, d10, List.length_singleton, List.nil_append]
  rw [Nat.mod_eq_of_lt (by simpa using h)]
  rfl
 | succ k ih =>
  intro n h
  by_cases h1 : n < 10
  ·rw [Lib.decDigits_one h1]
   refine ⟨by simp, ?_⟩
   rw [dig, Nat.div_eq_of_lt h1, dig_zero]
   simp only [d10, List.length_singleton]
   rw [Nat.mod_eq_of_lt h1]
   rfl
  ·obtain ⟨h2, h3⟩ := ih (n / 10) (by rw [Nat.pow_succ] at h; omega)
   rw [Lib.decDigits, dif_neg h1]
   refine ⟨by simp; omega, ?_⟩
   rw [List.length_append, List.length_singleton, show k + 1 + 1 - ((Lib.decDigits (n / 10)).length + 1) = k + 1 - (Lib.decDigits (n / 10)).length by omega, ← List.append_assoc, h3]
   rfl
def six (n : Nat) : List UInt8 := dig 6 n
theorem six_dec {n : Nat} (h : n ≤ 999999) : (Lib.decDigits n).length ≤ 6 ∧ List.replicate (6 - (Lib.decDigits n).length) 48 ++ Lib.decDigits n = six n := dig_dec 5 n (by omega)
def namedP (kind : List UInt8) (n : Int) : List UInt8 := if rightP n = true then kind ++ six n.toNat else []
def packB : List UInt8 := [112, 97, 99, 107, 45]
def indexB : List UInt8 := [105, 110, 100, 101, 120, 45]
def newB : List UInt8 := [46, 110, 101, 119]
def nameP (n : Int) : List UInt8 := namedP packB n
def idxP (n : Int) : List UInt8 := namedP indexB n
structure Scn where
  l : List Ent
  good : Nat
  whole : Bool
def openB (b : List UInt8) : Bool := decide (33 ≤ b.length ∧ b.length ≤ 1056 ∧ sha (b.drop 32) = b.take 32)
def hadM (l : List Ent) (a : List UInt8) : Bool := l.any fun e => decide (e.sum = a)
def entP (n : Int) (x : Scn) (b : List UInt8) : Ent := ⟨b.take 32, n, x.good, b.length - 32⟩
def takeP (n : Int) (x : Scn) (k : UInt8) (b : List UInt8) (z : Nat) : Option Scn :=
  if k = 2 then (if openB b = true ∧ hadM x.l (b.take 32) = false then some ⟨x.l ++ [entP n x b], x.good + z, x.whole⟩ else none)
  else if k = 3 then (if b = four x.l.length then some ⟨x.l, x.good + z, true⟩ else none)
  else none
def stepP (n : Int) (s : List UInt8) (x : Scn) : Option Scn :=
  if x.whole = true then none
  else if (nextM (s.drop x.good)).2.2.2 ≠ 0 then none
  else takeP n x (nextM (s.drop x.good)).1 (nextM (s.drop x.good)).2.1 (nextM (s.drop x.good)).2.2.1
def scanPN (n : Int) (s : List UInt8) : Nat → Scn → Scn
  | 0, x => x
  | k + 1, x => match stepP n s x with
    | none => x
    | some y => scanPN n s k y
def headP (n : Int) (s : List UInt8) : Bool := decide ((nextM s).2.2.2 = 0 ∧ (nextM s).1 = 1 ∧ (nextM s).2.1 = four n)
def scanP (s : List UInt8) (n : Int) : Scn × Int :=
  if rightP n = false then (⟨[], 0, false⟩, 1)
  else if headP n s = false then (⟨[], 0, false⟩, 12)
  else (scanPN n s s.length ⟨[], (nextM s).2.2.1, false⟩, 0)
theorem scanPN_none {n : Int} {s : List UInt8} {x : Scn} (h : stepP n s x = none) (k : Nat) : scanPN n s k x = x := by
 cases k with
 | zero => rfl
 | succ k => rw [scanPN, h]
theorem scanPN_some {n : Int} {s : List UInt8} {x y : Scn} (h : stepP n s x = some y) {k : Nat} (hk : 0 < k) : scanPN n s k x = scanPN n s (k - 1) y := by
 obtain ⟨m, rfl⟩ : ∃ m, k = m + 1 := ⟨k - 1, by omega⟩
 rw [scanPN, h]; rfl
theorem takeP_good {n : Int} {x y : Scn} {k : UInt8} {b : List UInt8} {z : Nat} (h : takeP n x k b z = some y) : y.good = x.good + z ∧ y.l.length ≤ x.l.length + 1 := by
 unfold takeP at h
 split at h
 ·split at h
  ·injection h with h; subst h; exact ⟨rfl, by simp⟩
  ·cases h
 split at h
 ·split at h
  ·injection h with h; subst h; exact ⟨rfl, by simp⟩
  ·cases h
 ·cases h
theorem openB_len {b : List UInt8} (h : openB b = true) : 33 ≤ b.length ∧ b.length ≤ 1056 := by
 unfold openB at h
 simp only [decide_eq_true_eq] at h
 exact ⟨h.1, h.2.1⟩
theorem takeP_long {n : Int} {x y : Scn} {k : UInt8} {b : List UInt8} {z : Nat} (h : takeP n x k b z = some y) (hz : b.length + 5 ≤ z) : 38 * y.l.length + x.good ≤ 38 * x.l.length + y.good := by
 unfold takeP at h
 split at h
 ·split at h
  ·rename_i h2
   have := openB_len h2.1
   injection h with h; subst h
   simp only [List.length_append, List.length_cons, List.length_nil]
   omega
  ·cases h
 split at h
 ·split at h
  ·injection h with h; subst h
   simp only
   omega
  ·cases h
 ·cases h
theorem stepP_long {n : Int} {s : List UInt8} {x y : Scn} (h : stepP n s x = some y) : 38 * y.l.length + x.good ≤ 38 * x.l.length + y.good := by
 unfold stepP at h
 split at h
 ·cases h
 split at h
 ·cases h
 rename_i h1 h2
 exact takeP_long h (nextM_body5 (by simpa using h2))
theorem stepP_good {n : Int} {s : List UInt8} {x y : Scn} (h : stepP n s x = some y) (hx : x.good ≤ s.length) : x.good + 5 ≤ y.good ∧ y.good ≤ s.length ∧ y.l.length ≤ x.l.length + 1 ∧ x.whole = false := by
 unfold stepP at h
 split at h
 ·cases h
 split at h
 ·cases h
 rename_i h1 h2
 have h3 := nextM_len (by simpa using h2 : (nextM (s.drop x.good)).2.2.2 = 0)
 obtain ⟨h4, h5⟩ := takeP_good h
 rw [List.length_drop] at h3
 exact ⟨by omega, by omega, h5, by simpa using h1⟩
structure SOk (s : List UInt8) (n : Int) (x : Scn) : Prop where
  g : x.good ≤ s.length
  l : 38 * x.l.length ≤ x.good
  s32 : S32 x.l
  nd : (x.l.map (·.sum)).Nodup
theorem hadM_false {l : List Ent} {a : List UInt8} (h : hadM l a = false) : ∀ e ∈ l, e.sum ≠ a := by
 unfold hadM at h
 rw [List.any_eq_false] at h
 exact fun e he => by simpa using h e he
theorem stepP_ok {n : Int} {s : List UInt8} {x y : Scn} (h : stepP n s x = some y) (hx : SOk s n x) : SOk s n y := by
  obtain ⟨h1, h2, h3, _⟩ := stepP_good h hx.g
  have h38 := stepP_long h
  have hl := hx.l
  refine ⟨h2, by omega, ?_, ?_⟩
  all_goals
    unfold stepP at h
    split at h
    · cases h
    split at h
    · cases h
    unfold takeP at h
    split at h
    · split at h
      · rename_i h5
        injection h with h; subst h
        first
        | exact fun e he => by
            rcases List.mem_append.1 he with he | he
            · exact hx.s32 e he
            · rw [List.mem_singleton.1 he]
              have := h5.1
              unfold openB at this
              simp only [decide_eq_true_eq] at this
              simp only [entP, List.length_take]
              omega
        | (rw [List.map_append, List.nodup_append]
           exact ⟨hx.nd, by simp, fun a ha b hb e => by
            obtain ⟨q, hq, rfl⟩ := List.mem_map.1 ha
            rw [List.map_singleton, List.mem_singleton] at hb
            exact hadM_false h5.2 q hq (e.trans hb)⟩)
      · cases h
    split at h
    · split at h
      · injection h with h; subst h
        first | exact hx.s32 | exact hx.nd
      · cases h
    · cases h
theorem scanPN_ok {n : Int} {s : List UInt8} : ∀ (k : Nat) {x : Scn}, SOk s n x → SOk s n (scanPN n s k x)
 | 0, _, hx => hx
 | k + 1, x, hx => by
  rw [scanPN]
  cases h : stepP n s x with
  | none => exact hx
  | some y => exact scanPN_ok k (stepP_ok h hx)
theorem SOk.start {n : Int} {s : List UInt8} (h : headP n s = true) : SOk s n ⟨[], (nextM s).2.2.1, false⟩ := by
 unfold headP at h
 simp only [decide_eq_true_eq] at h
 have := nextM_len h.1
 exact ⟨this.2, by simp, by simp [S32], by simp⟩
structure Pc where
  kind : UInt8
  body : List UInt8
  pos : Nat
  next : Nat
def pcAt (s : List UInt8) (a : Nat) : Pc := ⟨(nextM (s.drop a)).1, (nextM (s.drop a)).2.1, a, a + (nextM (s.drop a)).2.2.1⟩
def framesN (s : List UInt8) : Nat → Nat → List Pc
  | 0, _ => []
  | k + 1, a => if (nextM (s.drop a)).2.2.2 ≠ 0 then [] else pcAt s a :: framesN s k (a + (nextM (s.drop a)).2.2.1)
def framesM (s : List UInt8) : List Pc := framesN s (s.length + 1) 0
def takeF (n : Int) (x : Scn) (p : Pc) : Option Scn :=
  if p.kind = 2 then (if openB p.body = true ∧ hadM x.l (p.body.take 32) = false then some ⟨x.l ++ [⟨p.body.take 32, n, p.pos, p.body.length - 32⟩], p.next, x.whole⟩ else none)
  else if p.kind = 3 then (if p.body = four x.l.length then some ⟨x.l, p.next, true⟩ else none)
  else none
def stepF (n : Int) (x : Scn) (p : Pc) : Option Scn :=
  if p.pos = 0 then (if p.kind = 1 ∧ p.body = four n then some { x with good := p.next } else none)
  else if x.whole = true then none
  else takeF n x p
def foldF (n : Int) : Scn → List Pc → Scn
  | x, [] => x
  | x, p :: l => match stepF n x p with
    | none => x
    | some y => foldF n y l
def goF (n : Int) : Scn → List Pc → Option Scn
  | x, [] => some x
  | x, p :: l => match stepF n x p with
    | none => none
    | some y => goF n y l
theorem goF_snoc {n : Int} : ∀ {l : List Pc} {x y : Scn} {p : Pc}, goF n x l = some y → goF n x (l ++ [p]) = stepF n y p
 | [], x, y, p, h => by
  injection h with h; subst h
  simp only [List.nil_append, goF]
  cases stepF n x p <;> rfl
 | q :: l, x, y, p, h => by
  rw [List.cons_append]
  rw [goF] at h ⊢
  cases hq : stepF n x q with
  | none => rw [hq] at h; cases h
  | some z => rw [hq] at h; exact goF_snoc h
theorem goF_fold {n : Int} : ∀ {l : List Pc} {x y : Scn}, goF n x l = some y → foldF n x l = y
 | [], x, y, h => by injection h
 | q :: l, x, y, h => by
  rw [goF] at h
  rw [foldF]
  cases hq : stepF n x q with
  | none => rw [hq] at h; cases h
  | some z => rw [hq] at h; exact goF_fold h
theorem foldF_stop {n : Int} {p : Pc} : ∀ {l m : List Pc} {x y : Scn}, goF n x l = some y → stepF n y p = none → foldF n x (l ++ p :: m) = y
 | [], m, x, y, h, hp => by
  injection h with h; subst h
  rw [List.nil_append, foldF, hp]
 | q :: l, m, x, y, h, hp => by
  rw [goF] at h
  rw [List.cons_append, foldF]
  cases hq : stepF n x q with
  | none => rw [hq] at h; cases h
  | some z => rw [hq] at h; exact foldF_stop h hp
theorem stepF_len {n : Int} {x y : Scn} {p : Pc} (h : stepF n x p = some y) : y.l.length ≤ x.l.length + 1 := by
 unfold stepF at h
 split at h
 ·split at h
  ·injection h with h; subst h; exact Nat.le_succ _
  ·cases h
 split at h
 ·cases h
 unfold takeF at h
 split at h
 ·split at h
  ·injection h with h; subst h; simp
  ·cases h
 split at h
 ·split at h
  ·injection h with h; subst h; exact Nat.le_succ _
  ·cases h
 ·cases h
theorem goF_len {n : Int} : ∀ {l : List Pc} {x y : Scn}, goF n x l = some y → y.l.length ≤ x.l.length + l.length
 | [], x, y, h => by injection h with h; subst h; exact Nat.le_refl _
 | p :: l, x, y, h => by
  rw [goF] at h
  cases hq : stepF n x p with
  | none => rw [hq] at h; cases h
  | some z =>
   rw [hq] at h
   have h1 := stepF_len hq
   have h2 := goF_len h
   rw [List.length_cons]
   omega
def sc0 : Scn := ⟨[], 0, false⟩
theorem takeF_eq (n : Int) (s : List UInt8) (x : Scn) : takeF n x (pcAt s x.good) = takeP n x (nextM (s.drop x.good)).1 (nextM (s.drop x.good)).2.1 (nextM (s.drop x.good)).2.2.1 := rfl
theorem fold_scan (n : Int) (s : List UInt8) : ∀ (k : Nat) (x : Scn), 0 < x.good → foldF n x (framesN s k x.good) = scanPN n s k x
 | 0, _, _ => rfl
 | k + 1, x, hx => by
  rw [framesN, scanPN]
  unfold stepP
  by_cases he : (nextM (s.drop x.good)).2.2.2 ≠ 0
  ·rw [if_pos he]
   by_cases hw : x.whole = true
   ·rw [if_pos hw]; rfl
   ·rw [if_neg hw, if_pos he]; rfl
  ·rw [if_neg he, foldF]
   unfold stepF
   rw [if_neg (show (pcAt s x.good).pos ≠ 0 by show x.good ≠ 0; omega)]
   by_cases hw : x.whole = true
   ·rw [if_pos hw, if_pos hw]
   ·rw [if_neg hw, if_neg hw, if_neg he, takeF_eq]
    cases ht : takeP n x (nextM (s.drop x.good)).1 (nextM (s.drop x.good)).2.1 (nextM (s.drop x.good)).2.2.1 with
    | none => rfl
    | some y =>
     have hg := (takeP_good ht).1
     simp only
     rw [← hg]
     exact fold_scan n s k y (by omega)
theorem scanP_fold {n : Int} (s : List UInt8) (hn : rightP n = true) : scanP s n = if (foldF n sc0 (framesM s)).good = 0 then (sc0, 12) else (foldF n sc0 (framesM s), 0) := by
 unfold scanP framesM headP
 rw [if_neg (by rw [hn]; decide), framesN, List.drop_zero]
 by_cases he : (nextM s).2.2.2 = 0
 ·rw [if_neg (show ¬ (nextM s).2.2.2 ≠ 0 from fun h => h he), foldF]
  have hl := nextM_len he
  unfold stepF
  rw [if_pos (show (pcAt s 0).pos = 0 from rfl)]
  have e1 : (pcAt s 0).kind = (nextM s).1 := by simp [pcAt]
  have e2 : (pcAt s 0).body = (nextM s).2.1 := by simp [pcAt]
  have e3 : (pcAt s 0).next = (nextM s).2.2.1 := by simp [pcAt]
  rw [e1, e2, e3]
  by_cases h2 : (nextM s).1 = 1 ∧ (nextM s).2.1 = four n
  ·rw [if_neg (by simp [he, h2.1, h2.2]), if_pos h2]
   simp only
   rw [Nat.zero_add, show ({ sc0 with good := (nextM s).2.2.1 } : Scn) = ⟨[], (nextM s).2.2.1, false⟩ from rfl]
   have := fold_scan n s s.length ⟨[], (nextM s).2.2.1, false⟩ (by show 0 < (nextM s).2.2.1; omega)
   simp only at this
   rw [this]
   have hok := scanPN_ok (n := n) (s := s) s.length (SOk.start (n := n) (s := s) (by unfold headP; simp [he, h2.1, h2.2]))
   have hge : ∀ (k : Nat) (x : Scn), x.good ≤ s.length → x.good ≤ (scanPN n s k x).good := by
    intro k
    induction k with
    | zero => intro x _; exact Nat.le_refl _
    | succ k ih =>
     intro x hx
     rw [scanPN]
     cases h : stepP n s x with
     | none => exact Nat.le_refl _
     | some y =>
      have := stepP_good h hx
      exact Nat.le_trans (by omega) (ih y this.2.1)
   have := hge s.length ⟨[], (nextM s).2.2.1, false⟩ hl.2
   simp only at this
   rw [if_neg (by omega)]
  ·rw [if_pos (by simp only [he, true_and]; simpa using h2), if_neg h2]
   rfl
 ·rw [if_pos he, if_pos (by simp [he])]
  rfl
end Go.Proofs.YtnlabkogebnioaaGreatDoor
namespace Go.Proofs.YtnlabkogebnioaaGreatDoor
open Go.RowKit Sha
theorem rotr_any (x : UInt32) (n : Int) (w : World) (h0 : 1 ≤ n) (h1 : n ≤ 31) :
  Calls Tryz.prog 151 #[.int .u32 x.toNat, .int .u64 n] w fun e w' => e = .returned (.int .u32 (rotr x (UInt32.ofNat n.toNat)).toNat) ∧ w = w' := by
 have hx := lt_u32 x
 have hx0 : (0 : Int) ≤ x.toNat := by omega
 go_enter Tryz.func151, Tryz.ntmps151
 go_wp2
 go_ret
 obtain ⟨m, rfl⟩ := Int.eq_ofNat_of_zero_le (by omega : 0 ≤ n)
 refine ⟨?_, rfl⟩
 have e1 : (32 - (m : Int)).toNat = 32 - m := by omega
 have key : bits BinOp.or IntKind.u32 ((x.toNat : Int) / 2 ^ m) ((x.toNat : Int) * 2 ^ (32 - m) % 4294967296) = ((rotr x (UInt32.ofNat m)).toNat : Int) := by
  rw [shr_u32 x m (by omega), shl_u32 x (32 - m) (by omega), or_u32]
  show ((x >>> UInt32.ofNat m ||| x <<< UInt32.ofNat (32 - m)).toNat : Int) = ((x >>> UInt32.ofNat m ||| x <<< (32 - UInt32.ofNat m)).toNat : Int)
  congr 4
  apply UInt32.toNat.inj
  rw [UInt32.toNat_sub_of_le, UInt32.toNat_ofNat_of_lt' (by simp [UInt32.size]; omega), UInt32.toNat_ofNat_of_lt' (by simp [UInt32.size]; omega)]
  ·rfl
  ·rw [UInt32.le_iff_toNat_le, UInt32.toNat_ofNat_of_lt' (by simp [UInt32.size]; omega)]; simp; omega
 simp only [Int.toNat_natCast, e1]
 rw [← key]
 rfl
theorem getD_snoc (l : List UInt32) (x : UInt32) (j t : Nat) (h : l.length = t) : (if j = t then x else l.getD j 0) = (l ++ [x]).getD j 0 := by
 subst h
 by_cases hj : j = l.length
 ·subst hj; simp
 ·rw [if_neg hj]
  rcases Nat.lt_or_ge j l.length with h1 | h1
  ·simp [List.getD, List.getElem?_append_left h1]
  ·simp [List.getD, List.getElem?_eq_none h1, List.getElem?_eq_none (l := l ++ [x]) (i := j) (by simp; omega)]
theorem be_eq (x0 x1 x2 x3 : UInt8) : bits BinOp.or IntKind.u32
           (bits BinOp.or IntKind.u32
            (bits BinOp.or IntKind.u32 ((x0.toNat : Int) % 4294967296 * 16777216 % 4294967296)
             ((x1.toNat : Int) % 4294967296 * 65536 % 4294967296))
            ((x2.toNat : Int) % 4294967296 * 256 % 4294967296))
           ((x3.toNat : Int) % 4294967296) = ((be x0 x1 x2 x3).toNat : Int) := by
 have a := shl_u32 x0.toUInt32 24 (by omega)
 have b := shl_u32 x1.toUInt32 16 (by omega)
 have c := shl_u32 x2.toUInt32 8 (by omega)
 simp only [u8_to_u32] at *
 rw [show (16777216 : Int) = 2 ^ 24 from rfl, show (65536 : Int) = 2 ^ 16 from rfl, show (256 : Int) = 2 ^ 8 from rfl, a, b, c, or_u32, or_u32, or_u32]
 rfl
theorem s0_eq (y : UInt32) : bits BinOp.xor IntKind.u32 (bits BinOp.xor IntKind.u32 ((rotr y 7).toNat : Int) ((rotr y 18).toNat : Int)) ((y.toNat : Int) / 8) = ((s0 y).toNat : Int) := by
 rw [show (8 : Int) = 2 ^ 3 from rfl, shr_u32 y 3 (by omega), xor_u32, xor_u32]; rfl
theorem s1_eq (y : UInt32) : bits BinOp.xor IntKind.u32 (bits BinOp.xor IntKind.u32 ((rotr y 17).toNat : Int) ((rotr y 19).toNat : Int)) ((y.toNat : Int) / 1024) = ((s1 y).toNat : Int) := by
 rw [show (1024 : Int) = 2 ^ 10 from rfl, shr_u32 y 10 (by omega), xor_u32, xor_u32]; rfl
theorem ext_eq (y2 y7 y15 y16 : UInt32) : (bits BinOp.xor IntKind.u32 (bits BinOp.xor IntKind.u32 ((rotr y2 17).toNat : Int) ((rotr y2 19).toNat : Int)) ((y2.toNat : Int) / 1024) + (y7.toNat : Int)
   + bits BinOp.xor IntKind.u32 (bits BinOp.xor IntKind.u32 ((rotr y15 7).toNat : Int) ((rotr y15 18).toNat : Int)) ((y15.toNat : Int) / 8) + (y16.toNat : Int)) % 4294967296 = ((s1 y2 + y7 + s0 y15 + y16).toNat : Int) := by
 rw [s0_eq, s1_eq]
 simp only [UInt32.toNat_add]
 omega
theorem not_u32 (x : UInt32) : bits BinOp.xor IntKind.u32 IntKind.u32.max (x.toNat : Int) = ((~~~x).toNat : Int) := by
 have h : IntKind.u32.max = ((4294967295 : UInt32).toNat : Int) := by decide
 rw [h, xor_u32]
 congr 2
theorem t1_eq (x : St) (kk ww : UInt32) : ∃ n : Nat, (x.h.toNat : Int) + bits BinOp.xor IntKind.u32 (bits BinOp.xor IntKind.u32 ((rotr x.e 6).toNat : Int) ((rotr x.e 11).toNat : Int)) ((rotr x.e 25).toNat : Int)
     + bits BinOp.xor IntKind.u32 (bits BinOp.and IntKind.u32 (x.e.toNat : Int) (x.f.toNat : Int)) (bits BinOp.and IntKind.u32 (bits BinOp.xor IntKind.u32 IntKind.u32.max (x.e.toNat : Int)) (x.g.toNat : Int))
     + (kk.toNat : Int) + (ww.toNat : Int) = (n : Int) ∧ n % 4294967296 = (t1 x kk ww).toNat := by
  refine ⟨x.h.toNat + (rotr x.e 6 ^^^ rotr x.e 11 ^^^ rotr x.e 25).toNat + ((x.e &&& x.f) ^^^ (~~~x.e &&& x.g)).toNat + kk.toNat + ww.toNat, ?_, ?_⟩
  · simp only [not_u32, xor_u32, and_u32]; omega
  · simp only [t1, UInt32.toNat_add]; omega
theorem t2_eq (x : St) : ∃ n : Nat, bits BinOp.xor IntKind.u32 (bits BinOp.xor IntKind.u32 ((rotr x.a 2).toNat : Int) ((rotr x.a 13).toNat : Int)) ((rotr x.a 22).toNat : Int)
     + bits BinOp.xor IntKind.u32 (bits BinOp.xor IntKind.u32 (bits BinOp.and IntKind.u32 (x.a.toNat : Int) (x.b.toNat : Int)) (bits BinOp.and IntKind.u32 (x.a.toNat : Int) (x.c.toNat : Int))) (bits BinOp.and IntKind.u32 (x.b.toNat : Int) (x.c.toNat : Int))
      = (n : Int) ∧ n % 4294967296 = (t2 x).toNat := by
  refine ⟨(rotr x.a 2 ^^^ rotr x.a 13 ^^^ rotr x.a 22).toNat + ((x.a &&& x.b) ^^^ (x.a &&& x.c) ^^^ (x.b &&& x.c)).toNat, ?_, ?_⟩
  · simp only [xor_u32, and_u32, Int.natCast_add]
  · simp only [t2, UInt32.toNat_add]
theorem wordsTo_length (s : List UInt8) (t : Nat) : (wordsTo s t).length = t := by
 induction t with
 | zero => rfl
 | succ t ih => simp [wordsTo, ih]
theorem extTo_length (l : List UInt32) (t : Nat) : (extTo l t).length = l.length + t := by
 induction t with
 | zero => rfl
 | succ t ih => simp [extTo, ih]; omega
def stCells (v : St) : Array Value := #[.int .u32 v.a.toNat, .int .u32 v.b.toNat, .int .u32 v.c.toNat, .int .u32 v.d.toNat, .int .u32 v.e.toNat, .int .u32 v.f.toNat, .int .u32 v.g.toNat, .int .u32 v.h.toNat]
theorem quiet_add_left {P : Program} {f : FuncId} {args : Array Value} {w : World} {a n : Nat} {v : Value}
  (h : Calls P f args (w.drewN (a + n)) fun e w' => e = .returned v ∧ w.drewN (a + n) = w') :
  Calls P f args (w.drewN (a + n)) fun e w'' => e = .returned v ∧ ∃ m, w'' = w.drewN (a + m) :=
 h.mono fun _ _ ⟨he, hm⟩ => ⟨he, n, hm.symm⟩
def hashF (v x : St) (rv nv : Value) (t j : Nat) : Value :=
  if j < 8 then .int .u32 (if j < t then v.words.getD j 0 + x.words.getD j 0 else v.words.getD j 0).toNat else if j = 8 then rv else nv
def hashCells (v : St) (rv nv : Value) : Array Value := #[.int .u32 v.a.toNat, .int .u32 v.b.toNat, .int .u32 v.c.toNat, .int .u32 v.d.toNat, .int .u32 v.e.toNat, .int .u32 v.f.toNat, .int .u32 v.g.toNat, .int .u32 v.h.toNat, rv, nv]
theorem hash_of_row {w : World} {b : Nat} {v x : St} {rv nv : Value} (h : w.rowIs b 181 10 (hashF v x rv nv 8)) : Blk w b 181 (hashCells (addSt v x) rv nv) := by
 obtain ⟨c, hc, hn, hi⟩ := h
 unfold Blk
 rw [hc]
 congr 2
 apply Array.ext_getElem?
 intro i
 by_cases h10 : i < 10
 ·rw [hi i h10]
  match i, h10 with
  | 0, _ | 1, _ | 2, _ | 3, _ | 4, _ | 5, _ | 6, _ | 7, _ | 8, _ | 9, _ => rfl
 ·rw [Array.getElem?_eq_none (by omega), Array.getElem?_eq_none (by simp [hashCells]; omega)]
theorem index_st (x : St) (j : Nat) (W : World) (hj : j < 8) : (Instr.index 179 (.agg #[Value.int IntKind.u32 ↑x.a.toNat, Value.int IntKind.u32 ↑x.b.toNat, Value.int IntKind.u32 ↑x.c.toNat, Value.int IntKind.u32 ↑x.d.toNat, Value.int IntKind.u32 ↑x.e.toNat, Value.int IntKind.u32 ↑x.f.toNat, Value.int IntKind.u32 ↑x.g.toNat, Value.int IntKind.u32 ↑x.h.toNat]) (.int .i64 (j : Int))).run Tryz.prog W = .ok (.int .u32 (x.words.getD j 0).toNat) W := by
 have h : j = 0 ∨ j = 1 ∨ j = 2 ∨ j = 3 ∨ j = 4 ∨ j = 5 ∨ j = 6 ∨ j = 7 := by omega
 clear hj
 rcases h with rfl | rfl | rfl | rfl | rfl | rfl | rfl | rfl <;> (show _ = _; kernel_rfl)
theorem copy_st (w : World) (g : Nat) (x : St) (h : Blk w g 179 (stCells x)) : ∃ w3 : World,
  (∀ k, (Builtin.copy_ #[228, 228] 3 #[.slice (some ⟨g, 1, none⟩) 7 7, .slice (some ⟨g, 0, none⟩) 7 8]).run Tryz.prog (w.drewN k) = .ok (.int .i64 7) (w3.drewN k)) ∧
  Blk w3 g 179 #[.int .u32 x.a.toNat, .int .u32 x.a.toNat, .int .u32 x.b.toNat, .int .u32 x.c.toNat, .int .u32 x.d.toNat, .int .u32 x.e.toNat, .int .u32 x.f.toNat, .int .u32 x.g.toNat] ∧ Chg (fun k => k = g) w w3 := by
 obtain ⟨i, hi, _, h1, _⟩ := info_parts (show (Tryz.prog.info? 145).map (fun i => (i.zero, i.size, i.bytes)) = some (some (.int .u32 0), 1, 4) by kernel_rfl)
 refine ⟨w.setRow g #[.int .u32 x.a.toNat, .int .u32 x.a.toNat, .int .u32 x.b.toNat, .int .u32 x.c.toNat, .int .u32 x.d.toNat, .int .u32 x.e.toNat, .int .u32 x.f.toNat, .int .u32 x.g.toNat], fun k => ?_, setRow_heap _ _ _ _ _ _ h, (Chg.refl (fun k => k = g) w).setRow (.inl rfl) _⟩
 exact run_copy_within (P := Tryz.prog) (w.drewN k) (h.drewN k) 228 3 145 i Tryz.underlying228 hi h1 1 0 7 7 7 8 (by omega) (by simp [stCells]) (by simp [stCells]) (fun u hu => by simp [stCells] at hu; rcases hu with h | h | h | h | h | h | h | h <;> (subst h; rfl))
set_option maxHeartbeats 1000000 in
set_option maxRecDepth 100000 in
theorem block_any (b g off cap : Nat) (v : St) (rv nv : Value) (s : List UInt8) (w : World) (hb : Blk w b 181 (hashCells v rv nv))
   (hg : g < w.heap.size) (_hcap : 64 ≤ cap) (_hcap2 : cap ≤ 9223372036854775807)
   (hs : ∀ j, j < 64 → w.cell? ⟨g, off + j, none⟩ = some (.int .u8 (s.getD j 0).toNat))
   (hk : ∀ j, j < 64 → w.cell? ⟨1, j, none⟩ = some (.int .u32 (kTab.getD j 0).toNat)) (hk1 : 1 < w.heap.size) :
    Calls Tryz.prog 110 #[.pointer (some ⟨b, 0, none⟩), .slice (some ⟨g, off, none⟩) 64 cap] w fun e w' => e = .returned (.tuple #[]) ∧ Blk w' b 181 (hashCells (block v s) rv nv) ∧ Chg (fun k => k = b) w w' := by
  have Hs := Lib.hid hs; clear hs
  have Hk := Lib.hid hk; clear hk
  have Hb := Lib.hid hb; clear hb
  go_enter Tryz.func110, Tryz.ntmps110
  go_wp2
  go_loopw [19] (fun i wr => ∃ t : Nat, t ≤ 16 ∧ i = .int .i64 t ∧ wr.rowIs w.heap.size 226 64 (fun j => .int .u32 ((wordsTo s t).getD j 0).toNat) ∧ Chg (fun _ => False) w wr) (fun i _ => 16 - (intOf i).toNat)
  case atStart =>
    refine ⟨0, by omega, rfl, ?_, (Chg.refl _ _).alloc _⟩
    exact World.rowIs_alloc _ _ _ _ (fun i hi => by
      simp only [List.size_toArray, List.length_cons, List.length_nil] at hi
      have : ∀ i, i < 64 → (List.replicate 64 (Value.int IntKind.u32 0)).toArray[i]? = some (Value.int IntKind.u32 0) := fun i hi => by rw [List.getElem?_toArray, List.getElem?_replicate, if_pos hi]
      exact this i hi)
  case round =>
    obtain ⟨t, ht, rfl, hr, hc⟩ := hrel
    by_cases hlt : t < 16
    · have hcell : ∀ j, j < 64 → wr.cell? ⟨g, off + j, none⟩ = some (.int .u8 (s.getD j 0).toNat) := fun j hj => (hc.cell (p := ⟨g, off + j, none⟩) hg (fun f => f)).trans (Hs.out j hj)
      have c0 := hcell (4 * t) (by omega)
      have c1 := hcell (4 * t + 1) (by omega)
      have c2 := hcell (4 * t + 2) (by omega)
      have c3 := hcell (4 * t + 3) (by omega)
      clear hcell
      have d0 := hr.cell (i := t) (by omega)
      have d1 := hr.frozen (i := t)
      have Hr := Lib.hid hr; clear hr
      have Hw : Hid (wordsTo s (t + 1) = wordsTo s t ++ [be (s.getD (4*t) 0) (s.getD (4*t+1) 0) (s.getD (4*t+2) 0) (s.getD (4*t+3) 0)]) := rfl
      generalize s.getD (4*t) 0 = x0 at *
      generalize s.getD (4*t+1) 0 = x1 at *
      generalize s.getD (4*t+2) 0 = x2 at *
      generalize s.getD (4*t+3) 0 = x3 at *
      go_wp2
      go_region
      go_wp2
      go_roundw
      case rel =>
        refine ⟨t + 1, by omega, by go_num, ?_, (hc.setCell (.inr (Nat.le_refl _)) _).drew⟩
        rw [be_eq]
        refine ((Hr.out.set t _).drew).congr (fun j hj => ?_)
        rw [Hw.out, ← getD_snoc _ _ j t (wordsTo_length s t)]
        split <;> rfl
      case measure => simp [intOf]; omega
    · have Hr : Hid (wr.rowIs w.heap.size 226 64 (fun j => .int .u32 ((wordsTo s 16).getD j 0).toNat)) := by
        obtain rfl : t = 16 := by omega
        exact hr
      clear hr
      have hdec : decide ((t : Int) < 16) = false := by simp; omega
      obtain ⟨w1, rfl⟩ : ∃ w1 : World, w1 = wr := ⟨_, rfl⟩
      go_wp2
      go_loopw [6] (fun i wr => ∃ t : Nat, 16 ≤ t ∧ t ≤ 64 ∧ i = .int .i64 t ∧ wr.rowIs w.heap.size 226 64 (fun j => .int .u32 ((extTo (wordsTo s 16) (t - 16)).getD j 0).toNat) ∧ Chg (fun _ => False) w wr) (fun i _ => 64 - (intOf i).toNat)
      case atStart => exact ⟨16, by omega, by omega, rfl, Hr.out, hc⟩
      case round =>
        obtain ⟨t, ht0, ht, rfl, hr, hc'⟩ := hrel
        by_cases hlt : t < 64
        · have c0 := hr.cell (i := t - 15) (by omega)
          have c1 := hr.cell (i := t - 2) (by omega)
          have c2 := hr.cell (i := t - 7) (by omega)
          have c3 := hr.cell (i := t - 16) (by omega)
          have d0 := hr.cell (i := t) (by omega)
          have d1 := hr.frozen (i := t)
          have Hr := Lib.hid hr; clear hr
          have He : Hid (extTo (wordsTo s 16) (t + 1 - 16) = extTo (wordsTo s 16) (t - 16) ++ [s1 ((extTo (wordsTo s 16) (t - 16)).getD (t - 2) 0) + (extTo (wordsTo s 16) (t - 16)).getD (t - 7) 0 + s0 ((extTo (wordsTo s 16) (t - 16)).getD (t - 15) 0) + (extTo (wordsTo s 16) (t - 16)).getD (t - 16) 0]) := by
            show extTo (wordsTo s 16) (t + 1 - 16) = _
            rw [show t + 1 - 16 = (t - 16) + 1 from by omega, extTo, ext, show 16 + (t - 16) = t from by omega]
          have Hl : Hid ((extTo (wordsTo s 16) (t - 16)).length = t) := by
            show (extTo (wordsTo s 16) (t - 16)).length = t
            rw [extTo_length, wordsTo_length]; omega
          generalize (extTo (wordsTo s 16) (t - 16)).getD (t - 15) 0 = y15 at *
          generalize (extTo (wordsTo s 16) (t - 16)).getD (t - 2) 0 = y2 at *
          generalize (extTo (wordsTo s 16) (t - 16)).getD (t - 7) 0 = y7 at *
          generalize (extTo (wordsTo s 16) (t - 16)).getD (t - 16) 0 = y16 at *
          go_wp2_with (go_at_call 151; refine (rotr_any _ _ _ (by omega) (by omega)).mono ?_; rintro e w' ⟨rfl, rfl⟩)
          go_region
          go_wp2_with (go_at_call 151; refine (rotr_any _ _ _ (by omega) (by omega)).mono ?_; rintro e w' ⟨rfl, rfl⟩)
          go_region
          go_wp2
          go_roundw
          case rel =>
            refine ⟨t + 1, by omega, by omega, by go_num, ?_, by
               exact (hc'.setCell (.inr (Nat.le_refl _)) _).drewN 2⟩
            refine ((Hr.out.set t _).drew).congr (fun j hj => ?_)
            rw [ext_eq, He.out, ← getD_snoc _ _ j t Hl.out]
            split <;> rfl
          case measure => simp [intOf]; omega
        · have hrow : Hid (wr.rowIs w.heap.size 226 64 (fun j => .int .u32 ((sched s).getD j 0).toNat)) := by
            obtain rfl : t = 64 := by omega
            exact hr
          clear hr
          have hbr : Blk wr b 181 _ := Hb.out.chg hc' (fun f => f)
          have hcb := hbr.cell
          unfold hashCells at hcb
          have hdec : decide ((t : Int) < 64) = false := by simp; omega
          obtain ⟨w2, rfl⟩ : ∃ w2 : World, w2 = wr := ⟨_, rfl⟩
          have hsz : w.heap.size < w2.heap.size := hrow.out.lt
          go_wp2
          clear hcb
          have Hbr := Lib.hid hbr; clear hbr
          go_loopw [105] (fun i wr => ∃ t : Nat, t ≤ 64 ∧ i = .int .i64 t ∧ Blk wr w2.heap.size 179 (stCells (roundsTo (sched s) v t)) ∧ Chg (fun _ => False) w2 wr) (fun i _ => 64 - (intOf i).toNat)
          case atStart => exact ⟨0, by omega, rfl, Blk.new _ _ _, (Chg.refl _ _).alloc _⟩
          case round =>
            obtain ⟨t, ht, rfl, hv, hc''⟩ := hrel
            by_cases hlt : t < 64
            · have hkc : wr.cell? ⟨1, t, none⟩ = some (.int .u32 (kTab.getD t 0).toNat) := (hc''.cell (p := ⟨1, t, none⟩) (by show 1 < _; omega) (fun f => f)).trans ((hc'.cell (p := ⟨1, t, none⟩) hk1 (fun f => f)).trans (Hk.out t hlt))
              have hwc : wr.cell? ⟨w.heap.size, t, none⟩ = some (.int .u32 ((sched s).getD t 0).toNat) := (hc''.cell (p := ⟨w.heap.size, t, none⟩) (by simpa using hsz) (fun f => f)).trans (hrow.out.cell hlt)
              have Hn : Hid (roundsTo (sched s) v (t + 1) = round (roundsTo (sched s) v t) (kTab.getD t 0) ((sched s).getD t 0)) := rfl
              generalize kTab.getD t 0 = kk at *
              generalize (sched s).getD t 0 = ww at *
              generalize roundsTo (sched s) v t = x at *
              have hcv := hv.cell
              have hfv := hv.frozen
              have Hv := Lib.hid hv; clear hv
              unfold stCells at hcv
              go_wp2
              go_quiet (fail)
              go_wp2
              go_quiet ((go_at_call 151; exact quiet_add_left (rotr_any _ _ _ (by omega) (by omega))))
              go_wp2
              go_quiet ((go_at_call 151; exact quiet_add_left (rotr_any _ _ _ (by omega) (by omega))))
              go_wp2
              obtain ⟨w3, hcp, hB3, hC3⟩ := copy_st wr w2.heap.size x Hv.out
              have hcv3 := hB3.cell
              have hfv3 := hB3.frozen
              clear hcv hfv
              go_region
              clear hcp
              go_wp2
              go_roundw
              case rel =>
                refine ⟨t + 1, by omega, by go_num, ?_, ?_⟩
                · obtain ⟨n1, e1, m1⟩ := t1_eq x kk ww
                  obtain ⟨n2, e2, m2⟩ := t2_eq x
                  rw [e1, e2, Hn.out]
                  have f1 : ((n1 : Int) + n2) % 4294967296 = ((t1 x kk ww + t2 x).toNat : Int) := by rw [UInt32.toNat_add]; omega
                  have f2 : ((x.d.toNat : Int) + n1) % 4294967296 = ((x.d + t1 x kk ww).toNat : Int) := by rw [UInt32.toNat_add]; omega
                  rw [f1, f2]
                  exact ((hB3.drewN _).set_ 0 _).set_ 4 _
                · have hz := hc''.trans hC3 (fun i hi h => by omega)
                  exact ((hz.drewN _).setCell (.inr (Nat.le_refl _)) _).setCell (.inr (Nat.le_refl _)) _
              case measure => simp [intOf]; omega
            · have hrow3 : Hid (Blk wr w2.heap.size 179 (stCells (roundsTo (sched s) v 64))) := by
                obtain rfl : t = 64 := by omega
                exact hv
              clear hv
              have hdec : decide ((t : Int) < 64) = false := by simp; omega
              have hcv := hrow3.out.cell
              have Hx : Hid (block v s = addSt v (roundsTo (sched s) v 64)) := rfl
              generalize roundsTo (sched s) v 64 = x at *
              unfold stCells at hcv
              obtain ⟨w4, rfl⟩ : ∃ w4 : World, w4 = wr := ⟨_, rfl⟩
              go_wp2
              clear hcv
              have hidx := fun (j : Nat) (W : World) (hj : j < 8) => index_st x j W hj
              have Hidx := Lib.hid hidx; clear hidx
              go_loopw [180] (fun i wr => ∃ t : Nat, t ≤ 8 ∧ i = .int .i64 t ∧ wr.rowIs b 181 10 (hashF v x rv nv t) ∧ Chg (fun k => k = b) w wr) (fun i _ => 8 - (intOf i).toNat)
              case atStart =>
                refine ⟨0, by omega, rfl, ?_, ?_⟩
                · exact ⟨_, Hbr.out.chg hc'' (fun f => f), rfl, fun i hi => by
                    match i, hi with
                    | 0, _ | 1, _ | 2, _ | 3, _ | 4, _ | 5, _ | 6, _ | 7, _ | 8, _ | 9, _ => rfl⟩
                · exact (hc'.trans hc'' (fun _ _ f => f)).mono (fun _ _ f => f.elim)
              case round =>
                obtain ⟨t, ht, rfl, hr, hcb⟩ := hrel
                by_cases hlt : t < 8
                · have hidx := fun W => Hidx.out t W hlt
                  have c0 := hr.cell (i := t) (by omega)
                  have c1 := hr.frozen (i := t)
                  have Hr := Lib.hid hr; clear hr
                  have Hf : Hid (hashF v x rv nv t t = .int .u32 ((v.words.getD t 0).toNat : Int)) := by
                    show hashF v x rv nv t t = _
                    simp [hashF, hlt]
                  rw [Hf.out] at c0
                  generalize hvv : v.words.getD t 0 = vv at *
                  have Hvv := Lib.hid hvv; clear hvv
                  generalize hxx : x.words.getD t 0 = xx at *
                  have Hxx := Lib.hid hxx; clear hxx
                  go_wp2
                  clear hidx
                  go_region
                  go_wp2
                  go_roundw
                  case rel =>
                    refine ⟨t + 1, by omega, by go_num, ?_, (hcb.setCell (.inl rfl) _).drew⟩
                    refine ((Hr.out.set t _).drew).congr (fun j hj => ?_)
                    by_cases hjt : j = t
                    · subst hjt
                      rw [if_pos rfl, add_u32]
                      simp only [hashF, hlt, if_true, Nat.lt_succ_self, Hvv.out, Hxx.out]
                    · rw [if_neg hjt]
                      unfold hashF
                      by_cases h8 : j < 8
                      · rw [if_pos h8, if_pos h8]
                        by_cases hjl : j < t
                        · rw [if_pos hjl, if_pos (by omega)]
                        · rw [if_neg hjl, if_neg (by omega)]
                      · rw [if_neg h8, if_neg h8]
                  case measure => simp [intOf]; omega
                · have Hr : Hid (Blk wr b 181 (hashCells (block v s) rv nv)) := by
                    obtain rfl : t = 8 := by omega
                    rw [Hx.out]
                    exact hash_of_row hr
                  clear hr
                  go_wp2
                  go_end0
                  exact ⟨rfl, Hr.out, hcb⟩
end Go.Proofs.YtnlabkogebnioaaGreatDoor
namespace Go.Proofs.YtnlabkogebnioaaGreatDoor
open Go.RowKit Sha
def HashAt (w : World) (S : Nat → Prop) (b : Nat) (v : St) (rest : List UInt8) (n : Nat) : Prop :=
  ∃ rv, Blk w b 181 (hashCells v rv (.int .i64 n)) ∧ Row w 5 1 rv rest.length (rest.map bv) ∧ S b ∧ ∀ k, rv.ownBlock = some k → S k
structure ShaTabs (w : World) : Prop where
  k : ∀ j, j < 64 → w.cell? ⟨1, j, none⟩ = some (.int .u32 (kTab.getD j 0).toNat)
  b : ∀ j, w.cell? ⟨0, j, none⟩ = (stCells begin_)[j]?
  kl : 1 < w.heap.size
  bl : 0 < w.heap.size
def NoTab (S : Nat → Prop) : Prop := ¬ S 1 ∧ ¬ S 0
theorem ShaTabs.chg {S : Nat → Prop} {w w' : World} (h : ShaTabs w) (hc : Chg S w w') (hn : NoTab S) : ShaTabs w' :=
 ⟨fun j hj => (hc.cell (p := ⟨1, j, none⟩) h.kl hn.1).trans (h.k j hj), fun j => (hc.cell (p := ⟨0, j, none⟩) h.bl hn.2).trans (h.b j), Nat.lt_of_lt_of_le h.kl hc.size, Nat.lt_of_lt_of_le h.bl hc.size⟩
theorem ShaTabs.belowAll {w w' : World} (h : ShaTabs w) (hb : Below w.heap.size w w') : ShaTabs w' := h.chg (Chg.of_below hb (fun _ => False)) ⟨fun f => f, fun f => f⟩
theorem ShaTabs.alloc {w : World} (h : ShaTabs w) (o : Obj) : ShaTabs (w.alloc o) := h.chg ((Chg.refl (fun _ => False) w).alloc o) ⟨fun f => f, fun f => f⟩
theorem noTab_from {w : World} (h : ShaTabs w) {B : Nat} (hB : w.heap.size ≤ B) : NoTab (fun k => B ≤ k) := ⟨by have := h.kl; omega, by have := h.bl; omega⟩
def WritePost (w : World) (S : Nat → Prop) (b : Nat) (v : St) (l : List UInt8) (n : Nat) (e : Ending) (w' : World) : Prop :=
  e = .returned (.tuple #[]) ∧ HashAt w' (More S w) b (absorb v l).1 (absorb v l).2 n ∧ Chg S w w'
theorem info_u8 : (Tryz.prog.info? 5).map (fun i => (i.zero, i.size, i.bytes)) = some (some (.int .u8 0), 1, 1) := by kernel_rfl
set_option maxRecDepth 20000 in
set_option maxHeartbeats 1000000 in
theorem HWrite_any (S : Nat → Prop) (b : Nat) (v : St) (rest : List UInt8) (n : Nat) (s : ByteArray) (w : World) (hH : HashAt w S b v rest n) (hK : ShaTabs w) (hS : NoTab S)
  (hn : n + s.size ≤ 4611686018427387904) (hr : rest.length + s.size ≤ 4294967296) :
  Calls Tryz.prog 64 #[.pointer (some ⟨b, 0, none⟩), .string s] w (WritePost w S b v (rest ++ s.data.toList) (n + s.size)) := by
 obtain ⟨rv, hB, hR, hSb, hSr⟩ := hH
 obtain ⟨i0, hi, hz0, hz1, hz2⟩ := info_parts info_u8
 have hc := hB.cell
 have hf := hB.frozen
 unfold hashCells at hc
 have HB := Lib.hid hB; clear hB
 have HR := Lib.hid hR; clear hR
 go_enter Tryz.func64, Tryz.ntmps64
 go_wp2_with (at_builtin; go_must (refine wpList_append_row _ rfl (.tmp 19) (.tmp 20) 123 9 rfl 5 i0 _ 1 1 Tryz.underlying123 hi hz0 hz1 hz2 rfl (by omega) rv rest.length (rest.map bv) rfl (HR.out.far (HR.out.ne_ HB.out (by decide)) _) (.string s) s.size (s.data.toList.map bv) rfl (Src.ofString _ Tryz.underlying9 s) (by simp only [maxLen]; omega) (by omega) ?_); intro v1 w1 hR1 hC1 hv1; obtain ⟨a1, cap1, rfl, hcap1, hcap1'⟩ := hR1.shape; have hB1 : Blk w1 b 181 #[.int .u32 v.a.toNat, .int .u32 v.b.toNat, .int .u32 v.c.toNat, .int .u32 v.d.toNat, .int .u32 v.e.toNat, .int .u32 v.f.toNat, .int .u32 v.g.toNat, .int .u32 v.h.toNat, rv, .int .i64 ((n : Int) + s.size)] := (HB.out.set_ 9 _).chg hC1 (HR.out.ne_ HB.out (by decide)); have hcc1 := hB1.cell; have hff1 := hB1.frozen; clear hc hf)
 have hnb : (Value.slice a1 (rest.length + s.size) cap1).ownBlock ≠ some b := hR1.ne_ hB1 (by decide)
 have hsz1 : w.heap.size ≤ w1.heap.size := by have := hC1.size; simpa [World.setCell] using this
 have hCh : Chg S w w1 := ((Chg.refl S w).setCell (.inl hSb) _).trans hC1 (fun k _ hk => hSr k hk)
 have hown1 : ∀ k, (Value.slice a1 (rest.length + s.size) cap1).ownBlock = some k → More S w k := fun k hk => by
  rcases hv1 with h | h
  ·exact .inl (hSr k (h.symm.trans hk))
  ·rw [h] at hk
   injection hk with hk
   subst hk
   exact .inr (by simp [World.setCell])
 go_loopg [] (rest.length + s.size) (fun k wr => ∃ v' rest', k = rest'.length ∧ HashAt wr (More S w) b v' rest' (n + s.size) ∧ absorb v' rest' = absorb v (rest ++ s.data.toList) ∧ Chg S w wr)
 case atStart =>
  refine ⟨v, rest ++ s.data.toList, by rw [List.length_append]; rfl, ⟨_, ?_, ?_, .inl hSb, hown1⟩, rfl, hCh.setCell (.inl hSb) _⟩
  ·exact hB1.set_ 8 _
  ·have := hR1.far (p := ⟨b, 8, none⟩) hnb (.slice a1 (rest.length + s.size) cap1)
   rw [List.map_append, List.length_append]
   exact this
 case round =>
  obtain ⟨v', rest', rfl, ⟨rv', hB', hR', _, hSr'⟩, habs, hcw⟩ := hrel
  have Habs := Lib.hid habs; clear habs
  clear hcc1 hff1
  have hc' := hB'.cell
  have hf' := hB'.frozen
  unfold hashCells at hc'
  by_cases hlen : 64 ≤ rest'.length
  ·obtain ⟨g, off, cap, rfl, hob, hcap2, hcap3, hcells, hfr⟩ := hR'.form (by omega)
   unfold maxLen at hcap3
   have HR' := Lib.hid hR'; clear hR'
   have HB' := Lib.hid hB'; clear hB'
   have Hcells := Lib.hid hcells; clear hcells
   have Hfr := Lib.hid hfr; clear hfr
   have hlenI : (64 : Int) ≤ (rest'.length : Int) := by omega
   have hl' : rest'.length ≤ 9223372036854775807 := by omega
   go_wp2_with fail
   have hgs : g < wr.heap.size := HR'.out.lt g hob
   have hkt : ShaTabs wr := hK.chg hcw hS
   refine (block_any b g off cap v' _ _ (rest'.take 64) wr HB'.out hgs (by omega) (by omega) (fun j hj => Hcells.out j _ (by rw [List.getElem?_map]; simp [List.getElem?_eq_getElem (show j < rest'.length by omega), hj, bv])) hkt.k hkt.kl).mono ?_
   rintro e w2 ⟨rfl, hB2, hC2⟩
   have hc2 := hB2.cell
   have hf2 := hB2.frozen
   unfold hashCells at hc2
   clear hc' hf'
   have hR2 := HR'.out.chg hC2 (fun k hk => by rintro rfl; exact HR'.out.ne_ HB'.out (by decide) hk)
   have hcut := hR2.cut rfl 64 rest'.length hlen (Nat.le_refl _)
   have HR2 := Lib.hid hR2; clear hR2
   have Hcut := Lib.hid hcut; clear hcut
   have HB2 := Lib.hid hB2; clear hB2
   go_wp2_with fail
   all_goals
    go_roundg (rest'.length - 64)
    case measure => omega
    case rel =>
     refine ⟨block v' (rest'.take 64), rest'.drop 64, by rw [List.length_drop], ⟨_, HB2.out.set_ 8 _, ?_, .inl hSb, ?_⟩, by rw [← Habs.out, absorb_step v' rest' hlen], (hcw.trans hC2 (fun i _ h => by rw [h]; exact hSb)).setCell (.inl hSb) _⟩
     ·have h1 := Hcut.out.far (p := ⟨b, 8, none⟩) (fun hk => HR2.out.ne_ HB2.out (by decide) (ownBlock_sliced hk)) (sliced (some ⟨g, off, none⟩) 64 rest'.length cap 1)
      simp only [Nat.mul_one, List.take_of_length_le (show (List.map bv rest').length ≤ rest'.length by simp), sliced] at h1
      simpa [*, Addr.add_lit] using h1
     ·intro k hk
      apply hSr' k
      simpa [Value.ownBlock] using hk
  ·obtain ⟨a', cap', rfl, hca, hcb⟩ := hR'.shape
   have HR' := Lib.hid hR'; clear hR'
   have HB' := Lib.hid hB'; clear hB'
   go_wp2_with fail
   go_end0
   rw [absorb_end v' rest' (by omega)] at Habs
   refine ⟨rfl, ?_, hcw⟩
   rw [← Habs.out]
   exact ⟨_, HB'.out, HR'.out, .inl hSb, hSr'⟩
end Go.Proofs.YtnlabkogebnioaaGreatDoor
namespace Go.Proofs.YtnlabkogebnioaaGreatDoor
open Go.RowKit Sha
def NewHash (w : World) (e : Ending) (w' : World) : Prop := ∃ b, e = .returned (.pointer (some ⟨b, 0, none⟩)) ∧ HashAt w' (fun k => w.heap.size ≤ k) b begin_ [] 0 ∧ Below w.heap.size w w'
theorem HashAt.new (w : World) (S : Nat → Prop) (h : S w.heap.size) : HashAt (w.alloc (.cells (hashCells begin_ (.slice none 0 0) (.int .i64 0)) 181)) S w.heap.size begin_ [] 0 :=
 ⟨_, Blk.new _ _ _, Row.nil _ _ _, h, fun k hk => by simp [Value.ownBlock] at hk⟩
theorem New_any (w : World) (hT : ShaTabs w) : Calls Tryz.prog 63 #[] w (NewHash w) := by
 have hb := hT.b
 unfold stCells at hb
 go_enter Tryz.func63, Tryz.ntmps63
 go_wp2
 go_ret
 exact ⟨w.heap.size, rfl, HashAt.new w _ (Nat.le_refl _), ((Chg.refl (fun _ => False) w).alloc _).belowAll⟩
theorem HashAt.mono {w : World} {S T : Nat → Prop} {b : Nat} {v : St} {rest : List UInt8} {n : Nat} (h : HashAt w S b v rest n) (hs : ∀ k, S k → T k) : HashAt w T b v rest n := by
 obtain ⟨rv, h1, h2, h3, h4⟩ := h
 exact ⟨rv, h1, h2, hs _ h3, fun k hk => hs _ (h4 k hk)⟩
def NewRow (w : World) (e : TypeId) (size n : Nat) (xs : List Value) (en : Ending) (w' : World) : Prop :=
  ∃ v, en = .returned v ∧ Row w' e size v n xs ∧ Below w.heap.size w w' ∧ ∀ k, v.ownBlock = some k → w.heap.size ≤ k
theorem Clone_any (w : World) (v : Value) (n : Nat) (l : List UInt8) (h : Row w 5 1 v n (l.map bv)) (hn : n ≤ 4294967296) :
  Calls Tryz.prog 111 #[v] w (NewRow w 5 1 n (l.map bv)) := by
 obtain ⟨i0, hi, hz0, hz1, hz2⟩ := info_parts info_u8
 obtain ⟨a, cap, rfl, h1, h2⟩ := h.shape
 have he : ∀ W : World, (binOp .eql 123 (.slice a n cap) (.slice none 0 0)).run Tryz.prog W = .ok (.bool a.isNone) W := fun W => Lib.run_eql_slice_nil W _ _ a n cap 0 0 Tryz.underlying123
 have HR := Lib.hid h; clear h
 cases a with
 | none =>
  have hd : Option.isNone (none : Option Addr) = true := rfl
  rw [hd] at he
  go_enter Tryz.func111, Tryz.ntmps111
  go_wp2_with fail
  go_ret
  have hn0 : n = 0 := by
   rcases HR.out.2 with ⟨_, h⟩ | ⟨_, _, _, _, _, h, _⟩
   ·exact h
   ·cases h
  subst hn0
  obtain rfl : l = [] := List.eq_nil_of_length_eq_zero (by have := HR.out.1; simpa using this)
  exact ⟨_, rfl, Row.nil _ _ _, Below.refl _ _, fun k hk => by simp [Value.ownBlock] at hk⟩
 | some a =>
  have hd : Option.isNone (some a) = false := rfl
  rw [hd] at he
  go_enter Tryz.func111, Tryz.ntmps111
  go_wp2_with (at_builtin; refine wpList_append_row _ rfl (.tmp 5) (.tmp 6) 123 123 rfl 5 i0 _ 1 1 Tryz.underlying123 hi hz0 hz1 hz2 rfl (by omega) (.slice (some ⟨w.heap.size, 0, none⟩) 0 0) 0 [] rfl (Row.new w 5 1 0 #[] (by simp [maxLen]) rfl) (.slice (some a) n cap) n (l.map bv) rfl ((HR.out.alloc _).src Tryz.underlying123 (bv_one l)) (by simp only [maxLen]; omega) (by omega) ?_; intro v1 w1 hR1 hC1 hv1)
  go_ret
  simp only [Nat.zero_add, List.nil_append] at hR1
  refine ⟨v1, rfl, hR1, ?_, ?_⟩
  ·exact (((Chg.refl (fun _ => False) w).alloc _).next hC1 (fun k hk => .inr (by simp [Value.ownBlock] at hk; omega))).belowAll
  ·intro k hk
   rcases hv1 with h | h <;> rw [h] at hk <;> simp [Value.ownBlock] at hk <;> omega
def z32 : Array Value := #[.int .u8 0, .int .u8 0, .int .u8 0, .int .u8 0, .int .u8 0, .int .u8 0, .int .u8 0, .int .u8 0, .int .u8 0, .int .u8 0, .int .u8 0, .int .u8 0, .int .u8 0, .int .u8 0, .int .u8 0, .int .u8 0, .int .u8 0, .int .u8 0, .int .u8 0, .int .u8 0, .int .u8 0, .int .u8 0, .int .u8 0, .int .u8 0, .int .u8 0, .int .u8 0, .int .u8 0, .int .u8 0, .int .u8 0, .int .u8 0, .int .u8 0, .int .u8 0]
def SumIs (w : World) (l : List UInt8) (e : Ending) (w' : World) : Prop := e = .returned (.agg (l.map bv).toArray) ∧ Below w.heap.size w w'
theorem z32_eq : z32 = (List.replicate 32 (bv 0)).toArray := rfl
theorem z32_at (i : Nat) (hi : i < 32) : z32[i]? = some (bv 0) := by
 rw [z32_eq, List.getElem?_toArray, List.getElem?_replicate, if_pos hi]
theorem bytes_length (x : St) : x.bytes.length = 32 := rfl
theorem bytes_size (x : St) : (x.bytes.map bv).toArray.size = 32 := by rw [List.size_toArray, List.length_map, bytes_length]
theorem info_sum : (Tryz.prog.info? 60).map (·.size) = some 32 := by kernel_rfl
theorem bytes_at (x : St) (j : Nat) (hj : j < 8) : x.bytes.getD (4 * j) 0 = (x.words.getD j 0 >>> 24).toUInt8 ∧ x.bytes.getD (4 * j + 1) 0 = (x.words.getD j 0 >>> 16).toUInt8 ∧
  x.bytes.getD (4 * j + 2) 0 = (x.words.getD j 0 >>> 8).toUInt8 ∧ x.bytes.getD (4 * j + 3) 0 = (x.words.getD j 0).toUInt8 := by
 have h : j = 0 ∨ j = 1 ∨ j = 2 ∨ j = 3 ∨ j = 4 ∨ j = 5 ∨ j = 6 ∨ j = 7 := by omega
 clear hj
 rcases h with rfl | rfl | rfl | rfl | rfl | rfl | rfl | rfl <;> exact ⟨rfl, rfl, rfl, rfl⟩
theorem byte0_eq (y : UInt32) : Value.int IntKind.u8 ((y.toNat : Int) % 256) = bv y.toUInt8 := by unfold bv; rw [u32_to_u8]
theorem byte1_eq (y : UInt32) : Value.int IntKind.u8 ((y.toNat : Int) / 256 % 256) = bv (y >>> 8).toUInt8 := by
 have h : (y.toNat : Int) / (256 : Int) = ((y >>> 8).toNat : Int) := shr_u32 y 8 (by omega)
 unfold bv; rw [h, u32_to_u8]
theorem byte2_eq (y : UInt32) : Value.int IntKind.u8 ((y.toNat : Int) / 65536 % 256) = bv (y >>> 16).toUInt8 := by
 have h : (y.toNat : Int) / (65536 : Int) = ((y >>> 16).toNat : Int) := shr_u32 y 16 (by omega)
 unfold bv; rw [h, u32_to_u8]
theorem byte3_eq (y : UInt32) : Value.int IntKind.u8 ((y.toNat : Int) / 16777216 % 256) = bv (y >>> 24).toUInt8 := by
 have h : (y.toNat : Int) / (16777216 : Int) = ((y >>> 24).toNat : Int) := shr_u32 y 24 (by omega)
 unfold bv; rw [h, u32_to_u8]
theorem lenByte_eq (n i : Nat) : Value.int IntKind.u8 ((n : Int) * 8 / 2 ^ (8 * i) % 256) = bv (lenByte n i) := by
 unfold bv lenByte
 congr 1
set_option maxRecDepth 20000 in
set_option maxHeartbeats 1000000 in
theorem Sum_any (S : Nat → Prop) (b : Nat) (v : St) (rest : List UInt8) (n : Nat) (w : World) (hH : HashAt w S b v rest n) (hT : ShaTabs w)
  (hn : n ≤ 1152921504606846976) (hr : rest.length ≤ 4294960000) :
  Calls Tryz.prog 65 #[.pointer (some ⟨b, 0, none⟩)] w (SumIs w (sumOf v rest n)) := by
 obtain ⟨rv, hB, hR, hSb, hSr⟩ := hH
 obtain ⟨i0, hi, hz0, hz1, hz2⟩ := info_parts info_u8
 have hc := hB.cell
 unfold hashCells at hc
 have HB := Lib.hid hB; clear hB
 have HR := Lib.hid hR; clear hR
 have HT := Lib.hid hT; clear hT
 have hb := HB.out.lt
 have hb1 : b < w.heap.size + 1 := by omega
 have hb2 : b < w.heap.size + 1 + 1 := by omega
 obtain ⟨ra, rc, rfl, hrc, _⟩ := HR.out.shape
 go_enter Tryz.func65, Tryz.ntmps65
 go_wp2_with fail
 refine (Clone_any _ _ rest.length rest (((HR.out.alloc _).alloc _).alloc _) (by omega)).mono ?_
 rintro e w1 ⟨v1, rfl, hR1, hb1, hf1⟩
 go_wp2_with (at_builtin; refine wpList_append_row _ rfl (.tmp 21) (.tmp 22) 123 123 rfl 5 i0 _ 1 1 Tryz.underlying123 hi hz0 hz1 hz2 rfl (by omega) v1 rest.length (rest.map bv) rfl (hR1.alloc _) (.slice (some ⟨w1.heap.size, 0, none⟩) 1 1) 1 [bv 128] rfl (Row.src (Row.new w1 5 1 1 #[.int .u8 128] (by simp [maxLen]) rfl) Tryz.underlying123 (bv_one [128])) (by simp only [maxLen]; omega) (by omega) ?_; intro v2 w2 hR2 hC2 hv2)
 have hz : w.heap.size + 3 ≤ w1.heap.size := by have := hb1.size; simp at this; omega
 have k0 : Blk w1 w.heap.size 60 z32 := (((Blk.new w 60 z32).alloc _).alloc _).belowAll hb1
 have k1 : Blk w1 (w.heap.size + 1) 60 z32 := by
  have := ((Blk.new (w.alloc (.cells z32 60)) 60 z32).alloc _).belowAll hb1
  simpa using this
 have k2 : Blk w1 (w.heap.size + 1 + 1) 181 (hashCells v (.slice none 0 0) (.int .i64 0)) := by
  have := (Blk.new ((w.alloc (.cells z32 60)).alloc (.cells z32 60)) 181 (hashCells v (.slice none 0 0) (.int .i64 0))).belowAll hb1
  simpa using this
 have hw1 : Chg (fun _ => False) w w1 := (((Chg.refl _ w).alloc _).alloc _).alloc _ |>.then_below hb1
 have hcw2 : Chg (fun k => w.heap.size + 3 ≤ k) w1 w2 := ((Chg.refl _ w1).alloc _).next hC2 (fun k hk => .inl (by have := hf1 k hk; simp at this; omega))
 have hf2 : ∀ k, v2.ownBlock = some k → w.heap.size + 3 ≤ k := fun k hk => by
  rcases hv2 with h | h
  ·have := hf1 k (h.symm.trans hk); simp at this; omega
  ·rw [h] at hk; simp at hk; omega
 clear hv2 hC2 hR1 hf1 hb1
 have Hk : Hid (Blk w1 w.heap.size 60 z32 ∧ Blk w1 (w.heap.size + 1) 60 z32 ∧ Blk w1 (w.heap.size + 1 + 1) 181 (hashCells v (.slice none 0 0) (.int .i64 0))) := ⟨k0, k1, k2⟩
 clear k0 k1 k2 hc
 go_loopg [5] (zeros rest.length) (fun k sl wr => ∃ j, k = zeros rest.length - j ∧ j ≤ zeros rest.length ∧ Row wr 5 1 sl (rest.length + 1 + j) ((rest ++ 128 :: List.replicate j 0).map bv) ∧ Chg (fun k => w.heap.size + 3 ≤ k) w1 wr ∧ ∀ k, sl.ownBlock = some k → w.heap.size + 3 ≤ k)
 case atStart => exact ⟨0, by omega, by omega, by simpa using hR2, hcw2, hf2⟩
 case round =>
  obtain ⟨j, rfl, hj, hRj, hCj, hfj⟩ := hrel
  obtain ⟨aj, cj, rfl, hcj, hcj2⟩ := hRj.shape
  have HRj := Lib.hid hRj; clear hRj
  have hjz : zeros rest.length < 64 := by unfold zeros; omega
  by_cases hlt : j < zeros rest.length
  ·have ht : (rest.length + 1 + j) % 64 ≠ 56 := by unfold zeros at hlt; omega
   have hmb : rest.length + 1 + j ≤ 4294967000 := by omega
   generalize hm : rest.length + 1 + j = m at *
   have Hm := Lib.hid hm; clear hm
   have htb : (((m : Int) % 64) != 56) = true := by rw [bne_iff_ne]; omega
   go_wp2_with (at_builtin; refine wpList_append_row _ rfl (.tmp 28) (.tmp 29) 123 123 rfl 5 i0 _ 1 1 Tryz.underlying123 hi hz0 hz1 hz2 rfl (by omega) (.slice aj m cj) m ((rest ++ 128 :: List.replicate j 0).map bv) rfl (HRj.out.alloc _) (.slice (some ⟨wr.heap.size, 0, none⟩) 1 1) 1 [bv 0] rfl (Row.src (Row.new wr 5 1 1 #[.int .u8 0] (by simp [maxLen]) rfl) Tryz.underlying123 (bv_one [0])) (by simp only [maxLen]; omega) (by omega) ?_; intro v3 w3 hR3 hC3 hv3)
   go_roundg (zeros rest.length - (j + 1))
   case measure => omega
   case rel =>
    refine ⟨j + 1, rfl, by omega, ?_, (hCj.alloc _).next hC3 (fun k hk => .inl (hfj k hk)), fun k hk => ?_⟩
    ·rw [← Hm.out] at hR3
     rw [List.replicate_succ', ← List.cons_append, ← List.append_assoc, List.map_append]
     exact hR3
    ·rcases hv3 with h | h
     ·exact hfj k (h.symm.trans hk)
     ·rw [h] at hk; have := hCj.size; simp at hk; omega
  ·have ht : (rest.length + 1 + j) % 64 = 56 := by unfold zeros at hlt hj; omega
   have hmb : rest.length + 1 + j ≤ 4294967000 := by omega
   obtain rfl : j = zeros rest.length := by omega
   generalize hm : rest.length + 1 + zeros rest.length = m at *
   have Hm := Lib.hid hm; clear hm
   have htb : (((m : Int) % 64) != 56) = false := by rw [bne_eq_false_iff_eq]; omega
   have Ht := Lib.hid ht; clear ht
   have HC := Lib.hid hCj; clear hCj
   obtain ⟨w4, rfl⟩ : ∃ w4 : World, w4 = wr := ⟨_, rfl⟩
   go_wp2_with fail
   go_loopg [5, 6] 8 (fun k sl i wr => ∃ j : Nat, j ≤ 8 ∧ k = 8 - j ∧ i = .int .i64 (7 - (j : Int)) ∧ Row wr 5 1 sl (m + j) ((rest ++ 128 :: (List.replicate (zeros rest.length) 0 ++ lenTo n j)).map bv) ∧ Chg (fun k => w.heap.size + 3 ≤ k) w1 wr ∧ ∀ k, sl.ownBlock = some k → w.heap.size + 3 ≤ k)
   case atStart => exact ⟨0, by omega, rfl, rfl, by simpa [lenTo] using HRj.out, HC.out, hfj⟩
   case round =>
    obtain ⟨j, hj8, rfl, rfl, hR5, hC5, hf5⟩ := hrel
    obtain ⟨a5, c5, rfl, hc5, hc52⟩ := hR5.shape
    have HR5 := Lib.hid hR5; clear hR5
    have hcb : wr.cell? ⟨b, 9, none⟩ = some (.int .i64 n) := by
     rw [hC5.cell (p := ⟨b, 9, none⟩) (Nat.lt_of_lt_of_le hb hw1.size) (by show ¬ _ ≤ b; omega), hw1.cell (p := ⟨b, 9, none⟩) hb (fun f => f), HB.out.cell]; rfl
    by_cases hlt : j < 8
    ·have hle : decide ((j : Int) ≤ 7) = true := by simp; omega
     have Hb : Hid (Value.int IntKind.u8 ((n : Int) * 8 / 2 ^ (8 * (7 - j)) % 256) = bv (lenByte n (7 - j))) := lenByte_eq n (7 - j)
     go_wp2_with (at_builtin; refine wpList_append_row _ rfl (.tmp 35) (.tmp 47) 123 123 rfl 5 i0 _ 1 1 Tryz.underlying123 hi hz0 hz1 hz2 rfl (by omega) (.slice a5 (m + j) c5) (m + j) _ rfl (HR5.out.alloc _) (.slice (some ⟨wr.heap.size, 0, none⟩) 1 1) 1 [Value.int IntKind.u8 ((n : Int) * 8 / 2 ^ (8 * (7 - j)) % 256)] rfl (Row.src (Row.new wr 5 1 1 #[Value.int IntKind.u8 ((n : Int) * 8 / 2 ^ (8 * (7 - j)) % 256)] (by simp [maxLen]) rfl) Tryz.underlying123 (fun u hu => by simp at hu; subst hu; rfl)) (by simp only [maxLen]; omega) (by omega) ?_; intro v6 w6 hR6 hC6 hv6)
     go_roundg (8 - (j + 1))
     case measure => omega
     case rel =>
      refine ⟨j + 1, by omega, rfl, by congr 1; omega, ?_, (hC5.alloc _).next hC6 (fun k hk => .inl (hf5 k hk)), fun k hk => ?_⟩
      ·rw [Hb.out] at hR6
       have e1 : rest ++ 128 :: (List.replicate (zeros rest.length) 0 ++ lenTo n (j + 1)) = (rest ++ 128 :: (List.replicate (zeros rest.length) 0 ++ lenTo n j)) ++ [lenByte n (7 - j)] := by simp [lenTo]
       rw [e1, List.map_append]
       exact hR6
      ·rcases hv6 with h | h
       ·exact hf5 k (h.symm.trans hk)
       ·rw [h] at hk; have := hC5.size; simp at hk; omega
    ·obtain rfl : j = 8 := by omega
     have hle : decide ((8 : Int) ≤ 7) = false := by simp
     have hcv : ∀ W : World, W = wr → (convert 123 9 (.slice a5 (m + 8) c5)).run Tryz.prog W = .ok (.string ⟨(rest ++ pad rest.length n).toArray⟩) W := by
      rintro W rfl
      exact run_str_of_row W _ _ _ _ _ _ Tryz.underlying123 Tryz.underlying5 Tryz.underlying9 HR5.out
     have hcv' := hcv wr rfl
     clear hcv
     have Hlen : Hid ((rest ++ pad rest.length n).length = m + 8) := by
      show _ = _
      have := HR5.out.1; simpa [pad] using this
     obtain ⟨w7, rfl⟩ : ∃ w7 : World, w7 = wr := ⟨_, rfl⟩
     have hsz : (ByteArray.mk (rest ++ pad rest.length n).toArray).size = m + 8 := Hlen.out
     have hnt : NoTab (fun k => w.heap.size + 1 + 1 ≤ k) := noTab_from HT.out (by omega)
     have hT7 : ShaTabs w7 := (HT.out.chg hw1 ⟨fun f => f, fun f => f⟩).chg hC5 (noTab_from HT.out (by omega))
     have hX : HashAt w7 (fun k => w.heap.size + 1 + 1 ≤ k) (w.heap.size + 1 + 1) v [] 0 :=
      ⟨_, Hk.out.2.2.chg hC5 (by omega), Row.nil _ _ _, Nat.le_refl _, fun k hk => by simp [Value.ownBlock] at hk⟩
     have Hsz := Lib.hid hsz; clear hsz
     go_wp2_with fail
     refine (HWrite_any _ _ v [] 0 _ w7 hX hT7 hnt (by rw [Hsz.out]; omega) (by rw [Hsz.out]; simp; omega)).mono ?_
     rintro e w8 ⟨rfl, hX8, hC8⟩
     simp only [List.nil_append] at hX8
     obtain ⟨rv8, hB8, _, _, _⟩ := hX8
     have HF : Hid (sumOf v rest n = (absorb v (rest ++ pad rest.length n)).1.bytes) := rfl
     generalize (absorb v (rest ++ pad rest.length n)).1 = x at *
     have hc8 := hB8.cell
     unfold hashCells at hc8
     have HB8 := Lib.hid hB8; clear hB8
     clear hcv'
     have k0 : Blk w8 w.heap.size 60 z32 := (Hk.out.1.chg hC5 (by omega)).chg hC8 (by omega)
     have k1 : Blk w8 (w.heap.size + 1) 60 z32 := (Hk.out.2.1.chg hC5 (by omega)).chg hC8 (by omega)
     have Hk0 := Lib.hid k0; clear k0
     have Hk1 := Lib.hid k1; clear k1
     have hw8 : Chg (fun _ => False) w w8 := (hw1.next hC5 (fun i h => .inr (by omega))).next hC8 (fun i h => .inr (by omega))
     have hidx := fun (j : Nat) (W : World) (hj : j < 8) => index_st x j W hj
     have Hidx := Lib.hid hidx; clear hidx
     go_wp2_with fail
     clear hc8
     go_loopg [54] 8 (fun k i wr => ∃ j : Nat, j ≤ 8 ∧ k = 8 - j ∧ i = .int .i64 j ∧ wr.rowIs (w.heap.size + 1) 60 32 (fun k => bv (if k < 4 * j then x.bytes.getD k 0 else 0)) ∧ Chg (fun k => k = w.heap.size + 1) w8 wr)
     case atStart =>
      refine ⟨0, by omega, rfl, rfl, Hk1.out.row rfl (fun i hi => ?_), Chg.refl _ _⟩
      rw [if_neg (by omega)]
      exact z32_at i hi
     case round =>
      obtain ⟨j, hj8, rfl, rfl, hr9, hC9⟩ := hrel
      by_cases hlt : j < 8
      ·have hix := fun W => Hidx.out j W hlt
       have c0 := hr9.cell (i := 4 * j) (by omega)
       have c1 := hr9.cell (i := 4 * j + 1) (by omega)
       have c2 := hr9.cell (i := 4 * j + 2) (by omega)
       have c3 := hr9.cell (i := 4 * j + 3) (by omega)
       have f0 := hr9.frozen
       generalize hy : x.words.getD j 0 = y at *
       have Hy := Lib.hid hy; clear hy
       go_wp2_with fail
       go_roundg (8 - (j + 1))
       case measure => omega
       case rel =>
        refine ⟨j + 1, by omega, rfl, by go_num, ?_, (((hC9.setCell (.inl rfl) _).setCell (.inl rfl) _).setCell (.inl rfl) _).setCell (.inl rfl) _⟩
        obtain ⟨y0, y1, y2, y3⟩ := bytes_at x j hlt
        rw [Hy.out] at y0 y1 y2 y3
        refine ((((hr9.set (4 * j) _).set (4 * j + 1) _).set (4 * j + 2) _).set (4 * j + 3) _).congr (fun k hk => ?_)
        show (if k = 4 * j + 3 then _ else if k = 4 * j + 2 then _ else if k = 4 * j + 1 then _ else if k = 4 * j then _ else _) = _
        by_cases e3 : k = 4 * j + 3
        ·rw [if_pos e3, if_pos (by omega), e3, y3, byte0_eq]
        rw [if_neg e3]
        by_cases e2 : k = 4 * j + 2
        ·rw [if_pos e2, if_pos (by omega), e2, y2, byte1_eq]
        rw [if_neg e2]
        by_cases e1 : k = 4 * j + 1
        ·rw [if_pos e1, if_pos (by omega), e1, y1, byte2_eq]
        rw [if_neg e1]
        by_cases e0 : k = 4 * j
        ·rw [if_pos e0, if_pos (by omega), e0, y0, byte3_eq]
        rw [if_neg e0]
        by_cases el : k < 4 * j
        ·rw [if_pos el, if_pos (by omega)]
        ·rw [if_neg el, if_neg (by omega)]
      ·obtain rfl : j = 8 := by omega
       have hB9 : Blk wr (w.heap.size + 1) 60 (x.bytes.map bv).toArray := Blk.of_row hr9 (by simp [bytes_length]) (fun i hi => by
        simp only [List.getElem?_toArray, List.getElem?_map]
        rw [if_pos (by omega), List.getElem?_eq_getElem (by rw [bytes_length]; exact hi)]
        simp [List.getD, List.getElem?_eq_getElem (show i < x.bytes.length by rw [bytes_length]; exact hi)])
       have hB0 : Blk wr w.heap.size 60 z32 := Hk0.out.chg hC9 (by omega)
       have HB9 := Lib.hid hB9; clear hB9
       have HB0 := Lib.hid hB0; clear hB0
       have HR9 := Lib.hid hr9; clear hr9
       go_wp2_with (first
        | (refine wpList_load_blk rfl 60 (.tmp 3) rfl (w.heap.size + 1) rfl HB9.out Tryz.underlying60 rfl (by rw [bytes_size]; exact info_sum) ?_)
        | ((refine wpList_store_blk rfl 60 (.tmp 2) (.tmp 85) rfl w.heap.size (x.bytes.map bv).toArray rfl rfl HB0.out (by rw [bytes_size]; exact info_sum) (by rw [bytes_size]; rfl) (bv_one x.bytes) ?_); intro w10 hB10 hC10))
       refine bodyPost_ret (results_blk rfl _ _ w.heap.size rfl hB10 Tryz.underlying60 rfl (by rw [bytes_size]; exact info_sum)) rfl ?_
       exact ⟨by rw [HF.out], ((hw8.next hC9 (fun i h => .inr (by omega))).next hC10 (fun i h => .inr (by omega))).belowAll⟩
end Go.Proofs.YtnlabkogebnioaaGreatDoor
namespace Go.Proofs.YtnlabkogebnioaaGreatDoor
open Go.RowKit Sha
theorem sha_length (m : List UInt8) : (sha m).length = 32 := rfl
theorem sum_size {l : List UInt8} (h : l.length = 32) : (l.map bv).toArray.size = 32 := by rw [List.size_toArray, List.length_map, h]
set_option maxRecDepth 20000 in
set_option maxHeartbeats 1000000 in
theorem ShaOf_any (s : ByteArray) (w : World) (hT : ShaTabs w) (hs : s.size ≤ 4294960000) :
  Calls Tryz.prog 24 #[.string s] w (SumIs w (sha s.data.toList)) := by
 have HT := Lib.hid hT; clear hT
 have k0 := Blk.new w 60 z32
 have Hk := Lib.hid k0; clear k0
 go_enter Tryz.func24, Tryz.ntmps24
 go_wp2_with fail
 ((with_reducible refine (New_any _ (HT.out.alloc _)).mono ?_); rintro e w1 ⟨b, rfl, hX1, hb1⟩)
 have hT1 : ShaTabs w1 := (HT.out.alloc _).belowAll hb1
 have hX1' := hX1.mono (T := fun k => w.heap.size + 1 ≤ k) (fun k hk => by simp at hk; omega)
 go_wp2_with fail
 ((with_reducible refine (HWrite_any (fun k => w.heap.size + 1 ≤ k) b begin_ [] 0 s w1 hX1' hT1 (noTab_from HT.out (by omega)) (by omega) (by simp; omega)).mono ?_); rintro e w2 ⟨rfl, hX2, hC2⟩)
 simp only [List.nil_append, Nat.zero_add] at hX2
 have hT2 : ShaTabs w2 := hT1.chg hC2 (noTab_from HT.out (by omega))
 go_wp2_with fail
 ((with_reducible refine (Sum_any _ _ _ _ _ w2 hX2 hT2 (by omega) (by rw [absorb_length]; omega)).mono ?_); rintro e w3 ⟨rfl, hb3⟩)
 have hc2 : Chg (fun _ => False) w w2 := (((Chg.refl _ w).alloc _).then_below hb1).next hC2 (fun i h => .inr (by omega))
 have hB3 : Blk w3 w.heap.size 60 z32 := ((Hk.out.belowAll hb1).chg hC2 (by omega)).belowAll hb3
 have HF : Hid (sumOf (absorb begin_ s.data.toList).1 (absorb begin_ s.data.toList).2 s.size = sha s.data.toList) := rfl
 have HB3 := Lib.hid hB3; clear hB3
 rw [HF.out]
 go_wp2_with (refine wpList_store_blk rfl 60 (.tmp 2) (.tmp 9) rfl w.heap.size ((sha s.data.toList).map bv).toArray rfl rfl HB3.out (by rw [sum_size (sha_length _)]; exact info_sum) (by rw [sum_size (sha_length _)]; rfl) (bv_one (sha s.data.toList)) ?_; intro w10 hB10 hC10)
 refine bodyPost_end (results_blk rfl _ _ w.heap.size rfl hB10 Tryz.underlying60 rfl (by rw [sum_size (sha_length _)]; exact info_sum)) rfl ?_
 exact ⟨rfl, ((hc2.then_below hb3).next hC10 (fun i h => .inr (by omega))).belowAll⟩
end Go.Proofs.YtnlabkogebnioaaGreatDoor
namespace Go.Proofs.YtnlabkogebnioaaGreatDoor
open Go.RowKit Go.Shelf
shelf_lay LaysM.n171 Nm 171 at Tryz as Tryz.lays171
def PowTab (w : World) : Prop := Lib.TabIs Tryz.prog w "internal/strconv.uint64pow10" .u64 Lib.pow10Tab
theorem Itoa_any (n : Nat) (w : World) (hT : PowTab w) (hn : n ≤ 9223372036854775807) : Calls Tryz.prog 102 #[.int .i64 n] w fun e w' => e = .returned (str (Lib.decDigits n)) ∧ Below w.heap.size w w' := by
 refine (Any.strconv_Itoa Tryz.lays171 (n : Int) (by omega) (by omega) w hT).mono ?_
 rintro e w' ⟨rfl, k, os, rfl⟩
 refine ⟨?_, ?_⟩
 ·rw [Lib.itoa_nonneg]
  rfl
 ·refine ⟨rfl, rfl, rfl, ?_, fun k hk => ?_⟩
  ·show w.heap.size ≤ (w.heap ++ os).size
   rw [Array.size_append]; omega
  ·show (w.heap ++ os)[k]? = _
   rw [Array.getElem?_append_left hk]
theorem PowTab.bel {w w' : World} (h : PowTab w) (hb : Below w.heap.size w w') : PowTab w' := Go.Joins.tab_stays (g := 2) (by kernel_rfl) h hb (Nat.le_refl _)
theorem pright_any (n : Int) (w : World) : Calls Tryz.prog 86 #[.int .i64 n] w fun e w' => e = .returned (.bool (rightP n)) ∧ Below w.heap.size w w' := by
 refine W_enter (args := [.int .i64 n]) 9 Tryz.func86 rfl rfl rfl (W_sub [(0, .int .i64 n)] ?_ ⟨rfl, trivial⟩)
 have hbw := Below.refl w.heap.size w
 refine W_rs (sa rfl rfl (Wn (tN (W_rs (sm rfl rfl (st (X.geq rfl rfl) rfl (sb rfl rfl (fun h5 => ?_) (fun h5 => ?_))))))))
 ·first | replace h5 := of_decide_eq_true h5 | replace h5 := of_decide_eq_false (notT h5) | replace h5 := notT h5 | skip
  refine gY (g := 5) rfl rfl rfl (sm rfl rfl (gY (g := 5) rfl rfl rfl (st (X.leq rfl rfl) rfl (st (X.pickT rfl rfl) rfl (sa rfl rfl (Wn (tN (W_ret ((rT rfl rfl ⟨?_, hbw⟩).1)))))))))
  congr 2
  unfold rightP
  simp
  omega
 ·first | replace h5 := of_decide_eq_false h5 | replace h5 := of_decide_eq_true (notF h5) | replace h5 := notF h5 | skip
  refine gN (g := 5) rfl rfl rfl rfl (gN (g := 5) rfl rfl rfl rfl (st (X.pickF rfl rfl) rfl (sa rfl rfl (Wn (tN (W_ret ((rT rfl rfl ⟨?_, hbw⟩).1)))))))
  congr 2
  unfold rightP
  simp
  omega
theorem pbs4 (a b c d : UInt8) (w : World) : (Instr.buildSlice 123 4 #[(0, bv a), (1, bv b), (2, bv c), (3, bv d)]).run Tryz.prog w = .ok (.slice (some ⟨w.heap.size, 0, none⟩) 4 4) (w.alloc (.cells #[bv a, bv b, bv c, bv d] 5)) := by kernel_rfl
theorem pfour_any (n : Int) (w : World) : Calls Tryz.prog 53 #[.int .i64 n] w fun e w' => e = .returned (str (four n)) ∧ Below w.heap.size w w' := by
 refine W_enter (args := [.int .i64 n]) 16 Tryz.func53 rfl rfl rfl (W_sub [(0, .int .i64 n)] ?_ ⟨rfl, trivial⟩)
 have hbw := Below.refl w.heap.size w
 refine W_rs (sa rfl rfl (Wn (tN (W_rs (sm rfl rfl (st (X.convI rfl Tryz.underlying3 Tryz.underlying5 (wb _)) rfl (sm rfl rfl (st (X.shr (q := 256) rfl rfl (by decide) (by decide) rfl rfl) rfl (st (X.convI rfl Tryz.underlying3 Tryz.underlying5 (wb _)) rfl (sm rfl rfl ?_))))))))))
 refine st (X.shr (q := 65536) rfl rfl (by decide) (by decide) rfl rfl) rfl (st (X.convI rfl Tryz.underlying3 Tryz.underlying5 (wb _)) rfl (sm rfl rfl (st (X.shr (q := 16777216) rfl rfl (by decide) (by decide) rfl rfl) rfl (st (X.convI rfl Tryz.underlying3 Tryz.underlying5 (wb _)) rfl (sbs 1 rfl (pbs4 _ _ _ _ _) (by simp [maxLen]) rfl rfl (fun g w1 hR hg hb => ?_))))))
 replace hbw := bthen hbw hb
 refine st (X.strOf (s := four n) rfl Tryz.underlying123 Tryz.underlying5 Tryz.underlying9 hR.reads) rfl (sa rfl rfl (Wn (tN (W_ret ?_))))
 exact (rT rfl rfl ⟨rfl, hbw⟩).1
theorem take_zeros (k : Nat) (h : k ≤ 6) : List.take k [48, 48, 48, 48, 48, 48] = List.replicate k (48 : UInt8) := by
 rw [show ([48, 48, 48, 48, 48, 48] : List UInt8) = List.replicate 6 48 from rfl, List.take_replicate, Nat.min_eq_left h]
theorem pnamed_any (kind : List UInt8) (n : Int) (w : World) (hT : PowTab w) (hk : kind.length ≤ 1000) : Calls Tryz.prog 58 #[str kind, .int .i64 n] w fun e w' => e = .returned (str (namedP kind n)) ∧ Below w.heap.size w w' := by
 refine W_enter (args := [str kind, .int .i64 n]) 19 Tryz.func58 rfl rfl rfl (W_sub [(0, str kind), (1, .int .i64 n)] ?_ ⟨rfl, rfl, trivial⟩)
 have hbw := Below.refl w.heap.size w
 refine W_rs (sa rfl rfl (Wn (tN (W_seq (W_rs (sm rfl rfl (sc _ Tryz.func86 rfl (by kernel_rfl) rfl rfl ((pright_any n _).mono ?_))))))))
 rintro e_ w1 ⟨rfl, hb⟩
 refine cR ?_
 replace hbw := bthen hbw hb
 replace hT := hT.bel hb
 have hz_w1 := hb.size
 clear hb
 refine st (X.not rfl) rfl (Wn (tN (W_if rfl (fun h8 => ?_) (fun h8 => ?_))))
 ·first | replace h8 := of_decide_eq_true h8 | replace h8 := of_decide_eq_false (notT h8) | replace h8 := notT h8 | skip
  refine W_rs (sa rfl rfl (Wn (tN (W_ret (tR ?_)))))
  exact (rT rfl rfl ⟨by rw [namedP, if_neg (by simpa [rightP] using h8)]; rfl, hbw⟩).1
 ·first | replace h8 := of_decide_eq_false h8 | replace h8 := of_decide_eq_true (notF h8) | replace h8 := notF h8 | skip
  have hn : 0 ≤ n ∧ n ≤ 999999 := h8
  obtain ⟨m, rfl⟩ : ∃ m : Nat, n = m := ⟨n.toNat, by omega⟩
  obtain ⟨hd1, hd2⟩ := six_dec (n := m) (by omega)
  refine W_skip (tN (W_rs (sm rfl rfl (sc _ Tryz.func102 rfl (by kernel_rfl) rfl rfl ((Itoa_any m _ hT (by omega)).mono ?_)))))
  rintro e_ w2 ⟨rfl, hb⟩
  refine cR ?_
  replace hbw := bthen hbw hb
  replace hT := hT.bel hb
  have hz_w2 := hb.size
  clear hb
  refine sa rfl rfl (Wn (tN (W_rs (sm rfl rfl (sm rfl rfl (st (X.lenS rfl rfl Tryz.underlying9) rfl (st (X.sub64 rfl rfl (by omega)) rfl (st (X.toS (j := 6 - (Lib.decDigits m).length) rfl rfl Tryz.underlying9 (by omega) (by simp)) rfl ?_))))))))
  rw [take_zeros (6 - (Lib.decDigits m).length) (by omega)]
  refine st (X.cat rfl rfl (by simp; omega)) rfl ?_
  refine sm rfl rfl (st (X.cat rfl rfl (by simp; omega)) rfl ?_)
  rw [List.append_assoc, hd2]
  refine sa rfl rfl (Wn (tN (W_ret ?_)))
  exact (rT rfl rfl ⟨by rw [namedP, if_pos (by simpa [rightP] using hn)]; simp, hbw⟩).1
theorem Name_p (n : Int) (w : World) (hT : PowTab w) : Calls Tryz.prog 21 #[.int .i64 n] w fun e w' => e = .returned (str (nameP n)) ∧ Below w.heap.size w w' := by
 refine W_enter (args := [.int .i64 n]) 5 Tryz.func21 rfl rfl rfl (W_sub [(0, .int .i64 n)] ?_ ⟨rfl, trivial⟩)
 have hbw := Below.refl w.heap.size w
 refine W_rs (sa rfl rfl (Wn (tN (W_rs (sm rfl rfl (sc _ Tryz.func58 rfl (by kernel_rfl) rfl rfl ((pnamed_any packB n _ hT (by simp [packB])).mono ?_)))))))
 rintro e_ w1 ⟨rfl, hb⟩
 refine cR ?_
 replace hbw := bthen hbw hb
 replace hT := hT.bel hb
 have hz_w1 := hb.size
 clear hb
 refine sa rfl rfl (Wn (tN (W_ret ?_)))
 exact (rT rfl rfl ⟨rfl, hbw⟩).1
theorem IndexName_p (n : Int) (w : World) (hT : PowTab w) : Calls Tryz.prog 70 #[.int .i64 n] w fun e w' => e = .returned (str (idxP n)) ∧ Below w.heap.size w w' := by
 refine W_enter (args := [.int .i64 n]) 5 Tryz.func70 rfl rfl rfl (W_sub [(0, .int .i64 n)] ?_ ⟨rfl, trivial⟩)
 have hbw := Below.refl w.heap.size w
 refine W_rs (sa rfl rfl (Wn (tN (W_rs (sm rfl rfl (sc _ Tryz.func58 rfl (by kernel_rfl) rfl rfl ((pnamed_any indexB n _ hT (by simp [indexB])).mono ?_)))))))
 rintro e_ w1 ⟨rfl, hb⟩
 refine cR ?_
 replace hbw := bthen hbw hb
 replace hT := hT.bel hb
 have hz_w1 := hb.size
 clear hb
 refine sa rfl rfl (Wn (tN (W_ret ?_)))
 exact (rT rfl rfl ⟨rfl, hbw⟩).1
def mayP (d : Bool) (n : Int) : Int := if d = false then 2 else if rightP n = false then 1 else 0
theorem pmay_any (p : Option Addr) (n : Int) (w : World) : Calls Tryz.prog 55 #[.pointer p, .int .i64 n] w fun e w' => e = .returned (.int .i64 (mayP p.isSome n)) ∧ Below w.heap.size w w' := by
 refine W_enter (args := [.pointer p, .int .i64 n]) 12 Tryz.func55 rfl rfl rfl (W_sub [(0, .pointer p), (1, .int .i64 n)] ?_ ⟨rfl, rfl, trivial⟩)
 have hbw := Below.refl w.heap.size w
 refine W_rs (sa rfl rfl (Wn (tN (W_seq (W_block (W_rs (sm rfl rfl (st (X.dEq rfl) rfl (sa rfl rfl (Wn ?_))))))))))
 refine tN (W_if rfl (fun h5 => ?_) (fun h5 => ?_))
 ·first | replace h5 := of_decide_eq_true h5 | replace h5 := of_decide_eq_false (notT h5) | replace h5 := notT h5 | skip
  refine W_rs (sa rfl rfl (Wn (tN (W_ret (bR (tR ?_))))))
  exact (rT rfl rfl ⟨by cases p with | none => rfl | some a => simp at h5, hbw⟩).1
 ·first | replace h5 := of_decide_eq_false h5 | replace h5 := of_decide_eq_true (notF h5) | replace h5 := notF h5 | skip
  obtain ⟨a, rfl⟩ : ∃ a, p = some a := by cases p with | none => simp at h5 | some a => exact ⟨a, rfl⟩
  refine W_rs (sm rfl rfl (sc _ Tryz.func86 rfl (by kernel_rfl) rfl rfl ((pright_any n _).mono ?_)))
  rintro e_ w1 ⟨rfl, hb⟩
  refine cR ?_
  replace hbw := bthen hbw hb
  have hz_w1 := hb.size
  clear hb
  refine st (X.not rfl) rfl (sa rfl rfl (Wn (tN (W_if rfl (fun h8 => ?_) (fun h8 => ?_)))))
  ·first | replace h8 := of_decide_eq_true h8 | replace h8 := of_decide_eq_false (notT h8) | replace h8 := notT h8 | skip
   refine W_rs (sa rfl rfl (Wn (tN (W_ret (bR (tR ?_))))))
   exact (rT rfl rfl ⟨by rw [mayP, if_neg (by simp), if_pos (by simpa [rightP] using h8)], hbw⟩).1
  ·first | replace h8 := of_decide_eq_false h8 | replace h8 := of_decide_eq_true (notF h8) | replace h8 := notF h8 | skip
   refine W_skip (bN (tN (W_rs (sa rfl rfl (Wn (tN (W_ret ?_)))))))
   exact (rT rfl rfl ⟨by rw [mayP, if_neg (by simp), if_neg (by simpa [rightP] using h8)], hbw⟩).1
end Go.Proofs.YtnlabkogebnioaaGreatDoor
namespace Go.Proofs.YtnlabkogebnioaaGreatDoor
open Go.ChangeShapes Go.WideShapes Go.ChangeAt Go.RowKit
theorem info_u8' : (Tryz.prog.info? 5).map (fun i => (i.zero, i.size, i.bytes)) = some (some (.int .u8 0), 1, 1) := by kernel_rfl
theorem cells_u8 : Tryz.prog.cellsOf 5 = 1 := by kernel_rfl
theorem run_part_byte (l : List UInt8) (i : Nat) (h : i < l.length) (W : World) : (part 5 (l.map bv).toArray i).run Tryz.prog W = .ok (.int .u8 (l.getD i 0).toNat) W := by
 have hc : (l.map bv).toArray[i]? = some (.int .u8 (l.getD i 0).toNat) := by
  rw [List.getElem?_toArray, List.getElem?_map, List.getElem?_eq_getElem h]
  simp [bv, List.getD, List.getElem?_eq_getElem h]
 unfold part
 simp only [Sem.run_bind, isAgg, run_underlying Tryz.underlying5, Result.andThen_ok, Sem.run_pure, Bool.false_eq_true, if_false]
 rw [hc]
 rfl
theorem run_eqItems_bytes (d : Nat) (l m : List UInt8) (W : World) : ∀ is : List Nat, (∀ i ∈ is, i < l.length ∧ i < m.length) →
  (Op.eqItems (d + 1) 5 1 (l.map bv).toArray (m.map bv).toArray is).run Tryz.prog W = .ok (is.all fun i => l.getD i 0 == m.getD i 0) W
 | [], _ => by simp [Op.eqItems]
 | i :: is, h => by
  have hi := h i (by simp)
  have ih := run_eqItems_bytes d l m W is (fun j hj => h j (by simp [hj]))
  simp only [Op.eqItems, Sem.run_bind, Nat.mul_one, run_part_byte l i hi.1 W, run_part_byte m i hi.2 W, Result.andThen_ok, run_equalIn_int W d 5 .u8 .u8 _ _ Tryz.underlying5]
  have e : (((l.getD i 0).toNat : Int) == ((m.getD i 0).toNat : Int)) = (l.getD i 0 == m.getD i 0) := by
   rw [Bool.eq_iff_iff, beq_iff_eq, beq_iff_eq]
   exact ⟨fun h => UInt8.toNat.inj (by omega), fun h => by rw [h]⟩
  rw [e]
  cases hq : (l.getD i 0 == m.getD i 0)
  ·simp only [Bool.not_false, if_true, Sem.run_pure, List.all_cons, hq, Bool.false_and]
  ·simp only [Bool.not_true, Bool.false_eq_true, if_false, ih, List.all_cons, hq, Bool.true_and]
theorem all_getD (l m : List UInt8) (n : Nat) (hl : l.length = n) (hm : m.length = n) : ((List.range n).all fun i => l.getD i 0 == m.getD i 0) = (l == m) := by
 rw [Bool.eq_iff_iff, List.all_eq_true, beq_iff_eq]
 constructor
 ·intro h
  apply List.ext_getElem (by omega)
  intro i h1 h2
  have := h i (by simp; omega)
  simpa [List.getD, List.getElem?_eq_getElem h1, List.getElem?_eq_getElem h2] using this
 ·rintro rfl i _
  simp
theorem run_eql_sum (l m : List UInt8) (hl : l.length = 32) (hm : m.length = 32) (W : World) :
  (binOp .eql 60 (.agg (l.map bv).toArray) (.agg (m.map bv).toArray)).run Tryz.prog W = .ok (.bool (l == m)) W := by
 obtain ⟨i0, hi, hz0, hz1, hz2⟩ := info_parts info_u8'
 simp only [binOp]
 have := run_equalIn_array (P := Tryz.prog) W 9999 (l.map bv).toArray (m.map bv).toArray Tryz.underlying60 hi
 rw [cells_u8, run_eqItems_bytes 9998 l m W (List.range 32) (fun i h => by simp at h; omega), all_getD l m 32 hl hm] at this
 simp [Op.equal, Op.maxDepth, this]
theorem run_neq_sum (l m : List UInt8) (hl : l.length = 32) (hm : m.length = 32) (W : World) :
  (binOp .neq 60 (.agg (l.map bv).toArray) (.agg (m.map bv).toArray)).run Tryz.prog W = .ok (.bool (l != m)) W := by
 obtain ⟨i0, hi, hz0, hz1, hz2⟩ := info_parts info_u8'
 simp only [binOp]
 have := run_equalIn_array (P := Tryz.prog) W 9999 (l.map bv).toArray (m.map bv).toArray Tryz.underlying60 hi
 rw [cells_u8, run_eqItems_bytes 9998 l m W (List.range 32) (fun i h => by simp at h; omega), all_getD l m 32 hl hm] at this
 simp [Op.equal, Op.maxDepth, this, bne]
end Go.Proofs.YtnlabkogebnioaaGreatDoor
namespace Go.Proofs.YtnlabkogebnioaaGreatDoor
open Go.RowKit
abbrev Sum32 : Type := { l : List UInt8 // l.length = 32 }
def encSum (k : Sum32) : Value := .agg (k.1.map bv).toArray
def encInt (n : Int) : Value := .int .i64 n
theorem part_byte (k : Sum32) (i : Nat) (h : i < 32) (w : World) : (part 5 (k.1.map bv).toArray i).run Tryz.prog w = .ok (.int .u8 (k.1.getD i 0).toNat) w := run_part_byte k.1 i (by rw [k.2]; exact h) w
theorem run_forIn_unit {P : Program} {w : World} (f : Nat → PUnit → Sem (ForInStep PUnit)) : ∀ l : List Nat, (∀ i ∈ l, (f i PUnit.unit).run P w = .ok (.yield PUnit.unit) w) → (forIn l PUnit.unit f).run P w = .ok PUnit.unit w
 | [], _ => by simp
 | i :: l, h => by
  have ih := run_forIn_unit f l (fun j hj => h j (by simp [hj]))
  simp only [List.forIn_cons, Sem.run_bind, h i (by simp), Result.andThen_ok]
  exact ih
theorem check_byte (b : Bool) (n : Nat) (m : Int) (w : World) : (Instr.checkKey b (n + 1) 5 (.int .u8 m)).run Tryz.prog w = .ok () w := by
 rw [Instr.checkKey]
 simp [run_underlying Tryz.underlying5]
theorem check_sum (b : Bool) (k : Sum32) (w : World) : (Instr.checkKey b 10000 60 (encSum k)).run Tryz.prog w = .ok () w := by
 obtain ⟨i0, hi, hz0, hz1, hz2⟩ := info_parts info_u8'
 rw [Instr.checkKey]
 simp only [Sem.run_bind, run_underlying Tryz.underlying60, Result.andThen_ok, encSum]
 simp only [Std.Legacy.Range.forIn_eq_forIn_range', Std.Legacy.Range.size, Nat.sub_zero, Nat.add_one_sub_one, Nat.div_one]
 rw [run_forIn_unit]
 ·rfl
 intro i hi2
 have hi3 : i < 32 := by simp at hi2; omega
 simp only [Sem.run_bind, run_sizeOf _ hi, Result.andThen_ok, cells_u8, Nat.mul_one, part_byte k i hi3 w, check_byte, Sem.run_pure]
theorem eq_sum (k q : Sum32) (w : World) : (Op.equal 60 (encSum k) (encSum q)).run Tryz.prog w = .ok (decide (k = q)) w := by
 obtain ⟨i0, hi, hz0, hz1, hz2⟩ := info_parts info_u8'
 have := run_equalIn_array (P := Tryz.prog) w 9999 (k.1.map bv).toArray (q.1.map bv).toArray Tryz.underlying60 hi
 rw [cells_u8, run_eqItems_bytes 9998 k.1 q.1 w (List.range 32) (fun i h => by simp at h; rw [k.2, q.2]; omega), all_getD k.1 q.1 32 k.2 q.2] at this
 have e : decide (k = q) = (k.1 == q.1) := by rw [Bool.eq_iff_iff, decide_eq_true_eq, beq_iff_eq, Subtype.ext_iff]
 rw [e]
 exact this
theorem keySum : KeyLaw Tryz.prog 60 encSum where
 check := check_sum
 find k ks w := by
  rw [run_findKey_eq w (by rw [Tryz.underlying60])]
  have key : ∀ (ks : List (Sum32 × Value × Nat)) (j : Nat), (Instr.findAsking 60 (encSum k) (ks.map fun p => (⟨encSum p.1, p.2.1, p.2.2⟩ : MapEntry)) j).run Tryz.prog w = .ok ((ks.findIdx? fun p => decide (k = p.1)).bind fun i => (ks[i]?).map fun p => (i + j, p.2.1)) w := by
   intro ks
   induction ks with
   | nil => intro j; simp [Instr.findAsking]
   | cons p ks ih =>
    intro j
    simp only [List.map_cons, Instr.findAsking, Sem.run_bind, eq_sum, Result.andThen_ok, List.findIdx?_cons]
    by_cases h : k = p.1
    ·simp [h]
    ·have hd : decide (k = p.1) = false := decide_eq_false h
     simp only [hd, Bool.false_eq_true, if_false, ih (j + 1)]
     cases ks.findIdx? fun p => decide (k = p.1) with
     | none => rfl
     | some i =>
      simp only [Option.map_some, Option.bind_some, List.getElem?_cons_succ]
      rw [show i + 1 + j = i + (j + 1) by omega]
  exact key ks 0
 same k := by
  unfold encSum
  rw [Instr.sameBits]
  simp only [beq_self_eq_true, Bool.true_and, List.all_eq_true]
  intro p hp
  obtain ⟨x, y⟩ := p
  have hxy : x = y := by
   obtain ⟨i, hi, he⟩ := List.mem_iff_getElem.1 hp
   simp only [List.getElem_zip, Prod.mk.injEq] at he
   rw [← he.1, ← he.2]
  subst hxy
  have hm := (List.of_mem_zip hp).1
  simp only [List.mem_map] at hm
  obtain ⟨u, _, rfl⟩ := hm
  simp [Instr.sameBits, bv]
end Go.Proofs.YtnlabkogebnioaaGreatDoor
namespace Go.Proofs.YtnlabkogebnioaaGreatDoor
open Go.RowKit
theorem encSum_size (k : Sum32) : (k.1.map bv).toArray.size = 32 := by have := k.2; simp [this]
theorem wideT3 : Wide Fence.wide := fun _ => trivial
end Go.Proofs.YtnlabkogebnioaaGreatDoor
namespace Go.Proofs.YtnlabkogebnioaaGreatDoor
open Go.RowKit
def cmpSum (a b : List UInt8) : Int := Lib.compareBytes a b
def Grows (w w' : World) : Prop := ∃ q os, w' = Sort.grow (w.drewN q) os
theorem Grows.bel {w w' : World} (h : Grows w w') : Below w.heap.size w w' := by
 obtain ⟨q, os, rfl⟩ := h
 refine ⟨rfl, rfl, rfl, ?_, fun k hk => ?_⟩
 ·show w.heap.size ≤ (w.heap ++ os).size
  rw [Array.size_append]; omega
 ·show (w.heap ++ os)[k]? = _
  rw [Array.getElem?_append_left hk]
def CmpIs (w : World) (n : Int) (e : Ending) (w' : World) : Prop := e = .returned (.int .i64 n) ∧ Grows w w'
theorem blk_bytes {w : World} {g : Nat} {t : TypeId} {l : List UInt8} (h : Blk w g t (l.map bv).toArray) : ∀ j (hj : j < l.length), w.cell? ⟨g, 0 + j, none⟩ = some (.int .u8 (l[j].toNat : Int)) := fun j hj => by
 rw [Nat.zero_add, h.cell, List.getElem?_toArray, List.getElem?_map, List.getElem?_eq_getElem hj]
 rfl
theorem Grows.refl (w : World) : Grows w w := ⟨0, #[], by simp [World.drewN]⟩
theorem Grows.drew {w w' : World} (h : Grows w w') : Grows w w'.drew := by
 obtain ⟨q, os, rfl⟩ := h
 exact ⟨q + 1, os, rfl⟩
theorem Grows.alloc {w w' : World} (h : Grows w w') (o : Obj) : Grows w (w'.alloc o) := by
 obtain ⟨q, os, rfl⟩ := h
 refine ⟨q, os.push o, ?_⟩
 simp only [World.alloc, Sort.grow, World.drewN, Array.push_eq_append, Array.append_assoc]
theorem X.boxA {P : Program} {l : Env} {x : Operand} {t ty : TypeId} {w : World} {cs : Array Value} (hx : ev l x = some (.agg cs)) : X P l (.box t x) ty w (.pointer (some ⟨w.heap.size, 0, none⟩)) (w.alloc (.cells cs t)) := fun ρ hρ => by
 unfold execOp
 simp [hρ _ _ hx, Instr.box, newVar, newRow, Value.cells]
end Go.Proofs.YtnlabkogebnioaaGreatDoor
namespace Go.Proofs.YtnlabkogebnioaaGreatDoor
open Go.RowKit Go.Sort Go.Lib
section
variable {α : Type} [Inhabited α]
theorem flat_get (enc : α → List Value) (k : Nat) (hk : ∀ x, (enc x).length = k) : ∀ (l : List α) (j : Nat), j < l.length * k → (l.flatMap enc)[j]? = some ((flatK enc k l.toArray)[j]!)
 | l, j, hj => by
  have h0 : 0 < k := by rcases Nat.eq_zero_or_pos k with h | h; subst h; simp at hj; exact h
  have hq : j / k < l.length := Nat.div_lt_of_lt_mul (by rw [Nat.mul_comm]; exact hj)
  have hm : j % k < k := Nat.mod_lt _ h0
  rw [get_flatK enc k l.toArray j (by simpa using hj)]
  have hx : l[j / k]? = some l[j / k] := List.getElem?_eq_getElem hq
  have hf := flat_at enc k l (j / k) l[j / k] (fun a _ => hk a) hx
  have e1 : (l.flatMap enc)[j]? = (((l.flatMap enc).drop (j / k * k)).take k)[j % k]? := by
   rw [List.getElem?_take, if_pos hm, List.getElem?_drop]
   congr 1
   have := Nat.div_add_mod j k
   rw [Nat.mul_comm] at this
   omega
  rw [e1, hf]
  have e2 : l.toArray[j / k]! = l[j / k] := by simp [hq]
  rw [e2, List.getElem?_eq_getElem (by rw [hk]; exact hm)]
  rw [getElem!_pos _ _ (by rw [hk]; exact hm)]
theorem row_holds {w : World} {e : TypeId} {k g o n c : Nat} {enc : α → List Value} (hk : ∀ x, (enc x).length = k) {l : List α} (h : Row w e k (.slice (some ⟨g, o, none⟩) n c) n (l.flatMap enc)) (hn : l.length = n) : HoldsK enc k w g o l.toArray := by
 obtain ⟨h1, h2⟩ := h
 rcases h2 with ⟨h2, _⟩ | ⟨g', o', cap, cur, fz, hv, hg, hc1, hc2, hcs, hx, hz⟩
 ·cases h2
 injection hv with hv _ hcap
 injection hv with hv
 injection hv with e1 e2
 subst e1 e2 hcap
 intro j hj
 rw [size_flatK] at hj
 have hj' : j < n * k := by rw [← hn]; simpa using hj
 have hle : n * k ≤ c * k := Nat.mul_le_mul_right k hc1
 have hfg := flat_get enc k hk l j (by rw [hn]; exact hj')
 have hcell : cur[o + j]? = some ((flatK enc k l.toArray)[j]!) := by
  rw [← hfg, ← hx, List.getElem?_take, if_pos hj', List.getElem?_drop, Array.getElem?_toList]
 refine ⟨?_, ?_⟩
 ·show w.cell? ⟨g, o + j, none⟩ = _
  simp only [World.cell?, hg]
  exact hcell
 ·simp only [World.frozen?, hg]
  have := hz (o + j) (by omega)
  simpa using this
theorem sort_row {w w' : World} {e : TypeId} {k g o n c n' : Nat} {enc : α → List Value} (hk : ∀ x, (enc x).length = k) {l : List α} (h : Row w e k (.slice (some ⟨g, o, none⟩) n c) n (l.flatMap enc)) (hn : l.length = n) {d' : Array α} {os : Array Obj} (hd : d'.size = n) (hw : w' = sortWorldK enc k w g o n' d' os) :
  Row w' e k (.slice (some ⟨g, o, none⟩) n c) n (d'.toList.flatMap enc) ∧ Chg (fun q => q = g) w w' := by
 have hH := row_holds hk h hn
 obtain ⟨h1, h2⟩ := h
 rcases h2 with ⟨h2, _⟩ | ⟨g', o', cap, cur, fz, hv, hg, hc1, hc2, hcs, hx, hz⟩
 ·cases h2
 injection hv with hv _ hcap
 injection hv with hv
 injection hv with e1 e2
 subst e1 e2 hcap
 have hlt : g < w.heap.size := (Array.getElem?_eq_some_iff.1 hg).1
 have hH' := holdsK_sortWorldK enc k w g o n' l.toArray d' os hlt hH (by rw [hd]; simpa using hn.symm)
 have hle : n * k ≤ c * k := Nat.mul_le_mul_right k hc1
 have hgo : (sortWorldK enc k w g o n' d' os).heap[g]? = some (.cells (putCells id o (flatK enc k d') cur) e fz) := by
  show ((putRow id (Sort.ahead w n') g o (flatK enc k d')).heap ++ os)[g]? = _
  rw [Array.getElem?_append_left (by rw [size_putRow]; exact hlt)]
  show (w.heap.modify g _)[g]? = _
  rw [Array.getElem?_modify, if_pos rfl, hg]
  rfl
 have hsz : (putCells id o (flatK enc k d') cur).size = cur.size := by simp [putCells]
 refine ⟨⟨?_, .inr ⟨g, o, c, putCells id o (flatK enc k d') cur, fz, rfl, by rw [hw]; exact hgo, hc1, hc2, by rw [hsz]; exact hcs, ?_, by rw [hsz]; exact hz⟩⟩, ?_⟩
 ·rw [flat_length enc k _ (fun a _ => hk a)]; simp [hd]
 ·apply List.ext_getElem?
  intro j
  by_cases hj : j < n * k
  ·rw [List.getElem?_take, if_pos hj, List.getElem?_drop, Array.getElem?_toList]
   have h3 := (hH' j (by rw [size_flatK, hd]; exact hj)).1
   simp only [World.cell?, hgo] at h3
   have h4 := flat_get enc k hk d'.toList j (by simpa [hd] using hj)
   rw [h4]
   exact h3
  ·rw [List.getElem?_eq_none (by rw [List.length_take]; omega), List.getElem?_eq_none (by rw [flat_length enc k _ (fun a _ => hk a)]; simp [hd]; omega)]
 ·rw [hw]
  refine ⟨rfl, rfl, rfl, ?_, fun q hq hne => ?_⟩
  ·show w.heap.size ≤ ((putRow id (Sort.ahead w n') g o (flatK enc k d')).heap ++ os).size
   rw [Array.size_append, size_putRow]
   show w.heap.size ≤ w.heap.size + _
   omega
  ·show ((putRow id (Sort.ahead w n') g o (flatK enc k d')).heap ++ os)[q]? = _
   rw [Array.getElem?_append_left (by rw [size_putRow]; exact hq)]
   show (w.heap.modify g _)[q]? = _
   rw [Array.getElem?_modify, if_neg (fun e => hne e.symm)]
end
end Go.Proofs.YtnlabkogebnioaaGreatDoor
namespace Go.Proofs.YtnlabkogebnioaaGreatDoor
open Go.RowKit Go.Shelf
def nameOf3 (P : Program) (f : FuncId) : String := ((P.funcs[f]?).map (·.name)).getD ""
theorem bears_of3 {P : Program} {f : FuncId} {B : Func} (h1 : (nameOf3 P f == "runtime.NumGoroutine") = false) (h2 : P.funcs[f]? = some { B with name := nameOf3 P f }) : Bears P f B := ⟨_, h1, h2⟩
theorem cmp_lt : ∀ a b : List UInt8, Lib.compareBytes a b < 0 ↔ a < b
 | [], [] => by simp [Lib.compareBytes]
 | [], _ :: _ => by simp [Lib.compareBytes]
 | _ :: _, [] => by simp [Lib.compareBytes]
 | x :: a, y :: b => by
  have ih := cmp_lt a b
  simp only [Lib.compareBytes, List.cons_lt_cons_iff]
  by_cases h1 : x < y
  ·simp [h1]
  ·by_cases h2 : y < x
   ·have hne : x ≠ y := fun e => by subst e; exact h1 h2
    simp [h1, h2, hne]
   ·have he : x = y := by
     apply UInt8.toNat.inj
     rw [UInt8.lt_iff_toNat_lt] at h1 h2
     omega
    subst he
    simp only [h1, if_false, false_or, true_and]
    exact ih
end Go.Proofs.YtnlabkogebnioaaGreatDoor
namespace Go.Proofs.YtnlabkogebnioaaGreatDoor
open Go.RowKit
def Ent.cells (e : Ent) : List Value := e.sum.map bv ++ [.int .i64 e.pack, .int .i64 e.pos, .int .i64 e.len]
theorem Ent.cells_length {e : Ent} (h : e.sum.length = 32) : e.cells.length = 35 := by simp [Ent.cells, h]
theorem Ent.size {e : Ent} (h : e.sum.length = 32) : e.cells.toArray.size = 35 := by simp [Ent.cells, h]
theorem entSum {w : World} {g : Nat} {t : TypeId} {x : Ent} (h : Blk w g t x.cells.toArray) : w.rangeAt g (0 + 0) (x.sum.map bv) := fun i v hv => by
 have hi := (List.getElem?_eq_some_iff.1 hv).1
 rw [Nat.zero_add, h.cell, List.getElem?_toArray]
 unfold Ent.cells
 rw [List.getElem?_append_left hi, hv]
theorem Grows.trans {w w' w'' : World} (h : Grows w w') (h' : Grows w' w'') : Grows w w'' := by
 obtain ⟨q, os, rfl⟩ := h
 obtain ⟨q', os', rfl⟩ := h'
 refine ⟨q + q', os ++ os', ?_⟩
 simp [Sort.grow, World.drewN, Array.append_assoc, Nat.add_assoc]
end Go.Proofs.YtnlabkogebnioaaGreatDoor
namespace Go.Proofs.YtnlabkogebnioaaGreatDoor
open Go.RowKit
theorem NaN_any (b : UInt8) (w : World) : Calls Tryz.prog 223 #[bv b] w fun e w' => e = .returned (.bool false) ∧ w' = w := by
 refine W_enter (args := [.int .u8 (b.toNat : Int)]) 6 Tryz.func223 rfl rfl rfl (W_sub [(0, .int .u8 (b.toNat : Int))] ?_ ⟨rfl, trivial⟩)
 have hbw := Below.refl w.heap.size w
 refine W_rs (sa rfl rfl (Wn (tN (W_rs (sm rfl rfl (sm rfl rfl (st (X.neq rfl rfl) rfl (sa rfl rfl (Wn (tN ?_))))))))))
 refine W_ret ?_
 exact (rT rfl rfl ⟨by simp, rfl⟩).1
def cmpU (a b : UInt8) : Int := if a < b then -1 else if b < a then 1 else 0
theorem CmpU_any (a b : UInt8) (w : World) : Calls Tryz.prog 199 #[bv a, bv b] w fun e w' => e = .returned (.int .i64 (cmpU a b)) ∧ w' = w := by
 refine W_enter (args := [.int .u8 (a.toNat : Int), .int .u8 (b.toNat : Int)]) 20 Tryz.func199 rfl rfl rfl (W_sub [(0, .int .u8 (a.toNat : Int)), (1, .int .u8 (b.toNat : Int))] ?_ ⟨rfl, rfl, trivial⟩)
 have hbw := Below.refl w.heap.size w
 refine W_rs (sa rfl rfl (Wn (tN (W_rs (sm rfl rfl (sc _ Tryz.func223 rfl (by kernel_rfl) rfl rfl ((NaN_any a _).mono ?_)))))))
 rintro e_ w_ ⟨rfl, rfl⟩
 refine cR (sa rfl rfl (Wn (tN (W_rs (sm rfl rfl (sc _ Tryz.func223 rfl (by kernel_rfl) rfl rfl ((NaN_any b _).mono ?_)))))))
 rintro e_ w_ ⟨rfl, rfl⟩
 refine cR (sa rfl rfl (Wn (tN (W_seq (W_rs (sm rfl rfl (Wn (tN (W_no rfl (rfl) (W_skip ?_))))))))))
 refine tN (W_seq (W_rs (sm rfl rfl (Wn (tN (W_no rfl (rfl) (W_skip (tN (W_seq (W_rs ?_))))))))))
 refine sm rfl rfl (sm rfl rfl (st (X.lss rfl rfl) rfl (Wn (tN (W_if rfl (fun h16 => ?_) (fun h16 => ?_))))))
 ·first | replace h16 := of_decide_eq_true h16 | replace h16 := of_decide_eq_false (notT h16) | replace h16 := notT h16 | skip
  refine W_rs (sa rfl rfl (Wn (tN (W_ret (tR ((rT rfl rfl ⟨?_, rfl⟩).1))))))
  rw [show cmpU a b = -1 from if_pos (UInt8.lt_iff_toNat_lt.2 (by omega))]
 ·first | replace h16 := of_decide_eq_false h16 | replace h16 := of_decide_eq_true (notF h16) | replace h16 := notF h16 | skip
  refine W_skip (tN (W_seq (W_rs (sm rfl rfl (sm rfl rfl (st (X.gtr rfl rfl) rfl (Wn (tN (W_if rfl (fun h19 => ?_) (fun h19 => ?_))))))))))
  ·first | replace h19 := of_decide_eq_true h19 | replace h19 := of_decide_eq_false (notT h19) | replace h19 := notT h19 | skip
   refine W_rs (sa rfl rfl (Wn (tN (W_ret (tR ((rT rfl rfl ⟨?_, rfl⟩).1))))))
   rw [show cmpU a b = 1 by unfold cmpU; rw [if_neg (fun h => by have := UInt8.lt_iff_toNat_lt.1 h; omega), if_pos (UInt8.lt_iff_toNat_lt.2 (by omega))]]
  ·first | replace h19 := of_decide_eq_false h19 | replace h19 := of_decide_eq_true (notF h19) | replace h19 := notF h19 | skip
   refine W_skip (tN (W_rs (sa rfl rfl (Wn (tN (W_ret ((rT rfl rfl ⟨?_, rfl⟩).1)))))))
   rw [show cmpU a b = 0 by unfold cmpU; rw [if_neg (fun h => by have := UInt8.lt_iff_toNat_lt.1 h; omega), if_neg (fun h => by have := UInt8.lt_iff_toNat_lt.1 h; omega)]]
theorem cmpB_step {l1 l2 : List UInt8} {j : Nat} {x y : UInt8} (hx : l1[j]? = some x) (hy : l2[j]? = some y) : Lib.compareBytes (l1.drop j) (l2.drop j) = if cmpU x y ≠ 0 then cmpU x y else Lib.compareBytes (l1.drop (j + 1)) (l2.drop (j + 1)) := by
 obtain ⟨h1, rfl⟩ := List.getElem?_eq_some_iff.1 hx
 obtain ⟨h2, rfl⟩ := List.getElem?_eq_some_iff.1 hy
 rw [List.drop_eq_getElem_cons h1, List.drop_eq_getElem_cons h2]
 simp only [Lib.compareBytes, cmpU]
 split
 ·simp
 ·split <;> simp
theorem SCmp_any (g1 o1 c1 g2 o2 c2 : Nat) (l1 l2 : List UInt8) (w : World) (hl : l1.length = l2.length) (hn : l1.length ≤ 1000000) (h1 : ∀ j (hj : j < l1.length), w.cell? ⟨g1, o1 + j, none⟩ = some (.int .u8 (l1[j].toNat : Int))) (h2 : ∀ j (hj : j < l2.length), w.cell? ⟨g2, o2 + j, none⟩ = some (.int .u8 (l2[j].toNat : Int))) :
  Calls Tryz.prog 170 #[.slice (some ⟨g1, o1, none⟩) l1.length c1, .slice (some ⟨g2, o2, none⟩) l2.length c2] w fun e w' => e = .returned (.int .i64 (Lib.compareBytes l1 l2)) ∧ w' = w := by
 refine W_enter (args := [.slice (some ⟨g1, o1, none⟩) l1.length c1, .slice (some ⟨g2, o2, none⟩) l2.length c2]) 36 Tryz.func170 rfl rfl rfl (W_sub [(0, .slice (some ⟨g1, o1, none⟩) l1.length c1), (1, .slice (some ⟨g2, o2, none⟩) l2.length c2)] ?_ ⟨rfl, rfl, trivial⟩)
 have hbw := Below.refl w.heap.size w
 refine W_rs (sa rfl rfl (Wn (tN (W_seq (W_rs (sm rfl rfl (st (X.lenL rfl rfl Tryz.underlying123) rfl (sm rfl rfl (Wn (tN ?_))))))))))
 refine W_block (W_lp (fun nw1_ lw1_ w1 => ∃ j : Nat, nw1_ = l1.length - j ∧ lw1_ = ([(0, .slice (some ⟨g1, o1, none⟩) l1.length c1), (1, .slice (some ⟨g2, o2, none⟩) l2.length c2), (9, .slice (some ⟨g1, o1, none⟩) l1.length c1), (10, .int .i64 l1.length), (11, .int .i64 j)] : Env) ∧ (j ≤ l1.length) ∧ (Lib.compareBytes l1 l2 = Lib.compareBytes (l1.drop j) (l2.drop j)) ∧ (w1 = w) ∧ (Below w.heap.size w w1)) _ ⟨_, ⟨0, rfl, rfl, by omega, rfl, rfl, hbw⟩, ⟨rfl, rfl, rfl, rfl, rfl, trivial⟩⟩ ?_)
 clear hbw
 rintro nw1_ lw1_ w1 ⟨j, rfl, rfl, hj, hq, hw, hbw⟩
 have hz_w1 := hbw.size
 refine W_rs (st (X.lss rfl rfl) rfl (Wn (tN (W_seq (W_if rfl (fun h12 => ?_) (fun h12 => ?_))))))
 ·first | replace h12 := of_decide_eq_true h12 | replace h12 := of_decide_eq_false (notT h12) | replace h12 := notT h12 | skip
  obtain ⟨x, hx⟩ : ∃ x, l1[j]? = some x := ⟨_, List.getElem?_eq_getElem (by omega)⟩
  obtain ⟨y, hy⟩ : ∃ y, l2[j]? = some y := ⟨_, List.getElem?_eq_getElem (by omega)⟩
  have hst := cmpB_step hx hy
  have hcx : w.cell? ⟨g1, o1 + j, none⟩ = some (bv x) := by rw [h1 j (by omega), (List.getElem?_eq_some_iff.1 hx).2]; rfl
  have hcy : w.cell? ⟨g2, o2 + j, none⟩ = some (bv y) := by rw [h2 j (by omega), (List.getElem?_eq_some_iff.1 hy).2]; rfl
  refine W_skip (tN (W_seq (W_block (W_rs (sm rfl rfl (st (X.idxA rfl rfl Tryz.underlying123 siz5 rfl (by omega)) rfl (st (X.ld rfl Tryz.underlying5 rfl (by rw [hw, Nat.mul_one]; exact hcx)) rfl ?_)))))))
  refine sa rfl rfl (sa rfl rfl (Wn (tN (W_seq (W_rs (sm rfl rfl (sm rfl rfl (st (X.lenL rfl rfl Tryz.underlying123) rfl (st (X.geq rfl rfl) rfl (Wn ?_))))))))))
  refine tN (W_if rfl (fun h19 => ?_) (fun h19 => ?_))
  ·first | replace h19 := of_decide_eq_true h19 | replace h19 := of_decide_eq_false (notT h19) | replace h19 := notT h19 | skip
   omega
  ·first | replace h19 := of_decide_eq_false h19 | replace h19 := of_decide_eq_true (notF h19) | replace h19 := notF h19 | skip
   refine W_skip (tN (W_rs (sm rfl rfl (sm rfl rfl (st (X.idxA rfl rfl Tryz.underlying123 siz5 rfl (by omega)) rfl (st (X.ld rfl Tryz.underlying5 rfl (by rw [hw, Nat.mul_one]; exact hcy)) rfl ?_))))))
   refine sa rfl rfl (Wn (tN (W_rs (sm rfl rfl (sm rfl rfl (sc _ Tryz.func199 rfl (by kernel_rfl) rfl rfl ((CmpU_any x y _).mono ?_)))))))
   rintro e_ w_ ⟨rfl, rfl⟩
   refine cR (sa rfl rfl (Wn (tN (W_rs (sm rfl rfl (st (X.neq rfl rfl) rfl (Wn (tN (W_if rfl (fun h28 => ?_) (fun h28 => ?_))))))))))
   ·first | replace h28 := of_decide_eq_true h28 | replace h28 := of_decide_eq_false (notT h28) | replace h28 := notT h28 | skip
    refine W_rs (sm rfl rfl (sa rfl rfl (Wn (tN (W_ret (bR (tR (tR (bR (tR ((rT rfl rfl ⟨?_, hw⟩).1)))))))))))
    rw [hq, hst, if_pos h28]
   ·first | replace h28 := of_decide_eq_false h28 | replace h28 := of_decide_eq_true (notF h28) | replace h28 := notF h28 | skip
    refine W_skip (bN (tN (W_reg (st (X.add64 rfl rfl (by omega)) rfl (sm rfl rfl (Wn (tN ⟨_, _, ?_, ⟨j + 1, rfl, rfl, by omega, by rw [hq, hst, if_neg h28], hw, hbw⟩, ⟨rfl, rfl, rfl, rfl, rfl, trivial⟩⟩)))))))
    omega
 ·first | replace h12 := of_decide_eq_false h12 | replace h12 := of_decide_eq_true (notF h12) | replace h12 := notF h12 | skip
  refine W_exit (tE (tE (bH (tN (W_seq (W_rs (sm rfl rfl (st (X.lenL rfl rfl Tryz.underlying123) rfl (sm rfl rfl (st (X.lenL rfl rfl Tryz.underlying123) rfl (st (X.lss rfl rfl) rfl (Wn (tN ?_)))))))))))))
  refine W_if rfl (fun h35 => ?_) (fun h35 => ?_)
  ·first | replace h35 := of_decide_eq_true h35 | replace h35 := of_decide_eq_false (notT h35) | replace h35 := notT h35 | skip
   omega
  ·first | replace h35 := of_decide_eq_false h35 | replace h35 := of_decide_eq_true (notF h35) | replace h35 := notF h35 | skip
   refine W_skip (tN (W_rs (sa rfl rfl (Wn (tN (W_ret ?_))))))
   obtain rfl : j = l1.length := by omega
   refine (rT rfl rfl ⟨?_, hw⟩).1
   rw [hq, List.drop_length, List.drop_of_length_le (by omega)]
   rfl
set_option maxRecDepth 10000 in
theorem Compare_fan (a b : List UInt8) (ha : a.length = 32) (hb : b.length = 32) (w : World) :
  Calls Tryz.prog 137 #[.agg (a.map bv).toArray, .agg (b.map bv).toArray] w (CmpIs w (cmpSum a b)) := by
 have k0 : Blk ((w.alloc (.cells (a.map bv).toArray 60)).alloc (.cells (b.map bv).toArray 60)) w.heap.size 60 (a.map bv).toArray := (Blk.new w _ _).alloc _
 have k1 : Blk ((w.alloc (.cells (a.map bv).toArray 60)).alloc (.cells (b.map bv).toArray 60)) (w.alloc (.cells (a.map bv).toArray 60)).heap.size 60 (b.map bv).toArray := Blk.new _ _ _
 have hG : Grows w ((w.alloc (.cells (a.map bv).toArray 60)).alloc (.cells (b.map bv).toArray 60)) := ((Grows.refl w).alloc _).alloc _
 refine W_enter (args := [.agg (a.map bv).toArray, .agg (b.map bv).toArray]) 8 Tryz.func137 rfl rfl rfl (W_sub [(0, .agg (a.map bv).toArray), (1, .agg (b.map bv).toArray)] ?_ ⟨rfl, rfl, trivial⟩)
 refine W_rs (st (X.boxA rfl) rfl (st (X.boxA rfl) rfl (sa rfl rfl (Wn (tN ?_)))))
 generalize (w.alloc (.cells (a.map bv).toArray 60)).heap.size = g2 at k1 ⊢
 generalize (w.alloc (.cells (a.map bv).toArray 60)).alloc (.cells (b.map bv).toArray 60) = w2 at k0 k1 hG ⊢
 refine W_drsN (fun _ => True) [0, 1, 2, 3] [true, true, false, true] (by kernel_rfl) (by kernel_rfl) trivial (oY rfl (fun W_ hW_ => X.slArr rfl Tryz.underlying60 siz5) rfl (oY rfl (fun W_ hW_ => X.slArr rfl Tryz.underlying60 siz5) rfl (oL rfl (fun Q_ hQ_ hP_ => ?_))))
 have hc := SCmp_any w.heap.size 0 32 g2 0 32 a b w2.drew (by rw [ha, hb]) (by omega) (blk_bytes k0.drew) (blk_bytes k1.drew)
 rw [ha, hb] at hc
 refine sc _ Tryz.func170 rfl (by kernel_rfl) rfl rfl (hc.mono ?_)
 rintro e_ w_ ⟨rfl, rfl⟩
 refine cR (Wn (hQ_ _ _ trivial (oY rfl (fun W_ hW_ => X.assign rfl) rfl (oN (nN (W_ret ?_))))))
 exact (rT rfl rfl ⟨rfl, hG.drew⟩).1
set_option maxRecDepth 10000 in
theorem MakeCmp_any (x y : Ent) (hx : x.sum.length = 32) (hy : y.sum.length = 32) (w : World) :
  Calls Tryz.prog 136 #[.agg x.cells.toArray, .agg y.cells.toArray] w (CmpIs w (cmpSum x.sum y.sum)) := by
 have k0 : Blk ((w.alloc (.cells x.cells.toArray 66)).alloc (.cells y.cells.toArray 66)) w.heap.size 66 x.cells.toArray := (Blk.new w _ _).alloc _
 have k1 : Blk ((w.alloc (.cells x.cells.toArray 66)).alloc (.cells y.cells.toArray 66)) (w.alloc (.cells x.cells.toArray 66)).heap.size 66 y.cells.toArray := Blk.new _ _ _
 have hG : Grows w ((w.alloc (.cells x.cells.toArray 66)).alloc (.cells y.cells.toArray 66)) := ((Grows.refl w).alloc _).alloc _
 refine W_enter (args := [.agg x.cells.toArray, .agg y.cells.toArray]) 10 Tryz.func136 rfl rfl rfl (W_sub [(0, .agg x.cells.toArray), (1, .agg y.cells.toArray)] ?_ ⟨rfl, rfl, trivial⟩)
 refine W_rs (st (X.boxA rfl) rfl (st (X.boxA rfl) rfl (sa rfl rfl (Wn (tN ?_)))))
 generalize (w.alloc (.cells x.cells.toArray 66)).heap.size = g2 at k1 ⊢
 generalize (w.alloc (.cells x.cells.toArray 66)).alloc (.cells y.cells.toArray 66) = w2 at k0 k1 hG ⊢
 refine W_rs (st (X.fa fa66_0 rfl) rfl (st (X.ldN (cs := x.sum.map bv) rfl Tryz.underlying60 rfl (by rw [List.length_map, hx]; exact siz60) (entSum k0)) rfl ?_))
 refine st (X.fa fa66_0 rfl) rfl (st (X.ldN (cs := y.sum.map bv) rfl Tryz.underlying60 rfl (by rw [List.length_map, hy]; exact siz60) (entSum k1)) rfl ?_)
 refine sc _ Tryz.func137 rfl (by kernel_rfl) rfl rfl ((Compare_fan x.sum y.sum hx hy _).mono ?_)
 rintro e_ w3 ⟨rfl, hG2⟩
 refine cR (sa rfl rfl (Wn (tN (W_ret ?_))))
 exact (rT rfl rfl ⟨rfl, hG.trans hG2⟩).1
end Go.Proofs.YtnlabkogebnioaaGreatDoor
namespace Go.Proofs.YtnlabkogebnioaaGreatDoor
open Go.RowKit Go.Shelf
def sortRenEnt : Ren :=
  { f := fun x => match x with | 6 => 135 | 15 => 169 | 14 => 168 | 28 => 197 | 29 => 198 | 20 => 189 | 21 => 190 | 22 => 191 | 23 => 192 | 24 => 193 | 25 => 194 | 26 => 195 | 27 => 196 | 46 => 218 | 47 => 219 | 48 => 220 | 49 => 221 | 50 => 222 | 57 => 235 | n => n
    t := fun x => match x with | 22 => 23 | 24 => 66 | 25 => 212 | 3 => 3 | 39 => 173 | 0 => 0 | 53 => 145 | 55 => 165 | 4 => 4 | 46 => 258 | 45 => 257 | 50 => 128 | 5 => 5 | 9 => 9 | 66 => 280 | 70 => 283 | 76 => 291 | 77 => 292 | n => n
    g := fun x => x }
set_option maxRecDepth 100000 in
theorem sortLaysEnt : SlLaysF0.n6 Tryz.prog sortRenEnt := by
 constructor
 all_goals first | exact bears_of3 (by kernel_rfl) (by kernel_rfl) | kernel_rfl | exact fun _ => by kernel_rfl
abbrev Ent32 := { e : Ent // e.sum.length = 32 }
def cmpE (x y : Ent32) : Int := cmpSum x.1.sum y.1.sum
theorem ltOf_cmpE (x y : Ent32) : ltOf cmpE x y = decide (x.1.sum < y.1.sum) := by
 unfold ltOf cmpE cmpSum
 rw [decide_eq_decide]
 exact cmp_lt x.1.sum y.1.sum
theorem swoEnt : Sort.SWO (ltOf cmpE) where
 irrefl x := by rw [ltOf_cmpE]; exact decide_eq_false (klt_irrefl _)
 trans x y z h1 h2 := by rw [ltOf_cmpE] at *; exact decide_eq_true (klt_trans (of_decide_eq_true h1) (of_decide_eq_true h2))
 ntrans x y z h1 h2 := by
  rw [ltOf_cmpE] at *
  refine decide_eq_false fun h => ?_
  have h1 := of_decide_eq_false h1
  have h2 := of_decide_eq_false h2
  rcases klt_tri x.1.sum y.1.sum with k | k | k
  ·exact h1 k
  ·exact h2 (k ▸ h)
  ·exact h2 (klt_trans k h)
instance : Inhabited Ent32 := ⟨⟨⟨List.replicate 32 0, 0, 0, 0⟩, by simp⟩⟩
def encE (k : Ent32) : List Value := k.1.cells
theorem encE_len (k : Ent32) : (encE k).length = 35 := Ent.cells_length k.2
theorem encE_one (k : Ent32) : ∀ v ∈ encE k, v.oneCell' = true := by
 intro v hv
 simp only [encE, Ent.cells, List.mem_append, List.mem_map, List.mem_cons, List.not_mem_nil, or_false] at hv
 rcases hv with ⟨u, _, rfl⟩ | rfl | rfl | rfl <;> rfl
set_option maxRecDepth 10000 in
theorem SortEnts_any (v : Value) (l : List Ent32) (w : World) (hR : Row w 66 35 v l.length (l.flatMap encE)) (hl : l.length ≤ 1000000) :
  Calls Tryz.prog 135 #[v, .func (.func 136) #[] #[]] w fun e w' => ∃ xs : List Ent32, e = .returned (.tuple #[]) ∧ xs.Perm l ∧ xs.Pairwise (fun x y => ¬ y.1.sum < x.1.sum) ∧ Row w' 66 35 v xs.length (xs.flatMap encE) ∧ Chg (fun k => v.ownBlock = some k) w w' := by
 rcases Nat.eq_zero_or_pos l.length with h0 | h0
 ·obtain rfl : l = [] := List.eq_nil_of_length_eq_zero h0
  obtain ⟨a, c, rfl, _, _⟩ := hR.shape
  refine (AnyF.slices_SortFunc_none sortLaysEnt a c _ w).mono ?_
  rintro e w' ⟨rfl, rfl⟩
  exact ⟨[], rfl, .refl _, .nil, hR, Chg.refl _ _⟩
 ·obtain ⟨g, o, c, rfl, hg⟩ := hR.reads.some_ h0
  have hcmp : CmpLays Tryz.prog 136 #[] encE 35 cmpE g o l.toArray.size w := fun m os dk hdk x y => by
   refine (MakeCmp_any x.1 y.1 x.2 y.2 _).mono ?_
   rintro e w' ⟨rfl, hG⟩
   exact ⟨rfl, hG⟩
  have hsz : l.toArray.size = l.length := by simp
  refine (AnyQ.slices_SortFunc (α := Ent32) sortLaysEnt 35 (fun _ => by kernel_rfl) (fun _ => by kernel_rfl) encE encE_len encE_one cmpE swoEnt 136 #[] g o c l.toArray w (enters_of Tryz.func136 (by kernel_rfl) rfl) hcmp (row_holds encE_len hR rfl) hg (by rw [hsz]; omega)).mono ?_
  rintro e w' ⟨rfl, d', n', os, hp, hs, hw⟩
  have hdz : d'.size = l.length := by rw [hp.1]; exact hsz
  have hperm : d'.toList.Perm l := by
   have h3 := hp.2.2
   rw [hsz] at h3
   have e1 : (d'.extract 0 l.length).toList = d'.toList := by simp [← hdz]
   have e2 : (l.toArray.extract 0 l.length).toList = l := by simp [List.extract_eq_take_drop]
   rw [e1, e2] at h3
   exact h3
  obtain ⟨hRow, hC⟩ := sort_row encE_len hR rfl hdz hw
  refine ⟨d'.toList, rfl, hperm, ?_, ?_, hC.mono (fun k _ hk => by subst hk; rfl)⟩
  ·rw [List.pairwise_iff_getElem]
   intro i j hi hj hij
   have hi' : i < d'.size := by simpa using hi
   have hj' : j < d'.size := by simpa using hj
   have h4 := hs i j (Nat.zero_le _) hij (by rw [hsz, ← hdz]; exact hj')
   rw [ltOf_cmpE, getElem!_pos d' j hj', getElem!_pos d' i hi'] at h4
   have h5 := of_decide_eq_false h4
   simpa only [Array.getElem_toList] using h5
  ·have e3 : d'.toList.length = l.length := by simpa using hdz
   rw [e3]
   exact hRow
end Go.Proofs.YtnlabkogebnioaaGreatDoor
namespace Go.Proofs.YtnlabkogebnioaaGreatDoor
open Go.RowKit
theorem all_at {p : Int → Bool} {l : List Int} {j : Nat} {x : Int} (h : l[j]? = some x) : (l.drop j).all p = (p x && (l.drop (j + 1)).all p) := by
 obtain ⟨hj, rfl⟩ := List.getElem?_eq_some_iff.1 h
 rw [List.drop_eq_getElem_cons hj, List.all_cons]
theorem May_any (v : Value) (ns : List Int) (w : World) (h : Reads w 1 v ns.length (ns.map (Value.int .i64))) : Calls Tryz.prog 134 #[v] w fun e w' => e = .returned (.bool (ns.all fitN)) ∧ Below w.heap.size w w' := by
 obtain ⟨a, cp, rfl, hn, hcp⟩ := h.shape
 refine W_enter (args := [.slice a ns.length cp]) 18 Tryz.func134 rfl rfl rfl (W_sub [(0, .slice a ns.length cp)] ?_ ⟨rfl, trivial⟩)
 have hbw := Below.refl w.heap.size w
 refine W_rs (sa rfl rfl (Wn (tN (W_seq (W_rs (sm rfl rfl (st (X.lenL rfl rfl Tryz.underlying39) rfl (sm rfl rfl (Wn (tN ?_))))))))))
 refine W_block (W_lp (fun nw1_ lw1_ w1 => ∃ j : Nat, nw1_ = ns.length - j ∧ lw1_ = ([(5, .slice a ns.length cp), (6, .int .i64 ns.length), (7, .int .i64 j)] : Env) ∧ (j ≤ ns.length) ∧ (ns.all fitN = (ns.drop j).all fitN) ∧ (Below w.heap.size w w1)) _ ⟨_, ⟨0, rfl, rfl, by omega, rfl, hbw⟩, ⟨rfl, rfl, rfl, trivial⟩⟩ ?_)
 clear hbw
 rintro nw1_ lw1_ w1 ⟨j, rfl, rfl, hj, hq, hbw⟩
 have hz_w1 := hbw.size
 refine W_rs (st (X.lss rfl rfl) rfl (Wn (tN (W_seq (W_if rfl (fun h8 => ?_) (fun h8 => ?_))))))
 ·first | replace h8 := of_decide_eq_true h8 | replace h8 := of_decide_eq_false (notT h8) | replace h8 := notT h8 | skip
  obtain ⟨x, hx⟩ : ∃ x, ns[j]? = some x := ⟨_, List.getElem?_eq_getElem (by omega)⟩
  have hxv : (ns.map (Value.int .i64))[j]? = some (.int .i64 x) := by rw [List.getElem?_map, hx]; rfl
  obtain ⟨g1, o1, c', hv, hg1⟩ := (h.bel hbw).some_ (by omega)
  injection hv with e1 _ e3
  subst e1 e3
  refine W_skip (tN (W_seq (W_block (W_rs (st (X.idxA rfl rfl Tryz.underlying39 siz3 rfl (by omega)) rfl (st (X.ld rfl Tryz.underlying3 rfl (by rw [Nat.mul_one]; exact (h.bel hbw).cellAt (by omega) hxv)) rfl ?_))))))
  refine sa rfl rfl (Wn (tN (W_rs (sm rfl rfl (st (X.lss rfl rfl) rfl (sb rfl rfl (fun h13 => ?_) (fun h13 => ?_)))))))
  ·first | replace h13 := of_decide_eq_true h13 | replace h13 := of_decide_eq_false (notT h13) | replace h13 := notT h13 | skip
   refine gN (g := 13) rfl rfl rfl rfl (gN (g := 13) rfl rfl rfl rfl (st (X.pickT rfl rfl) rfl (Wn (tN (W_yes rfl (rfl) (W_rs (sa rfl rfl (Wn (tN (W_ret (bR (tR (tR (bR (tR ?_)))))))))))))))
   refine (rT rfl rfl ⟨?_, hbw⟩).1
   rw [hq, all_at hx, show fitN x = false from decide_eq_false (by omega)]
   rfl
  ·first | replace h13 := of_decide_eq_false h13 | replace h13 := of_decide_eq_true (notF h13) | replace h13 := notF h13 | skip
   refine gY (g := 13) rfl rfl rfl (sm rfl rfl (gY (g := 13) rfl rfl rfl (st (X.gtr rfl rfl) rfl (st (X.pickF rfl rfl) rfl (Wn (tN (W_if rfl (fun h16 => ?_) (fun h16 => ?_))))))))
   ·first | replace h16 := of_decide_eq_true h16 | replace h16 := of_decide_eq_false (notT h16) | replace h16 := notT h16 | skip
    refine W_rs (sa rfl rfl (Wn (tN (W_ret (bR (tR (tR (bR (tR ((rT rfl rfl ⟨?_, hbw⟩).1))))))))))
    rw [hq, all_at hx, show fitN x = false from decide_eq_false (by omega)]
    rfl
   ·first | replace h16 := of_decide_eq_false h16 | replace h16 := of_decide_eq_true (notF h16) | replace h16 := notF h16 | skip
    refine W_skip (bN (tN (W_reg (st (X.add64 rfl rfl (by omega)) rfl (sm rfl rfl (Wn (tN ⟨_, _, ?_, ⟨j + 1, rfl, rfl, by omega, by rw [hq, all_at hx, show fitN x = true from decide_eq_true (by omega)]; rfl, hbw⟩, ⟨rfl, rfl, rfl, trivial⟩⟩)))))))
    omega
 ·first | replace h8 := of_decide_eq_false h8 | replace h8 := of_decide_eq_true (notF h8) | replace h8 := notF h8 | skip
  refine W_exit (tE (tE (bH (tN (W_rs (sa rfl rfl (Wn (tN (W_ret ?_)))))))))
  obtain rfl : j = ns.length := by omega
  refine (rT rfl rfl ⟨?_, hbw⟩).1
  rw [hq, List.drop_length]
  rfl
theorem eqSlNil (w : World) (a : Addr) (n c : Nat) : (binOp .eql 23 (.slice (some a) n c) (.slice none 0 0)).run Tryz.prog w = .ok (.bool false) w := by kernel_rfl
theorem eqSlNil0 (w : World) (n c : Nat) : (binOp .eql 23 (.slice none n c) (.slice none 0 0)).run Tryz.prog w = .ok (.bool true) w := by kernel_rfl
theorem X.slNilF {l : Env} {x : Operand} {w : World} {t' ty : TypeId} {a : Addr} {n c : Nat} (hx : ev l x = some (.slice (some a) n c)) : X Tryz.prog l (.binOp .eql 23 x (.const (.slice none 0 0)) t') ty w (.bool false) w :=
 X.bin hx rfl (fun _ _ => by unfold eqGuard; simp) (eqSlNil w a n c)
theorem X.slNil0 {l : Env} {x : Operand} {w : World} {t' ty : TypeId} {n c : Nat} (hx : ev l x = some (.slice none n c)) : X Tryz.prog l (.binOp .eql 23 x (.const (.slice none 0 0)) t') ty w (.bool true) w :=
 X.bin hx rfl (fun _ _ => by unfold eqGuard; simp) (eqSlNil0 w n c)
theorem bsl0 (w : World) : (Instr.buildSlice 23 0 #[]).run Tryz.prog w = .ok (.slice (some ⟨w.heap.size, 0, none⟩) 0 0) (w.alloc (.cells #[] 66)) := by kernel_rfl
theorem EntClone_any (v : Value) (l : List Ent) (w : World) (h : Reads w 35 v l.length (l.flatMap Ent.cells)) (h32 : ∀ e ∈ l, e.sum.length = 32) (hl : l.length ≤ 1000000) : Calls Tryz.prog 49 #[v] w fun e w' => ∃ v', e = .returned v' ∧ Row w' 66 35 v' l.length (l.flatMap Ent.cells) ∧ (∀ k, v'.ownBlock = some k → w.heap.size ≤ k) ∧ Below w.heap.size w w' := by
 obtain ⟨a, cp, rfl, hn, hcp⟩ := h.shape
 have hone : ∀ u ∈ l.flatMap Ent.cells, u.oneCell' = true := fun u hu => by
  obtain ⟨e, he, hu⟩ := List.mem_flatMap.1 hu
  exact encE_one ⟨e, h32 e he⟩ u hu
 rcases a with _ | a
 ·have h0 : l = [] := by
   refine List.eq_nil_of_length_eq_zero (Nat.eq_zero_of_not_pos fun hp => ?_)
   obtain ⟨g1, o1, c', hv, _⟩ := h.some_ hp
   injection hv with e1
   cases e1
  subst h0
  refine W_enter (args := [.slice none 0 cp]) 8 Tryz.func49 rfl rfl rfl (W_sub [(0, .slice none 0 cp)] ?_ ⟨rfl, trivial⟩)
  have hbw := Below.refl w.heap.size w
  refine W_rs (sa rfl rfl (Wn (tN (W_seq (W_rs (sm rfl rfl (st (X.slNil0 rfl) rfl (Wn (tN (W_yes rfl (rfl) ?_))))))))))
  refine W_rs (sa rfl rfl (Wn (tN (W_ret (tR ?_)))))
  exact (rT rfl rfl ⟨_, rfl, Row.nil _ _ _, fun k hk => by simp [Value.ownBlock] at hk, hbw⟩).1
 ·skip
  refine W_enter (args := [.slice (some a) l.length cp]) 8 Tryz.func49 rfl rfl rfl (W_sub [(0, .slice (some a) l.length cp)] ?_ ⟨rfl, trivial⟩)
  have hbw := Below.refl w.heap.size w
  refine W_rs (sa rfl rfl (Wn (tN (W_seq (W_rs (sm rfl rfl (st (X.slNilF rfl) rfl (Wn (tN (W_no rfl (rfl) ?_))))))))))
  refine W_skip (tN (W_rs (sbs (ps := []) 35 rfl (bsl0 _) (by simp [maxLen]) rfl rfl (fun g5 w1 hR5 hg5 hb => ?_))))
  replace hbw := bthen hbw hb
  have hz30 := hb.size
  clear hb
  refine sm rfl rfl (sapp rfl rfl Tryz.underlying23 inf66 rfl (by decide) hR5 ((h.bel hbw).src Tryz.underlying23 hone) (by simp only [maxLen]; omega) (by omega) rfl (fun v' w2 hR' hCc hv' => ?_))
  replace hbw := bapp hbw hCc (fun k hk => by simp [Value.ownBlock] at hk; omega)
  have hO' := own_next hv' (B := w.heap.size) (fun k hk => by simp [Value.ownBlock] at hk; omega) (by omega)
  clear hCc hv'
  refine sa rfl rfl (Wn (tN (W_ret ?_)))
  exact (rT rfl rfl ⟨v', rfl, by simpa using hR', hO', hbw⟩).1
end Go.Proofs.YtnlabkogebnioaaGreatDoor
namespace Go.Proofs.YtnlabkogebnioaaGreatDoor
open Go.RowKit
theorem CompareB_any (a b : List UInt8) (ha : a.length = 32) (hb : b.length = 32) (w : World) :
  Calls Tryz.prog 137 #[.agg (a.map bv).toArray, .agg (b.map bv).toArray] w fun e w' => e = .returned (.int .i64 (cmpSum a b)) ∧ Below w.heap.size w w' := (Compare_fan a b ha hb w).mono fun _ _ h => ⟨h.1, h.2.bel⟩
theorem Less_any (a b : List UInt8) (ha : a.length = 32) (hb_ : b.length = 32) (w : World) :
  Calls Tryz.prog 115 #[.agg (a.map bv).toArray, .agg (b.map bv).toArray] w fun e w' => e = .returned (.bool (decide (a < b))) ∧ Below w.heap.size w w' := by
 refine W_enter (args := [.agg (a.map bv).toArray, .agg (b.map bv).toArray]) 9 Tryz.func115 rfl rfl rfl (W_sub [(0, .agg (a.map bv).toArray), (1, .agg (b.map bv).toArray)] ?_ ⟨rfl, rfl, trivial⟩)
 have hbw := Below.refl w.heap.size w
 refine W_rs (sboxA rfl rfl (fun g2 w1 hB2 hg2 hb hl2 => ?_))
 replace hbw := bthen hbw hb
 have hz_w1 := hb.size
 clear hb
 refine sboxA rfl rfl (fun g3 w2 hB3 hg3 hb hl3 => ?_)
 replace hbw := bthen hbw hb
 replace hB2 := hB2.bel hb
 have hz_w2 := hb.size
 clear hb
 refine sa rfl rfl (Wn (tN (W_rs (st (X.ldBN (cs := (a.map bv).toArray) rfl hB2 Tryz.underlying60 rfl (by rw [encSum_size ⟨a, ha⟩]; exact siz60)) rfl ?_))))
 refine st (X.ldBN (cs := (b.map bv).toArray) rfl hB3 Tryz.underlying60 rfl (by rw [encSum_size ⟨b, hb_⟩]; exact siz60)) rfl ?_
 refine sc _ Tryz.func137 rfl (by kernel_rfl) rfl rfl ((CompareB_any a b ha hb_ _).mono ?_)
 rintro e_ w3 ⟨rfl, hb⟩
 refine cR ?_
 replace hbw := bthen hbw hb
 replace hB2 := hB2.bel hb
 replace hB3 := hB3.bel hb
 have hz_w3 := hb.size
 clear hb
 refine st (X.lss rfl rfl) rfl (sa rfl rfl (Wn (tN (W_ret ((rT rfl rfl ⟨?_, hbw⟩).1)))))
 congr 2
 rw [decide_eq_decide]
 exact cmp_lt a b
theorem ILen_any (v : Value) (l : List Ent) (w : World) (h : Reads w 35 v l.length (l.flatMap Ent.cells)) : Calls Tryz.prog 30 #[.agg #[v]] w fun e w' => e = .returned (.int .i64 l.length) ∧ Below w.heap.size w w' := by
 obtain ⟨a, cp, rfl, hn, hcp⟩ := h.shape
 refine W_enter (args := [.agg #[.slice a l.length cp]]) 6 Tryz.func30 rfl rfl rfl (W_sub [(0, .agg #[.slice a l.length cp])] ?_ ⟨rfl, trivial⟩)
 have hbw := Below.refl w.heap.size w
 refine W_rs (sboxA rfl rfl (fun g1 w1 hB1 hg1 hb hl1 => ?_))
 replace hbw := bthen hbw hb
 have hz_w1 := hb.size
 clear hb
 refine sa rfl rfl (Wn (tN (W_rs (st (X.fa fa25_0 rfl) rfl (st (X.ldL rfl hB1 Tryz.underlying23 rfl rfl) rfl (st (X.lenL rfl rfl Tryz.underlying23) rfl (sa rfl rfl (Wn (tN (W_ret ?_))))))))))
 exact (rT rfl rfl ⟨rfl, hbw⟩).1
end Go.Proofs.YtnlabkogebnioaaGreatDoor
namespace Go.Proofs.YtnlabkogebnioaaGreatDoor
open Go.RowKit
theorem fbs4 (a b c d : UInt8) (w : World) : (Instr.buildSlice 123 4 #[(0, bv a), (1, bv b), (2, bv c), (3, bv d)]).run Tryz.prog w = .ok (.slice (some ⟨w.heap.size, 0, none⟩) 4 4) (w.alloc (.cells #[bv a, bv b, bv c, bv d] 5)) := by kernel_rfl
theorem fnumber_any (v : Value) (s : List UInt8) (n : Int) (w : World) (hR : Row w 5 1 v s.length (s.map bv)) (hs : s.length ≤ 100000000) :
  Calls Tryz.prog 77 #[v, .int .i64 n] w fun e w' => ∃ v', e = .returned v' ∧ Row w' 5 1 v' (s.length + 4) ((s ++ four n).map bv) ∧ Chg (fun k => v.ownBlock = some k) w w' ∧ (v'.ownBlock = v.ownBlock ∨ ∃ k, v'.ownBlock = some k ∧ w.heap.size ≤ k) := by
 refine W_enter (args := [v, .int .i64 n]) 19 Tryz.func77 rfl rfl rfl (W_sub [(0, v), (1, .int .i64 n)] ?_ ⟨rfl, rfl, trivial⟩)
 refine W_rs (sa rfl rfl (Wn (tN (W_rs (sm rfl rfl (sm rfl rfl (st (X.convI rfl Tryz.underlying3 Tryz.underlying5 (wb n)) rfl (sm rfl rfl (st (X.shr (q := 256) rfl rfl (by decide) (by decide) rfl rfl) rfl (st (X.convI rfl Tryz.underlying3 Tryz.underlying5 (wb _)) rfl ?_))))))))))
 refine sm rfl rfl (st (X.shr (q := 65536) rfl rfl (by decide) (by decide) rfl rfl) rfl (st (X.convI rfl Tryz.underlying3 Tryz.underlying5 (wb _)) rfl (sm rfl rfl (st (X.shr (q := 16777216) rfl rfl (by decide) (by decide) rfl rfl) rfl (st (X.convI rfl Tryz.underlying3 Tryz.underlying5 (wb _)) rfl (sbs (ps := [(0, .tmp 7), (1, .tmp 10), (2, .tmp 13), (3, .tmp 16)]) 1 rfl (fbs4 _ _ _ _ _) (by simp [maxLen]) rfl rfl (fun g17 w1 hR17 hg17 hb => ?_)))))))
 have hR1 := hR.bel hb
 refine sapp rfl rfl Tryz.underlying123 inf5 rfl (by decide) hR1 (hR17.reads.src Tryz.underlying123 (by intro z hz; simp [bv] at hz; rcases hz with rfl | rfl | rfl | rfl <;> rfl)) (by simp only [maxLen]; omega) (by omega) rfl (fun v' w2 hR' hC hv' => ?_)
 refine sa rfl rfl (Wn (tN (W_ret ((rT rfl rfl ⟨v', rfl, ?_, ?_, ?_⟩).1))))
 ·rw [List.map_append]; exact hR'
 ·exact (Chg.of_below hb _).trans hC (fun i _ h => h)
 ·rcases hv' with h | h
  ·exact .inl h
  ·exact .inr ⟨_, h, hb.size⟩
theorem fnumbered_any (s : List UInt8) (i : Nat) (w : World) (hi : i + 4 ≤ s.length) (hs : s.length < 100000000) :
  Calls Tryz.prog 114 #[str s, .int .i64 i] w fun e w' => e = .returned (.int .i64 (num (s.drop i) : Nat)) ∧ Below w.heap.size w w' := by
 obtain ⟨a, ha⟩ : ∃ a, s.getD i 0 = a := ⟨_, rfl⟩
 obtain ⟨b, hb⟩ : ∃ a, s.getD (i + 1) 0 = a := ⟨_, rfl⟩
 obtain ⟨c, hc⟩ : ∃ a, s.getD (i + 2) 0 = a := ⟨_, rfl⟩
 obtain ⟨d, hd⟩ : ∃ a, s.getD (i + 3) 0 = a := ⟨_, rfl⟩
 have hn : num (s.drop i) = num4 a b c d := by rw [numAt, ha, hb, hc, hd]
 have la := lt_u8 a
 have lb := lt_u8 b
 have lc := lt_u8 c
 have ld := lt_u8 d
 have o1 := or_add a.toNat b.toNat 8 (by omega) (by omega)
 have o2 := or_add (a.toNat + b.toNat * 256) c.toNat 16 (by omega) (by omega)
 have o3 := or_add (a.toNat + b.toNat * 256 + c.toNat * 65536) d.toNat 24 (by omega) (by omega)
 have hz : ((a.toNat + b.toNat * 256 + c.toNat * 65536 + d.toNat * 16777216 : Nat) : Int) = ((num4 a b c d : Nat) : Int) := by
  unfold num4
  omega
 refine W_enter (args := [str s, .int .i64 i]) 30 Tryz.func114 rfl rfl rfl (W_sub [(0, str s), (1, .int .i64 i)] ?_ ⟨rfl, rfl, trivial⟩)
 have hbw := Below.refl w.heap.size w
 refine W_rs (sa rfl rfl (Wn (tN (W_drsN (fun _ => True) [0, 1, 2, 3, 4, 5, 6, 7, 8, 9, 10, 11, 12, 13, 14, 15, 16, 17, 18, 19, 20, 21, 22, 23, 24, 25] [true, true, true, true, true, true, true, true, true, true, true, true, true, true, true, true, true, true, true, true, true, true, true, true, true, true] (by kernel_rfl) (by kernel_rfl) (trivial) ?_))))
 obtain ⟨w1, hw_⟩ : ∃ w1 : World, w1 = World.drew w := ⟨_, rfl⟩
 rw [← hw_]
 have hb : Below w.heap.size w w1 := by rw [hw_]; exact bdrew (Below.refl _ _)
 clear hw_
 have hS : True := trivial
 replace hbw := bthen hbw hb
 have hz_w1 := hb.size
 clear hb
 refine oY rfl (fun W_ hW_ => (X.move rfl)) rfl (oY rfl (fun W_ hW_ => (X.move rfl)) rfl (oY rfl (fun W_ hW_ => (X.idxS (q := i) rfl rfl Tryz.underlying9 rfl (by omega))) rfl (oY rfl (fun W_ hW_ => (X.convI (z := (a.toNat : Int)) rfl Tryz.underlying5 Tryz.underlying3 (by rw [ha]; exact w64 (by omega)))) rfl ?_)))
 refine oY rfl (fun W_ hW_ => (X.move rfl)) rfl (oY rfl (fun W_ hW_ => (X.move rfl)) rfl (oY rfl (fun W_ hW_ => (X.add64 rfl rfl (by omega))) rfl (oY rfl (fun W_ hW_ => (X.idxS (q := i + 1) rfl rfl Tryz.underlying9 rfl (by omega))) rfl (oY rfl (fun W_ hW_ => (X.convI (z := (b.toNat : Int)) rfl Tryz.underlying5 Tryz.underlying3 (by rw [hb]; exact w64 (by omega)))) rfl ?_))))
 refine oY rfl (fun W_ hW_ => (X.shl (q := 256) (z := (b.toNat : Int) * 256) rfl rfl (by decide) (by decide) rfl rfl (w64 (by omega)))) rfl (oY rfl (fun W_ hW_ => (X.bits (by simp) rfl rfl o1)) rfl ?_)
 refine oY rfl (fun W_ hW_ => (X.move rfl)) rfl (oY rfl (fun W_ hW_ => (X.move rfl)) rfl (oY rfl (fun W_ hW_ => (X.add64 rfl rfl (by omega))) rfl (oY rfl (fun W_ hW_ => (X.idxS (q := i + 2) rfl rfl Tryz.underlying9 rfl (by omega))) rfl (oY rfl (fun W_ hW_ => (X.convI (z := (c.toNat : Int)) rfl Tryz.underlying5 Tryz.underlying3 (by rw [hc]; exact w64 (by omega)))) rfl ?_))))
 refine oY rfl (fun W_ hW_ => (X.shl (q := 65536) (z := (c.toNat : Int) * 65536) rfl rfl (by decide) (by decide) rfl rfl (w64 (by omega)))) rfl (oY rfl (fun W_ hW_ => (X.bits (by simp) rfl rfl o2)) rfl ?_)
 refine oY rfl (fun W_ hW_ => (X.move rfl)) rfl (oY rfl (fun W_ hW_ => (X.move rfl)) rfl (oY rfl (fun W_ hW_ => (X.add64 rfl rfl (by omega))) rfl (oY rfl (fun W_ hW_ => (X.idxS (q := i + 3) rfl rfl Tryz.underlying9 rfl (by omega))) rfl (oY rfl (fun W_ hW_ => (X.convI (z := (d.toNat : Int)) rfl Tryz.underlying5 Tryz.underlying3 (by rw [hd]; exact w64 (by omega)))) rfl ?_))))
 refine oY rfl (fun W_ hW_ => (X.shl (q := 16777216) (z := (d.toNat : Int) * 16777216) rfl rfl (by decide) (by decide) rfl rfl (w64 (by omega)))) rfl (oY rfl (fun W_ hW_ => (X.bits (by simp) rfl rfl o3)) rfl ?_)
 refine oY rfl (fun W_ hW_ => (X.assign rfl)) rfl (oN (nN (W_ret ((rT rfl rfl ⟨?_, hbw⟩).1))))
 rw [hn, ← hz]
def CntTo (cs : Array Value) (l : List Ent) : Prop := cs.size = 256 ∧ ∀ b, b < 256 → cs[b]? = some (.int .i64 ((bucketM l b).length : Nat))
theorem bucket_snoc (l : List Ent) (x : Ent) (b : Nat) : bucketM (l ++ [x]) b = bucketM l b ++ (if hd x = b then [x] else []) := by
 unfold bucketM
 rw [List.filter_append]
 congr 1
 by_cases h : hd x = b
 ·rw [if_pos h]; simp [h]
 ·rw [if_neg h]; simp [h]
theorem CntTo.next {cs : Array Value} {l : List Ent} (h : CntTo cs l) (x : Ent) : CntTo (cs.setIfInBounds (hd x) (.int .i64 (((bucketM l (hd x)).length : Nat) + 1))) (l ++ [x]) := by
 refine ⟨by simpa using h.1, fun b hb => ?_⟩
 rw [Array.getElem?_setIfInBounds, bucket_snoc]
 by_cases e : hd x = b
 ·subst e
  rw [if_pos rfl, if_pos (by rw [h.1]; exact hb), if_pos rfl]
  simp
 ·rw [if_neg e, if_neg e, List.append_nil]
  exact h.2 b hb
theorem cnt_zero : CntTo (List.replicate 256 (Value.int .i64 0)).toArray [] := ⟨rep_size 256 _, fun b hb => by rw [List.getElem?_toArray, List.getElem?_replicate, if_pos hb]; rfl⟩
def FanTo (cs : Array Value) (l : List Ent) (k : Nat) : Prop := cs.size = 256 ∧ (∀ b, b < k → b < 256 → cs[b]? = some (.int .i64 (cntM l b : Nat))) ∧ ∀ b, k ≤ b → b < 256 → cs[b]? = some (.int .i64 ((bucketM l b).length : Nat))
theorem CntTo.fan {cs : Array Value} {l : List Ent} (h : CntTo cs l) : FanTo cs l 1 := ⟨h.1, fun b hb _ => by
 obtain rfl : b = 0 := by omega
 rw [cnt_0]
 exact h.2 0 (by omega), fun b _ hb => h.2 b hb⟩
theorem FanTo.next {cs : Array Value} {l : List Ent} {k : Nat} (h : FanTo cs l k) (hk : k < 256) (h1 : 1 ≤ k) : FanTo (cs.setIfInBounds k (.int .i64 (((bucketM l k).length : Nat) + (cntM l (k - 1) : Nat)))) l (k + 1) := by
 refine ⟨by simpa using h.1, fun b hb hb2 => ?_, fun b hb hb2 => ?_⟩
 ·rw [Array.getElem?_setIfInBounds]
  by_cases e : k = b
  ·subst e
   rw [if_pos rfl, if_pos (by rw [h.1]; exact hk)]
   have := cnt_next l (k - 1)
   rw [show k - 1 + 1 = k by omega] at this
   congr 2
   omega
  ·rw [if_neg e]
   exact h.2.1 b (by omega) hb2
 ·rw [Array.getElem?_setIfInBounds, if_neg (by omega)]
  exact h.2.2 b (by omega) hb2
def cntV (l : List Ent) : Array Value := ((List.range 256).map fun b => Value.int .i64 (cntM l b : Nat)).toArray
theorem cntV_size (l : List Ent) : (cntV l).size = 256 := by simp [cntV]
theorem cntV_at (l : List Ent) (b : Nat) (h : b < 256) : (cntV l)[b]? = some (.int .i64 (cntM l b : Nat)) := by simp [cntV, h]
theorem cntV_one (l : List Ent) : (cntV l).toList.all (·.oneCell') = true := by simp [cntV, Value.oneCell']
theorem FanTo.all {cs : Array Value} {l : List Ent} (h : FanTo cs l 256) : cs = cntV l := by
 apply Array.ext_getElem?
 intro k
 by_cases hk : k < 256
 ·rw [h.2.1 k hk hk, cntV_at l k hk]
 ·rw [Array.getElem?_eq_none (by rw [h.1]; omega), Array.getElem?_eq_none (by rw [cntV_size]; omega)]
theorem Ent.cells_one (e : Ent) : e.cells.toArray.toList.all (·.oneCell') = true := by
 simp [Ent.cells, Value.oneCell', bv]
theorem Ent.cell0 {e : Ent} (h : e.sum.length = 32) : e.cells.toArray[0 + 0 * 1]? = some (.int .u8 (hd e : Nat)) := by
 unfold Ent.cells hd
 cases hs : e.sum with
 | nil => simp [hs] at h
 | cons c t => rfl
abbrev EntsAt (w : World) (v : Value) (l : List Ent) : Prop := Reads w 35 v l.length (l.flatMap Ent.cells)
theorem EntsAt.range {w : World} {g o c : Nat} {l : List Ent} (h : EntsAt w (.slice (some ⟨g, o, none⟩) l.length c) l) (h32 : S32 l) {j : Nat} {x : Ent} (hx : l[j]? = some x) : w.rangeAt g (o + j * 35) x.cells := h.rec_ (fun a ha => Ent.cells_length (h32 a ha)) hx
theorem EntsAt.sum {w : World} {g o c : Nat} {l : List Ent} (h : EntsAt w (.slice (some ⟨g, o, none⟩) l.length c) l) (h32 : S32 l) {j : Nat} {x : Ent} (hx : l[j]? = some x) : w.rangeAt g (o + j * 35 + 0) (x.sum.map bv) := fun i v hv => by
 have hi := (List.getElem?_eq_some_iff.1 hv).1
 refine h.range h32 hx i v ?_
 unfold Ent.cells
 rw [List.getElem?_append_left hi, hv]
theorem fan_any (v : Value) (l : List Ent) (w : World) (h : EntsAt w v l) (h32 : S32 l) (hl : l.length ≤ 1000000) :
  Calls Tryz.prog 76 #[.agg #[v]] w fun e w' => e = .returned (.agg (cntV l)) ∧ Below w.heap.size w w' := by
 obtain ⟨a, cp, rfl, hn, hcp⟩ := h.shape
 refine W_enter (args := [.agg #[.slice a l.length cp]]) 36 Tryz.func76 rfl rfl rfl (W_sub [(0, .agg #[.slice a l.length cp])] ?_ ⟨rfl, trivial⟩)
 have hbw := Below.refl w.heap.size w
 refine W_rs (sboxA rfl rfl (fun g1 w1 hB1 hg1 hb hl1 => ?_))
 replace hbw := bthen hbw hb
 have hz_w1 := hb.size
 clear hb
 refine salA inf141 rfl (fun g2 w2 hB2 hg2 hb hl2 => ?_)
 replace hbw := bthen hbw hb
 replace hB1 := hB1.bel hb
 have hz_w2 := hb.size
 clear hb
 refine Wn (tN (W_rs (salA inf141 rfl (fun g3 w3 hB3 hg3 hb hl3 => ?_))))
 replace hbw := bthen hbw hb
 replace hB1 := hB1.bel hb
 replace hB2 := hB2.bel hb
 have hz_w3 := hb.size
 clear hb
 refine Wn (tN (W_seq (W_rs (st (X.fa fa25_0 rfl) rfl (st (X.ldL rfl hB1 Tryz.underlying23 rfl rfl) rfl (st (X.lenL rfl rfl Tryz.underlying23) rfl (sm rfl rfl (Wn (tN (W_block ?_))))))))))
 refine W_lp (fun nw4_ lw4_ w4 => ∃ j : Nat, ∃ cs : Array Value, nw4_ = l.length - j ∧ lw4_ = ([(2, .pointer (some ⟨g2, 0, none⟩)), (3, .pointer (some ⟨g3, 0, none⟩)), (8, .slice a l.length cp), (9, .int .i64 l.length), (10, .int .i64 j)] : Env) ∧ (j ≤ l.length) ∧ (CntTo cs (l.take j)) ∧ (Blk w4 g2 141 (List.replicate 256 (.int .i64 0)).toArray) ∧ (Blk w4 g3 141 cs) ∧ (Below w.heap.size w w4)) _ ⟨_, ⟨0, _, rfl, rfl, by omega, cnt_zero, hB2, hB3, hbw⟩, ⟨rfl, rfl, rfl, rfl, rfl, trivial⟩⟩ ?_
 clear hB2 hB3 hbw
 rintro nw4_ lw4_ w4 ⟨j, cs, rfl, rfl, hj, hcs, hB2, hB3, hbw⟩
 have hz_w4 := hbw.size
 have hlt_hB2_w4 := hB2.lt
 have hlt_hB3_w4 := hB3.lt
 refine W_rs (st (X.lss rfl rfl) rfl (Wn (tN (W_seq (W_if rfl (fun h11 => ?_) (fun h11 => ?_))))))
 ·first | replace h11 := of_decide_eq_true h11 | replace h11 := of_decide_eq_false (notT h11) | replace h11 := notT h11 | skip
  obtain ⟨x, hx⟩ : ∃ x, l[j]? = some x := ⟨_, List.getElem?_eq_getElem (by omega)⟩
  obtain ⟨g1, o1, c', hv, hg1⟩ := (h.bel hbw).some_ (by omega)
  injection hv with e1 _ e3
  subst e1 e3
  have hxs := h32 x (List.mem_of_getElem? hx)
  have hdl : hd x < 256 := (x.sum.headD 0).toNat_lt
  have hbl := Nat.le_trans (List.length_filter_le (fun e => decide (hd e = hd x)) (l.take j)) (List.length_take_le j l)
  refine W_skip (tN (W_seq (W_block (W_rs (st (X.idxA rfl rfl Tryz.underlying23 siz66 rfl (by omega)) rfl (st (X.ldN (cs := x.cells) rfl Tryz.underlying66 rfl (by rw [Ent.cells_length hxs]; exact siz66) (EntsAt.range (h.bel hbw) h32 hx)) rfl ?_))))))
  refine salA inf66 rfl (fun g5 w5 hB5 hg5 hb hl5 => ?_)
  replace hbw := bthen hbw hb
  replace hB2 := hB2.bel hb
  replace hB3 := hB3.bel hb
  have hz_w5 := hb.size
  clear hb
  refine ssBN rfl rfl hB5 (by rw [Ent.size hxs]; exact siz66) (by rw [Ent.size hxs]; rfl) (Ent.cells_one x) (fun w6 hB_ hc_ => ?_)
  replace hB5 := hB_
  clear hB_
  replace hB2 := hB2.chg hc_ (by first | (show ¬ _ = _; omega) | (intro k_ hk_; simp [Value.ownBlock] at hk_; subst hk_; show ¬ _ = _; omega) | assumption | trivial)
  replace hB3 := hB3.chg hc_ (by first | (show ¬ _ = _; omega) | (intro k_ hk_; simp [Value.ownBlock] at hk_; subst hk_; show ¬ _ = _; omega) | assumption | trivial)
  replace hbw := bset hbw hc_ (by omega)
  have hz_w6 := hc_.size
  clear hc_
  refine Wn (tN (W_reg (st (X.fa fa66_0 rfl) rfl (st (X.idxArr (j := 0) rfl rfl Tryz.underlying60 siz5 rfl (by omega)) rfl (st (X.ldB rfl hB5 Tryz.underlying5 rfl (Ent.cell0 hxs)) rfl (st (X.idxArr rfl rfl Tryz.underlying141 siz3 rfl hdl) rfl (st (X.ldB rfl hB3 Tryz.underlying3 rfl (by rw [Nat.zero_add, Nat.mul_one]; exact hcs.2 _ hdl)) rfl ?_)))))))
  refine st (X.add rfl rfl (w64 (by unfold bucketM; omega))) rfl ?_
  refine st (X.idxArr rfl rfl Tryz.underlying141 siz3 rfl hdl) rfl (ssB rfl rfl hB3 siz3 rfl (by rw [hcs.1]; omega) (fun w7 hB_ hc_ => ?_))
  rw [Nat.zero_add, Nat.mul_one] at hB_
  replace hB2 := hB2.chg hc_ (by show ¬ _ = _; omega)
  replace hB3 := hB_
  replace hbw := bset hbw hc_ (by omega)
  clear hB_ hc_
  refine Wn (bN (tN (W_reg (st (X.add64 rfl rfl (by omega)) rfl (sm rfl rfl (Wn (tN ⟨_, _, ?_, ⟨j + 1, _, rfl, rfl, by omega, by rw [take_next' hx]; exact hcs.next x, hB2, hB3, hbw⟩, ⟨rfl, rfl, rfl, rfl, rfl, trivial⟩⟩)))))))
  omega
 ·first | replace h11 := of_decide_eq_false h11 | replace h11 := of_decide_eq_true (notF h11) | replace h11 := notF h11 | skip
  obtain rfl : j = l.length := by omega
  rw [List.take_length] at hcs
  have hf := hcs.fan
  clear hcs
  refine W_exit (tE (tE (bH (tN (W_seq (W_rs (sa rfl rfl (Wn (tN (W_block (W_lp (fun nw8_ lw8_ w8 => ∃ k : Nat, ∃ cs : Array Value, nw8_ = 256 - k ∧ lw8_ = ([(2, .pointer (some ⟨g2, 0, none⟩)), (3, .pointer (some ⟨g3, 0, none⟩)), (6, .int .i64 k)] : Env) ∧ (k ≤ 256) ∧ (1 ≤ k) ∧ (FanTo cs l k) ∧ (Blk w8 g2 141 (List.replicate 256 (.int .i64 0)).toArray) ∧ (Blk w8 g3 141 cs) ∧ (Below w.heap.size w w8)) _ ⟨_, ⟨1, _, rfl, rfl, by omega, by omega, hf, hB2, hB3, hbw⟩, ⟨rfl, rfl, rfl, trivial⟩⟩ ?_)))))))))))
  clear hf hB2 hB3 hbw
  rintro nw8_ lw8_ w8 ⟨k, cs, rfl, rfl, hk, hk1, hf, hB2, hB3, hbw⟩
  have hz_w8 := hbw.size
  have hlt_hB2_w8 := hB2.lt
  have hlt_hB3_w8 := hB3.lt
  refine W_seq (W_rs (sm rfl rfl (st (X.lss rfl rfl) rfl (Wn (tN (W_if rfl (fun h23 => ?_) (fun h23 => ?_)))))))
  ·first | replace h23 := of_decide_eq_true h23 | replace h23 := of_decide_eq_false (notT h23) | replace h23 := notT h23 | skip
   have hc1 := cnt_le l (k - 1)
   have hc2 : (bucketM l k).length ≤ l.length := List.length_filter_le _ _
   have hfs := hf.1
   refine W_skip (tN (W_seq (W_block (W_still 9 (by kernel_rfl) (by kernel_rfl) ?_))))
   obtain ⟨w9, hw_⟩ : ∃ w9 : World, w9 = World.drew w8 := ⟨_, rfl⟩
   rw [← hw_]
   have hb : Below w8.heap.size w8 w9 := by rw [hw_]; exact bdrew (Below.refl _ _)
   clear hw_
   replace hbw := bthen hbw hb
   replace hB2 := hB2.bel hb
   replace hB3 := hB3.bel hb
   have hz_w9 := hb.size
   clear hb
   refine hY (X.move rfl) rfl (hY (X.idxArr rfl rfl Tryz.underlying141 siz3 rfl (by omega)) rfl (hY (X.ldB rfl hB3 Tryz.underlying3 rfl (by rw [Nat.zero_add, Nat.mul_one]; exact hf.2.2 k (Nat.le_refl _) (by omega))) rfl ?_))
   refine hY (X.move rfl) rfl (hY (X.sub64 rfl rfl (by omega)) rfl (hY (X.idxArr (j := k - 1) rfl rfl Tryz.underlying141 siz3 (by omega) (by omega)) rfl (hY (X.ldB rfl hB3 Tryz.underlying3 rfl (by rw [Nat.zero_add, Nat.mul_one]; exact hf.2.1 (k - 1) (by omega) (by omega))) rfl ?_)))
   refine hY (X.add rfl rfl (w64 (by omega))) rfl (hY (X.idxArr rfl rfl Tryz.underlying141 siz3 rfl (by omega)) rfl (hN (ssB rfl rfl hB3 siz3 rfl (by rw [hfs]; omega) (fun w10 hB_ hc_ => ?_))))
   rw [Nat.zero_add, Nat.mul_one] at hB_
   replace hB2 := hB2.chg hc_ (by show ¬ _ = _; omega)
   replace hB3 := hB_
   replace hbw := bset hbw hc_ (by omega)
   clear hB_ hc_
   refine Wn (bN (tN (W_reg (sm rfl rfl (st (X.add64 rfl rfl (by omega)) rfl (sa rfl rfl (Wn (tN ⟨_, _, ?_, ⟨k + 1, _, rfl, rfl, by omega, by omega, hf.next (by omega) hk1, hB2, hB3, hbw⟩, ⟨rfl, rfl, rfl, trivial⟩⟩))))))))
   omega
  ·first | replace h23 := of_decide_eq_false h23 | replace h23 := of_decide_eq_true (notF h23) | replace h23 := notF h23 | skip
   obtain rfl : k = 256 := by omega
   obtain rfl := hf.all
   refine W_exit (tE (tE (bH (tN (W_rs (st (X.ldBN rfl hB3 Tryz.underlying141 rfl (by rw [cntV_size]; exact siz141)) rfl ?_))))))
   refine ssBN rfl rfl hB2 (by rw [cntV_size]; exact siz141) (by rw [cntV_size]; exact rep_size 256 _) (cntV_one l) (fun w11 hB_ hc_ => ?_)
   replace hB2 := hB_
   clear hB_
   replace hB3 := hB3.chg hc_ (by first | (show ¬ _ = _; omega) | (intro k_ hk_; simp [Value.ownBlock] at hk_; subst hk_; show ¬ _ = _; omega) | assumption | trivial)
   replace hbw := bset hbw hc_ (by omega)
   have hz_w11 := hc_.size
   clear hc_
   refine Wn (tN (W_ret ?_))
   exact (rC rfl rfl hB2 Tryz.underlying141 rfl (by rw [cntV_size]; exact siz141) ⟨rfl, hbw⟩).1
end Go.Proofs.YtnlabkogebnioaaGreatDoor
namespace Go.Proofs.YtnlabkogebnioaaGreatDoor
open Go.RowKit
theorem up32 : ∀ (l : List Ent), S32 l → ∃ L : List Ent32, L.map (·.1) = l
 | [], _ => ⟨[], rfl⟩
 | e :: l, h => by
  obtain ⟨L, hL⟩ := up32 l (fun x hx => h x (by simp [hx]))
  exact ⟨⟨e, h e (by simp)⟩ :: L, by rw [List.map_cons, hL]⟩
theorem SortE_any (v : Value) (l : List Ent) (w : World) (hR : Row w 66 35 v l.length (l.flatMap Ent.cells)) (h32 : S32 l) (hl : l.length ≤ 1000000) :
  Calls Tryz.prog 135 #[v, .func (.func 136) #[] #[]] w fun e w' => ∃ xs : List Ent, e = .returned (.tuple #[]) ∧ xs.Perm l ∧ xs.Pairwise (fun x y => ¬ y.sum < x.sum) ∧ Row w' 66 35 v xs.length (xs.flatMap Ent.cells) ∧ Chg (fun k => v.ownBlock = some k) w w' := by
 obtain ⟨L, hL⟩ := up32 l h32
 have hlen : L.length = l.length := by rw [← hL, List.length_map]
 have hfl : ∀ K : List Ent32, K.flatMap encE = (K.map (·.1)).flatMap Ent.cells := fun K => by rw [List.flatMap_map]; rfl
 refine (SortEnts_any v L w (by rw [hlen, hfl, hL]; exact hR) (by omega)).mono ?_
 rintro e w' ⟨xs, rfl, hp, hs, hR', hC⟩
 refine ⟨xs.map (·.1), rfl, ?_, ?_, ?_, hC⟩
 ·rw [← hL]; exact hp.map _
 ·rw [List.pairwise_map]; exact hs
 ·rw [List.length_map, ← hfl]; exact hR'
theorem X.eqSumF {l : Env} {x y : Operand} {w : World} {t' ty : TypeId} {a b : List UInt8} (ha : a.length = 32) (hb : b.length = 32) (hx : ev l x = some (.agg (a.map bv).toArray)) (hy : ev l y = some (.agg (b.map bv).toArray)) : X Tryz.prog l (.binOp .eql 60 x y t') ty w (.bool (a == b)) w :=
 X.bin hx hy (fun c d => run_eqGuard_agg w .eql _ c d _ _ (by kernel_rfl)) (run_eql_sum a b ha hb w)
theorem make_of_up {l xs : List Ent} (hp : xs.Perm l) (hu : Up xs) (h1 : l.length ≤ 65536) (h2 : l.all fitE = true) : makeM l = (xs, 0) := by
 have hi : IsIdx xs l := ⟨hp, hu⟩
 unfold makeM
 rw [if_neg (by omega), if_neg (by rw [h2]; simp), if_pos hi.nodup, ← hi.eq]
theorem make_of_dup {l xs : List Ent} (hp : xs.Perm l) {i : Nat} {x y : Ent} (hy : xs[i]? = some y) (hx : xs[i + 1]? = some x) (he : x.sum = y.sum) (h1 : l.length ≤ 65536) (h2 : l.all fitE = true) : makeM l = ([], 16) := by
 unfold makeM
 rw [if_neg (by omega), if_neg (by rw [h2]; simp), if_neg]
 intro hn
 have hn' := ((hp.map (·.sum)).nodup_iff).2 hn
 rw [List.Nodup, List.pairwise_map, List.pairwise_iff_getElem] at hn'
 obtain ⟨q1, e1⟩ := List.getElem?_eq_some_iff.1 hy
 obtain ⟨q2, e2⟩ := List.getElem?_eq_some_iff.1 hx
 refine hn' i (i + 1) q1 q2 (by omega) ?_
 rw [e1, e2, he]
theorem make_31 {l : List Ent} (h : 65536 < l.length) : makeM l = ([], 31) := by unfold makeM; rw [if_pos h]
theorem make_1 {l : List Ent} (h : l.length ≤ 65536) (h2 : l.all fitE = false) : makeM l = ([], 1) := by unfold makeM; rw [if_neg (by omega), if_pos h2]
theorem all_atG {α : Type} {p : α → Bool} {l : List α} {j : Nat} {x : α} (h : l[j]? = some x) : (l.drop j).all p = (p x && (l.drop (j + 1)).all p) := by
 obtain ⟨hj, rfl⟩ := List.getElem?_eq_some_iff.1 h
 rw [List.drop_eq_getElem_cons hj, List.all_cons]
theorem EntsAt.nil (w : World) : EntsAt w (.slice none 0 0) [] := (Row.nil w 66 35).reads
def IdxPostO (w : World) (r : List Ent × Int) (e : Ending) (w' : World) : Prop := ∃ v, e = .returned (.tuple #[.agg #[v], .int .i64 r.2]) ∧ EntsAt w' v r.1 ∧ (∀ k, v.ownBlock = some k → w.heap.size ≤ k) ∧ Below w.heap.size w w'
theorem idx_errO {w w' : World} {r : List Ent × Int} {k : Int} (h : r = ([], k)) (hb : Below w.heap.size w w') : IdxPostO w r (.returned (.tuple #[.agg #[.slice none 0 0], .int .i64 k])) w' := by
 subst h
 exact ⟨_, rfl, EntsAt.nil _, fun k hk => by simp [Value.ownBlock] at hk, hb⟩
theorem bidx (a : Option Addr) (n c : Nat) (w : World) : (Instr.build 25 #[(0, .slice a n c)]).run Tryz.prog w = .ok (.agg #[.slice a n c]) w := by kernel_rfl
theorem bidx0 (w : World) : (Instr.build 25 #[]).run Tryz.prog w = .ok (.agg #[.slice none 0 0]) w := by kernel_rfl
theorem bs3 (a b c : Int) (w : World) : (Instr.buildSlice 39 3 #[(0, .int .i64 a), (1, .int .i64 b), (2, .int .i64 c)]).run Tryz.prog w = .ok (.slice (some ⟨w.heap.size, 0, none⟩) 3 3) (w.alloc (.cells #[.int .i64 a, .int .i64 b, .int .i64 c] 3)) := by kernel_rfl
theorem fitE_all (x : Ent) : [x.pack, x.pos, x.len].all fitN = fitE x := by simp [fitE, Bool.and_assoc]
theorem Ent.cell_ {e : Ent} (h : e.sum.length = 32) (i : Nat) (v : Value) (hv : [Value.int .i64 e.pack, .int .i64 e.pos, .int .i64 e.len][i]? = some v) : e.cells.toArray[32 + i]? = some v := by
 rw [List.getElem?_toArray, Ent.cells, List.getElem?_append_right (by simp [h]), ← hv]
 simp [h]
theorem Make_own (v : Value) (l : List Ent) (w : World) (h : EntsAt w v l) (h32 : S32 l) (hl : l.length ≤ 1000000) : Calls Tryz.prog 89 #[v] w (IdxPostO w (makeM l)) := by
 obtain ⟨a, cp, rfl, hn, hcp⟩ := h.shape
 refine W_enter (args := [.slice a l.length cp]) 58 Tryz.func89 rfl rfl rfl (W_sub [(0, .slice a l.length cp)] ?_ ⟨rfl, trivial⟩)
 have hbw := Below.refl w.heap.size w
 refine W_rs (salA inf25 rfl (fun g2 w1 hB2 hg2 hb hl2 => ?_))
 replace hbw := bthen hbw hb
 have hz_w1 := hb.size
 clear hb
 refine sa rfl rfl (Wn (tN (W_seq (W_rs (sm rfl rfl (st (X.lenL rfl rfl Tryz.underlying23) rfl (st (X.gtr rfl rfl) rfl (Wn (tN (W_if rfl (fun h10 => ?_) (fun h10 => ?_)))))))))))
 ·first | replace h10 := of_decide_eq_true h10 | replace h10 := of_decide_eq_false (notT h10) | replace h10 := notT h10 | skip
  refine W_rs (st (X.bld rfl (bidx0 _)) rfl (ssBN rfl rfl hB2 siz25 rfl rfl (fun w2 hB_ hc_ => ?_)))
  replace hB2 := hB_
  clear hB_
  replace hbw := bset hbw hc_ (by omega)
  have hz_w2 := hc_.size
  clear hc_
  refine sa rfl rfl (Wn (tN (W_ret (tR ?_))))
  exact (rCT rfl rfl hB2 Tryz.underlying25 rfl siz25 rfl (idx_errO (make_31 (by omega)) hbw)).1
 ·first | replace h10 := of_decide_eq_false h10 | replace h10 := of_decide_eq_true (notF h10) | replace h10 := notF h10 | skip
  refine W_skip (tN (W_seq (W_rs (sm rfl rfl (st (X.lenL rfl rfl Tryz.underlying23) rfl (sm rfl rfl (Wn (tN (W_block (W_lp (fun nw3_ lw3_ w3 => ∃ j : Nat, nw3_ = l.length - j ∧ lw3_ = ([(0, .slice a l.length cp), (2, .pointer (some ⟨g2, 0, none⟩)), (12, .slice a l.length cp), (13, .int .i64 l.length), (14, .int .i64 j)] : Env) ∧ (j ≤ l.length) ∧ (l.all fitE = (l.drop j).all fitE) ∧ (Blk w3 g2 25 #[.slice none 0 0]) ∧ (Below w.heap.size w w3)) _ ⟨_, ⟨0, rfl, rfl, by omega, rfl, hB2, hbw⟩, ⟨rfl, rfl, rfl, rfl, rfl, trivial⟩⟩ ?_))))))))))
  clear hB2 hbw
  rintro nw3_ lw3_ w3 ⟨j, rfl, rfl, hj, hq, hB2, hbw⟩
  have hz_w3 := hbw.size
  have hlt_hB2_w3 := hB2.lt
  refine W_rs (st (X.lss rfl rfl) rfl (Wn (tN (W_seq (W_if rfl (fun h15 => ?_) (fun h15 => ?_))))))
  ·first | replace h15 := of_decide_eq_true h15 | replace h15 := of_decide_eq_false (notT h15) | replace h15 := notT h15 | skip
   obtain ⟨x, hx⟩ : ∃ x, l[j]? = some x := ⟨_, List.getElem?_eq_getElem (by omega)⟩
   obtain ⟨g1, o1, c', hv, hg1⟩ := (h.bel hbw).some_ (by omega)
   injection hv with e1 _ e3
   subst e1 e3
   have hxs := h32 x (List.mem_of_getElem? hx)
   refine W_skip (tN (W_seq (W_block (W_rs (st (X.idxA rfl rfl Tryz.underlying23 siz66 rfl (by omega)) rfl (st (X.ldN (cs := x.cells) rfl Tryz.underlying66 rfl (by rw [Ent.cells_length hxs]; exact siz66) (EntsAt.range (h.bel hbw) h32 hx)) rfl ?_))))))
   refine salA inf66 rfl (fun g5 w4 hB5 hg5 hb hl5 => ?_)
   replace hbw := bthen hbw hb
   replace hB2 := hB2.bel hb
   have hz_w4 := hb.size
   clear hb
   refine ssBN rfl rfl hB5 (by rw [Ent.size hxs]; exact siz66) (by rw [Ent.size hxs]; rfl) (Ent.cells_one x) (fun w5 hB_ hc_ => ?_)
   replace hB5 := hB_
   clear hB_
   replace hB2 := hB2.chg hc_ (by first | (show ¬ _ = _; omega) | (intro k_ hk_; simp [Value.ownBlock] at hk_; subst hk_; show ¬ _ = _; omega) | assumption | trivial)
   replace hbw := bset hbw hc_ (by omega)
   have hz_w5 := hc_.size
   clear hc_
   refine Wn (tN (W_rs (st (X.fa fa66_1 rfl) rfl (st (X.ldB rfl hB5 Tryz.underlying3 rfl (Ent.cell_ hxs 0 _ rfl)) rfl (st (X.fa fa66_2 rfl) rfl (st (X.ldB rfl hB5 Tryz.underlying3 rfl (Ent.cell_ hxs 1 _ rfl)) rfl (st (X.fa fa66_3 rfl) rfl (st (X.ldB rfl hB5 Tryz.underlying3 rfl (Ent.cell_ hxs 2 _ rfl)) rfl (sbs (ps := [(0, .tmp 19), (1, .tmp 21), (2, .tmp 23)]) 1 rfl (bs3 _ _ _ _) (by simp [maxLen]) rfl rfl (fun g24 w6 hR24 hg24 hb => ?_))))))))))
   replace hB2 := hB2.belowAll hb
   replace hB5 := hB5.belowAll hb
   replace hbw := bthen hbw hb
   clear hb
   refine sc _ Tryz.func134 rfl (by kernel_rfl) rfl rfl ((May_any _ [x.pack, x.pos, x.len] _ hR24.reads).mono ?_)
   rintro e_ w7 ⟨rfl, hb⟩
   refine cR ?_
   replace hbw := bthen hbw hb
   replace hB2 := hB2.bel hb
   replace hB5 := hB5.bel hb
   have hz_w7 := hb.size
   clear hb
   refine st (X.not rfl) rfl (Wn (tN (W_if rfl (fun h26 => ?_) (fun h26 => ?_))))
   ·first | replace h26 := of_decide_eq_true h26 | replace h26 := of_decide_eq_false (notT h26) | replace h26 := notT h26 | skip
    refine W_rs (st (X.bld rfl (bidx0 _)) rfl (ssBN rfl rfl hB2 siz25 rfl rfl (fun w8 hB_ hc_ => ?_)))
    replace hB2 := hB_
    clear hB_
    replace hB5 := hB5.chg hc_ (by first | (show ¬ _ = _; omega) | (intro k_ hk_; simp [Value.ownBlock] at hk_; subst hk_; show ¬ _ = _; omega) | assumption | trivial)
    replace hbw := bset hbw hc_ (by omega)
    have hz_w8 := hc_.size
    clear hc_
    refine sa rfl rfl (Wn (tN (W_ret (bR (tR (tR (bR (tR ?_))))))))
    have hfx : fitE x = false := by rw [← fitE_all]; exact h26
    exact (rCT rfl rfl hB2 Tryz.underlying25 rfl siz25 rfl (idx_errO (make_1 (by omega) (by rw [hq, all_atG hx, hfx]; rfl)) hbw)).1
   ·first | replace h26 := of_decide_eq_false h26 | replace h26 := of_decide_eq_true (notF h26) | replace h26 := notF h26 | skip
    have hfx : fitE x = true := by rw [← fitE_all]; exact h26
    refine W_skip (bN (tN (W_reg (st (X.add64 rfl rfl (by omega)) rfl (sm rfl rfl (Wn (tN ⟨_, _, ?_, ⟨j + 1, rfl, rfl, by omega, by rw [hq, all_atG hx, hfx]; rfl, hB2, hbw⟩, ⟨rfl, rfl, rfl, rfl, rfl, trivial⟩⟩)))))))
    omega
  ·first | replace h15 := of_decide_eq_false h15 | replace h15 := of_decide_eq_true (notF h15) | replace h15 := notF h15 | skip
   obtain rfl : j = l.length := by omega
   rw [List.drop_length] at hq
   refine W_exit (tE (tE (bH (tN (W_rs (sm rfl rfl (sc _ Tryz.func49 rfl (by kernel_rfl) rfl rfl ((EntClone_any _ l _ (h.bel hbw) h32 hl).mono ?_))))))))
   rintro e_ w9 ⟨v1, rfl, hR1, hO1, hb⟩
   refine cR ?_
   replace hbw := bthen hbw hb
   replace hB2 := hB2.bel hb
   have hz_w9 := hb.size
   clear hb
   refine sa rfl rfl (Wn (tN (W_rs (sm rfl rfl (sc _ Tryz.func135 rfl (by kernel_rfl) rfl rfl ((SortE_any v1 l _ hR1 h32 hl).mono ?_))))))
   rintro e_ w10 ⟨xs, rfl, hp, hs, hR, hC⟩
   refine cR ?_
   replace hB2 := hB2.chg hC (fun hk => by have := hO1 _ hk; have := hB2.lt; omega)
   replace hbw := bapp hbw hC (fun k hk => by have := hO1 _ hk; omega)
   clear hC hR1
   have hxl : xs.length = l.length := hp.length_eq
   have hx32 : S32 xs := fun e he => h32 e (hp.mem_iff.1 he)
   obtain ⟨a2, c2, rfl, hn2, hcp2⟩ := hR.shape
   refine Wn (tN (W_seq (W_rs (sm rfl rfl (st (X.lenL rfl rfl Tryz.underlying23) rfl (sm rfl rfl (Wn (tN (W_block (W_lp (fun nw11_ lw11_ w11 => ∃ j : Nat, nw11_ = xs.length - j ∧ lw11_ = ([(2, .pointer (some ⟨g2, 0, none⟩)), (6, .slice a2 xs.length c2), (34, .int .i64 xs.length), (35, .int .i64 j)] : Env) ∧ (j ≤ xs.length) ∧ (upB (xs.take j) = true) ∧ (Row w11 66 35 (.slice a2 xs.length c2) xs.length (xs.flatMap Ent.cells)) ∧ (Blk w11 g2 25 #[.slice none 0 0]) ∧ (Below w.heap.size w w11)) _ ⟨_, ⟨0, rfl, rfl, by omega, rfl, hR, hB2, hbw⟩, ⟨rfl, rfl, rfl, rfl, trivial⟩⟩ ?_))))))))))
   clear hR hB2 hbw
   rintro nw11_ lw11_ w11 ⟨j, rfl, rfl, hj, hu, hR, hB2, hbw⟩
   have hz_w11 := hbw.size
   have hlt_hB2_w11 := hB2.lt
   refine W_rs (st (X.lss rfl rfl) rfl (Wn (tN (W_seq (W_if rfl (fun h36 => ?_) (fun h36 => ?_))))))
   ·first | replace h36 := of_decide_eq_true h36 | replace h36 := of_decide_eq_false (notT h36) | replace h36 := notT h36 | skip
    obtain ⟨x, hx⟩ : ∃ x, xs[j]? = some x := ⟨_, List.getElem?_eq_getElem (by omega)⟩
    obtain ⟨g1, o1, c', hv, hg1⟩ := hR.reads.some_ (by omega)
    injection hv with e1 _ e3
    subst e1 e3
    have hxs := hx32 x (List.mem_of_getElem? hx)
    refine W_skip (tN (W_seq (W_block (W_rs (sm rfl rfl (sa rfl rfl (Wn (tN ?_))))))))
    by_cases hsp_ : 0 < j
    ·obtain ⟨y, hy⟩ : ∃ y, xs[j - 1]? = some y := ⟨_, List.getElem?_eq_getElem (by omega)⟩
     have hy' : xs[j - 1 + 1]? = some x := by rw [show j - 1 + 1 = j by omega]; exact hx
     have hys := hx32 y (List.mem_of_getElem? hy)
     refine W_drsN (fun W_ => W_.rangeAt g1 (o1 + j * 35 + 0) (x.sum.map bv) ∧ W_.rangeAt g1 (o1 + (j - 1) * 35 + 0) (y.sum.map bv)) [0, 1, 2, 3, 4, 5, 6, 7, 8, 9, 10, 11, 12, 13, 14, 15] [true, true, true, true, true, true, true, true, true, true, true, true, true, true, true, true] (by kernel_rfl) (by kernel_rfl) (⟨(EntsAt.sum hR.reads hx32 hx), (EntsAt.sum hR.reads hx32 hy)⟩) ?_
     obtain ⟨w12, hw_⟩ : ∃ w12 : World, w12 = World.drew w11 := ⟨_, rfl⟩
     rw [← hw_]
     have hb : Below w11.heap.size w11 w12 := by rw [hw_]; exact bdrew (Below.refl _ _)
     clear hw_
     have hS := hb
     replace hbw := bthen hbw hb
     replace hB2 := hB2.bel hb
     replace hR := hR.bel hb
     have hz_w12 := hb.size
     clear hb
     refine oY rfl (fun W_ hW_ => (X.move rfl)) rfl (oY rfl (fun W_ hW_ => (X.gtr rfl rfl)) rfl (oY rfl (fun W_ hW_ => (X.mvB (c := true) rfl (decide_eq_true (by omega)))) rfl (oYg (g := 40) rfl rfl rfl rfl (fun W_ hW_ => (X.move rfl)) rfl (oYg (g := 40) rfl rfl rfl rfl (fun W_ hW_ => (X.move rfl)) rfl (oYg (g := 40) rfl rfl rfl rfl (fun W_ hW_ => (X.idxA rfl rfl Tryz.underlying23 siz66 rfl (by omega))) rfl (oYg (g := 40) rfl rfl rfl rfl (fun W_ hW_ => (X.fa fa66_0 rfl)) rfl (oYg (g := 40) rfl rfl rfl rfl (fun W_ hW_ => (X.ldN (cs := x.sum.map bv) rfl Tryz.underlying60 rfl (by rw [List.length_map, hxs]; exact siz60) hW_.1)) rfl ?_)))))))
     refine oYg (g := 40) rfl rfl rfl rfl (fun W_ hW_ => (X.move rfl)) rfl (oYg (g := 40) rfl rfl rfl rfl (fun W_ hW_ => (X.move rfl)) rfl (oYg (g := 40) rfl rfl rfl rfl (fun W_ hW_ => (X.sub rfl rfl (show IntKind.i64.wrap ((j : Int) - 1) = ((j - 1 : Nat) : Int) by rw [w64 (by omega)]; omega))) rfl ?_))
     refine oYg (g := 40) rfl rfl rfl rfl (fun W_ hW_ => (X.idxA rfl rfl Tryz.underlying23 siz66 rfl (by omega))) rfl (oYg (g := 40) rfl rfl rfl rfl (fun W_ hW_ => (X.fa fa66_0 rfl)) rfl (oYg (g := 40) rfl rfl rfl rfl (fun W_ hW_ => (X.ldN (cs := y.sum.map bv) rfl Tryz.underlying60 rfl (by rw [List.length_map, hys]; exact siz60) hW_.2)) rfl ?_))
     refine oYg (g := 40) rfl rfl rfl rfl (fun W_ hW_ => (X.eqSumF hxs hys rfl rfl)) rfl (oY rfl (fun W_ hW_ => (X.pickT rfl rfl)) rfl (oN (nN (W_if rfl (fun h53 => ?_) (fun h53 => ?_)))))
     ·first | replace h53 := of_decide_eq_true h53 | replace h53 := of_decide_eq_false (notT h53) | replace h53 := notT h53 | skip
      refine W_rs (st (X.bld rfl (bidx0 _)) rfl (ssBN rfl rfl hB2 siz25 rfl rfl (fun w13 hB_ hc_ => ?_)))
      replace hB2 := hB_
      clear hB_
      replace hbw := bset hbw hc_ (by omega)
      have hz_w13 := hc_.size
      clear hc_
      refine sa rfl rfl (Wn (tN (W_ret (bR (tR (tR (bR (tR ?_))))))))
      exact (rCT rfl rfl hB2 Tryz.underlying25 rfl siz25 rfl (idx_errO (make_of_dup hp hy hy' (eq_of_beq h53) (by omega) (hq.trans rfl)) hbw)).1
     ·first | replace h53 := of_decide_eq_false h53 | replace h53 := of_decide_eq_true (notF h53) | replace h53 := notF h53 | skip
      refine W_skip (bN (tN (W_reg ?_)))
      have hne : x.sum ≠ y.sum := fun e => by rw [e] at h53; simp at h53
      have hlt : y.sum < x.sum := by
       obtain ⟨q1, e1⟩ := List.getElem?_eq_some_iff.1 hy
       obtain ⟨q2, e2⟩ := List.getElem?_eq_some_iff.1 hx
       have h3 := List.pairwise_iff_getElem.1 hs (j - 1) j q1 q2 (by omega)
       rw [e1, e2] at h3
       rcases klt_tri x.sum y.sum with k | k | k
       ·exact absurd k h3
       ·exact absurd k hne
       ·exact k
      have hu' : upB (xs.take (j + 1)) = true := by
       have := upB_take (i := j - 1) (by rw [show j - 1 + 1 = j by omega]; exact hu) hy hy' hlt
       rwa [show j - 1 + 2 = j + 1 by omega] at this
      refine st (X.add64 rfl rfl (by omega)) rfl (sm rfl rfl (Wn (tN ⟨_, _, ?_, ⟨j + 1, rfl, rfl, by omega, hu', hR, hB2, hbw⟩, ⟨rfl, rfl, rfl, rfl, trivial⟩⟩)))
      omega
    ·refine W_drsN (fun _ => True) [0, 1, 2, 3, 4, 5, 6, 7, 8, 9, 10, 11, 12, 13, 14, 15] [true, true, true, true, true, true, true, true, true, true, true, true, true, true, true, true] (by kernel_rfl) (by kernel_rfl) (trivial) ?_
     obtain ⟨w14, hw_⟩ : ∃ w14 : World, w14 = World.drew w11 := ⟨_, rfl⟩
     rw [← hw_]
     have hb : Below w11.heap.size w11 w14 := by rw [hw_]; exact bdrew (Below.refl _ _)
     clear hw_
     have hS : True := trivial
     replace hbw := bthen hbw hb
     replace hB2 := hB2.bel hb
     replace hR := hR.bel hb
     have hz_w14 := hb.size
     clear hb
     refine oY rfl (fun W_ hW_ => (X.move rfl)) rfl (oY rfl (fun W_ hW_ => (X.gtr rfl rfl)) rfl (oY rfl (fun W_ hW_ => (X.mvB (c := false) rfl (decide_eq_false (by omega)))) rfl (oNg (g := 40) rfl rfl rfl rfl hS rfl (oNg (g := 40) rfl rfl rfl rfl hS rfl (oNg (g := 40) rfl rfl rfl rfl hS rfl (oNg (g := 40) rfl rfl rfl rfl hS rfl (oNg (g := 40) rfl rfl rfl rfl hS rfl (oNg (g := 40) rfl rfl rfl rfl hS rfl (oNg (g := 40) rfl rfl rfl rfl hS rfl (oNg (g := 40) rfl rfl rfl rfl hS rfl ?_))))))))))
     refine oNg (g := 40) rfl rfl rfl rfl hS rfl (oNg (g := 40) rfl rfl rfl rfl hS rfl (oNg (g := 40) rfl rfl rfl rfl hS rfl (oNg (g := 40) rfl rfl rfl rfl hS rfl (oY rfl (fun W_ hW_ => (X.pickF rfl rfl)) rfl (oN (nN (W_no rfl (rfl) (W_skip (bN (tN ?_))))))))))
     refine W_reg ?_
     have hu' : upB (xs.take (j + 1)) = true := by
      obtain rfl : j = 0 := by omega
      cases xs with
      | nil => rfl
      | cons c xs => rfl
     refine st (X.add64 rfl rfl (by omega)) rfl (sm rfl rfl (Wn (tN ⟨_, _, ?_, ⟨j + 1, rfl, rfl, by omega, hu', hR, hB2, hbw⟩, ⟨rfl, rfl, rfl, rfl, trivial⟩⟩)))
     omega
   ·first | replace h36 := of_decide_eq_false h36 | replace h36 := of_decide_eq_true (notF h36) | replace h36 := notF h36 | skip
    obtain rfl : j = xs.length := by omega
    rw [List.take_length] at hu
    have hm := make_of_up hp ((upB_iff _).1 hu) (by omega) (hq.trans rfl)
    refine W_exit (tE (tE (bH (tN (W_rs (sm rfl rfl (st (X.bld rfl (bidx _ _ _ _)) rfl (ssBN rfl rfl hB2 siz25 rfl rfl (fun w15 hB_ hc_ => ?_)))))))))
    replace hR := hR.chg hc_ (fun k hk e => hR.ne_ hB2 (by decide) (by rw [hk, e]))
    replace hB2 := hB_
    replace hbw := bset hbw hc_ (by omega)
    clear hB_ hc_
    refine sa rfl rfl (Wn (tN (W_ret ((rCT rfl rfl hB2 Tryz.underlying25 rfl siz25 rfl ?_).1))))
    rw [hm]
    exact ⟨_, rfl, hR.reads, fun k hk => by have := hO1 k hk; omega, hbw⟩
end Go.Proofs.YtnlabkogebnioaaGreatDoor
namespace Go.Proofs.YtnlabkogebnioaaGreatDoor
open Go.RowKit
def eZ : Ent := ⟨List.replicate 32 0, 0, 0, 0⟩
theorem benZ (w : World) : (Instr.build 66 #[]).run Tryz.prog w = .ok (.agg eZ.cells.toArray) w := by kernel_rfl
theorem X.neSumF {l : Env} {x y : Operand} {w : World} {t' ty : TypeId} {a b : List UInt8} (ha : a.length = 32) (hb : b.length = 32) (hx : ev l x = some (.agg (a.map bv).toArray)) (hy : ev l y = some (.agg (b.map bv).toArray)) : X Tryz.prog l (.binOp .neq 60 x y t') ty w (.bool (!(a == b))) w :=
 X.bin hx hy (fun c d => run_eqGuard_agg w .neq _ c d _ _ (by kernel_rfl)) (run_neq_sum a b ha hb w)
end Go.Proofs.YtnlabkogebnioaaGreatDoor
namespace Go.Proofs.YtnlabkogebnioaaGreatDoor
open Go.RowKit
section
variable {P : Program} {N : Nat} {ds : List Deferred} {Q : Post} {l : Env} {w : World} {ops : Array Oper} {rest : List Oper} {x y : Operand} {ty ty2 t e : TypeId} {pos pos2 : String} {aft aft2 : Array Edge} {d d2 : Nat} {k : IntKind} {m : Int} {v : Value}
theorem X.idxV {len j : Nat} {cs : Array Value} {d : TypeDesc} (hx : ev l x = some (.agg cs)) (hy : ev l y = some (.int k m)) (hu : P.underlying t = some (.array len e)) (hi : (P.info? e).map (·.size) = some 1) (he : P.underlying e = some d) (hd : (match d with | .struct _ | .array _ _ => false | _ => true) = true) (hm : m = (j : Int)) (hj : j < len) (hc : cs[j]? = some v) : X P l (.index t x y) ty w v w := fun ρ hρ => by
 subst hm
 have hs : (sizeOf e).run P w = .ok 1 w := by
  obtain ⟨q, hq, hs⟩ := Option.map_eq_some_iff.1 hi
  simp [sizeOf, typeInfo, hq, hs]
 have hp : (part e cs j).run P w = .ok v w := by cases d <;> simp at hd <;> simp [part, isAgg, run_underlying he, hc]
 unfold execOp
 simp [hρ _ _ hx, hρ _ _ hy, Instr.index, asIntOf, run_underlying hu, hs, hj, hp, Result.andThen]
theorem sbconst {len : Nat} {ps : List (Nat × Operand)} {vs : List (Nat × Value)} {cs : Array Value} (hp : evp l ps = some vs) (hr : (Instr.buildSlice t len vs.toArray).run P w = .ok (.slice (some ⟨w.heap.size, 0, none⟩) len len) (w.alloc (.cells cs e))) (hu : P.underlying t = some (.slice e)) (he : P.underlying e = some (.int .u8)) (hn : len ≤ maxLen) (hc : cs.size = len) (hd : Nat.blt d N = true) (hd2 : Nat.blt d2 N = true)
  (h : ∀ g w', Row w' e 1 (.slice (some ⟨g, 0, none⟩) len len) len cs.toList → w.heap.size ≤ g → Below w.heap.size w w' → WL P N ds ops Q rest ((d2, .slice (some ⟨g, 0, none⟩) len len) :: (d, .slice (some ⟨g, 0, none⟩) len len) :: l) w') : WL P N ds ops Q (⟨some d, .buildSlice t len ps.toArray, ty, pos, aft, none⟩ :: ⟨some d2, .convert t t (.tmp d), ty2, pos2, aft2, none⟩ :: rest) l w := by
 refine st (w' := w.alloc (.cells cs e)) (fun ρ hρ => ?_) hd (st (w' := w.alloc (.cells cs e (cs.size, cs.size + 1))) (fun ρ hρ => ?_) hd2 (h _ _ ?_ (Nat.le_refl _) ((Below.refl _ _).alloc (Nat.le_refl _) _)))
 ·unfold execOp
  have := evp_map hρ hp
  simp only [List.map_toArray, Sem.run_bind]
  rw [this, hr]
  rfl
 ·unfold execOp
  have hx : ρ (.tmp d) = .slice (some ⟨w.heap.size, 0, none⟩) len len := hρ _ _ (by simp [ev, lk])
  have := Lib.run_convert_bytes_const (P := P) w t e cs len len hu he
  simp only [hx, Sem.run_bind, this, Result.andThen_ok, Sem.run_pure]
 ·refine ⟨by rw [Array.length_toList, hc, Nat.mul_one], .inr ⟨w.heap.size, 0, len, cs, (cs.size, cs.size + 1), rfl, heap_alloc_new w _, Nat.le_refl _, hn, by omega, ?_, fun j hj => by simp; omega⟩⟩
  rw [List.drop_zero, Nat.mul_one, List.take_of_length_le (by rw [Array.length_toList]; omega)]
end
theorem fnumber_k (v : Value) (s : List UInt8) (k : Nat) (n : Int) (w : World) (hR : Row w 5 1 v k (s.map bv)) (hk : s.length = k) (hs : k ≤ 100000000) :
  Calls Tryz.prog 77 #[v, .int .i64 n] w fun e w' => ∃ v', e = .returned v' ∧ Row w' 5 1 v' (k + 4) ((s ++ four n).map bv) ∧ Chg (fun k => v.ownBlock = some k) w w' ∧ (v'.ownBlock = v.ownBlock ∨ ∃ k, v'.ownBlock = some k ∧ w.heap.size ≤ k) := by
 subst hk
 exact fnumber_any v s n w hR hs
theorem b3arr (a b c : Int) (w : World) : (Instr.build 144 #[(0, .int .i64 a), (1, .int .i64 b), (2, .int .i64 c)]).run Tryz.prog w = .ok (.agg #[.int .i64 a, .int .i64 b, .int .i64 c]) w := by kernel_rfl
theorem entSrc {w : World} {g : Nat} {t tx e' : TypeId} {x : Ent} (hB : Blk w g t x.cells.toArray) (hx : x.sum.length = 32) (hk : Tryz.prog.underlying tx = some (.slice e')) : Src Tryz.prog 1 tx (.slice (some ⟨g, 0, none⟩) 32 32) 32 (x.sum.map bv) w :=
 Src.ofSlice w hk ⟨g, 0, none⟩ 32 32 (x.sum.map bv) (by simp [hx]) (fun j u hu => by
  have hj := (List.getElem?_eq_some_iff.1 hu).1
  rw [Addr.add_mid, Nat.zero_add, hB.cell, List.getElem?_toArray, Ent.cells, List.getElem?_append_left hj]
  exact hu) (by intro u hu; simp at hu; obtain ⟨q, _, rfl⟩ := hu; rfl)
def headE (l : List Ent) : List UInt8 := kindB ++ fanB l 256
theorem headE_length (l : List Ent) : (headE l).length = 1028 := by unfold headE; rw [List.length_append, fanB_length]; rfl
theorem entsB_length {l : List Ent} (h : S32 l) (j : Nat) (hj : j ≤ l.length) : (headE l ++ (l.take j).flatMap entBytes).length = 1028 + 44 * j := by
 rw [List.length_append, headE_length, flat_length entBytes 44 _ (fun e he => entBytes_length (h e (List.mem_of_mem_take he))), List.length_take, Nat.min_eq_left hj]
 omega
theorem fours_length (ns : List Int) : (ns.flatMap four).length = 4 * ns.length := by
 rw [flat_length four 4 ns (fun n _ => four_length n)]
 omega
set_option maxRecDepth 10000 in
theorem Encode_any (v : Value) (l : List Ent) (w : World) (h : EntsAt w v l) (h32 : S32 l) (hl : l.length ≤ 100000) :
  Calls Tryz.prog 36 #[.agg #[v]] w fun e w' => e = .returned (str (encM l)) ∧ Below w.heap.size w w' := by
 obtain ⟨a, cp, rfl, hn, hcp⟩ := h.shape
 refine W_enter (args := [.agg #[.slice a l.length cp]]) 54 Tryz.func36 rfl rfl rfl (W_sub [(0, .agg #[.slice a l.length cp])] ?_ ⟨rfl, trivial⟩)
 have hbw := Below.refl w.heap.size w
 refine W_rs (sboxA rfl rfl (fun g1 w1 hB1 hg1 hb hl1 => ?_))
 replace hbw := bthen hbw hb
 have hz_w1 := hb.size
 clear hb
 refine sa rfl rfl (Wn (tN (W_rs (sbconst (ps := [(0, .const (.int .u8 70)), (1, .const (.int .u8 65)), (2, .const (.int .u8 78)), (3, .const (.int .u8 49))]) rfl (fbs4 70 65 78 49 _) Tryz.underlying123 Tryz.underlying5 (by simp [maxLen]) rfl rfl rfl (fun g10 w2 hR10 hg10 hb => ?_)))))
 replace hB1 := hB1.belowAll hb
 replace hbw := bthen hbw hb
 clear hb
 skip
 refine sa rfl rfl (Wn (tN (W_seq (W_rs (st (X.ldBN rfl hB1 Tryz.underlying25 rfl siz25) rfl (sc _ Tryz.func76 rfl (by kernel_rfl) rfl rfl ((fan_any _ l _ (h.bel hbw) h32 (by omega)).mono ?_)))))))
 rintro e_ w3 ⟨rfl, hb⟩
 refine cR ?_
 have hpend := hb
 replace hbw := bthen hbw hb
 replace hB1 := hB1.bel hb
 have hz_w3 := hb.size
 clear hb
 refine sm rfl rfl (Wn (tN (W_block ?_)))
 replace hR10 := hR10.bel hpend
 clear hpend
 refine W_lp (fun nw4_ lw4_ w4 => ∃ k : Nat, ∃ v : Value, nw4_ = 256 - k ∧ lw4_ = ([(1, .pointer (some ⟨g1, 0, none⟩)), (3, v), (13, .agg (cntV l)), (14, .int .i64 k)] : Env) ∧ (k ≤ 256) ∧ (Row w4 5 1 v (4 + 4 * k) ((kindB ++ fanB l k).map bv)) ∧ (∀ k, v.ownBlock = some k → w.heap.size ≤ k) ∧ (Blk w4 g1 25 #[.slice a l.length cp]) ∧ (Below w.heap.size w w4)) _ ⟨_, ⟨0, .slice (some ⟨g10, 0, none⟩) 4 4, rfl, rfl, by omega, hR10, (fun k hk => by simp [Value.ownBlock] at hk; omega), hB1, hbw⟩, ⟨rfl, rfl, rfl, rfl, trivial⟩⟩ ?_
 clear hB1 hbw
 rintro nw4_ lw4_ w4 ⟨k, v, rfl, rfl, hk, hR, hO, hB1, hbw⟩
 have hz_w4 := hbw.size
 have hlt_hB1_w4 := hB1.lt
 refine W_rs (st (X.lss rfl rfl) rfl (Wn (tN (W_seq (W_if rfl (fun h15 => ?_) (fun h15 => ?_))))))
 ·first | replace h15 := of_decide_eq_true h15 | replace h15 := of_decide_eq_false (notT h15) | replace h15 := notT h15 | skip
  have hcl := cnt_le l k
  refine W_skip (tN (W_seq (W_block (W_rs (st (X.idxV (j := k) rfl rfl Tryz.underlying141 siz3 Tryz.underlying3 rfl rfl (by omega) (cntV_at l k (by omega))) rfl (sa rfl rfl (Wn (tN (W_reg (sm rfl rfl ?_))))))))))
  refine sm rfl rfl (sc _ Tryz.func77 rfl (by kernel_rfl) rfl rfl ((fnumber_k v (kindB ++ fanB l k) (4 + 4 * k) _ _ hR (by rw [List.length_append, fanB_length]; rfl) (by omega)).mono ?_))
  rintro e_ w5 ⟨v', rfl, hR', hC, hO2⟩
  refine cR ?_
  have hO' : ∀ k, v'.ownBlock = some k → w.heap.size ≤ k := fun k hk => by rcases hO2 with hO2 | ⟨q, hq, hO2⟩; exact hO k (by rw [← hO2]; exact hk); rw [hq] at hk; injection hk with hk; have := hbw.size; omega
  replace hB1 := hB1.chg hC (hR.ne_ hB1 (by decide))
  replace hbw := bapp hbw hC hO
  clear hC hO2 hR
  refine sa rfl rfl (Wn (bN (tN (W_reg (st (X.add64 rfl rfl (by omega)) rfl (sm rfl rfl (Wn (tN ⟨_, _, ?_, ⟨k + 1, v', rfl, rfl, by omega, by rw [fanB_succ, ← List.append_assoc]; simpa [Nat.mul_add, Nat.add_assoc] using hR', hO', hB1, hbw⟩, ⟨rfl, rfl, rfl, rfl, trivial⟩⟩))))))))
  omega
 ·first | replace h15 := of_decide_eq_false h15 | replace h15 := of_decide_eq_true (notF h15) | replace h15 := notF h15 | skip
  obtain rfl : k = 256 := by omega
  rw [show kindB ++ fanB l 256 = headE l from rfl] at hR
  refine W_exit (tE (tE (bH (tN (W_seq (W_rs (st (X.fa fa25_0 rfl) rfl (st (X.ldL rfl hB1 Tryz.underlying23 rfl rfl) rfl (st (X.lenL rfl rfl Tryz.underlying23) rfl (sm rfl rfl (Wn (tN (W_block ?_)))))))))))))
  refine W_lp (fun nw6_ lw6_ w6 => ∃ j : Nat, ∃ v : Value, nw6_ = l.length - j ∧ lw6_ = ([(1, .pointer (some ⟨g1, 0, none⟩)), (3, v), (22, .slice a l.length cp), (23, .int .i64 l.length), (24, .int .i64 j)] : Env) ∧ (j ≤ l.length) ∧ (Row w6 5 1 v (1028 + 44 * j) ((headE l ++ (l.take j).flatMap entBytes).map bv)) ∧ (∀ k, v.ownBlock = some k → w.heap.size ≤ k) ∧ (Below w.heap.size w w6)) _ ⟨_, ⟨0, v, rfl, rfl, by omega, (by simpa using hR), hO, hbw⟩, ⟨rfl, rfl, rfl, rfl, rfl, trivial⟩⟩ ?_
  clear hO hbw
  rintro nw6_ lw6_ w6 ⟨j, v, rfl, rfl, hj, hR, hO, hbw⟩
  have hz_w6 := hbw.size
  refine W_rs (st (X.lss rfl rfl) rfl (Wn (tN (W_seq (W_if rfl (fun h25 => ?_) (fun h25 => ?_))))))
  ·first | replace h25 := of_decide_eq_true h25 | replace h25 := of_decide_eq_false (notT h25) | replace h25 := notT h25 | skip
   obtain ⟨x, hx⟩ : ∃ x, l[j]? = some x := ⟨_, List.getElem?_eq_getElem (by omega)⟩
   obtain ⟨g1', o1, c', hv, hg1'⟩ := (h.bel hbw).some_ (by omega)
   injection hv with e1 _ e3
   subst e1 e3
   have hxs := h32 x (List.mem_of_getElem? hx)
   obtain ⟨base, hbase⟩ : ∃ q, headE l ++ (l.take j).flatMap entBytes = q := ⟨_, rfl⟩
   have hbl : base.length = 1028 + 44 * j := by rw [← hbase]; exact entsB_length h32 j hj
   refine W_skip (tN (W_seq (W_block (W_rs (st (X.idxA rfl rfl Tryz.underlying23 siz66 rfl (by omega)) rfl (st (X.ldN (cs := x.cells) rfl Tryz.underlying66 rfl (by rw [Ent.cells_length hxs]; exact siz66) (EntsAt.range (h.bel hbw) h32 hx)) rfl ?_))))))
   refine salA inf66 rfl (fun g7 w7 hB7 hg7 hb hl7 => ?_)
   have hpend := hb
   replace hbw := bthen hbw hb
   have hz_w7 := hb.size
   clear hb
   refine ssBN rfl rfl hB7 (by rw [Ent.size hxs]; exact siz66) (by rw [Ent.size hxs]; rfl) (Ent.cells_one x) (fun w8 hB_ hc_ => ?_)
   replace hB7 := hB_
   clear hB_
   replace hpend := bset hpend hc_ (by omega)
   replace hbw := bset hbw hc_ (by omega)
   have hz_w8 := hc_.size
   clear hc_
   refine Wn (tN (W_rs (sm rfl rfl (st (X.fa fa66_0 rfl) rfl (st (X.slArr rfl Tryz.underlying60 siz5) rfl ?_)))))
   replace hR := hR.bel hpend
   clear hpend
   refine sapp rfl rfl Tryz.underlying123 inf5 rfl (by decide) hR (entSrc hB7 hxs Tryz.underlying123) (by simp only [maxLen]; omega) (by omega) rfl (fun v1 w9 hR1 hC hv1 => ?_)
   replace hB7 := hB7.chg hC (hR.ne_ hB7 (by decide))
   have hO1 := own_next hv1 hO (by omega)
   replace hbw := bapp hbw hC hO
   rw [hbase, ← List.map_append] at hR1
   clear hC hR
   refine sa rfl rfl (Wn (tN (W_rs (st (X.fa fa66_1 rfl) rfl (st (X.ldB rfl hB7 Tryz.underlying3 rfl (Ent.cell_ hxs 0 _ rfl)) rfl (st (X.fa fa66_2 rfl) rfl (st (X.ldB rfl hB7 Tryz.underlying3 rfl (Ent.cell_ hxs 1 _ rfl)) rfl (st (X.fa fa66_3 rfl) rfl (st (X.ldB rfl hB7 Tryz.underlying3 rfl (Ent.cell_ hxs 2 _ rfl)) rfl (st (X.bld rfl (b3arr _ _ _ _)) rfl ?_))))))))))
   refine sm rfl rfl (Wn (tN (W_block (W_lp (fun nw10_ lw10_ w10 => ∃ i : Nat, ∃ v : Value, nw10_ = 3 - i ∧ lw10_ = ([(1, .pointer (some ⟨g1, 0, none⟩)), (3, v), (22, .slice (some ⟨g1', o1, none⟩) l.length cp), (23, .int .i64 l.length), (24, .int .i64 j), (38, .agg #[.int .i64 x.pack, .int .i64 x.pos, .int .i64 x.len]), (39, .int .i64 i)] : Env) ∧ (i ≤ 3) ∧ (Row w10 5 1 v (1028 + 44 * j + 32 + 4 * i) ((base ++ x.sum ++ ([x.pack, x.pos, x.len].take i).flatMap four).map bv)) ∧ (∀ k, v.ownBlock = some k → w.heap.size ≤ k) ∧ (Below w.heap.size w w10)) _ ⟨_, ⟨0, v1, rfl, rfl, by omega, (by simpa using hR1), hO1, hbw⟩, ⟨rfl, rfl, rfl, rfl, rfl, rfl, rfl, trivial⟩⟩ ?_))))
   clear hbw
   rintro nw10_ lw10_ w10 ⟨i, v, rfl, rfl, hi, hR, hO, hbw⟩
   have hz_w10 := hbw.size
   refine W_rs (st (X.lss rfl rfl) rfl (Wn (tN (W_seq (W_if rfl (fun h40 => ?_) (fun h40 => ?_))))))
   ·first | replace h40 := of_decide_eq_true h40 | replace h40 := of_decide_eq_false (notT h40) | replace h40 := notT h40 | skip
    obtain ⟨n1, hn1⟩ : ∃ n1, [x.pack, x.pos, x.len][i]? = some n1 := ⟨_, List.getElem?_eq_getElem (by simp; omega)⟩
    have hcell : (#[Value.int .i64 x.pack, .int .i64 x.pos, .int .i64 x.len] : Array Value)[i]? = some (.int .i64 n1) := by
     have e := congrArg (Option.map (Value.int .i64)) hn1
     rw [← List.getElem?_map] at e
     rw [List.getElem?_toArray]
     exact e
    refine W_skip (tN (W_seq (W_block (W_rs (st (X.idxV (j := i) rfl rfl Tryz.underlying144 siz3 Tryz.underlying3 rfl rfl (by omega) hcell) rfl (sa rfl rfl (Wn (tN (W_reg (sm rfl rfl ?_))))))))))
    refine sm rfl rfl (sc _ Tryz.func77 rfl (by kernel_rfl) rfl rfl ((fnumber_k v _ _ _ _ hR (by rw [List.length_append, List.length_append, hbl, hxs, fours_length, List.length_take, Nat.min_eq_left (by simpa using hi)]) (by omega)).mono ?_))
    rintro e_ w11 ⟨v', rfl, hR', hC, hO2⟩
    refine cR ?_
    have hO' : ∀ k, v'.ownBlock = some k → w.heap.size ≤ k := fun k hk => by rcases hO2 with hO2 | ⟨q, hq, hO2⟩; exact hO k (by rw [← hO2]; exact hk); rw [hq] at hk; injection hk with hk; have := hbw.size; omega
    replace hbw := bapp hbw hC hO
    clear hC hO2 hR
    refine sa rfl rfl (Wn (bN (tN (W_reg (st (X.add64 rfl rfl (by omega)) rfl (sm rfl rfl (Wn (tN ⟨_, _, ?_, ⟨i + 1, v', rfl, rfl, by omega, by rw [take_next' hn1, List.flatMap_append, ← List.append_assoc]; simpa [Nat.mul_add, Nat.add_assoc] using hR', hO', hbw⟩, ⟨rfl, rfl, rfl, rfl, rfl, rfl, rfl, trivial⟩⟩))))))))
    omega
   ·first | replace h40 := of_decide_eq_false h40 | replace h40 := of_decide_eq_true (notF h40) | replace h40 := notF h40 | skip
    obtain rfl : i = 3 := by omega
    rw [show ([x.pack, x.pos, x.len].take 3).flatMap four = four x.pack ++ (four x.pos ++ four x.len) by simp, ← hbase] at hR
    refine W_exit (tE (tE (bH (bN (tN (W_reg (st (X.add64 rfl rfl (by omega)) rfl (sm rfl rfl (Wn (tN ⟨_, _, ?_, ⟨j + 1, v, rfl, rfl, by omega, by rw [take_next' hx, List.flatMap_append, ← List.append_assoc]; simpa [entBytes, Nat.mul_add, Nat.add_assoc] using hR, hO, hbw⟩, ⟨rfl, rfl, rfl, rfl, rfl, trivial⟩⟩))))))))))
    omega
  ·first | replace h25 := of_decide_eq_false h25 | replace h25 := of_decide_eq_true (notF h25) | replace h25 := notF h25 | skip
   obtain rfl : j = l.length := by omega
   rw [List.take_length, show headE l ++ l.flatMap entBytes = bodyE l from rfl] at hR
   have hbl := bodyE_length h32
   refine W_exit (tE (tE (bH (tN (W_rs (sm rfl rfl (sm rfl rfl (st (X.strOf (s := bodyE l) rfl Tryz.underlying123 Tryz.underlying5 Tryz.underlying9 hR.reads) rfl (sc _ Tryz.func78 rfl (by kernel_rfl) rfl rfl ((Crc_any (bodyE l) _ (by omega)).mono ?_))))))))))
   rintro e_ w12 ⟨rfl, hb⟩
   refine cR ?_
   have hpend := hb
   replace hbw := bthen hbw hb
   have hz_w12 := hb.size
   clear hb
   refine st (X.convI (z := ((Crc.crc (bodyE l)).toNat : Int)) rfl Tryz.underlying145 Tryz.underlying3 (w64 (by have := (Crc.crc (bodyE l)).toNat_lt; omega))) rfl ?_
   replace hR := hR.bel hpend
   clear hpend
   refine sc _ Tryz.func77 rfl (by kernel_rfl) rfl rfl ((fnumber_k v (bodyE l) _ _ _ hR hbl (by omega)).mono ?_)
   rintro e_ w13 ⟨v', rfl, hR', hC, hO2⟩
   refine cR ?_
   replace hbw := bapp hbw hC hO
   clear hC hO2 hR
   refine st (X.strOf (s := encM l) rfl Tryz.underlying123 Tryz.underlying5 Tryz.underlying9 hR'.reads) rfl (sa rfl rfl (Wn (tN (W_ret ?_))))
   exact (rT rfl rfl ⟨rfl, hbw⟩).1
end Go.Proofs.YtnlabkogebnioaaGreatDoor
namespace Go.Proofs.YtnlabkogebnioaaGreatDoor
open Go.RowKit
set_option maxRecDepth 10000 in
theorem checked_any (s : List UInt8) (w : World) (hs : s.length < 10000000) : Calls Tryz.prog 113 #[str s] w fun e w' => e = .returned (.tuple #[.int .i64 (if checkM s = 0 then (num (s.drop 1024) : Nat) else 0 : Nat), .int .i64 (checkM s)]) ∧ Below w.heap.size w w' := by
 have hnl := num_lt (s.drop 1024)
 obtain ⟨c, hc⟩ : ∃ c, checkM s = c := ⟨_, rfl⟩
 rw [hc]
 unfold checkM at hc
 refine W_enter (args := [str s]) 45 Tryz.func113 rfl rfl rfl (W_sub [(0, str s)] ?_ ⟨rfl, trivial⟩)
 have hbw := Below.refl w.heap.size w
 refine W_rs (sa rfl rfl (sa rfl rfl (Wn (tN (W_seq (W_block (W_rs (sm rfl rfl (st (X.lenS rfl rfl Tryz.underlying9) rfl (st (X.lss rfl rfl) rfl ?_))))))))))
 refine sa rfl rfl (Wn (tN (W_if rfl (fun h6 => ?_) (fun h6 => ?_))))
 ·first | replace h6 := of_decide_eq_true h6 | replace h6 := of_decide_eq_false (notT h6) | replace h6 := notT h6 | skip
  refine W_rs (sa rfl rfl (sa rfl rfl (Wn (tN (W_ret (bR (tR ?_)))))))
  rw [if_pos (by omega)] at hc
  subst hc
  exact (rTT rfl rfl rfl ⟨rfl, hbw⟩).1
 ·first | replace h6 := of_decide_eq_false h6 | replace h6 := of_decide_eq_true (notF h6) | replace h6 := notF h6 | skip
  refine W_rs (sm rfl rfl (st (X.toS (j := 4) rfl rfl Tryz.underlying9 rfl (by omega)) rfl (st (X.neS (b := kindB) rfl rfl) rfl (sa rfl rfl (Wn (tN (W_if rfl (fun h10 => ?_) (fun h10 => ?_))))))))
  ·first | replace h10 := of_decide_eq_true h10 | replace h10 := of_decide_eq_false (notT h10) | replace h10 := notT h10 | skip
   refine W_rs (sa rfl rfl (sa rfl rfl (Wn (tN (W_ret (bR (tR ?_)))))))
   rw [if_neg (by omega), if_pos h10] at hc
   subst hc
   exact (rTT rfl rfl rfl ⟨rfl, hbw⟩).1
  ·first | replace h10 := of_decide_eq_false h10 | replace h10 := of_decide_eq_true (notF h10) | replace h10 := notF h10 | skip
   rw [if_neg (by omega), if_neg h10] at hc
   refine W_skip (bN (tN (W_rs (sm rfl rfl (sc _ Tryz.func114 rfl (by kernel_rfl) rfl rfl ((fnumbered_any s 1024 _ (by omega) (by omega)).mono ?_))))))
   rintro e_ w1 ⟨rfl, hb⟩
   refine cR ?_
   replace hbw := bthen hbw hb
   have hz_w1 := hb.size
   clear hb
   refine sa rfl rfl (Wn (tN (W_rs (sm rfl rfl (st (X.mul64 rfl rfl (by omega)) rfl (st (X.add64 rfl rfl (by omega)) rfl (sa rfl rfl (Wn (tN (W_seq ?_))))))))))
   refine W_block (W_rs (sm rfl rfl (st (X.gtr rfl rfl) rfl (sa rfl rfl (Wn (tN (W_if rfl (fun h19 => ?_) (fun h19 => ?_))))))))
   ·first | replace h19 := of_decide_eq_true h19 | replace h19 := of_decide_eq_false (notT h19) | replace h19 := notT h19 | skip
    refine W_rs (sa rfl rfl (sa rfl rfl (Wn (tN (W_ret (bR (tR ?_)))))))
    rw [if_pos (by omega)] at hc
    subst hc
    exact (rTT rfl rfl rfl ⟨rfl, hbw⟩).1
   ·first | replace h19 := of_decide_eq_false h19 | replace h19 := of_decide_eq_true (notF h19) | replace h19 := notF h19 | skip
    refine W_rs (sm rfl rfl (st (X.lenS rfl rfl Tryz.underlying9) rfl (sm rfl rfl (st (X.lss rfl rfl) rfl (sa rfl rfl (Wn (tN (W_if rfl (fun h22 => ?_) (fun h22 => ?_)))))))))
    ·first | replace h22 := of_decide_eq_true h22 | replace h22 := of_decide_eq_false (notT h22) | replace h22 := notT h22 | skip
     refine W_rs (sa rfl rfl (sa rfl rfl (Wn (tN (W_ret (bR (tR ?_)))))))
     rw [if_neg (by omega), if_pos (by omega)] at hc
     subst hc
     exact (rTT rfl rfl rfl ⟨rfl, hbw⟩).1
    ·first | replace h22 := of_decide_eq_false h22 | replace h22 := of_decide_eq_true (notF h22) | replace h22 := notF h22 | skip
     refine W_rs (sm rfl rfl (st (X.lenS rfl rfl Tryz.underlying9) rfl (sm rfl rfl (st (X.gtr rfl rfl) rfl (sa rfl rfl (Wn (tN (W_if rfl (fun h27 => ?_) (fun h27 => ?_)))))))))
     ·first | replace h27 := of_decide_eq_true h27 | replace h27 := of_decide_eq_false (notT h27) | replace h27 := notT h27 | skip
      refine W_rs (sa rfl rfl (sa rfl rfl (Wn (tN (W_ret (bR (tR ?_)))))))
      rw [if_neg (by omega), if_neg (by omega), if_pos (by omega)] at hc
      subst hc
      exact (rTT rfl rfl rfl ⟨rfl, hbw⟩).1
     ·first | replace h27 := of_decide_eq_false h27 | replace h27 := of_decide_eq_true (notF h27) | replace h27 := notF h27 | skip
      rw [if_neg (by omega), if_neg (by omega), if_neg (by omega)] at hc
      have hlen : s.length = 1032 + 44 * num (s.drop 1024) := by omega
      refine W_drsN (fun _ => True) [0, 1, 2, 4, 5, 6, 7, 3, 8, 9, 10, 11] [true, true, true, true, true, true, true, false, false, true, true, true] (by kernel_rfl) (by kernel_rfl) (trivial) ?_
      obtain ⟨w2, hw_⟩ : ∃ w2 : World, w2 = World.drew w1 := ⟨_, rfl⟩
      rw [← hw_]
      have hb : Below w1.heap.size w1 w2 := by rw [hw_]; exact bdrew (Below.refl _ _)
      clear hw_
      have hS : True := trivial
      replace hbw := bthen hbw hb
      have hz_w2 := hb.size
      clear hb
      refine oY rfl (fun W_ hW_ => (X.move rfl)) rfl (oY rfl (fun W_ hW_ => (X.move rfl)) rfl (oY rfl (fun W_ hW_ => (X.sub rfl rfl (show IntKind.i64.wrap (1032 + ((num (s.drop 1024) : Nat) : Int) * 44 - 4) = ((s.length - 4 : Nat) : Int) by rw [w64 (by omega)]; omega))) rfl ?_))
      refine oY rfl (fun W_ hW_ => (X.move rfl)) rfl (oY rfl (fun W_ hW_ => (X.move rfl)) rfl (oY rfl (fun W_ hW_ => (X.sub rfl rfl (show IntKind.i64.wrap (1032 + ((num (s.drop 1024) : Nat) : Int) * 44 - 4) = ((s.length - 4 : Nat) : Int) by rw [w64 (by omega)]; omega))) rfl ?_))
      refine oY rfl (fun W_ hW_ => (X.toS rfl rfl Tryz.underlying9 rfl (by omega))) rfl (oL rfl (fun Q_ hQ_ hP_ => (sc _ Tryz.func114 rfl (by kernel_rfl) rfl rfl ((fnumbered_any s (s.length - 4) _ (by omega) (by omega)).mono ?_))))
      rintro e_ w3 ⟨rfl, hb⟩
      refine cR ?_
      replace hbw := bthen hbw hb
      have hz_w3 := hb.size
      clear hb
      refine Wn (hQ_ _ _ trivial ?_)
      clear hQ_ hP_ Q_
      refine oL rfl (fun Q_ hQ_ hP_ => (sc _ Tryz.func78 rfl (by kernel_rfl) rfl rfl ((Crc_any (s.take (s.length - 4)) _ (by rw [List.length_take]; omega)).mono ?_)))
      rintro e_ w4 ⟨rfl, hb⟩
      refine cR ?_
      replace hbw := bthen hbw hb
      have hz_w4 := hb.size
      clear hb
      refine Wn (hQ_ _ _ trivial ?_)
      clear hQ_ hP_ Q_
      refine oY rfl (fun W_ hW_ => (X.convI (z := ((Crc.crc (s.take (s.length - 4))).toNat : Int)) rfl Tryz.underlying145 Tryz.underlying3 (w64 (by have := (Crc.crc (s.take (s.length - 4))).toNat_lt; omega)))) rfl ?_
      refine oY rfl (fun W_ hW_ => (X.neq rfl rfl)) rfl (oY rfl (fun W_ hW_ => (X.assign rfl)) rfl (oN (nN (W_if rfl (fun h32 => ?_) (fun h32 => ?_)))))
      ·first | replace h32 := of_decide_eq_true h32 | replace h32 := of_decide_eq_false (notT h32) | replace h32 := notT h32 | skip
       refine W_rs (sa rfl rfl (sa rfl rfl (Wn (tN (W_ret (bR (tR ?_)))))))
       rw [if_pos (by omega)] at hc
       subst hc
       exact (rTT rfl rfl rfl ⟨rfl, hbw⟩).1
      ·first | replace h32 := of_decide_eq_false h32 | replace h32 := of_decide_eq_true (notF h32) | replace h32 := notF h32 | skip
       refine W_skip (bN (tN (W_rs (sm rfl rfl (sa rfl rfl (sa rfl rfl (Wn (tN (W_ret ?_)))))))))
       rw [if_neg (by omega)] at hc
       subst hc
       exact (rTT rfl rfl rfl ⟨rfl, hbw⟩).1
def FilledE (cs : Array Value) (n j : Nat) (l : List Ent) : Prop := cs.size = n * 35 ∧ cs.toList.take (j * 35) = (l.take j).flatMap Ent.cells
theorem set3 (A C : List Value) (u v x : Value) (p : Nat) (hp : A.length = p) (hC : 3 ≤ C.length) : (((A ++ C).set p u).set (p + 1) v).set (p + 2) x = A ++ [u, v, x] ++ C.drop 3 := by
 subst hp
 match C, hC with
 | c0 :: c1 :: c2 :: C, _ =>
  rw [List.set_append_right _ _ (Nat.le_refl _), List.set_append_right _ _ (by omega), List.set_append_right _ _ (by omega)]
  simp
theorem FilledE.next {cs : Array Value} {n j : Nat} {l : List Ent} {x : Ent} (h : FilledE cs n j l) (hj : j < n) (hx : l[j]? = some x) (hs : x.sum.length = 32) :
  FilledE ((((cs.toList.take (j * 35) ++ x.sum.map bv ++ cs.toList.drop (j * 35 + 32)).toArray.setIfInBounds (j * 35 + 32) (.int .i64 x.pack)).setIfInBounds (j * 35 + 33) (.int .i64 x.pos)).setIfInBounds (j * 35 + 34) (.int .i64 x.len)) n (j + 1) l := by
 obtain ⟨h1, h2⟩ := h
 have hlen : cs.toList.length = n * 35 := by simpa using h1
 have hb : (j + 1) * 35 ≤ n * 35 := Nat.mul_le_mul_right 35 hj
 have e1 : (cs.toList.take (j * 35)).length = j * 35 := by rw [List.length_take]; omega
 refine ⟨by simp [hs]; omega, ?_⟩
 simp only [List.setIfInBounds_toArray]
 rw [set3 (cs.toList.take (j * 35) ++ x.sum.map bv) (cs.toList.drop (j * 35 + 32)) _ _ _ (j * 35 + 32) (by rw [List.length_append, e1, List.length_map, hs]) (by rw [List.length_drop]; omega)]
 rw [take_next' hx, List.flatMap_append, ← h2, List.append_assoc (cs.toList.take (j * 35))]
 rw [List.take_left' (by simp [hs]; omega)]
 simp [Ent.cells]
theorem filledE_sum {w : World} {g : Nat} {t : TypeId} {cs : Array Value} {n j i : Nat} {l : List Ent} {x : Ent} (hB : Blk w g t cs) (hf : FilledE cs n j l) (hl : S32 l) (hi : i < j) (hx : l[i]? = some x) : w.rangeAt g (0 + i * 35 + 0) (x.sum.map bv) := fun q v hv => by
 have hxs := hl x (List.mem_of_getElem? hx)
 have hq : q < 32 := by have := (List.getElem?_eq_some_iff.1 hv).1; simpa [hxs] using this
 have h1 := flat_at Ent.cells 35 (l.take j) i x (fun a ha => Ent.cells_length (hl a (List.mem_of_mem_take ha))) (by rw [List.getElem?_take_of_lt hi]; exact hx)
 have h2 : (x.cells)[q]? = some v := by
  unfold Ent.cells
  rw [List.getElem?_append_left (by rw [List.length_map, hxs]; exact hq)]
  exact hv
 rw [← h1, ← hf.2, List.getElem?_take, if_pos (by omega), List.getElem?_drop, List.getElem?_take] at h2
 rw [if_pos (by have : (i + 1) * 35 ≤ j * 35 := Nat.mul_le_mul_right 35 hi; omega)] at h2
 rw [hB.cell, ← Array.getElem?_toList, show 0 + i * 35 + 0 + q = i * 35 + q by omega]
 exact h2
theorem dec_check {s : List UInt8} (h : checkM s ≠ 0) : decM s = ([], checkM s) := by unfold decM; rw [if_pos h]
theorem dec_18 {s : List UInt8} (h : checkM s = 0) (h2 : upB (lE s) = false) : decM s = ([], 18) := by unfold decM; rw [if_neg (by rw [h]; simp), if_pos h2]
theorem dec_12 {s : List UInt8} (h : checkM s = 0) (h2 : upB (lE s) = true) {k : Nat} (hk : k < 256) (h3 : num (s.drop (4 + 4 * k)) ≠ cntM (lE s) k) : decM s = ([], 12) := by
 unfold decM
 rw [if_neg (by rw [h]; simp), if_neg (by rw [h2]; simp), if_neg]
 intro he
 exact h3 ((enc_iff h).1 he k hk)
theorem dec_0 {s : List UInt8} (h : checkM s = 0) (h2 : upB (lE s) = true) (h3 : fansOk s (lE s) 256) : decM s = (lE s, 0) := by
 unfold decM
 rw [if_neg (by rw [h]; simp), if_neg (by rw [h2]; simp), if_pos ((enc_iff h).2 h3)]
theorem EntsAt.chgB {w w' : World} {g o n c k : Nat} {l : List Ent} (h : EntsAt w (.slice (some ⟨g, o, none⟩) n c) l) (hc : Chg (fun q => q = k) w w') (hk : g ≠ k) : EntsAt w' (.slice (some ⟨g, o, none⟩) n c) l := by
 obtain ⟨h1, a, cap, e, h3, h4, h5⟩ := h
 refine ⟨h1, a, cap, e, h3, h4, fun h0 => ?_⟩
 obtain ⟨g', off, rfl, hg, hcl⟩ := h5 h0
 injection e with e1
 injection e1 with e1
 injection e1 with e1
 subst e1
 have := hc.size
 exact ⟨_, off, rfl, by omega, fun j u hu => (hc.cell (p := ⟨g, off + j, none⟩) hg hk).trans (hcl j u hu)⟩
set_option maxRecDepth 10000 in
set_option maxHeartbeats 1000000 in
theorem Decode_own (s : List UInt8) (w : World) (hs : s.length < 10000000) : Calls Tryz.prog 71 #[str s] w (IdxPostO w (decM s)) := by
 refine W_enter (args := [str s]) 106 Tryz.func71 rfl rfl rfl (W_sub [(0, str s)] ?_ ⟨rfl, trivial⟩)
 have hbw := Below.refl w.heap.size w
 refine W_rs (salA inf25 rfl (fun g2 w1 hB2 hg2 hb hl2 => ?_))
 replace hbw := bthen hbw hb
 have hz_w1 := hb.size
 clear hb
 refine sa rfl rfl (Wn (tN (W_rs (sm rfl rfl (sc _ Tryz.func113 rfl (by kernel_rfl) rfl rfl ((checked_any s _ hs).mono ?_))))))
 rintro e_ w2 ⟨rfl, hb⟩
 refine cR ?_
 replace hbw := bthen hbw hb
 replace hB2 := hB2.bel hb
 have hz_w2 := hb.size
 clear hb
 refine sm rfl rfl (st (X.ext rfl rfl) rfl (st (X.ext rfl rfl) rfl (sa rfl rfl (sa rfl rfl (Wn (tN (W_seq (W_rs (sm rfl rfl (st (X.neq rfl rfl) rfl ?_))))))))))
 refine Wn (tN (W_if rfl (fun h17 => ?_) (fun h17 => ?_)))
 ·first | replace h17 := of_decide_eq_true h17 | replace h17 := of_decide_eq_false (notT h17) | replace h17 := notT h17 | skip
  refine W_rs (st (X.bld rfl (bidx0 _)) rfl (sm rfl rfl (ssBN rfl rfl hB2 siz25 rfl rfl (fun w3 hB_ hc_ => ?_))))
  replace hB2 := hB_
  clear hB_
  replace hbw := bset hbw hc_ (by omega)
  have hz_w3 := hc_.size
  clear hc_
  refine sa rfl rfl (Wn (tN (W_ret (tR ?_))))
  exact (rCT rfl rfl hB2 Tryz.underlying25 rfl siz25 rfl (idx_errO (dec_check h17) hbw)).1
 ·first | replace h17 := of_decide_eq_false h17 | replace h17 := of_decide_eq_true (notF h17) | replace h17 := notF h17 | skip
  have h0 : checkM s = 0 := Classical.not_not.1 h17
  rw [if_pos h0]
  obtain ⟨c1, c2, c3, c4, c5⟩ := check_ok h0
  obtain ⟨n, hn⟩ : ∃ n, num (s.drop 1024) = n := ⟨_, rfl⟩
  obtain ⟨L, hL⟩ : ∃ L, lE s = L := ⟨_, rfl⟩
  have hLl : L.length = n := by rw [← hL, ← hn]; exact entsOf_length _ _
  have hL32 : S32 L := by rw [← hL]; exact lE_S32 h0
  rw [hn]
  rw [hn] at c3 c4
  refine W_skip (tN (W_rs (sm rfl rfl (smkB rfl rfl rfl rfl Tryz.underlying23 inf66 (by omega) (by simp only [maxLen]; omega) rfl (fun gL w4 hLB hgL hb hlL => ?_)))))
  replace hB2 := hB2.belowAll hb
  replace hbw := bthen hbw hb
  clear hb
  refine st (X.bld rfl (bidx _ _ _ _)) rfl (salA inf25 rfl (fun g6 w5 hB6 hg6 hb hl6 => ?_))
  have hpend := hb
  replace hbw := bthen hbw hb
  replace hB2 := hB2.bel hb
  have hz_w5 := hb.size
  clear hb
  refine ssBN rfl rfl hB6 siz25 rfl rfl (fun w6 hB_ hc_ => ?_)
  replace hB6 := hB_
  clear hB_
  replace hpend := bset hpend hc_ (by omega)
  replace hB2 := hB2.chg hc_ (by first | (show ¬ _ = _; omega) | (intro k_ hk_; simp [Value.ownBlock] at hk_; subst hk_; show ¬ _ = _; omega) | assumption | trivial)
  replace hbw := bset hbw hc_ (by omega)
  have hz_w6 := hc_.size
  clear hc_
  refine Wn (tN (W_seq (W_rs (st (X.fa fa25_0 rfl) rfl (st (X.ldL rfl hB6 Tryz.underlying23 rfl rfl) rfl (st (X.lenL rfl rfl Tryz.underlying23) rfl (sm rfl rfl (Wn (tN (W_block ?_))))))))))
  replace hLB := hLB.bel hpend
  clear hpend
  refine W_lp (fun nw7_ lw7_ w7 => ∃ j : Nat, ∃ cs : Array Value, nw7_ = n - j ∧ lw7_ = ([(0, str s), (2, .pointer (some ⟨g2, 0, none⟩)), (6, .pointer (some ⟨g6, 0, none⟩)), (25, .int .i64 n), (26, .int .i64 j)] : Env) ∧ (j ≤ n) ∧ (Blk w7 g2 25 #[.slice none 0 0]) ∧ (Blk w7 g6 25 #[.slice (some ⟨gL, 0, none⟩) n n]) ∧ (Blk w7 gL 66 cs) ∧ (FilledE cs n j L) ∧ (upB (L.take j) = true) ∧ (Below w.heap.size w w7)) _ ⟨_, ⟨0, _, rfl, rfl, by omega, hB2, hB6, hLB, ⟨madeCells_size _ _, by simp⟩, rfl, hbw⟩, ⟨rfl, rfl, rfl, rfl, rfl, trivial⟩⟩ ?_
  clear hB2 hB6 hLB hbw
  rintro nw7_ lw7_ w7 ⟨j, cs, rfl, rfl, hj, hB2, hB6, hLB, hf, hso, hbw⟩
  have hz_w7 := hbw.size
  have hlt_hB2_w7 := hB2.lt
  have hlt_hB6_w7 := hB6.lt
  refine W_rs (st (X.lss rfl rfl) rfl (Wn (tN (W_seq (W_if rfl (fun h27 => ?_) (fun h27 => ?_))))))
  ·first | replace h27 := of_decide_eq_true h27 | replace h27 := of_decide_eq_false (notT h27) | replace h27 := notT h27 | skip
   obtain ⟨x, hx⟩ : ∃ x, L[j]? = some x := ⟨_, List.getElem?_eq_getElem (by omega)⟩
   have hx' := entsOf_at (num (s.drop 1024)) (s.drop 1028) j (by omega)
   rw [show entsOf (num (s.drop 1024)) (s.drop 1028) = L from hL, hx] at hx'
   injection hx' with hx'
   have hxs := hL32 x (List.mem_of_getElem? hx)
   simp only [List.drop_drop] at hx'
   have hfs := hf.1
   refine W_skip (tN (W_seq (W_block (W_rs (sm rfl rfl (sa rfl rfl (Wn (tN (W_rs (sm rfl rfl ?_))))))))))
   refine st (X.mul64 rfl rfl (by omega)) rfl (st (X.add rfl rfl (show IntKind.i64.wrap (1028 + (j : Int) * 44) = ((1028 + 44 * j : Nat) : Int) by rw [w64 (by omega)]; omega)) rfl ?_)
   refine sa rfl rfl (Wn (tN (W_still_s 9 (by kernel_rfl) (by kernel_rfl) ?_)))
   obtain ⟨w8, hw_⟩ : ∃ w8 : World, w8 = World.drew w7 := ⟨_, rfl⟩
   rw [← hw_]
   have hb : Below w7.heap.size w7 w8 := by rw [hw_]; exact bdrew (Below.refl _ _)
   clear hw_
   replace hbw := bthen hbw hb
   replace hB2 := hB2.bel hb
   replace hB6 := hB6.bel hb
   replace hLB := hLB.bel hb
   have hz_w8 := hb.size
   clear hb
   refine hY (X.fa fa25_0 rfl) rfl (hY (X.ldL rfl hB6 Tryz.underlying23 rfl rfl) rfl (hY (X.move rfl) rfl (hY (X.idxA rfl rfl Tryz.underlying23 siz66 rfl (by omega)) rfl (hY (X.fa fa66_0 rfl) rfl (hY (X.slArr rfl Tryz.underlying60 siz5) rfl (hY (X.move rfl) rfl (hY (X.move rfl) rfl (hY (X.fromS (i := 1028 + 44 * j) rfl rfl Tryz.underlying9 rfl (by omega)) rfl (hN (scpT rfl rfl Tryz.underlying123 siz5 hLB (by rw [List.length_drop]; omega) (by rw [hfs]; omega) rfl (fun w9 hLB_ hc_ => ?_)))))))))))
   replace hB2 := hB2.chg hc_ (by show ¬ _ = _; omega)
   replace hB6 := hB6.chg hc_ (by show ¬ _ = _; omega)
   replace hbw := bset hbw hc_ (by omega)
   have hz_c := hc_.size
   replace hLB := hLB_
   clear hLB_ hc_
   refine Wn (tN (W_drsN (fun W_ => Blk W_ g6 25 #[.slice (some ⟨gL, 0, none⟩) n n]) [0, 1, 2, 3, 4, 5, 6, 7, 8, 9, 10, 11, 13, 14, 15, 17, 18, 19, 12, 16, 20, 21, 22, 23, 24, 25, 26, 27, 28, 29] [true, true, true, true, true, true, true, true, true, true, true, true, true, true, true, true, true, true, false, false, false, true, true, false, true, true, false, true, true, false] (by kernel_rfl) (by kernel_rfl) (hB6.drew) ?_))
   obtain ⟨w10, hw_⟩ : ∃ w10 : World, w10 = World.drew w9 := ⟨_, rfl⟩
   rw [← hw_]
   have hb : Below w9.heap.size w9 w10 := by rw [hw_]; exact bdrew (Below.refl _ _)
   clear hw_
   have hS := hb
   replace hbw := bthen hbw hb
   replace hB2 := hB2.bel hb
   replace hB6 := hB6.bel hb
   replace hLB := hLB.bel hb
   have hz_w10 := hb.size
   clear hb
   refine oY rfl (fun W_ hW_ => (X.fa fa25_0 rfl)) rfl (oY rfl (fun W_ hW_ => (X.ldB rfl hW_ Tryz.underlying23 rfl rfl)) rfl (oY rfl (fun W_ hW_ => (X.move rfl)) rfl (oY rfl (fun W_ hW_ => (X.fa fa25_0 rfl)) rfl (oY rfl (fun W_ hW_ => (X.ldB rfl hW_ Tryz.underlying23 rfl rfl)) rfl (oY rfl (fun W_ hW_ => (X.move rfl)) rfl (oY rfl (fun W_ hW_ => (X.fa fa25_0 rfl)) rfl (oY rfl (fun W_ hW_ => (X.ldB rfl hW_ Tryz.underlying23 rfl rfl)) rfl (oY rfl (fun W_ hW_ => (X.move rfl)) rfl (oY rfl (fun W_ hW_ => (X.move rfl)) rfl (oY rfl (fun W_ hW_ => (X.move rfl)) rfl ?_))))))))))
   refine oY rfl (fun W_ hW_ => (X.add rfl rfl (show IntKind.i64.wrap (((1028 + 44 * j : Nat) : Int) + 32) = ((1028 + 44 * j + 32 : Nat) : Int) by rw [w64 (by omega)]; omega))) rfl ?_
   refine oY rfl (fun W_ hW_ => (X.move rfl)) rfl (oY rfl (fun W_ hW_ => (X.move rfl)) rfl (oY rfl (fun W_ hW_ => (X.add rfl rfl (show IntKind.i64.wrap (((1028 + 44 * j : Nat) : Int) + 36) = ((1028 + 44 * j + 36 : Nat) : Int) by rw [w64 (by omega)]; omega))) rfl ?_))
   refine oY rfl (fun W_ hW_ => (X.move rfl)) rfl (oY rfl (fun W_ hW_ => (X.move rfl)) rfl (oY rfl (fun W_ hW_ => (X.add rfl rfl (show IntKind.i64.wrap (((1028 + 44 * j : Nat) : Int) + 40) = ((1028 + 44 * j + 40 : Nat) : Int) by rw [w64 (by omega)]; omega))) rfl ?_))
   refine oL rfl (fun Q_ hQ_ hP_ => (sc _ Tryz.func114 rfl (by kernel_rfl) rfl rfl ((fnumbered_any s (1028 + 44 * j + 32) _ (by omega) (by omega)).mono ?_)))
   rintro e_ w11 ⟨rfl, hb⟩
   refine cR ?_
   replace hbw := bthen hbw hb
   replace hB2 := hB2.bel hb
   replace hB6 := hB6.bel hb
   replace hLB := hLB.bel hb
   have hz_w11 := hb.size
   clear hb
   refine Wn (hQ_ _ _ (hB6) ?_)
   clear hQ_ hP_ Q_
   refine oL rfl (fun Q_ hQ_ hP_ => (sc _ Tryz.func114 rfl (by kernel_rfl) rfl rfl ((fnumbered_any s (1028 + 44 * j + 36) _ (by omega) (by omega)).mono ?_)))
   rintro e_ w12 ⟨rfl, hb⟩
   refine cR ?_
   replace hbw := bthen hbw hb
   replace hB2 := hB2.bel hb
   replace hB6 := hB6.bel hb
   replace hLB := hLB.bel hb
   have hz_w12 := hb.size
   clear hb
   refine Wn (hQ_ _ _ (hB6) ?_)
   clear hQ_ hP_ Q_
   refine oL rfl (fun Q_ hQ_ hP_ => (sc _ Tryz.func114 rfl (by kernel_rfl) rfl rfl ((fnumbered_any s (1028 + 44 * j + 40) _ (by omega) (by omega)).mono ?_)))
   rintro e_ w13 ⟨rfl, hb⟩
   refine cR ?_
   replace hbw := bthen hbw hb
   replace hB2 := hB2.bel hb
   replace hB6 := hB6.bel hb
   replace hLB := hLB.bel hb
   have hz_w13 := hb.size
   clear hb
   refine Wn (hQ_ _ _ (hB6) ?_)
   clear hQ_ hP_ Q_
   refine oY rfl (fun W_ hW_ => (X.idxA rfl rfl Tryz.underlying23 siz66 rfl (by omega))) rfl (oY rfl (fun W_ hW_ => (X.fa fa66_1 rfl)) rfl (oL rfl (fun Q_ hQ_ hP_ => (ssB rfl rfl hLB siz3 rfl (by rw [splice_size _ _ _ _ (by rw [List.length_take, List.length_drop]; omega) (by rw [hfs]; omega), hfs]; omega) (fun w14 hLB_ hc_ => ?_)))))
   replace hB2 := hB2.chg hc_ (by show ¬ _ = _; omega)
   replace hB6 := hB6.chg hc_ (by show ¬ _ = _; omega)
   replace hbw := bset hbw hc_ (by omega)
   have hz_d := hc_.size
   replace hLB := hLB_
   clear hLB_ hc_
   refine Wn (hQ_ _ _ (hB6) ?_)
   clear hQ_ hP_ Q_
   refine oY rfl (fun W_ hW_ => (X.idxA rfl rfl Tryz.underlying23 siz66 rfl (by omega))) rfl (oY rfl (fun W_ hW_ => (X.fa fa66_2 rfl)) rfl (oL rfl (fun Q_ hQ_ hP_ => (ssB rfl rfl hLB siz3 rfl (by rw [Array.size_setIfInBounds, splice_size _ _ _ _ (by rw [List.length_take, List.length_drop]; omega) (by rw [hfs]; omega), hfs]; omega) (fun w15 hLB_ hc_ => ?_)))))
   replace hB2 := hB2.chg hc_ (by show ¬ _ = _; omega)
   replace hB6 := hB6.chg hc_ (by show ¬ _ = _; omega)
   replace hbw := bset hbw hc_ (by omega)
   have hz_e := hc_.size
   replace hLB := hLB_
   clear hLB_ hc_
   refine Wn (hQ_ _ _ (hB6) ?_)
   clear hQ_ hP_ Q_
   refine oY rfl (fun W_ hW_ => (X.idxA rfl rfl Tryz.underlying23 siz66 rfl (by omega))) rfl (oY rfl (fun W_ hW_ => (X.fa fa66_3 rfl)) rfl (oL rfl (fun Q_ hQ_ hP_ => (ssB rfl rfl hLB siz3 rfl (by rw [Array.size_setIfInBounds, Array.size_setIfInBounds, splice_size _ _ _ _ (by rw [List.length_take, List.length_drop]; omega) (by rw [hfs]; omega), hfs]; omega) (fun w16 hLB_ hc_ => ?_)))))
   replace hB2 := hB2.chg hc_ (by show ¬ _ = _; omega)
   replace hB6 := hB6.chg hc_ (by show ¬ _ = _; omega)
   replace hbw := bset hbw hc_ (by omega)
   have hz_f := hc_.size
   replace hLB := hLB_
   clear hLB_ hc_
   replace hf := hf.next (by omega) hx hxs
   have hx1 : x.sum = (s.drop (1028 + 44 * j)).take 32 := by rw [hx']
   have hx2 : x.pack = num (s.drop (1028 + 44 * j + 32)) := by rw [hx', Nat.add_assoc]
   have hx3 : x.pos = num (s.drop (1028 + 44 * j + 36)) := by rw [hx', Nat.add_assoc]
   have hx4 : x.len = num (s.drop (1028 + 44 * j + 40)) := by rw [hx', Nat.add_assoc]
   rw [hx1, hx2, hx3, hx4] at hf
   simp only [Nat.zero_add, Nat.add_zero, Nat.add_assoc] at hLB hf
   refine Wn (hQ_ _ _ (hB6) ?_)
   clear hQ_ hP_ Q_
   refine oN (nN ?_)
   by_cases hsp_ : 0 < j
   ·obtain ⟨y, hy⟩ : ∃ y, L[j - 1]? = some y := ⟨_, List.getElem?_eq_getElem (by omega)⟩
    have hy' : L[j - 1 + 1]? = some x := by rw [show j - 1 + 1 = j by omega]; exact hx
    have hys := hL32 y (List.mem_of_getElem? hy)
    refine W_drsN (fun W_ => Blk W_ g6 25 #[.slice (some ⟨gL, 0, none⟩) n n] ∧ ∃ cx, Blk W_ gL 66 cx ∧ FilledE cx n (j + 1) L) [0, 1, 2, 3, 4, 5, 6, 7, 8, 9, 10, 11, 12, 13, 14, 15, 16, 17, 18] [true, true, true, true, true, true, true, true, true, true, true, true, true, true, true, true, false, true, true] (by kernel_rfl) (by kernel_rfl) (⟨hB6.drew, _, hLB.drew, hf⟩) ?_
    obtain ⟨w17, hw_⟩ : ∃ w17 : World, w17 = World.drew w16 := ⟨_, rfl⟩
    rw [← hw_]
    have hb : Below w16.heap.size w16 w17 := by rw [hw_]; exact bdrew (Below.refl _ _)
    clear hw_
    have hS := hb
    replace hbw := bthen hbw hb
    replace hB2 := hB2.bel hb
    replace hB6 := hB6.bel hb
    replace hLB := hLB.bel hb
    have hz_w17 := hb.size
    clear hb
    refine oY rfl (fun W_ hW_ => (X.move rfl)) rfl (oY rfl (fun W_ hW_ => (X.gtr rfl rfl)) rfl (oY rfl (fun W_ hW_ => (X.mvB (c := true) rfl (decide_eq_true (by omega)))) rfl (oYg (g := 71) rfl rfl rfl rfl (fun W_ hW_ => (X.fa fa25_0 rfl)) rfl (oYg (g := 71) rfl rfl rfl rfl (fun W_ hW_ => (X.ldB rfl hW_.1 Tryz.underlying23 rfl rfl)) rfl (oYg (g := 71) rfl rfl rfl rfl (fun W_ hW_ => (X.move rfl)) rfl (oYg (g := 71) rfl rfl rfl rfl (fun W_ hW_ => (X.sub rfl rfl (show IntKind.i64.wrap ((j : Int) - 1) = ((j - 1 : Nat) : Int) by rw [w64 (by omega)]; omega))) rfl ?_))))))
    refine oYg (g := 71) rfl rfl rfl rfl (fun W_ hW_ => (X.idxA rfl rfl Tryz.underlying23 siz66 rfl (by omega))) rfl (oYg (g := 71) rfl rfl rfl rfl (fun W_ hW_ => (X.fa fa66_0 rfl)) rfl (oYg (g := 71) rfl rfl rfl rfl (fun W_ hW_ => (X.ldN (cs := y.sum.map bv) rfl Tryz.underlying60 rfl (by rw [List.length_map, hys]; exact siz60) (by obtain ⟨_, cx, h1, h2⟩ := hW_; exact filledE_sum h1 h2 hL32 (by omega) hy))) rfl ?_))
    refine oYg (g := 71) rfl rfl rfl rfl (fun W_ hW_ => (X.fa fa25_0 rfl)) rfl (oYg (g := 71) rfl rfl rfl rfl (fun W_ hW_ => (X.ldB rfl hW_.1 Tryz.underlying23 rfl rfl)) rfl (oYg (g := 71) rfl rfl rfl rfl (fun W_ hW_ => (X.move rfl)) rfl (oYg (g := 71) rfl rfl rfl rfl (fun W_ hW_ => (X.idxA rfl rfl Tryz.underlying23 siz66 rfl (by omega))) rfl (oYg (g := 71) rfl rfl rfl rfl (fun W_ hW_ => (X.fa fa66_0 rfl)) rfl (oYg (g := 71) rfl rfl rfl rfl (fun W_ hW_ => (X.ldN (cs := x.sum.map bv) rfl Tryz.underlying60 rfl (by rw [List.length_map, hxs]; exact siz60) (by obtain ⟨_, cx, h1, h2⟩ := hW_; exact filledE_sum h1 h2 hL32 (by omega) hx))) rfl ?_)))))
    refine oL rfl (fun Q_ hQ_ hP_ => (gY (g := 71) rfl rfl rfl (sc _ Tryz.func115 rfl (by kernel_rfl) rfl rfl ((Less_any y.sum x.sum hys hxs _).mono ?_))))
    rintro e_ w18 ⟨rfl, hb⟩
    refine cR ?_
    replace hbw := bthen hbw hb
    replace hB2 := hB2.bel hb
    replace hB6 := hB6.bel hb
    replace hLB := hLB.bel hb
    have hz_w18 := hb.size
    clear hb
    refine Wn (hQ_ _ _ (⟨hB6, _, hLB, hf⟩) ?_)
    clear hQ_ hP_ Q_
    refine oYg (g := 71) rfl rfl rfl rfl (fun W_ hW_ => (X.not rfl)) rfl (oY rfl (fun W_ hW_ => (X.pickT rfl rfl)) rfl (oN (nN (W_if rfl (fun h87 => ?_) (fun h87 => ?_)))))
    ·first | replace h87 := of_decide_eq_true h87 | replace h87 := of_decide_eq_false (notT h87) | replace h87 := notT h87 | skip
     refine W_rs (st (X.bld rfl (bidx0 _)) rfl (ssBN rfl rfl hB2 siz25 rfl rfl (fun w19 hB_ hc_ => ?_)))
     replace hB2 := hB_
     clear hB_
     replace hB6 := hB6.chg hc_ (by first | (show ¬ _ = _; omega) | (intro k_ hk_; simp [Value.ownBlock] at hk_; subst hk_; show ¬ _ = _; omega) | assumption | trivial)
     replace hLB := hLB.chg hc_ (by first | (show ¬ _ = _; omega) | (intro k_ hk_; simp [Value.ownBlock] at hk_; subst hk_; show ¬ _ = _; omega) | assumption | trivial)
     replace hbw := bset hbw hc_ (by omega)
     have hz_w19 := hc_.size
     clear hc_
     refine sa rfl rfl (Wn (tN (W_ret (bR (tR (tR (bR (tR ?_))))))))
     have hnlt : ¬ y.sum < x.sum := by simpa using h87
     exact (rCT rfl rfl hB2 Tryz.underlying25 rfl siz25 rfl (idx_errO (dec_18 h0 (by rw [hL]; exact upB_no hy hy' hnlt)) hbw)).1
    ·first | replace h87 := of_decide_eq_false h87 | replace h87 := of_decide_eq_true (notF h87) | replace h87 := notF h87 | skip
     refine W_skip (bN (tN (W_reg ?_)))
     have hlt' : y.sum < x.sum := by simpa using h87
     have hso' : upB (L.take (j + 1)) = true := by
      have := upB_take (i := j - 1) (by rw [show j - 1 + 1 = j by omega]; exact hso) hy hy' hlt'
      rwa [show j - 1 + 2 = j + 1 by omega] at this
     refine st (X.add64 rfl rfl (by omega)) rfl (sm rfl rfl (Wn (tN ⟨_, _, ?_, ⟨j + 1, _, rfl, rfl, by omega, hB2, hB6, hLB, hf, hso', hbw⟩, ⟨rfl, rfl, rfl, rfl, rfl, trivial⟩⟩)))
     omega
   ·refine W_drsN (fun _ => True) [0, 1, 2, 3, 4, 5, 6, 7, 8, 9, 10, 11, 12, 13, 14, 15, 16, 17, 18] [true, true, true, true, true, true, true, true, true, true, true, true, true, true, true, true, false, true, true] (by kernel_rfl) (by kernel_rfl) (trivial) ?_
    obtain ⟨w20, hw_⟩ : ∃ w20 : World, w20 = World.drew w16 := ⟨_, rfl⟩
    rw [← hw_]
    have hb : Below w16.heap.size w16 w20 := by rw [hw_]; exact bdrew (Below.refl _ _)
    clear hw_
    have hS : True := trivial
    replace hbw := bthen hbw hb
    replace hB2 := hB2.bel hb
    replace hB6 := hB6.bel hb
    replace hLB := hLB.bel hb
    have hz_w20 := hb.size
    clear hb
    refine oY rfl (fun W_ hW_ => (X.move rfl)) rfl (oY rfl (fun W_ hW_ => (X.gtr rfl rfl)) rfl (oY rfl (fun W_ hW_ => (X.mvB (c := false) rfl (decide_eq_false (by omega)))) rfl (oNg (g := 71) rfl rfl rfl rfl hS rfl (oNg (g := 71) rfl rfl rfl rfl hS rfl (oNg (g := 71) rfl rfl rfl rfl hS rfl (oNg (g := 71) rfl rfl rfl rfl hS rfl (oNg (g := 71) rfl rfl rfl rfl hS rfl (oNg (g := 71) rfl rfl rfl rfl hS rfl (oNg (g := 71) rfl rfl rfl rfl hS rfl (oNg (g := 71) rfl rfl rfl rfl hS rfl ?_))))))))))
    refine oNg (g := 71) rfl rfl rfl rfl hS rfl (oNg (g := 71) rfl rfl rfl rfl hS rfl (oNg (g := 71) rfl rfl rfl rfl hS rfl (oNg (g := 71) rfl rfl rfl rfl hS rfl (oNg (g := 71) rfl rfl rfl rfl hS rfl (oNg (g := 71) rfl rfl rfl rfl hS rfl (oNg (g := 71) rfl rfl rfl rfl hS rfl (oY rfl (fun W_ hW_ => (X.pickF rfl rfl)) rfl (oN (nN (W_no rfl (rfl) ?_))))))))))
    refine W_skip (bN (tN (W_reg ?_)))
    have hso' : upB (L.take (j + 1)) = true := by
     obtain rfl : j = 0 := by omega
     cases L with
     | nil => rfl
     | cons c L => rfl
    refine st (X.add64 rfl rfl (by omega)) rfl (sm rfl rfl (Wn (tN ⟨_, _, ?_, ⟨j + 1, _, rfl, rfl, by omega, hB2, hB6, hLB, hf, hso', hbw⟩, ⟨rfl, rfl, rfl, rfl, rfl, trivial⟩⟩)))
    omega
  ·first | replace h27 := of_decide_eq_false h27 | replace h27 := of_decide_eq_true (notF h27) | replace h27 := notF h27 | skip
   obtain rfl : n = j := by omega
   rw [List.take_of_length_le (by omega)] at hso
   have hcl : cs.toList = L.flatMap Ent.cells := by
    have h5 := hf.2
    rw [List.take_of_length_le (by have := hf.1; simp; omega), List.take_of_length_le (by omega)] at h5
    exact h5
   have hRow : Row w7 66 35 (.slice (some ⟨gL, 0, none⟩) n n) n (L.flatMap Ent.cells) := by rw [← hcl]; exact hLB.row_ hf.1 (by simp only [maxLen]; omega)
   have hE : EntsAt w7 (.slice (some ⟨gL, 0, none⟩) n n) L := by unfold EntsAt; rw [hLl]; exact hRow.reads
   refine W_exit (tE (tE (bH (tN (W_seq (W_rs (st (X.ldBN rfl hB6 Tryz.underlying25 rfl siz25) rfl (sc _ Tryz.func76 rfl (by kernel_rfl) rfl rfl ((fan_any _ L _ hE hL32 (by omega)).mono ?_)))))))))
   rintro e_ w21 ⟨rfl, hb⟩
   refine cR ?_
   have hpend := hb
   replace hbw := bthen hbw hb
   replace hB2 := hB2.bel hb
   replace hB6 := hB6.bel hb
   have hz_w21 := hb.size
   clear hb
   refine sm rfl rfl (Wn (tN (W_block ?_)))
   replace hE := hE.bel hpend
   clear hpend
   refine W_lp (fun nw22_ lw22_ w22 => ∃ k : Nat, nw22_ = 256 - k ∧ lw22_ = ([(0, str s), (2, .pointer (some ⟨g2, 0, none⟩)), (6, .pointer (some ⟨g6, 0, none⟩)), (91, .agg (cntV L)), (92, .int .i64 k)] : Env) ∧ (k ≤ 256) ∧ (fansOk s L k) ∧ (Blk w22 g2 25 #[.slice none 0 0]) ∧ (Blk w22 g6 25 #[.slice (some ⟨gL, 0, none⟩) n n]) ∧ (EntsAt w22 (.slice (some ⟨gL, 0, none⟩) n n) L) ∧ (Below w.heap.size w w22)) _ ⟨_, ⟨0, rfl, rfl, by omega, (fun b hb => by omega), hB2, hB6, hE, hbw⟩, ⟨rfl, rfl, rfl, rfl, rfl, trivial⟩⟩ ?_
   clear hB2 hB6 hE hbw
   rintro nw22_ lw22_ w22 ⟨k, rfl, rfl, hk, hok, hB2, hB6, hE, hbw⟩
   have hz_w22 := hbw.size
   have hlt_hB2_w22 := hB2.lt
   have hlt_hB6_w22 := hB6.lt
   refine W_rs (st (X.lss rfl rfl) rfl (Wn (tN (W_seq (W_if rfl (fun h93 => ?_) (fun h93 => ?_))))))
   ·first | replace h93 := of_decide_eq_true h93 | replace h93 := of_decide_eq_false (notT h93) | replace h93 := notT h93 | skip
    refine W_skip (tN (W_seq (W_block (W_rs (sm rfl rfl (st (X.idxV (j := k) rfl rfl Tryz.underlying141 siz3 Tryz.underlying3 rfl rfl (by omega) (cntV_at L k (by omega))) rfl (sa rfl rfl (sa rfl rfl (Wn (tN ?_))))))))))
    refine W_rs (sm rfl rfl (sm rfl rfl (st (X.mul64 rfl rfl (by omega)) rfl (st (X.add rfl rfl (show IntKind.i64.wrap (4 + 4 * (k : Int)) = ((4 + 4 * k : Nat) : Int) by rw [w64 (by omega)]; omega)) rfl ?_))))
    refine sc _ Tryz.func114 rfl (by kernel_rfl) rfl rfl ((fnumbered_any s (4 + 4 * k) _ (by omega) (by omega)).mono ?_)
    rintro e_ w23 ⟨rfl, hb⟩
    refine cR ?_
    replace hbw := bthen hbw hb
    replace hB2 := hB2.bel hb
    replace hB6 := hB6.bel hb
    replace hE := hE.bel hb
    have hz_w23 := hb.size
    clear hb
    refine sm rfl rfl (st (X.neq rfl rfl) rfl (Wn (tN (W_if rfl (fun h102 => ?_) (fun h102 => ?_)))))
    ·first | replace h102 := of_decide_eq_true h102 | replace h102 := of_decide_eq_false (notT h102) | replace h102 := notT h102 | skip
     refine W_rs (st (X.bld rfl (bidx0 _)) rfl (ssBN rfl rfl hB2 siz25 rfl rfl (fun w24 hB_ hc_ => ?_)))
     replace hB2 := hB_
     clear hB_
     replace hB6 := hB6.chg hc_ (by first | (show ¬ _ = _; omega) | (intro k_ hk_; simp [Value.ownBlock] at hk_; subst hk_; show ¬ _ = _; omega) | assumption | trivial)
     replace hbw := bset hbw hc_ (by omega)
     have hz_w24 := hc_.size
     clear hc_
     refine sa rfl rfl (Wn (tN (W_ret (bR (tR (tR (bR (tR ?_))))))))
     exact (rCT rfl rfl hB2 Tryz.underlying25 rfl siz25 rfl (idx_errO (dec_12 h0 (by rw [hL]; exact hso) (k := k) (by omega) (by rw [hL]; omega)) hbw)).1
    ·first | replace h102 := of_decide_eq_false h102 | replace h102 := of_decide_eq_true (notF h102) | replace h102 := notF h102 | skip
     have hok' : fansOk s L (k + 1) := fun b hb => by
      rcases Nat.lt_or_ge b k with q | q
      ·exact hok b q
      ·obtain rfl : b = k := by omega
       omega
     refine W_skip (bN (tN (W_reg (st (X.add64 rfl rfl (by omega)) rfl (sm rfl rfl (Wn (tN ⟨_, _, ?_, ⟨k + 1, rfl, rfl, by omega, hok', hB2, hB6, hE, hbw⟩, ⟨rfl, rfl, rfl, rfl, rfl, trivial⟩⟩)))))))
     omega
   ·first | replace h93 := of_decide_eq_false h93 | replace h93 := of_decide_eq_true (notF h93) | replace h93 := notF h93 | skip
    obtain rfl : k = 256 := by omega
    have hd0 := dec_0 h0 (by rw [hL]; exact hso) (by rw [hL]; exact hok)
    refine W_exit (tE (tE (bH (tN (W_rs (st (X.ldBN rfl hB6 Tryz.underlying25 rfl siz25) rfl (ssBN rfl rfl hB2 siz25 rfl rfl (fun w25 hB_ hc_ => ?_))))))))
    replace hE := hE.chgB hc_ (by show gL ≠ g2; omega)
    replace hB2 := hB_
    replace hbw := bset hbw hc_ (by omega)
    clear hB_ hc_
    refine sa rfl rfl (Wn (tN (W_ret ((rCT rfl rfl hB2 Tryz.underlying25 rfl siz25 rfl ?_).1))))
    rw [hd0, hL]
    exact ⟨_, rfl, hE, fun k hk => by simp [Value.ownBlock] at hk; omega, hbw⟩
end Go.Proofs.YtnlabkogebnioaaGreatDoor
namespace Go.Proofs.YtnlabkogebnioaaGreatDoor
open Go.RowKit Sha
theorem Of_list (s : List UInt8) (w : World) (hT : ShaTabs w) (hs : s.length ≤ 4294960000) : Calls Tryz.prog 24 #[str s] w fun e w' => e = .returned (.agg ((sha s).map bv).toArray) ∧ Below w.heap.size w w' := by
 have := ShaOf_any ⟨s.toArray⟩ w hT (by show s.toArray.size ≤ _; simpa using hs)
 exact this
theorem sumReads {w : World} {g : Nat} {t : TypeId} {l : List UInt8} (hB : Blk w g t (l.map bv).toArray) (hl : l.length = 32) : Reads w 1 (.slice (some ⟨g, 0, none⟩) 32 32) 32 (l.map bv) := by
 refine ⟨by simp [hl], _, 32, rfl, Nat.le_refl _, by simp [maxLen], fun _ => ⟨g, 0, rfl, hB.lt, fun j u hj => ?_⟩⟩
 rw [hB.cell, List.getElem?_toArray, Nat.zero_add]
 exact hj
theorem sumSize {l : List UInt8} (hl : l.length = 32) : (l.map bv).toArray.size = 32 := by simp [hl]
theorem sumOne (l : List UInt8) : (l.map bv).toArray.toList.all (·.oneCell') = true := by simp [bv, Value.oneCell']
theorem sealed_any (s : List UInt8) (w : World) (hT : ShaTabs w) (hs : s.length ≤ 1000000) : Calls Tryz.prog 68 #[str s] w fun e w' => e = .returned (str (sealM 2 (sha s ++ s))) ∧ Below w.heap.size w w' := by
 have h32 : (sha s).length = 32 := sha_length s
 refine W_enter (args := [str s]) 11 Tryz.func68 rfl rfl rfl (W_sub [(0, str s)] ?_ ⟨rfl, trivial⟩)
 have hbw := Below.refl w.heap.size w
 refine W_rs (sa rfl rfl (Wn (tN (W_rs (sm rfl rfl (sc _ Tryz.func24 rfl (by kernel_rfl) rfl rfl ((Of_list s _ hT (by omega)).mono ?_)))))))
 rintro e_ w1 ⟨rfl, hb⟩
 refine cR ?_
 replace hbw := bthen hbw hb
 have hz_w1 := hb.size
 clear hb
 refine salA inf60 rfl (fun g3 w2 hB3 hg3 hb hl3 => ?_)
 replace hbw := bthen hbw hb
 have hz_w2 := hb.size
 clear hb
 refine ssBN rfl rfl hB3 (by rw [sumSize h32]; exact siz60) (by rw [sumSize h32]; rfl) (sumOne _) (fun w3 hB_ hc_ => ?_)
 replace hB3 := hB_
 replace hbw := bset hbw hc_ (by omega)
 have hz_w3 := hc_.size
 clear hB_ hc_
 refine Wn (tN (W_rs (st (X.slArr rfl Tryz.underlying60 siz5) rfl (st (X.strOf (s := sha s) rfl Tryz.underlying123 Tryz.underlying5 Tryz.underlying9 (sumReads hB3 h32)) rfl (sm rfl rfl (st (X.cat rfl rfl (by omega)) rfl (sc _ Tryz.func52 rfl (by kernel_rfl) rfl rfl ((Seal_any 2 (sha s ++ s) _ (by simp; omega)).mono ?_))))))))
 rintro e_ w3 ⟨rfl, hb⟩
 refine cR ?_
 replace hbw := bthen hbw hb
 replace hB3 := hB3.bel hb
 have hz_w3 := hb.size
 clear hb
 refine sa rfl rfl (Wn (tN (W_ret ?_)))
 exact (rT rfl rfl ⟨rfl, hbw⟩).1
theorem rCTT {P : Program} {fn : Func} {R : Ending → World → Prop} {l : Env} {w : World} {ty : TypeId} {p g t2 t3 : Nat} {v2 v3 : Value} {bt : TypeId} {cs : Array Value} {d : TypeDesc} (hf : fn.results = #[.cell p ty, .tmp t2, .tmp t3]) (hx : lk l p = some (.pointer (some ⟨g, 0, none⟩))) (hB : Blk w g bt cs) (hu : P.underlying ty = some d) (hd : (match d with | .struct _ | .array _ _ => true | _ => false) = true) (hi : (P.info? ty).map (·.size) = some cs.size) (hy : lk l t2 = some v2) (hz : lk l t3 = some v3)
  (hR : R (.returned (.tuple #[.agg cs, v2, v3])) w) : fnPost P fn R .ret l w ∧ fnPost P fn R .normal l w := r3 hf (resCell hx hB hu hd hi) hy hz hR
def z32L : List UInt8 := List.replicate 32 0
def OpenedIs (s : List UInt8) (w : World) (e : Ending) (w' : World) : Prop :=
  ∃ a d ok, e = .returned (.tuple #[.agg (a.map bv).toArray, str d, .bool ok]) ∧ a.length = 32 ∧ ok = openB s ∧ (ok = true → a = s.take 32 ∧ d = s.drop 32) ∧ Below w.heap.size w w'
set_option maxRecDepth 10000 in
theorem opened_any (s : List UInt8) (w : World) (hT : ShaTabs w) (hs : s.length ≤ 1099511627776) : Calls Tryz.prog 62 #[str s] w (OpenedIs s w) := by
 refine W_enter (args := [str s]) 27 Tryz.func62 rfl rfl rfl (W_sub [(0, str s)] ?_ ⟨rfl, trivial⟩)
 have hbw := Below.refl w.heap.size w
 refine W_rs (salA inf60 rfl (fun g2 w1 hB2 hg2 hb hl2 => ?_))
 replace hbw := bthen hbw hb
 have hz_w1 := hb.size
 clear hb
 refine sa rfl rfl (sa rfl rfl (Wn (tN (W_rs (salA inf60 rfl (fun g5 w2 hB5 hg5 hb hl5 => ?_))))))
 replace hbw := bthen hbw hb
 replace hB2 := hB2.bel hb
 have hz_w2 := hb.size
 clear hb
 refine Wn (tN (W_seq (W_rs (sm rfl rfl (st (X.lenS rfl rfl Tryz.underlying9) rfl (st (X.leq rfl rfl) rfl (sb rfl rfl (fun h10 => ?_) (fun h10 => ?_))))))))
 ·first | replace h10 := of_decide_eq_true h10 | replace h10 := of_decide_eq_false (notT h10) | replace h10 := notT h10 | skip
  refine gN (g := 10) rfl rfl rfl rfl (gN (g := 10) rfl rfl rfl rfl (gN (g := 10) rfl rfl rfl rfl (st (X.pickT rfl rfl) rfl (Wn (tN (W_yes rfl (rfl) (W_rs (st (X.ldBN rfl hB5 Tryz.underlying60 rfl siz60) rfl (ssBN rfl rfl hB2 siz60 rfl rfl (fun w3 hB_ hc_ => ?_))))))))))
  replace hB2 := hB_
  clear hB_
  replace hB5 := hB5.chg hc_ (by first | (show ¬ _ = _; omega) | (intro k_ hk_; simp [Value.ownBlock] at hk_; subst hk_; show ¬ _ = _; omega) | assumption | trivial)
  replace hbw := bset hbw hc_ (by omega)
  have hz_w3 := hc_.size
  clear hc_
  refine sa rfl rfl (sa rfl rfl (Wn (tN (W_ret (tR ((rCTT rfl rfl hB2 Tryz.underlying60 rfl siz60 rfl rfl ⟨z32L, [], false, rfl, rfl, ?_, (fun h => by cases h), hbw⟩).1))))))
  unfold openB
  rw [decide_eq_false (by omega)]
 ·first | replace h10 := of_decide_eq_false h10 | replace h10 := of_decide_eq_true (notF h10) | replace h10 := notF h10 | skip
  refine gY (g := 10) rfl rfl rfl (sm rfl rfl (gY (g := 10) rfl rfl rfl (st (X.lenS rfl rfl Tryz.underlying9) rfl (gY (g := 10) rfl rfl rfl (st (X.gtr rfl rfl) rfl (st (X.pickF rfl rfl) rfl (Wn (tN (W_if rfl (fun h14 => ?_) (fun h14 => ?_))))))))))
  ·first | replace h14 := of_decide_eq_true h14 | replace h14 := of_decide_eq_false (notT h14) | replace h14 := notT h14 | skip
   refine W_rs (st (X.ldBN rfl hB5 Tryz.underlying60 rfl siz60) rfl (ssBN rfl rfl hB2 siz60 rfl rfl (fun w4 hB_ hc_ => ?_)))
   replace hB2 := hB_
   clear hB_
   replace hB5 := hB5.chg hc_ (by first | (show ¬ _ = _; omega) | (intro k_ hk_; simp [Value.ownBlock] at hk_; subst hk_; show ¬ _ = _; omega) | assumption | trivial)
   replace hbw := bset hbw hc_ (by omega)
   have hz_w4 := hc_.size
   clear hc_
   refine sa rfl rfl (sa rfl rfl (Wn (tN (W_ret (tR ((rCTT rfl rfl hB2 Tryz.underlying60 rfl siz60 rfl rfl ⟨z32L, [], false, rfl, rfl, ?_, (fun h => by cases h), hbw⟩).1))))))
   unfold openB
   rw [decide_eq_false (by omega)]
  ·first | replace h14 := of_decide_eq_false h14 | replace h14 := of_decide_eq_true (notF h14) | replace h14 := notF h14 | skip
   have h33 : 33 ≤ s.length := by omega
   have h56 : s.length ≤ 1056 := by omega
   refine W_skip (tN (W_rs (st (X.slArr rfl Tryz.underlying60 siz5) rfl (sm rfl rfl (scpT (n := 32) rfl rfl Tryz.underlying123 siz5 hB5 (by omega) (by show 0 + 32 ≤ (List.replicate 32 _).toArray.size; rw [List.size_toArray, List.length_replicate]; omega) rfl (fun w5 hB_ hc_ => ?_))))))
   have hB5' : Blk w5 g5 60 ((s.take 32).map bv).toArray := by simpa using hB_
   replace hB5 := hB5'
   replace hB2 := hB2.chg hc_ (by omega)
   replace hbw := bset hbw hc_ (by omega)
   clear hB_ hB5' hc_
   refine Wn (tN (W_rs (sm rfl rfl (st (X.fromS (i := 32) rfl rfl Tryz.underlying9 rfl (by omega)) rfl (sa rfl rfl (Wn (tN ?_)))))))
   have hB0 := hB5
   have h32 : (s.take 32).length = 32 := by rw [List.length_take]; omega
   refine W_drsN (fun W_ => Blk W_ g5 60 ((s.take 32).map bv).toArray) [0, 1, 2, 4, 3, 5, 6, 7, 8] [true, true, true, true, false, true, false, true, true] (by kernel_rfl) (by kernel_rfl) (hB5.drew) ?_
   obtain ⟨w6, hw_⟩ : ∃ w6 : World, w6 = World.drew w5 := ⟨_, rfl⟩
   rw [← hw_]
   have hb : Below w5.heap.size w5 w6 := by rw [hw_]; exact bdrew (Below.refl _ _)
   clear hw_
   have hS := hb
   replace hbw := bthen hbw hb
   replace hB2 := hB2.bel hb
   replace hB5 := hB5.bel hb
   have hz_w6 := hb.size
   clear hb
   refine oY rfl (fun W_ hW_ => (X.ldBN rfl hW_ Tryz.underlying60 rfl (by rw [sumSize h32]; exact siz60))) rfl ?_
   refine oY rfl (fun W_ hW_ => (X.move rfl)) rfl (oY rfl (fun W_ hW_ => (X.move rfl)) rfl (oY rfl (fun W_ hW_ => (X.ldBN rfl hW_ Tryz.underlying60 rfl (by rw [sumSize h32]; exact siz60))) rfl ?_))
   refine oL rfl (fun Q_ hQ_ hP_ => (sc _ Tryz.func24 rfl (by kernel_rfl) rfl rfl ((Of_list _ _ (hT.belowAll hbw) (by simp; omega)).mono ?_)))
   rintro e_ w7 ⟨rfl, hb⟩
   refine cR ?_
   replace hbw := bthen hbw hb
   replace hB2 := hB2.bel hb
   replace hB5 := hB5.bel hb
   have hz_w7 := hb.size
   clear hb
   refine Wn (hQ_ _ _ (hB5) ?_)
   clear hQ_ hP_ Q_
   refine oY rfl (fun W_ hW_ => (X.eqSumF (sha_length _) h32 rfl rfl)) rfl (oL rfl (fun Q_ hQ_ hP_ => (ssBN rfl rfl hB2 (by rw [sumSize h32]; exact siz60) (by rw [sumSize h32]; rfl) (sumOne _) (fun w8 hB_ hc_ => ?_))))
   replace hB2 := hB_
   replace hB5 := hB5.chg hc_ (by show ¬ g5 = g2; omega)
   replace hbw := bset hbw hc_ (by omega)
   clear hB_ hc_
   refine Wn (hQ_ _ _ (hB5) ?_)
   clear hQ_ hP_ Q_
   refine oY rfl (fun W_ hW_ => (X.assign rfl)) rfl (oY rfl (fun W_ hW_ => (X.assign rfl)) rfl (oN (nN (W_ret ((rCTT rfl rfl hB2 Tryz.underlying60 rfl (by rw [sumSize h32]; exact siz60) rfl rfl ⟨s.take 32, s.drop 32, _, rfl, h32, ?_, (fun _ => ⟨rfl, rfl⟩), hbw⟩).1)))))
   unfold openB
   rw [Bool.eq_iff_iff]
   simp only [beq_iff_eq, decide_eq_true_eq]
   exact ⟨fun h => ⟨h33, h56, h⟩, fun h => h.2.2⟩
end Go.Proofs.YtnlabkogebnioaaGreatDoor
namespace Go.Proofs.YtnlabkogebnioaaGreatDoor
open Go.RowKit
section
variable {F : Fence} {n : Nat} {P : Program} {N : Nat} {ds : List Deferred} {Q : Post} {l : Env} {w : World} {ops : Array Oper} {rest : List Oper} {op : Op} {ty : TypeId} {pos : String} {aft : Array Edge}
theorem gYI {dst : Option Nat} {j g : Nat} {b : Bool} (hj : (ops[j]?).bind (·.dst) = some g) (hg : lk l g = some (.bool b)) (hN : Nat.blt g N = true) (h : WLI F n P N ds ops Q (⟨dst, op, ty, pos, aft, none⟩ :: rest) l w) :
  WLI F n P N ds ops Q (⟨dst, op, ty, pos, aft, some (j, b)⟩ :: rest) l w := by
 intro a ha
 have h := h a ha
 have hs : g < a.tmps.size := by rw [ha.size]; exact of_decide_eq_true (by simpa [Nat.blt_eq] using hN)
 have hv := ha.val g _ hg
 have hy : yielded ops a.tmps j = some b := by
  unfold yielded
  rw [hj]
  simp only [Option.bind_some]
  rw [Array.getElem?_eq_getElem hs]
  simp only [Array.getD_eq_getD_getElem?, Array.getElem?_eq_getElem hs, Option.getD_some] at hv
  rw [hv]
 unfold wpListIn at h ⊢
 rw [if_pos (by simp [Region.wanted])] at h
 rw [if_pos (by simp [Region.wanted, hy])]
 exact h
end
def WI (lp n : Nat) (P : Program) (N : Nat) (Q : Post) (c : Code) (l : Env) (w : World) : Prop := ∀ a, Rep N [] l a → c.wpIn (Fence.wide.inRound lp) n P (lift N [] Q) a w
section
variable {lp n : Nat} {P : Program} {N : Nat} {Q : Post} {l : Env} {w : World} {id i : Nat}
theorem WI_skip (h : Q .normal l w) : WI lp n P N Q .skip l w := fun _ ha => wpIn_skip ⟨_, ha, h⟩
theorem WI_exit (h : Q (.exit i) l w) : WI lp n P N Q (.exit i) l w := fun _ ha => wpIn_exit ⟨_, ha, h⟩
theorem WI_seq {x y : Code} (h : WI lp n P N (thenQ (WI lp n P N Q y) Q) x l w) : WI lp n P N Q (.seq x y) l w := by
 intro a ha
 refine wpIn_seq (wpIn_mono (h a ha) (fun e a w hq => ?_))
 obtain ⟨l', hr, hq⟩ := hq
 cases e with
 | normal => exact hq a hr
 | _ => exact ⟨l', hr, hq⟩
theorem WI_if {x y : Code} {c : Operand} {b : Bool} (hc : ev l c = some (.bool b)) (h1 : b = true → WI lp n P N Q x l w) (h0 : b = false → WI lp n P N Q y l w) : WI lp n P N Q (.cond c x y) l w :=
 fun a ha => wpIn_cond_split (ha.knows _ _ hc) (fun h => h1 h a ha) (fun h => h0 h a ha)
theorem WI_yes {x y : Code} {c : Operand} {b : Bool} (hc : ev l c = some (.bool b)) (hb : b = true) (h : WI lp n P N Q x l w) : WI lp n P N Q (.cond c x y) l w :=
 WI_if hc (fun _ => h) (fun h0 => by rw [hb] at h0; cases h0)
theorem WI_block {c : Code} (h : WI lp n P N (inB id Q) c l w) : WI lp n P N Q (.block id c) l w := by
 intro a ha
 refine wpIn_block (wpIn_mono (h a ha) (fun e a w hq => ?_))
 obtain ⟨l', hr, hq⟩ := hq
 cases e with
 | exit i =>
  replace hq : (bif Nat.beq i id then Q .normal l' w else Q (.exit i) l' w) := hq
  show (if i = id then lift N [] Q .normal a w else lift N [] Q (.exit i) a w)
  by_cases hi : i = id
  ·subst hi
   rw [show Nat.beq i i = true from Nat.beq_refl i] at hq
   rw [if_pos rfl]
   exact ⟨l', hr, hq⟩
  ·rw [show Nat.beq i id = false from by
    cases hb : Nat.beq i id with
    | false => rfl
    | true => exact absurd (Nat.eq_of_beq_eq_true hb) hi] at hq
   rw [if_neg hi]
   exact ⟨l', hr, hq⟩
 | _ => exact ⟨l', hr, hq⟩
theorem WI_reg {os : List Oper} (hn : noDefer os = true) (hQ : ∀ l w, ¬ Q .outgrown l w) (h : WL P N [] os.toArray Q os l w) : WI lp n P N Q (.region id os.toArray false) l w :=
 fun a ha => wpIn_region_lit (WLI_of hn hQ h a ha)
theorem WI_out {c : Code} {Q' : Exit → Act → World → Prop} {a : Act} (h : WI lp n P N Q c l w) (ha : Rep N [] l a) (hq : ∀ e l a w, Rep N [] l a → Q e l w → Q' e a w) : c.wpIn (Fence.wide.inRound lp) n P Q' a w :=
 wpIn_mono (h a ha) fun e a w hx => by obtain ⟨l, hr, hx⟩ := hx; exact hq e l a w hr hx
end
end Go.Proofs.YtnlabkogebnioaaGreatDoor
namespace Go.Proofs.YtnlabkogebnioaaGreatDoor
open Go.RowKit
def encPc (p : Pc) : Value := .agg #[.int .u8 p.kind.toNat, str p.body, .int .i64 p.pos, .int .i64 p.next]
def KeepB (b : Nat) (w w' : World) : Prop := w'.heap[b]? = w.heap[b]?
abbrev PcS := { p : Pc // p.body.length ≤ 1099511627776 }
theorem framesN_step {s : List UInt8} {k a : Nat} (hk : 0 < k) (he : (nextM (s.drop a)).2.2.2 = 0) : framesN s k a = pcAt s a :: framesN s (k - 1) (a + (nextM (s.drop a)).2.2.1) := by
 obtain ⟨m, rfl⟩ : ∃ m, k = m + 1 := ⟨k - 1, by omega⟩
 rw [framesN, if_neg (by omega)]
 rfl
theorem framesN_stop {s : List UInt8} {k a : Nat} (he : (nextM (s.drop a)).2.2.2 ≠ 0) : framesN s k a = [] := by
 cases k with
 | zero => rfl
 | succ k => rw [framesN, if_pos he]
theorem bpc (k : UInt8) (b : List UInt8) (i j : Int) (w : World) : (Instr.build 159 #[(0, .int .u8 k.toNat), (1, str b), (2, .int .i64 i), (3, .int .i64 j)]).run Tryz.prog w = .ok (.agg #[.int .u8 k.toNat, str b, .int .i64 i, .int .i64 j]) w := by kernel_rfl
set_option maxRecDepth 10000 in
theorem frames_stops (n : Nat) (w : World) (gB : Nat) (s : List UInt8) (hB : Blk w gB 9 #[str s]) (hs : s.length ≤ 1099511627776) :
  SeqStopsK Fence.wide n Tryz.prog 133 #[.pointer (some ⟨gB, 0, none⟩)] (fun p : PcS => #[encPc p.1]) (KeepB gB) (fun xs => xs.map (·.1) = framesM s) (fun pre => pre.map (·.1) <+: framesM s) (s.length + 1) w := by
 intro lp J Jx W hW hJ hJx hY h0
 replace hB : Blk W gB 9 #[str s] := hB.bel hW
 refine callsIn_wide.2 (W_enter (args := [.func (.yield lp) #[] #[], .pointer (some ⟨gB, 0, none⟩)]) 34 Tryz.func133 rfl rfl rfl (W_sub [(0, .func (.yield lp) #[] #[]), (1, .pointer (some ⟨gB, 0, none⟩))] ?_ ⟨rfl, rfl, trivial⟩))
 refine W_rs (sa rfl rfl (Wn (tN (W_block (W_lp (fun n' l' w' => ∃ (pre : List PcS) (a k : Nat), n' = s.length - a ∧ l' = ([(0, .func (.yield lp) #[] #[]), (1, .pointer (some ⟨gB, 0, none⟩)), (3, .int .i64 a)] : Env) ∧ framesM s = pre.map (·.1) ++ framesN s k a ∧ a ≤ s.length ∧ s.length + 1 ≤ a + k ∧ pre.length ≤ a ∧ Blk w' gB 9 #[str s] ∧ J pre w') _ ⟨_, ⟨[], 0, s.length + 1, rfl, rfl, rfl, by omega, by omega, by simp, hB, h0⟩, ⟨rfl, rfl, rfl, trivial⟩⟩ ?_)))))
 clear hB h0
 rintro n' l' w1 ⟨pre, a, k, rfl, rfl, hfr, ha, hk, hp, hB, hJ1⟩
 refine W_block (W_rs (st (X.ldL rfl hB Tryz.underlying9 rfl rfl) rfl (sm rfl rfl (st (X.fromS (i := a) rfl rfl Tryz.underlying9 rfl ha) rfl (sc _ Tryz.func61 rfl (by kernel_rfl) rfl rfl ((Next_any (s.drop a) _ (by rw [List.length_drop]; omega)).mono ?_))))))
 rintro e_ w2 ⟨rfl, hb⟩
 refine cR (sm rfl rfl (st (X.ext rfl rfl) rfl (st (X.ext rfl rfl) rfl (st (X.ext rfl rfl) rfl (st (X.ext rfl rfl) rfl (sa rfl rfl (sa rfl rfl (sa rfl rfl (sa rfl rfl (Wn (tN ?_)))))))))))
 have hJ2 : J pre w2 := hJ pre w1 w2 none hJ1 (grown_of_bel hb) (fun r e => by cases e)
 replace hB := hB.bel hb
 clear hb hJ1
 by_cases he : (nextM (s.drop a)).2.2.2 = 0
 ·have hl := nextM_len he
  rw [List.length_drop] at hl
  refine W_seq (W_seq (W_regI (n := n) (stI wideT3 (fun c h => by cases h) (X.move rfl) rfl ?_)))
  refine stI wideT3 (fun c h => by cases h) (X.neq rfl rfl) rfl ?_
  refine stI wideT3 (fun c h => by cases h) (X.mvB rfl (c := false) (by rw [he]; rfl)) rfl ?_
  refine gYI (g := 19) rfl rfl rfl (stI wideT3 (fun c h => by cases h) (X.move rfl) rfl ?_)
  refine gYI (g := 19) rfl rfl rfl (stI wideT3 (fun c h => by cases h) (X.move rfl) rfl ?_)
  refine gYI (g := 19) rfl rfl rfl (stI wideT3 (fun c h => by cases h) (X.move rfl) rfl ?_)
  refine gYI (g := 19) rfl rfl rfl (stI wideT3 (fun c h => by cases h) (X.move rfl) rfl ?_)
  refine gYI (g := 19) rfl rfl rfl (stI wideT3 (fun c h => by cases h) (X.move rfl) rfl ?_)
  refine gYI (g := 19) rfl rfl rfl (stI wideT3 (fun c h => by cases h) (X.move rfl) rfl ?_)
  refine gYI (g := 19) rfl rfl rfl (stI wideT3 (fun c h => by cases h) (X.add64 rfl rfl (by omega)) rfl ?_)
  refine gYI (g := 19) rfl rfl rfl (stI wideT3 (fun c h => by cases h) (X.bld rfl (bpc _ _ _ _ _)) rfl ?_)
  refine gYI (g := 19) rfl rfl rfl ?_
  have hbd : (pcAt s a).body.length ≤ 1099511627776 := by
   have := nextM_body (s.drop a)
   rw [List.length_drop] at this
   show (nextM (s.drop a)).2.1.length ≤ _
   omega
  refine syield [encPc (pcAt s a)] wideT3 rfl rfl rfl rfl ?_
  have hstep := framesN_step (k := k) (by omega) he
  obtain ⟨fn, tmps, assign, body, hy, hR⟩ := hY pre ⟨pcAt s a, hbd⟩ w2 hJ2 (by omega)
  refine ⟨fn, tmps, assign, body, hy, RoundIn.mono hR (fun e w5 h => ?_)⟩
  rcases h with ⟨rfl, hJ5, hk5⟩ | ⟨rfl, hJx5⟩
  ·refine gYI (g := 19) rfl rfl rfl (stI wideT3 (fun c h => by cases h) (X.not rfl) rfl ?_)
   refine stI wideT3 (fun c h => by cases h) (X.pickF rfl rfl) rfl ?_
   refine WIn (tN (W_no rfl rfl (W_skip (tN (W_reg (sm rfl rfl (sm rfl rfl (st (X.add64 rfl rfl (by omega)) rfl (sa rfl rfl (Wn (bN (tN ⟨_, _, ?_, ⟨pre ++ [⟨pcAt s a, hbd⟩], a + (nextM (s.drop a)).2.2.1, k - 1, rfl, rfl, ?_, by omega, by omega, by simp; omega, ?_, hJ5⟩, ⟨rfl, rfl, rfl, trivial⟩⟩))))))))))))
   ·omega
   ·rw [hfr, hstep, List.map_append, List.append_assoc]; rfl
   ·exact hk5.trans hB
  ·refine gYI (g := 19) rfl rfl rfl (stI wideT3 (fun c h => by cases h) (X.not rfl) rfl ?_)
   refine stI wideT3 (fun c h => by cases h) (X.pickF rfl rfl) rfl ?_
   refine WIn (tN (W_yes rfl rfl (W_ret (tR (bR (tR (bR ?_)))))))
   exact (r0 rfl ⟨⟨_, rfl⟩, .inr ⟨_, ⟨framesN s (k - 1) (a + (nextM (s.drop a)).2.2.1), by rw [hfr, hstep, List.map_append, List.append_assoc]; rfl⟩, hJx5⟩⟩).1
 ·refine W_seq (W_seq (W_reg (sm rfl rfl (st (X.neq rfl rfl) rfl (sbY rfl (decide_eq_true he) rfl (gN (g := 19) rfl rfl rfl rfl (gN (g := 19) rfl rfl rfl rfl (gN (g := 19) rfl rfl rfl rfl (gN (g := 19) rfl rfl rfl rfl (gN (g := 19) rfl rfl rfl rfl ?_))))))))))
  refine gN (g := 19) rfl rfl rfl rfl (gN (g := 19) rfl rfl rfl rfl (gN (g := 19) rfl rfl rfl rfl (gN (g := 19) rfl rfl rfl rfl (gN (g := 19) rfl rfl rfl rfl (st (X.pickT rfl rfl) rfl (Wn (tN (W_yes rfl rfl (W_ret (tR (bR (tR (bR ?_)))))))))))))
  rw [framesN_stop he, List.append_nil] at hfr
  exact (r0 rfl ⟨⟨_, rfl⟩, .inl ⟨pre, hfr.symm, hJ2⟩⟩).1
end Go.Proofs.YtnlabkogebnioaaGreatDoor
namespace Go.Proofs.YtnlabkogebnioaaGreatDoor
open Go.RowKit Sha
def hasOf (l : List Ent) : List (List UInt8 × Int) := l.zipIdx.map fun p => (p.1.sum, (p.2 : Int))
theorem hasOf_snoc (l : List Ent) (e : Ent) : hasOf (l ++ [e]) = hasOf l ++ [(e.sum, (l.length : Int))] := by
 simp [hasOf, List.zipIdx_append]
structure ScnAt (w : World) (gx gm : Nat) (v : Value) (x : Scn) : Prop where
  blk : Blk w gx 97 #[v, .map (some gm), .int .i64 x.good, .bool x.whole]
  row : Row w 66 35 v x.l.length (x.l.flatMap Ent.cells)
  map : ∃ m : List (Sum32 × Int), MapAt w gm encSum encInt m ∧ m.map (fun p => (p.1.1, p.2)) = hasOf x.l
  s32 : S32 x.l
theorem ScnAt.bel {w w' : World} {gx gm : Nat} {v : Value} {x : Scn} (h : ScnAt w gx gm v x) (hb : Below w.heap.size w w') : ScnAt w' gx gm v x :=
 ⟨h.blk.bel hb, h.row.bel hb, by obtain ⟨m, h1, h2⟩ := h.map; exact ⟨m, h1.bel hb, h2⟩, h.s32⟩
theorem has_mem {m : List (Sum32 × Int)} {l : List Ent} (h : m.map (fun p => (p.1.1, p.2)) = hasOf l) (k : Sum32) : k ∈ m.map (·.1) ↔ hadM l k.1 = true := by
 have e1 : (m.map (fun p => (p.1.1, p.2))).map (·.1) = (m.map (·.1)).map (·.1) := by simp [List.map_map, Function.comp_def]
 have e2 : (hasOf l).map (·.1) = l.map (·.sum) := by
  unfold hasOf
  rw [List.map_map]
  have : ((fun x => x.1) ∘ fun p : Ent × Nat => (p.1.sum, (p.2 : Int))) = (fun e : Ent => e.sum) ∘ Prod.fst := rfl
  rw [this, ← List.map_map, List.zipIdx_map_fst]
 rw [h, e2] at e1
 unfold hadM
 rw [List.any_eq_true]
 constructor
 ·intro hk
  have : k.1 ∈ (m.map (·.1)).map (·.1) := List.mem_map.2 ⟨k, hk, rfl⟩
  rw [← e1] at this
  obtain ⟨e, he, hes⟩ := List.mem_map.1 this
  exact ⟨e, he, by simpa using hes⟩
 ·rintro ⟨e, he, hes⟩
  have : k.1 ∈ l.map (·.sum) := List.mem_map.2 ⟨e, he, by simpa using hes⟩
  rw [e1] at this
  obtain ⟨q, hq, hqe⟩ := List.mem_map.1 this
  exact (Subtype.ext hqe : q = k) ▸ hq
theorem bent (a : List UInt8) (n i j : Int) (ha : a.length = 32) (w : World) : (Instr.build 66 #[(0, .agg (a.map bv).toArray), (1, .int .i64 n), (2, .int .i64 i), (3, .int .i64 j)]).run Tryz.prog w = .ok (.agg (Ent.mk a n i j).cells.toArray) w := by
 match a, ha with
 | [a0, a1, a2, a3, a4, a5, a6, a7, a8, a9, b0, b1, b2, b3, b4, b5, b6, b7, b8, b9, c0, c1, c2, c3, c4, c5, c6, c7, c8, c9, d0, d1], _ => show _ = _; kernel_rfl
theorem Blk.neM {κ ν : Type} [DecidableEq κ] {enc : κ → Value} {encv : ν → Value} {w : World} {g b : Nat} {t : TypeId} {cs : Array Value} {m : List (κ × ν)} (hB : Blk w g t cs) (hM : MapAt w b enc encv m) : g ≠ b := by
 rintro rfl
 obtain ⟨ts, clock, _, _, _, h4⟩ := hM.obj
 have h : w.heap[g]? = some (.cells cs t) := hB
 rw [h4] at h
 cases h
theorem Row.neM {κ ν : Type} [DecidableEq κ] {enc : κ → Value} {encv : ν → Value} {w : World} {b n size : Nat} {e : TypeId} {v : Value} {xs : List Value} {m : List (κ × ν)} (hR : Row w e size v n xs) (hM : MapAt w b enc encv m) : ∀ k, v.ownBlock = some k → k ≠ b := fun k hk => by
 rintro rfl
 obtain ⟨ts, clock, _, _, _, h4⟩ := hM.obj
 have := hR.onCells k _ hk h4
 cases this
theorem entOne (e : Ent) : e.cells.toArray.toList.all (·.oneCell') = true := by
 simp [Ent.cells, bv, Value.oneCell']
theorem rowLt {w : World} {e : TypeId} {size n : Nat} {v : Value} {xs : List Value} (h : Row w e size v n xs) : ∀ k, v.ownBlock = some k → k < w.heap.size := fun k hk => by
 rcases h.2 with ⟨rfl, _⟩ | ⟨g, off, cap, cur, fz, rfl, hg, _⟩
 ·simp [Value.ownBlock] at hk
 ·simp [Value.ownBlock] at hk
  subst hk
  exact (Array.getElem?_eq_some_iff.1 hg).1
def AddPost (w : World) (gx gm : Nat) (v : Value) (x : Scn) (E : Ent) (e : Ending) (w' : World) : Prop :=
  ∃ v', e = .returned (.agg E.cells.toArray) ∧ ScnAt w' gx gm v' { x with l := x.l ++ [E] } ∧ (∀ k, v'.ownBlock = some k → v.ownBlock = some k ∨ w.heap.size ≤ k) ∧ Chg (fun k => k = gx ∨ k = gm ∨ v.ownBlock = some k) w w'
set_option maxRecDepth 10000 in
theorem add_any (gx gm : Nat) (v : Value) (x : Scn) (n pos : Int) (a d : List UInt8) (w : World) (h : ScnAt w gx gm v x) (ha : a.length = 32) (hn : hadM x.l a = false) (hl : x.l.length ≤ 20000000) :
  Calls Tryz.prog 69 #[.pointer (some ⟨gx, 0, none⟩), .int .i64 n, .int .i64 pos, .agg (a.map bv).toArray, str d] w (AddPost w gx gm v x ⟨a, n, pos, d.length⟩) := by
 have hB : Blk w gx 97 #[v, .map (some gm), .int .i64 x.good, .bool x.whole] := h.blk
 have hR := h.row
 obtain ⟨m, hM, hm⟩ := h.map
 have hgm := hB.neM hM
 have hlt := hB.lt
 have hlm := hM.lt
 have hrm := hR.neM hM
 have hvl := rowLt hR
 obtain ⟨q, cq, rfl, hq1, hq2⟩ := hR.shape
 refine W_enter (args := [.pointer (some ⟨gx, 0, none⟩), .int .i64 n, .int .i64 pos, .agg (a.map bv).toArray, str d]) 39 Tryz.func69 rfl rfl rfl (W_sub [(0, .pointer (some ⟨gx, 0, none⟩)), (1, .int .i64 n), (2, .int .i64 pos), (3, .agg (a.map bv).toArray), (4, str d)] ?_ ⟨rfl, rfl, rfl, rfl, rfl, trivial⟩)
 have hcw := Chg.refl (fun k => k = gx ∨ k = gm ∨ (Value.slice q x.l.length cq).ownBlock = some k) w
 refine W_rs (sboxA rfl rfl (fun g8 w1 hB8 hg8 hb hl8 => ?_))
 replace hcw := hcw.then_below hb
 replace hB := hB.bel hb
 replace hR := hR.bel hb
 replace hM := hM.bel hb
 have hz_w1 := hb.size
 clear hb
 refine salA inf66 rfl (fun g10 w2 hB10 hg10 hb hl10 => ?_)
 replace hcw := hcw.then_below hb
 replace hB := hB.bel hb
 replace hR := hR.bel hb
 replace hM := hM.bel hb
 replace hB8 := hB8.bel hb
 have hz_w2 := hb.size
 clear hb
 refine Wn (tN (W_rs (st (X.ldBN rfl hB8 Tryz.underlying60 rfl (by rw [sumSize ha]; exact siz60)) rfl ?_)))
 refine sm rfl rfl (sm rfl rfl (sm rfl rfl (st (X.lenS rfl rfl Tryz.underlying9) rfl (st (X.bld rfl (bent a n pos d.length ha _)) rfl (salA inf66 rfl (fun g11 w3 hB11 hg11 hb hl11 => ?_))))))
 replace hcw := hcw.then_below hb
 replace hB := hB.bel hb
 replace hR := hR.bel hb
 replace hM := hM.bel hb
 replace hB8 := hB8.bel hb
 replace hB10 := hB10.bel hb
 have hz_w3 := hb.size
 clear hb
 refine ssBN rfl rfl hB11 (by rw [Ent.size (e := ⟨a, n, pos, d.length⟩) ha]; exact siz66) (by rw [Ent.size (e := ⟨a, n, pos, d.length⟩) ha]; rfl) (entOne _) (fun w4 hB_ hc_ => ?_)
 replace hB11 := hB_
 replace hB := hB.chg hc_ (by show ¬ gx = g11; omega)
 replace hR := hR.chg hc_ (fun k hk e => by have := hvl k hk; omega)
 replace hM := hM.chg hc_ (by show ¬ gm = g11; omega)
 replace hB8 := hB8.chg hc_ (by show ¬ g8 = g11; omega)
 replace hB10 := hB10.chg hc_ (by show ¬ g10 = g11; omega)
 replace hcw := hcw.next hc_ (fun i hi => .inr (by omega))
 have hz_w4 := hc_.size
 clear hB_ hc_
 refine Wn (tN (W_still_s 10 (by kernel_rfl) (by kernel_rfl) ?_))
 obtain ⟨w5, hw_⟩ : ∃ w5 : World, w5 = World.drew w4 := ⟨_, rfl⟩
 rw [← hw_]
 have hb : Below w4.heap.size w4 w5 := by rw [hw_]; exact bdrew (Below.refl _ _)
 clear hw_
 replace hcw := hcw.then_below hb
 replace hB := hB.bel hb
 replace hR := hR.bel hb
 replace hM := hM.bel hb
 replace hB8 := hB8.bel hb
 replace hB10 := hB10.bel hb
 replace hB11 := hB11.bel hb
 have hz_w5 := hb.size
 clear hb
 refine hY (X.move rfl) rfl (hY (X.nilChk rfl) rfl (hY (X.fa fa97_1 rfl) rfl (hY (X.ldL rfl hB Tryz.underlying95 rfl rfl) rfl (hY (X.ldBN rfl hB8 Tryz.underlying60 rfl (by rw [sumSize ha]; exact siz60)) rfl ?_))))
 refine hY (X.move rfl) rfl (hY (X.nilChk rfl) rfl (hY (X.fa fa97_0 rfl) rfl (hY (X.ldL rfl hB Tryz.underlying23 rfl rfl) rfl (hY (X.lenL rfl rfl Tryz.underlying23) rfl (hN (smu keySum rfl ⟨a, ha⟩ (x.l.length : Int) rfl rfl Tryz.underlying95 hM (fun w6 hM_ hc_ => ?_)))))))
 replace hB := hB.chg hc_ hgm
 replace hR := hR.chg hc_ (fun k hk e => hrm k hk e)
 replace hB8 := hB8.chg hc_ (by show ¬ g8 = gm; omega)
 replace hB10 := hB10.chg hc_ (by show ¬ g10 = gm; omega)
 replace hB11 := hB11.chg hc_ (by show ¬ g11 = gm; omega)
 replace hcw := hcw.next hc_ (fun i hi => .inl (.inr (.inl hi)))
 replace hM := hM_
 have hz_w6 := hc_.size
 clear hM_ hc_
 refine Wn (tN ?_)
 have hB0 := hB
 have hB110 := hB11
 refine W_phase_s (fun W_ => Below w6.heap.size w6 W_) 7 [true, true, true, true, true, true, false] (by kernel_rfl) (by kernel_rfl) (bdrew (Below.refl _ _)) ?_
 obtain ⟨w7, hw_⟩ : ∃ w7 : World, w7 = World.drew w6 := ⟨_, rfl⟩
 rw [← hw_]
 have hb : Below w6.heap.size w6 w7 := by rw [hw_]; exact bdrew (Below.refl _ _)
 clear hw_
 have hS := hb
 replace hcw := hcw.then_below hb
 replace hB := hB.bel hb
 replace hR := hR.bel hb
 replace hM := hM.bel hb
 replace hB8 := hB8.bel hb
 replace hB10 := hB10.bel hb
 replace hB11 := hB11.bel hb
 have hz_w7 := hb.size
 clear hb
 refine pY (fun W_ hW_ => (X.move rfl)) rfl (pY (fun W_ hW_ => (X.move rfl)) rfl (pY (fun W_ hW_ => (X.nilChk rfl)) rfl (pY (fun W_ hW_ => (X.fa fa97_0 rfl)) rfl (pY (fun W_ hW_ => (X.ldL rfl (hB0.bel hW_) Tryz.underlying23 rfl rfl)) rfl (pY (fun W_ hW_ => (X.ldBN rfl (hB110.bel hW_) Tryz.underlying66 rfl (by rw [Ent.size (e := ⟨a, n, pos, d.length⟩) ha]; exact siz66))) rfl ?_)))))
 refine pL (fun Q_ hQ_ hP_ => (sbs1 rfl Tryz.underlying23 inf66 (Ent.size (e := ⟨a, n, pos, d.length⟩) ha) rfl (by decide) (by decide) rfl (fun g34 w8 hR34 hg34 hb => ?_)))
 replace hS := bthen hS hb
 replace hcw := hcw.then_below hb
 replace hB := hB.bel hb
 replace hR := hR.bel hb
 replace hM := hM.bel hb
 replace hB10 := hB10.bel hb
 replace hB11 := hB11.bel hb
 have hz_w8 := hb.size
 clear hb
 have hl34 := hR34.blt (by decide)
 refine Wn (hQ_ _ _ hS ?_)
 clear hQ_ hP_ Q_
 refine pN (sapp rfl rfl Tryz.underlying23 inf66 rfl (by decide) hR (hR34.src Tryz.underlying23 (by intro u hu; have := List.all_eq_true.1 (entOne ⟨a, n, pos, d.length⟩) u (by simpa [Value.cells] using hu); exact this)) (by simp only [maxLen]; omega) (by omega) rfl (fun v' w9 hR2 hC2 hv => ?_))
 obtain ⟨a', c', rfl, _, _⟩ := hR2.shape
 have hz_w9 := hC2.size
 have hlt9 := hB.lt
 have hne1 := hR.ne2 hB (by decide)
 replace hB := hB.chg hC2 (fun hk => hne1 _ hk rfl)
 replace hM := hM.chg hC2 (fun hk => hR.neM hM _ hk rfl)
 have hne := hR2.ne2 hB (by decide)
 replace hB10 := hB10.chg hC2 (fun hk => by have := hvl _ hk; omega)
 replace hB11 := hB11.chg hC2 (fun hk => by have := hvl _ hk; omega)
 replace hcw := hcw.next hC2 (fun i hi => .inl (.inr (.inr hi)))
 have hvn : ∀ k, (Value.slice a' (x.l.length + 1) c').ownBlock = some k → (Value.slice q x.l.length cq).ownBlock = some k ∨ w.heap.size ≤ k := fun k hk => by
  rcases hv with hv | hv
  ·exact .inl (hv ▸ hk)
  ·rw [hv] at hk
   injection hk with hk
   right; omega
 have hrm2 := hR2.neM hM
 have hn10 : ¬ (Value.slice a' (x.l.length + 1) c').ownBlock = some g10 := fun hk => by
  rcases hv with hv | hv
  ·rw [hv] at hk; have := hvl _ hk; omega
  ·rw [hv] at hk; injection hk with hk; omega
 replace hR := hR2
 clear hC2 hR2 hB8
 refine st (X.nilChk rfl) rfl (st (X.fa fa97_0 rfl) rfl (ssB rfl rfl hB siz23 hR.one (by simp) (fun w10 hB_ hc_ => ?_)))
 replace hB := hB_
 replace hR := hR.chg hc_ (fun k hk e => hne _ hk e)
 replace hM := hM.chg hc_ (by show ¬ gm = gx; omega)
 replace hB10 := hB10.chg hc_ (by show ¬ g10 = gx; omega)
 replace hB11 := hB11.chg hc_ (by show ¬ g11 = gx; omega)
 replace hcw := hcw.next hc_ (fun i hi => .inl (.inl hi))
 have hz_w10 := hc_.size
 clear hB_ hc_
 refine Wn (nN (W_rs (st (X.ldBN rfl hB11 Tryz.underlying66 rfl (by rw [Ent.size (e := ⟨a, n, pos, d.length⟩) ha]; exact siz66)) rfl ?_)))
 refine ssBN rfl rfl hB10 (by rw [Ent.size (e := ⟨a, n, pos, d.length⟩) ha]; exact siz66) (by rw [Ent.size (e := ⟨a, n, pos, d.length⟩) ha]; rfl) (entOne _) (fun w11 hB_ hc_ => ?_)
 replace hB10 := hB_
 replace hB := hB.chg hc_ (by show ¬ gx = g10; omega)
 replace hR := hR.chg hc_ (fun k hk e => by have h1 := hvn k hk; have h2 := rowLt hR k hk; rcases h1 with h1 | h1; have := hvl k h1; omega; exact hn10 (e ▸ hk))
 replace hM := hM.chg hc_ (by show ¬ gm = g10; omega)
 replace hcw := hcw.next hc_ (fun i hi => .inr (by omega))
 clear hB_ hc_
 refine Wn (tN (W_ret ((rC rfl rfl hB10 Tryz.underlying66 rfl (by rw [Ent.size (e := ⟨a, n, pos, d.length⟩) ha]; exact siz66) ⟨_, rfl, ⟨hB, ?_, ⟨_, hM, ?_⟩, ?_⟩, hvn, hcw⟩).1)))
 ·rw [List.length_append, List.flatMap_append, List.flatMap_singleton]
  exact hR
 ·rw [mput_new _ _ _ (by rw [List.findIdx?_eq_none_iff]; intro p hp; rw [decide_eq_false_iff_not]; intro e; have := (has_mem hm ⟨a, ha⟩).1 (e ▸ List.mem_map.2 ⟨p, hp, rfl⟩); rw [hn] at this; cases this), List.map_append, hm, hasOf_snoc]
  rfl
 ·intro e he
  rcases List.mem_append.1 he with he | he
  ·exact h.s32 e he
  ·rw [List.mem_singleton.1 he]; exact ha
end Go.Proofs.YtnlabkogebnioaaGreatDoor
namespace Go.Proofs.YtnlabkogebnioaaGreatDoor
open Go.RowKit
theorem EntsAt.chgI {w w' : World} {v : Value} {l : List Ent} {k n0 c0 : Nat} {t : TypeId} {a0 : Option Addr} (h : EntsAt w v l) (h32 : S32 l) (hB : Blk w k t #[.slice a0 n0 c0]) (hc : Chg (fun q => q = k) w w') : EntsAt w' v l := by
 obtain ⟨h1, a, cap, rfl, h3, h4, h5⟩ := h
 refine ⟨h1, a, cap, rfl, h3, h4, fun h0 => ?_⟩
 obtain ⟨g, off, rfl, hg, hcl⟩ := h5 h0
 have hne : g ≠ k := by
  rintro rfl
  obtain ⟨x, hx⟩ : ∃ x, l[0]? = some x := ⟨_, List.getElem?_eq_getElem h0⟩
  have hxs := h32 x (List.mem_of_getElem? hx)
  have hf : (l.flatMap Ent.cells)[0]? = some (bv (x.sum.headD 0)) := by
   cases l with
   | nil => simp at hx
   | cons y l =>
    simp at hx
    subst hx
    rw [List.flatMap_cons]
    cases hs : y.sum with
    | nil => simp [hs] at hxs
    | cons b s => simp [Ent.cells, hs]
  have := hcl 0 _ hf
  rw [hB.cell] at this
  match off with
  | 0 => simp [bv] at this
  | q + 1 => simp at this
 have := hc.size
 exact ⟨g, off, rfl, by omega, fun j u hu => (hc.cell (p := ⟨g, off + j, none⟩) hg hne).trans (hcl j u hu)⟩
end Go.Proofs.YtnlabkogebnioaaGreatDoor
namespace Go.Proofs.YtnlabkogebnioaaGreatDoor
open Go.RowKit Sha
theorem index_any (gx gm : Nat) (v : Value) (x : Scn) (w : World) (h : ScnAt w gx gm v x) (hl : x.l.length ≤ 1000000) :
  Calls Tryz.prog 43 #[.pointer (some ⟨gx, 0, none⟩)] w fun e w' => ∃ u, e = .returned (.agg #[u]) ∧ EntsAt w' u (makeM x.l).1 ∧ (∀ k, u.ownBlock = some k → w.heap.size ≤ k) ∧ Below w.heap.size w w' := by
 have hB : Blk w gx 97 #[v, .map (some gm), .int .i64 x.good, .bool x.whole] := h.blk
 have hR := h.row.reads
 refine W_enter (args := [.pointer (some ⟨gx, 0, none⟩)]) 14 Tryz.func43 rfl rfl rfl (W_sub [(0, .pointer (some ⟨gx, 0, none⟩))] ?_ ⟨rfl, trivial⟩)
 have hbw := Below.refl w.heap.size w
 refine W_rs (salA inf25 rfl (fun g2 w1 hB2 hg2 hb hl2 => ?_))
 replace hbw := bthen hbw hb
 replace hB := hB.bel hb
 replace hR := hR.bel hb
 have hz_w1 := hb.size
 clear hb
 refine Wn (tN (W_rs (sm rfl rfl (st (X.nilChk rfl) rfl (st (X.fa fa97_0 rfl) rfl (st (X.ldL rfl hB Tryz.underlying23 rfl rfl) rfl (sc _ Tryz.func89 rfl (by kernel_rfl) rfl rfl ((Make_own v x.l _ hR h.s32 hl).mono ?_))))))))
 rintro e_ w2 ⟨u, rfl, hE, hO, hb⟩
 refine cR ?_
 replace hbw := bthen hbw hb
 replace hB := hB.bel hb
 replace hR := hR.bel hb
 replace hB2 := hB2.bel hb
 have hz_w2 := hb.size
 clear hb
 obtain ⟨am, cm, rfl⟩ : ∃ am cm, u = .slice am (makeM x.l).1.length cm := by obtain ⟨_, am, cm, e, _⟩ := hE; exact ⟨am, cm, e⟩
 refine sm rfl rfl (st (X.ext rfl rfl) rfl (st (X.ext rfl rfl) rfl (salA inf25 rfl (fun g3 w3 hB3 hg3 hb hl3 => ?_))))
 replace hbw := bthen hbw hb
 replace hB := hB.bel hb
 replace hR := hR.bel hb
 replace hB2 := hB2.bel hb
 replace hE := hE.bel hb
 have hz_w3 := hb.size
 clear hb
 refine ssBN rfl rfl hB3 siz25 rfl (by simp [Value.oneCell']) (fun w4 hB_ hc_ => ?_)
 replace hE := EntsAt.chgI hE (make_S32 h.s32) hB3 hc_
 replace hB2 := hB2.chg hc_ (by show ¬ g2 = g3; omega)
 replace hbw := bset hbw hc_ (by omega)
 replace hB3 := hB_
 clear hB_ hc_ hB hR
 refine sa rfl rfl (Wn (tN (W_rs (st (X.ldBN rfl hB3 Tryz.underlying25 rfl siz25) rfl (ssBN rfl rfl hB2 siz25 rfl (by simp [Value.oneCell']) (fun w5 hB_ hc_ => ?_))))))
 replace hE := EntsAt.chgI hE (make_S32 h.s32) hB2 hc_
 replace hbw := bset hbw hc_ (by omega)
 replace hB2 := hB_
 clear hB_ hc_
 refine Wn (tN (W_ret ?_))
 exact (rC rfl rfl hB2 Tryz.underlying25 rfl siz25 ⟨_, rfl, hE, fun k hk => by have := hO k hk; omega, hbw⟩).1
end Go.Proofs.YtnlabkogebnioaaGreatDoor
namespace Go.Proofs.YtnlabkogebnioaaGreatDoor
open Go.RowKit Sha
theorem ScnAt.chg {w w' : World} {gx gm : Nat} {v : Value} {x : Scn} {S : Nat → Prop} (h : ScnAt w gx gm v x) (hc : Chg S w w') (h1 : ¬ S gx) (h2 : ¬ S gm) (h3 : ∀ k, v.ownBlock = some k → ¬ S k) : ScnAt w' gx gm v x :=
 ⟨h.blk.chg hc h1, h.row.chg hc h3, by obtain ⟨m, a, b⟩ := h.map; exact ⟨m, a.chg hc h2, b⟩, h.s32⟩
def TakePost (w : World) (gx gm : Nat) (v : Value) (x : Scn) (r : Option Scn) (e : Ending) (w' : World) : Prop :=
  ∃ v', e = .returned (.bool r.isSome) ∧ ScnAt w' gx gm v' (r.getD x) ∧ (∀ k, v'.ownBlock = some k → v.ownBlock = some k ∨ w.heap.size ≤ k) ∧ Chg (fun k => k = gx ∨ k = gm ∨ v.ownBlock = some k) w w'
set_option maxRecDepth 10000 in
theorem ptake_any (gx gm : Nat) (v : Value) (x : Scn) (p : Pc) (n : Int) (w : World) (h : ScnAt w gx gm v x) (hT : ShaTabs w) (hN : NoTab (fun k => k = gx ∨ k = gm ∨ v.ownBlock = some k)) (hl : x.l.length ≤ 20000000) (hp : p.body.length ≤ 1099511627776) :
  Calls Tryz.prog 88 #[.pointer (some ⟨gx, 0, none⟩), encPc p, .int .i64 n] w (TakePost w gx gm v x (takeF n x p)) := by
 have hB : Blk w gx 97 #[v, .map (some gm), .int .i64 x.good, .bool x.whole] := h.blk
 obtain ⟨m, hM, hm⟩ := h.map
 have hgm := hB.neM hM
 have hlt := hB.lt
 have hlm := hM.lt
 have hvl := rowLt h.row
 obtain ⟨q, cq, rfl, hq1, hq2⟩ := h.row.shape
 have hR := h.row
 have hrx := hR.ne2 hB (by decide)
 have h32 := h.s32
 clear h
 refine W_enter (args := [.pointer (some ⟨gx, 0, none⟩), .agg #[.int .u8 p.kind.toNat, str p.body, .int .i64 p.pos, .int .i64 p.next], .int .i64 n]) 63 Tryz.func88 rfl rfl rfl (W_sub [(0, .pointer (some ⟨gx, 0, none⟩)), (1, .agg #[.int .u8 p.kind.toNat, str p.body, .int .i64 p.pos, .int .i64 p.next]), (2, .int .i64 n)] ?_ ⟨rfl, rfl, rfl, trivial⟩)
 have hcw := Chg.refl (fun k => k = gx ∨ k = gm ∨ (Value.slice q x.l.length cq).ownBlock = some k) w
 refine W_rs (sboxA rfl rfl (fun g4 w1 hB4 hg4 hb hl4 => ?_))
 replace hcw := hcw.then_below hb
 replace hB := hB.bel hb
 replace hM := hM.bel hb
 replace hR := hR.bel hb
 have hz_w1 := hb.size
 clear hb
 refine sa rfl rfl (Wn (tN (W_seq (W_rs (st (X.fa fa159_0 rfl) rfl (st (X.ldL rfl hB4 Tryz.underlying5 rfl rfl) rfl (Wn (tN (W_block (W_rs ?_))))))))))
 refine st (X.eql rfl rfl) rfl (sa rfl rfl (Wn (tN (W_if rfl (fun h14 => ?_) (fun h14 => ?_)))))
 ·first | replace h14 := of_decide_eq_true h14 | replace h14 := of_decide_eq_false (notT h14) | replace h14 := notT h14 | skip
  refine W_rs (st (X.fa fa159_1 rfl) rfl (st (X.ldL rfl hB4 Tryz.underlying9 rfl rfl) rfl (sc _ Tryz.func62 rfl (by kernel_rfl) rfl rfl ((opened_any p.body _ (hT.chg hcw hN) hp).mono ?_))))
  rintro e_ w2 ⟨a, d, ok, rfl, ha, hok, hal, hb⟩
  refine cR ?_
  replace hcw := hcw.then_below hb
  replace hB := hB.bel hb
  replace hM := hM.bel hb
  replace hR := hR.bel hb
  replace hB4 := hB4.bel hb
  have hz_w2 := hb.size
  clear hb
  refine sm rfl rfl (st (X.ext rfl rfl) rfl (st (X.ext rfl rfl) rfl (st (X.ext rfl rfl) rfl (salA inf60 rfl (fun g7 w3 hB7 hg7 hb hl7 => ?_)))))
  replace hcw := hcw.then_below hb
  replace hB := hB.bel hb
  replace hM := hM.bel hb
  replace hR := hR.bel hb
  replace hB4 := hB4.bel hb
  have hz_w3 := hb.size
  clear hb
  refine ssBN rfl rfl hB7 (by rw [sumSize ha]; exact siz60) (by rw [sumSize ha]; rfl) (sumOne _) (fun w4 hB_ hc_ => ?_)
  replace hB7 := hB_
  replace hB := hB.chg hc_ (by show ¬ gx = g7; omega)
  replace hM := hM.chg hc_ (by show ¬ gm = g7; omega)
  replace hB4 := hB4.chg hc_ (by show ¬ g4 = g7; omega)
  replace hR := hR.chg hc_ (fun k hk e => by have := hvl k hk; omega)
  replace hcw := hcw.next hc_ (fun i hi => .inr (by omega))
  have hz_w4 := hc_.size
  clear hB_ hc_
  refine sa rfl rfl (sa rfl rfl (Wn (tN (W_seq (W_drsN (fun W_ => Blk W_ gx 97 #[.slice q x.l.length cq, .map (some gm), .int .i64 x.good, .bool x.whole] ∧ Blk W_ g7 60 (a.map bv).toArray) [0, 1, 2, 3, 4, 5, 6, 7, 8, 9, 10] [true, true, true, true, true, false, true, true, true, true, true] (by kernel_rfl) (by kernel_rfl) (⟨hB.drew, hB7.drew⟩) ?_)))))
  obtain ⟨w5, hw_⟩ : ∃ w5 : World, w5 = World.drew w4 := ⟨_, rfl⟩
  rw [← hw_]
  have hb : Below w4.heap.size w4 w5 := by rw [hw_]; exact bdrew (Below.refl _ _)
  clear hw_
  have hS := hb
  replace hcw := hcw.then_below hb
  replace hB := hB.bel hb
  replace hM := hM.bel hb
  replace hR := hR.bel hb
  replace hB4 := hB4.bel hb
  replace hB7 := hB7.bel hb
  have hz_w5 := hb.size
  clear hb
  refine oY rfl (fun W_ hW_ => (X.move rfl)) rfl (oY rfl (fun W_ hW_ => (X.nilChk rfl)) rfl (oY rfl (fun W_ hW_ => (X.fa fa97_1 rfl)) rfl (oY rfl (fun W_ hW_ => (X.ldL rfl hW_.1 Tryz.underlying95 rfl rfl)) rfl (oY rfl (fun W_ hW_ => (X.ldBN rfl hW_.2 Tryz.underlying60 rfl (by rw [sumSize ha]; exact siz60))) rfl ?_))))
  refine oL rfl (fun Q_ hQ_ hP_ => (st (X.lookOk (z := .int .i64 0) keySum rfl ⟨a, ha⟩ rfl Tryz.underlying95 (by kernel_rfl) hM) rfl (Wn (hQ_ _ _ (⟨hB, hB7⟩) ?_))))
  clear hQ_ hP_ Q_
  refine oY rfl (fun W_ hW_ => (X.move rfl)) rfl (oY rfl (fun W_ hW_ => (X.ext rfl rfl)) rfl (oY rfl (fun W_ hW_ => (X.ext rfl rfl)) rfl (oY rfl (fun W_ hW_ => (X.assign rfl)) rfl (oY rfl (fun W_ hW_ => (X.assign rfl)) rfl (oN (nN (W_rs (sm rfl rfl (st (X.not rfl) rfl (sb rfl rfl (fun h34 => ?_) (fun h34 => ?_)))))))))))
  ·first | replace h34 := of_decide_eq_true h34 | replace h34 := of_decide_eq_false (notT h34) | replace h34 := notT h34 | skip
   refine gN (g := 34) rfl rfl rfl rfl (st (X.pickT rfl rfl) rfl (Wn (tN (W_yes rfl (rfl) (W_rs (sa rfl rfl (Wn (tN (W_ret (tR (bR (tR ?_))))))))))))
   have hk : p.kind = 2 := by apply UInt8.toNat.inj; show p.kind.toNat = 2; omega
   have hno : takeF n x p = none := by unfold takeF; rw [if_pos hk, if_neg (by rw [← hok]; cases ok <;> simp_all)]
   refine (rT rfl rfl (R := TakePost w gx gm _ x (takeF n x p)) ?_).1
   rw [hno]
   exact ⟨_, rfl, ⟨hB, hR, ⟨m, hM, hm⟩, h32⟩, fun k hk => .inl hk, hcw⟩
  ·first | replace h34 := of_decide_eq_false h34 | replace h34 := of_decide_eq_true (notF h34) | replace h34 := notF h34 | skip
   refine gY (g := 34) rfl rfl rfl (sm rfl rfl (st (X.pickF rfl rfl) rfl (Wn (tN (W_if rfl (fun h36 => ?_) (fun h36 => ?_))))))
   ·first | replace h36 := of_decide_eq_true h36 | replace h36 := of_decide_eq_false (notT h36) | replace h36 := notT h36 | skip
    refine W_rs (sa rfl rfl (Wn (tN (W_ret (tR (bR (tR ?_)))))))
    have hk : p.kind = 2 := by apply UInt8.toNat.inj; show p.kind.toNat = 2; omega
    have hh : hadM x.l a = true := (has_mem hm ⟨a, ha⟩).1 (Classical.byContradiction fun hc => by have := mget_none.2 hc; rw [this] at h36; simp at h36)
    have hno : takeF n x p = none := by unfold takeF; rw [if_pos hk, if_neg (by rintro ⟨h1, h2⟩; rw [← hok] at h1; obtain ⟨e1, e2⟩ := hal h1; rw [← e1, hh] at h2; cases h2)]
    refine (rT rfl rfl (R := TakePost w gx gm _ x (takeF n x p)) ?_).1
    rw [hno]
    exact ⟨_, rfl, ⟨hB, hR, ⟨m, hM, hm⟩, h32⟩, fun k hk => .inl hk, hcw⟩
   ·first | replace h36 := of_decide_eq_false h36 | replace h36 := of_decide_eq_true (notF h36) | replace h36 := notF h36 | skip
    refine W_skip (tN (W_reg (sm rfl rfl (sm rfl rfl (st (X.fa fa159_2 rfl) rfl (st (X.ldL rfl hB4 Tryz.underlying3 rfl rfl) rfl (st (X.ldBN rfl hB7 Tryz.underlying60 rfl (by rw [sumSize ha]; exact siz60)) rfl ?_)))))))
    refine sm rfl rfl (sc _ Tryz.func69 rfl (by kernel_rfl) rfl rfl ((add_any gx gm _ x n p.pos a d _ ⟨hB, hR, ⟨m, hM, hm⟩, h32⟩ ha (Bool.eq_false_iff.2 fun hh => by have h3 := (has_mem hm ⟨a, ha⟩).2 hh; have h4 : mget m (⟨a, ha⟩ : Sum32) ≠ none := fun e => mget_none.1 e h3; cases hg : mget m (⟨a, ha⟩ : Sum32) with | none => exact h4 hg | some z => rw [hg] at h36; simp at h36) hl).mono ?_))
    rintro e_ w6 ⟨v1, rfl, h1, hv1, hC1⟩
    refine cR ?_
    replace hB : Blk _ gx 97 #[v1, .map (some gm), .int .i64 x.good, .bool x.whole] := h1.blk
    replace hB4 := hB4.chg hC1 (by rintro (e | e | e); omega; omega; have := hvl _ e; omega)
    replace hcw := hcw.next hC1 (fun i hi => .inl hi)
    have hz_9 := hC1.size
    replace hR := h1.row
    obtain ⟨m2, hM2, hm2⟩ := h1.map
    replace hM := hM2
    have h322 := h1.s32
    have hrx2 := hR.ne2 hB (by decide)
    clear h1 hB7 hC1 hM2
    refine Wn (bN (tN (W_rs (sm rfl rfl (st (X.fa fa159_3 rfl) rfl (st (X.ldL rfl hB4 Tryz.underlying3 rfl rfl) rfl (st (X.nilChk rfl) rfl (st (X.fa fa97_2 rfl) rfl (ssB rfl rfl hB siz3 rfl (by first | decide | simp) (fun w7 hB_ hc_ => ?_))))))))))
    replace hB := hB_
    clear hB_
    replace hM := hM.chg hc_ (by first | (show ¬ _ = _; omega) | (intro k_ hk_; simp [Value.ownBlock] at hk_; subst hk_; show ¬ _ = _; omega) | assumption | trivial)
    replace hR := hR.chg hc_ (by first | (show ¬ _ = _; omega) | (intro k_ hk_; simp [Value.ownBlock] at hk_; subst hk_; show ¬ _ = _; omega) | assumption | trivial)
    replace hB4 := hB4.chg hc_ (by first | (show ¬ _ = _; omega) | (intro k_ hk_; simp [Value.ownBlock] at hk_; subst hk_; show ¬ _ = _; omega) | assumption | trivial)
    replace hcw := hcw.next hc_ (fun i_ hi_ => by first | exact .inl hi_ | exact .inl (.inl hi_) | (right; subst hi_; omega) | (left; subst hi_; show _ ≤ _; omega) | (left; subst hi_; assumption))
    have hz_w7 := hc_.size
    clear hc_
    refine Wn (tN (W_rs (sa rfl rfl (Wn (tN (W_ret ?_))))))
    have hk : p.kind = 2 := by apply UInt8.toNat.inj; show p.kind.toNat = 2; omega
    have ho : ok = true := by cases ok <;> simp_all
    obtain ⟨e1, e2⟩ := hal ho
    have h33 : openB p.body = true := hok ▸ ho
    have hl33 : 33 ≤ p.body.length := by unfold openB at h33; simp only [decide_eq_true_eq] at h33; exact h33.1
    have hh : hadM x.l a = false := (Bool.eq_false_iff.2 fun hh => by have h3 := (has_mem hm ⟨a, ha⟩).2 hh; have h4 : mget m (⟨a, ha⟩ : Sum32) ≠ none := fun e => mget_none.1 e h3; cases hg : mget m (⟨a, ha⟩ : Sum32) with | none => exact h4 hg | some z => rw [hg] at h36; simp at h36)
    have hE : (⟨a, n, p.pos, d.length⟩ : Ent) = ⟨p.body.take 32, n, p.pos, p.body.length - 32⟩ := by rw [e1, e2, List.length_drop]; congr 1; omega
    have hso : takeF n x p = some ⟨x.l ++ [⟨a, n, p.pos, d.length⟩], p.next, x.whole⟩ := by unfold takeF; rw [if_pos hk, if_pos ⟨h33, by rw [← e1]; exact hh⟩, hE]
    refine (rT rfl rfl (R := TakePost w gx gm _ x (takeF n x p)) ?_).1
    rw [hso]
    exact ⟨_, rfl, ⟨hB, hR, ⟨m2, hM, hm2⟩, h322⟩, fun k hk => (hv1 k hk).imp id (fun h => by omega), hcw⟩
 ·first | replace h14 := of_decide_eq_false h14 | replace h14 := of_decide_eq_true (notF h14) | replace h14 := notF h14 | skip
  refine W_rs (st (X.eql rfl rfl) rfl (sa rfl rfl (Wn (tN (W_if rfl (fun h44 => ?_) (fun h44 => ?_))))))
  ·first | replace h44 := of_decide_eq_true h44 | replace h44 := of_decide_eq_false (notT h44) | replace h44 := notT h44 | skip
   refine W_seq (W_drsN (fun W_ => Blk W_ g4 159 #[.int .u8 p.kind.toNat, str p.body, .int .i64 p.pos, .int .i64 p.next] ∧ Blk W_ gx 97 #[.slice q x.l.length cq, .map (some gm), .int .i64 x.good, .bool x.whole]) [0, 1, 2, 3, 4, 5, 6, 7, 8] [true, true, true, true, true, true, true, false, true] (by kernel_rfl) (by kernel_rfl) (⟨hB4.drew, hB.drew⟩) ?_)
   obtain ⟨w8, hw_⟩ : ∃ w8 : World, w8 = World.drew w1 := ⟨_, rfl⟩
   rw [← hw_]
   have hb : Below w1.heap.size w1 w8 := by rw [hw_]; exact bdrew (Below.refl _ _)
   clear hw_
   have hS := hb
   replace hcw := hcw.then_below hb
   replace hB := hB.bel hb
   replace hM := hM.bel hb
   replace hR := hR.bel hb
   replace hB4 := hB4.bel hb
   have hz_w8 := hb.size
   clear hb
   refine oY rfl (fun W_ hW_ => (X.fa fa159_1 rfl)) rfl (oY rfl (fun W_ hW_ => (X.ldL rfl hW_.1 Tryz.underlying9 rfl rfl)) rfl (oY rfl (fun W_ hW_ => (X.move rfl)) rfl (oY rfl (fun W_ hW_ => (X.nilChk rfl)) rfl (oY rfl (fun W_ hW_ => (X.fa fa97_0 rfl)) rfl (oY rfl (fun W_ hW_ => (X.ldL rfl hW_.2 Tryz.underlying23 rfl rfl)) rfl (oY rfl (fun W_ hW_ => (X.lenL rfl rfl Tryz.underlying23)) rfl (oL rfl (fun Q_ hQ_ hP_ => (sc _ Tryz.func53 rfl (by kernel_rfl) rfl rfl ((pfour_any _ _).mono ?_))))))))))
   rintro e_ w9 ⟨rfl, hb⟩
   refine cR ?_
   replace hcw := hcw.then_below hb
   replace hB := hB.bel hb
   replace hM := hM.bel hb
   replace hR := hR.bel hb
   replace hB4 := hB4.bel hb
   have hz_w9 := hb.size
   clear hb
   refine Wn (hQ_ _ _ (⟨hB4, hB⟩) ?_)
   clear hQ_ hP_ Q_
   refine oY rfl (fun W_ hW_ => (X.neS rfl rfl)) rfl (oN (nN (W_if rfl (fun h54 => ?_) (fun h54 => ?_))))
   ·first | replace h54 := of_decide_eq_true h54 | replace h54 := of_decide_eq_false (notT h54) | replace h54 := notT h54 | skip
    refine W_rs (sa rfl rfl (Wn (tN (W_ret (tR (bR (tR ?_)))))))
    have hk : p.kind = 3 := by apply UInt8.toNat.inj; show p.kind.toNat = 3; omega
    have hno : takeF n x p = none := by unfold takeF; rw [if_neg (by rw [hk]; decide), if_pos hk, if_neg (by simpa using h54)]
    refine (rT rfl rfl (R := TakePost w gx gm _ x (takeF n x p)) ?_).1
    rw [hno]
    exact ⟨_, rfl, ⟨hB, hR, ⟨m, hM, hm⟩, h32⟩, fun k hk => .inl hk, hcw⟩
   ·first | replace h54 := of_decide_eq_false h54 | replace h54 := of_decide_eq_true (notF h54) | replace h54 := notF h54 | skip
    refine W_skip (tN (W_reg (sm rfl rfl (st (X.nilChk rfl) rfl (st (X.fa fa97_3 rfl) rfl (ssB rfl rfl hB siz4 rfl (by first | decide | simp) (fun w10 hB_ hc_ => ?_)))))))
    replace hB := hB_
    clear hB_
    replace hM := hM.chg hc_ (by first | (show ¬ _ = _; omega) | (intro k_ hk_; simp [Value.ownBlock] at hk_; subst hk_; show ¬ _ = _; omega) | assumption | trivial)
    replace hR := hR.chg hc_ (by first | (show ¬ _ = _; omega) | (intro k_ hk_; simp [Value.ownBlock] at hk_; subst hk_; show ¬ _ = _; omega) | assumption | trivial)
    replace hB4 := hB4.chg hc_ (by first | (show ¬ _ = _; omega) | (intro k_ hk_; simp [Value.ownBlock] at hk_; subst hk_; show ¬ _ = _; omega) | assumption | trivial)
    replace hcw := hcw.next hc_ (fun i_ hi_ => by first | exact .inl hi_ | exact .inl (.inl hi_) | (right; subst hi_; omega) | (left; subst hi_; show _ ≤ _; omega) | (left; subst hi_; assumption))
    have hz_w10 := hc_.size
    clear hc_
    refine Wn (bN (tN (W_rs (sm rfl rfl (st (X.fa fa159_3 rfl) rfl (st (X.ldL rfl hB4 Tryz.underlying3 rfl rfl) rfl (st (X.nilChk rfl) rfl (st (X.fa fa97_2 rfl) rfl (ssB rfl rfl hB siz3 rfl (by first | decide | simp) (fun w11 hB_ hc_ => ?_))))))))))
    replace hB := hB_
    clear hB_
    replace hM := hM.chg hc_ (by first | (show ¬ _ = _; omega) | (intro k_ hk_; simp [Value.ownBlock] at hk_; subst hk_; show ¬ _ = _; omega) | assumption | trivial)
    replace hR := hR.chg hc_ (by first | (show ¬ _ = _; omega) | (intro k_ hk_; simp [Value.ownBlock] at hk_; subst hk_; show ¬ _ = _; omega) | assumption | trivial)
    replace hB4 := hB4.chg hc_ (by first | (show ¬ _ = _; omega) | (intro k_ hk_; simp [Value.ownBlock] at hk_; subst hk_; show ¬ _ = _; omega) | assumption | trivial)
    replace hcw := hcw.next hc_ (fun i_ hi_ => by first | exact .inl hi_ | exact .inl (.inl hi_) | (right; subst hi_; omega) | (left; subst hi_; show _ ≤ _; omega) | (left; subst hi_; assumption))
    have hz_w11 := hc_.size
    clear hc_
    refine Wn (tN (W_rs (sa rfl rfl (Wn (tN (W_ret ?_))))))
    have hk : p.kind = 3 := by apply UInt8.toNat.inj; show p.kind.toNat = 3; omega
    have hno : takeF n x p = some ⟨x.l, p.next, true⟩ := by unfold takeF; rw [if_neg (by rw [hk]; decide), if_pos hk, if_pos (by simpa using h54)]
    refine (rT rfl rfl (R := TakePost w gx gm _ x (takeF n x p)) ?_).1
    rw [hno]
    exact ⟨_, rfl, ⟨hB, hR, ⟨m, hM, hm⟩, h32⟩, fun k hk => .inl hk, hcw⟩
  ·first | replace h44 := of_decide_eq_false h44 | replace h44 := of_decide_eq_true (notF h44) | replace h44 := notF h44 | skip
   refine W_rs (sa rfl rfl (Wn (tN (W_ret (bR (tR ?_))))))
   have hno : takeF n x p = none := by unfold takeF; rw [if_neg (by intro e; rw [e] at h14; exact h14 rfl), if_neg (by intro e; rw [e] at h44; simp at h44)]
   refine (rT rfl rfl (R := TakePost w gx gm _ x (takeF n x p)) ?_).1
   rw [hno]
   exact ⟨_, rfl, ⟨hB, hR, ⟨m, hM, hm⟩, h32⟩, fun k hk => .inl hk, hcw⟩
end Go.Proofs.YtnlabkogebnioaaGreatDoor
namespace Go.Proofs.YtnlabkogebnioaaGreatDoor
open Go.RowKit
theorem wpOp_round {P : Program} {ops : Array Oper} {Q : Exit → Act → World → Prop} {lp n i : Nat} {K K' : Act → World → Prop} {a : Act} {w : World} (hQ : ¬ LetsOut Q) (hn : ∀ o, ops[i]? = some o → ∀ c, o.op ≠ .defer c) (hK : ∀ a w, K a w → K' a w)
  (h : wpOp P ops Q i K a w) : wpOpIn (Fence.wide.inRound lp) n P ops Q i K' a w := by
 unfold wpOp at h
 unfold wpOpIn
 cases ho : ops[i]? with
 | none => rw [ho] at h; exact hK _ _ h
 | some o =>
  rw [ho] at h
  simp only at h ⊢
  split at h
  ·rename_i hw
   rw [if_pos hw]
   refine ⟨fun f _ => trivial, ?_⟩
   rw [semAt_of _ _ _ (hn o ho)]
   have h' : o.upon P a K Q ((execOp a.eval o).run P w) := h.resolve_right (fun h => hQ h.2)
   exact upon_round hK h'
  ·rename_i hw
   rw [if_neg hw]
   exact ⟨fun f _ => trivial, hK _ _ h⟩
theorem wpAny_round {P : Program} {md : Region.Mode} {ops : Array Oper} {Q : Exit → Act → World → Prop} {lp n : Nat} (hQ : ¬ LetsOut Q) (hn : ∀ (i : Nat) (o : Oper), ops[i]? = some o → ∀ c, o.op ≠ .defer c) :
  ∀ (fuel : Nat) {listed : Array Bool} {a : Act} {w : World}, wpAny P md ops Q fuel listed a w → wpAnyIn (Fence.wide.inRound lp) n P md ops Q fuel listed a w
 | 0, _, _, _, h => h
 | fuel + 1, _, _, _, h => ⟨h.1, fun i hi => wpOp_round hQ (hn i) (fun _ _ h => wpAny_round hQ hn fuel h) (h.2 i hi)⟩
theorem noDefer_at {l : List Oper} (h : noDefer l = true) (i : Nat) (o : Oper) (ho : l.toArray[i]? = some o) : ∀ c, o.op ≠ .defer c := fun c hc => by
 rw [List.getElem?_toArray] at ho
 have := List.all_eq_true.1 h o (List.mem_of_getElem? ho)
 rw [hc] at this
 cases this
theorem wpIn_region_perm {P : Program} {Q : Exit → Act → World → Prop} {lp n id : Nat} {a : Act} {w : World} {l : List Oper} (S : World → Prop) (is : List Nat) (r : List Bool) (hm : P.follows .mixedOrders = true) (hok : (Region.noSelect l.toArray && permOk l.toArray is r (Array.replicate l.toArray.size false) && (is.length == l.length)) = true)
  (hQ : ∀ c a d v w, Q (.panic c) (a.put d v) w → Q (.panic c) a w) (hQ2 : ¬ LetsOut Q) (hn : noDefer l = true) (hS : S w.drew) (h : wpOrd P l.toArray Q S (permute l is) r a w.drew) : (Code.region id l.toArray true).wpIn (Fence.wide.inRound lp) n P Q a w := by
 simp only [Bool.and_eq_true, beq_iff_eq] at hok
 refine wpIn_region_any hm (wpAny_round hQ2 (noDefer_at hn) _ (wpAny_of_held _ _ _ _ (S := S) ?_))
 have := wpAnyH_of_perm hok.1.1 hQ is r _ _ _ hok.1.2 hS h
 rw [hok.2] at this
 simpa using this
theorem WI_drN {P : Program} {N lp n : Nat} {Q : Post} {os : List Oper} {l : Env} {w : World} {id : Nat} (S : World → Prop) (is : List Nat) (bs : List Bool) (hm : P.follows .mixedOrders = true) (hok : (Region.noSelect os.toArray && permOk os.toArray is bs (Array.replicate os.toArray.size false) && (is.length == os.length)) = true)
  (hn : noDefer os = true) (hS : S w.drew) (h : WO P N [] os (onlyN (fun l w => Q .normal l w)) S is bs l w.drew) : WI lp n P N Q (.region id os.toArray true) l w := fun a ha =>
 wpIn_mono (wpIn_region_perm (Q := lift N [] (onlyN (fun l w => Q .normal l w))) S is bs hm hok (fun c a d v w h => by obtain ⟨_, _, h⟩ := h; exact h.elim) (fun hl => by obtain ⟨_, _, _, _, h⟩ := hl; exact h) hn hS (h a ha)) (fun e a w hq => by
  obtain ⟨l', hr, hq⟩ := hq
  refine ⟨l', hr, ?_⟩
  cases e with
  | normal => exact hq
  | _ => exact hq.elim)
end Go.Proofs.YtnlabkogebnioaaGreatDoor
