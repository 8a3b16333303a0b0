/- journal: what is seen of bytes, in plain Lean. journal: number, the scanner's methods. journal: takes, Scan. armariumref16.Scan. armariumref16.Same. -/
import Derived.Test.YtnijmegalgoipaaGreatDoorWire
import Derived.Test.YtnijmegalgoipaaGreatDoorRefOf
namespace Go.Proofs.YtnijmegalgoipaaGreatDoor
open Go.RowKit
structure ScM where
  state : List UInt8
  done : List (List UInt8)
  next : Nat
  good : Nat
  open_ : Nat
  last : List UInt8
def scNew : ScM := ⟨[], [], 1, 0, 0, []⟩
/-- what a frame of a kind does -/
def doM (kind n : Nat) (rest : List UInt8) (x : ScM) : Option ScM :=
  if kind = 4 then (if n = x.next then some { x with open_ := n, last := rest, next := x.next + 1 } else none)
  else if kind = 5 then (if n ≠ 0 ∧ n = x.open_ ∧ rest = [] then some { x with done := x.done ++ [x.last], open_ := 0 } else none)
  else if kind = 6 then (if x.good = 0 ∧ 1 ≤ n then some { x with state := rest, next := n } else none)
  else none
def stepM (s : List UInt8) (x : ScM) : Option ScM :=
  if (nextM (s.drop x.good)).2.2.2 ≠ 0 ∨ (nextM (s.drop x.good)).2.1.length < 4 then none
  else (doM (nextM (s.drop x.good)).1.toNat (num (nextM (s.drop x.good)).2.1) ((nextM (s.drop x.good)).2.1.drop 4) x).map fun y => { y with good := y.good + (nextM (s.drop x.good)).2.2.1 }
def scanN : Nat → List UInt8 → ScM → ScM
  | 0, _, x => x
  | n + 1, s, x => match stepM s x with
    | none => x
    | some y => scanN n s y
def scanM (s : List UInt8) : ScM := scanN (s.length + 1) s scNew
theorem takeM_ge {s : List UInt8} {t n : Nat} {e : Int} (h : 1 ≤ t) : 1 ≤ (takeM s t e n).2.1 := by
  unfold takeM
  by_cases he : e ≠ 0
  · rw [if_pos he]; exact h
  · rw [if_neg he]
    by_cases hl : s.length - t < n
    · rw [if_pos hl]; exact h
    · rw [if_neg hl]; simp only; omega
theorem nextM_len {s : List UInt8} (h : (nextM s).2.2.2 = 0) : 5 ≤ (nextM s).2.2.1 ∧ (nextM s).2.2.1 ≤ s.length := by
  unfold nextM at h ⊢
  split at h
  · simp at h
  rename_i h1
  rw [if_neg h1]
  split at h
  · simp at h
  rename_i h2
  rw [if_neg h2]
  split at h
  · rename_i h3
    exact absurd h h3
  rename_i h3
  rw [if_neg h3]
  split at h
  · simp at h
  rename_i h4
  rw [if_neg h4]
  split at h
  · simp at h
  rename_i h5
  rw [if_neg h5]
  have hl : 1 ≤ s.length := by
    cases s with
    | nil => exact absurd rfl h1
    | cons x l => simp
  have ha : 1 ≤ (textR s 1 1048576).2.1 := by
    unfold textR
    have hu : 1 ≤ (uvR s 1 0).2.1 := by
      unfold uvR
      rw [if_neg (by simp)]
      split
      · simp only; omega
      · exact Nat.le_refl _
    split
    · exact hu
    · split
      · exact Nat.le_refl _
      · split
        · exact Nat.le_refl _
        · exact takeM_ge hu
  simp only
  omega
theorem doM_good {k n : Nat} {r : List UInt8} {x y : ScM} (h : doM k n r x = some y) : y.good = x.good ∧ (y.next ≤ x.next + 1 ∨ y.next = n) ∧ (y.open_ = n ∨ y.open_ = 0 ∨ y.open_ = x.open_) ∧ y.done.length ≤ x.done.length + 1 := by
  unfold doM at h
  split at h
  · split at h
    · injection h with h
      subst h
      exact ⟨rfl, .inl (Nat.le_refl _), .inl rfl, by simp⟩
    · cases h
  split at h
  · split at h
    · injection h with h
      subst h
      exact ⟨rfl, .inl (by simp), .inr (.inl rfl), by simp⟩
    · cases h
  split at h
  · split at h
    · injection h with h
      subst h
      exact ⟨rfl, .inr rfl, .inr (.inr rfl), by simp⟩
    · cases h
  · cases h
/-- what holds all along -/
structure ScOk (s : List UInt8) (x : ScM) : Prop where
  good : x.good ≤ s.length
  next : x.next ≤ 4294967296 + x.good
  open_ : x.open_ ≤ 4294967296 + x.good
  done : x.done.length ≤ x.good
theorem ScOk.new (s : List UInt8) : ScOk s scNew := ⟨Nat.zero_le _, by simp [scNew], by simp [scNew], by simp [scNew]⟩
theorem stepM_ok {s : List UInt8} {x y : ScM} (h : stepM s x = some y) (hx : ScOk s x) : ScOk s y ∧ x.good + 5 ≤ y.good := by
  unfold stepM at h
  split at h
  · cases h
  rename_i hc
  have he : (nextM (s.drop x.good)).2.2.2 = 0 := Classical.byContradiction fun e => hc (.inl e)
  obtain ⟨h5, hl⟩ := nextM_len he
  rw [List.length_drop] at hl
  obtain ⟨z, hz, rfl⟩ := Option.map_eq_some_iff.1 h
  obtain ⟨h1, h2, h3, h4⟩ := doM_good hz
  have hn := num_lt (nextM (s.drop x.good)).2.1
  have := hx.good
  have := hx.next
  have := hx.open_
  have := hx.done
  refine ⟨⟨?_, ?_, ?_, ?_⟩, ?_⟩ <;> simp only [h1]
  · omega
  · omega
  · omega
  · omega
  · omega
end Go.Proofs.YtnijmegalgoipaaGreatDoor
namespace Go.Proofs.YtnijmegalgoipaaGreatDoor
open Go.RowKit
section
variable {P : Program} {N : Nat} {ds : List Deferred} {Q : Post} {l : Env} {w : World} {ops : Array Oper} {rest : List Oper} {ty : TypeId} {pos : String} {aft : Array Edge} {d : Nat}
/-- the call of a function's value -/
theorem scvF {f : FuncId} {x : Operand} {args : List Operand} {ats : Array TypeId} (vs : List Value) (hx : ev l x = some (.func (.func f) #[] #[])) (he : ∀ args w, (callFunc f args).run P w = .ok (.enter f args) w)
    (hvs : evs l args = some vs) (hd : Nat.blt d N = true)
    (hc : Calls P f vs.toArray w (CP (fun v w' => WL P N ds ops Q rest ((d, v) :: l) w') (fun c w' => Q (.panic c) l w'))) :
    WL P N ds ops Q (⟨some d, .call { callee := .value x, args := args.toArray, argTypes := ats }, ty, pos, aft, none⟩ :: rest) l w := by
  intro a ha
  refine wpList_plain rfl fun K hK => ?_
  have hvs' := evs_map ha.knows hvs
  have hx' := ha.knows _ _ hx
  have e : List.map (fun x => a.eval x) args = vs := hvs'
  have hr : (execOp a.eval ⟨some d, .call { callee := .value x, args := args.toArray, argTypes := ats }, ty, pos, aft, none⟩).run P w = .ok (.enter f vs.toArray) w := by
    unfold execOp
    simp only [resolve, invoke, hx']
    simp [Deferred.ofValue, e, he]
  unfold Oper.wp
  rw [hr]
  refine Calls.mono hc fun e w' h => ?_
  cases e with
  | returned v => exact hK _ _ (h _ (ha.put hd v))
  | panicked c => exact ⟨l, ha, h⟩
  | outgrown => exact h.elim
end
theorem number_any (s : List UInt8) (w : World) (hs : s.length ≤ 1099511627776) : Calls Tryz.prog 101 #[str s] w fun e w' =>
    e = .returned (.tuple #[.int .i64 (if s.length < 4 then 0 else num s : Nat), str (if s.length < 4 then [] else s.drop 4), .bool (decide (4 ≤ s.length))]) ∧ Below w.heap.size w w' := by
  by_cases h4 : s.length < 4
  · rw [if_pos h4, if_pos h4, decide_eq_false (by omega)]
    refine W_enter (args := [str s]) 28 Tryz.func101 rfl rfl rfl ?_
    refine W_sub [(0, str s)] ?_ ⟨rfl, trivial⟩
    have hbw := Below.refl w.heap.size w
    refine W_rs ?_
    refine sa rfl rfl ?_
    refine sa rfl rfl ?_
    refine sa rfl rfl ?_
    refine Wn ?_
    refine tN ?_
    refine W_seq ?_
    refine W_rs ?_
    refine sm rfl rfl ?_
    refine st (X.lenS rfl rfl Tryz.underlying9) rfl ?_
    refine st (X.lss rfl rfl) rfl ?_
    refine Wn ?_
    refine tN ?_
    refine W_yes rfl (decide_eq_true (by omega)) ?_
    refine W_rs ?_
    refine sa rfl rfl ?_
    refine sa rfl rfl ?_
    refine sa rfl rfl ?_
    refine Wn ?_
    refine tN ?_
    refine W_ret (tR ?_)
    exact (rTTT rfl rfl rfl rfl ⟨rfl, hbw⟩).1
  rw [if_neg h4, if_neg h4, decide_eq_true (by omega)]
  obtain ⟨a, ha⟩ : ∃ a, s.getD 0 0 = a := ⟨_, rfl⟩
  obtain ⟨b, hb_⟩ : ∃ b, s.getD 1 0 = b := ⟨_, rfl⟩
  obtain ⟨c, hc⟩ : ∃ c, s.getD 2 0 = c := ⟨_, rfl⟩
  obtain ⟨d, hd⟩ : ∃ d, s.getD 3 0 = d := ⟨_, rfl⟩
  have la := a.toNat_lt
  have lb := b.toNat_lt
  have lc := c.toNat_lt
  have ld := d.toNat_lt
  have o1 := or_add a.toNat b.toNat 8 (by omega) (by omega)
  have o2 := or_add (a.toNat + b.toNat * 256) c.toNat 16 (by omega) (by omega)
  have o3 := or_add (a.toNat + b.toNat * 256 + c.toNat * 65536) d.toNat 24 (by omega) (by omega)
  have hz : ((a.toNat + b.toNat * 256 + c.toNat * 65536 + d.toNat * 16777216 : Nat) : Int) = ((num s : Nat) : Int) := by
    unfold num
    rw [ha, hb_, hc, hd]
    unfold num4
    omega
  refine W_enter (args := [str s]) 28 Tryz.func101 rfl rfl rfl ?_
  refine W_sub [(0, str s)] ?_ ⟨rfl, trivial⟩
  have hbw := Below.refl w.heap.size w
  refine W_rs ?_
  refine sa rfl rfl ?_
  refine sa rfl rfl ?_
  refine sa rfl rfl ?_
  refine Wn ?_
  refine tN ?_
  refine W_seq ?_
  refine W_rs ?_
  refine sm rfl rfl ?_
  refine st (X.lenS rfl rfl Tryz.underlying9) rfl ?_
  refine st (X.lss rfl rfl) rfl ?_
  refine Wn ?_
  refine tN ?_
  refine W_no rfl (decide_eq_false (by omega)) ?_
  refine W_skip ?_
  refine tN ?_
  refine W_drsN (fun _ => True) [0, 1, 2, 3, 4, 5, 6, 7, 8, 9, 10, 11, 12, 13, 14, 15, 16, 17, 18, 19, 20, 21, 22] [true, true, true, true, true, true, true, true, true, true, true, true, true, true, true, true, true, true, true, true, true, true, true] (by kernel_rfl) (by kernel_rfl) (trivial) ?_
  obtain ⟨w1, hw_⟩ : ∃ w1 : World, w1 = World.drew w := ⟨_, rfl⟩
  rw [← hw_]
  have hb : Below w.heap.size w w1 := by rw [hw_]; exact bdrew (Below.refl _ _)
  clear hw_
  have hS : True := trivial
  replace hbw := bthen hbw hb
  have hz_w1 := hb.size
  clear hb
  refine oY rfl (fun W_ hW_ => (X.move rfl)) rfl ?_
  refine oY rfl (fun W_ hW_ => (X.idxS (q := 0) rfl rfl Tryz.underlying9 rfl (by omega))) rfl ?_
  refine oY rfl (fun W_ hW_ => (X.convI (z := (a.toNat : Int)) rfl Tryz.underlying5 Tryz.underlying3 (by rw [ha]; exact w64 (by omega)))) rfl ?_
  refine oY rfl (fun W_ hW_ => (X.move rfl)) rfl ?_
  refine oY rfl (fun W_ hW_ => (X.idxS (q := 1) rfl rfl Tryz.underlying9 rfl (by omega))) rfl ?_
  refine oY rfl (fun W_ hW_ => (X.convI (z := (b.toNat : Int)) rfl Tryz.underlying5 Tryz.underlying3 (by rw [hb_]; exact w64 (by omega)))) rfl ?_
  refine oY rfl (fun W_ hW_ => (X.shl (q := 256) (z := (b.toNat : Int) * 256) rfl rfl (by decide) (by decide) rfl rfl (w64 (by omega)))) rfl ?_
  refine oY rfl (fun W_ hW_ => (X.bits (by simp) rfl rfl o1)) rfl ?_
  refine oY rfl (fun W_ hW_ => (X.move rfl)) rfl ?_
  refine oY rfl (fun W_ hW_ => (X.idxS (q := 2) rfl rfl Tryz.underlying9 rfl (by omega))) rfl ?_
  refine oY rfl (fun W_ hW_ => (X.convI (z := (c.toNat : Int)) rfl Tryz.underlying5 Tryz.underlying3 (by rw [hc]; exact w64 (by omega)))) rfl ?_
  refine oY rfl (fun W_ hW_ => (X.shl (q := 65536) (z := (c.toNat : Int) * 65536) rfl rfl (by decide) (by decide) rfl rfl (w64 (by omega)))) rfl ?_
  refine oY rfl (fun W_ hW_ => (X.bits (by simp) rfl rfl o2)) rfl ?_
  refine oY rfl (fun W_ hW_ => (X.move rfl)) rfl ?_
  refine oY rfl (fun W_ hW_ => (X.idxS (q := 3) rfl rfl Tryz.underlying9 rfl (by omega))) rfl ?_
  refine oY rfl (fun W_ hW_ => (X.convI (z := (d.toNat : Int)) rfl Tryz.underlying5 Tryz.underlying3 (by rw [hd]; exact w64 (by omega)))) rfl ?_
  refine oY rfl (fun W_ hW_ => (X.shl (q := 16777216) (z := (d.toNat : Int) * 16777216) rfl rfl (by decide) (by decide) rfl rfl (w64 (by omega)))) rfl ?_
  refine oY rfl (fun W_ hW_ => (X.bits (by simp) rfl rfl o3)) rfl ?_
  refine oY rfl (fun W_ hW_ => (X.move rfl)) rfl ?_
  refine oY rfl (fun W_ hW_ => (X.fromS (s := s) (i := 4) rfl rfl Tryz.underlying9 rfl (by omega))) rfl ?_
  refine oY rfl (fun W_ hW_ => (X.assign rfl)) rfl ?_
  refine oY rfl (fun W_ hW_ => (X.assign rfl)) rfl ?_
  refine oY rfl (fun W_ hW_ => (X.assign rfl)) rfl ?_
  refine oN ?_
  refine nN ?_
  refine W_ret ?_
  refine (rTTT rfl rfl rfl rfl ⟨?_, hbw⟩).1
  rw [← hz]
/-- a scanner at g -/
structure ScAt (w : World) (g : Nat) (x : ScM) (v : Value) : Prop where
  blk : Blk w g 144 #[str x.state, v, .int .i64 x.next, .int .i64 x.good, .bool (decide (x.good = 0)), .int .i64 x.open_, str x.last]
  row : Row w 9 1 v x.done.length (x.done.map str)
/-- what a method leaves -/
def ScPost (w : World) (g : Nat) (v : Value) (x : ScM) (r : Option ScM) (e : Ending) (w' : World) : Prop :=
  e = .returned (.bool r.isSome) ∧ ∃ v', ScAt w' g (r.getD x) v' ∧ (∀ k, v'.ownBlock = some k → v.ownBlock = some k ∨ w.heap.size ≤ k) ∧ Chg (fun k => k = g ∨ v.ownBlock = some k) w w'
section
variable (g : Nat) (x : ScM) (v : Value) (n : Nat) (rest : List UInt8) (w : World) (h : ScAt w g x v) (hn : n ≤ 4294967296) (hdn : x.done.length ≤ 1099511627776)
include h
include hn in
theorem sc_intent (_hx : x.next ≤ 1152921504606846976) : Calls Tryz.prog 117 #[.pointer (some ⟨g, 0, none⟩), .int .i64 n, str rest] w (ScPost w g v x (doM 4 n rest x)) := by
  have hB := h.blk
  have hR := h.row
  have hlt := hB.lt
  obtain ⟨a, c, rfl, hc1, hc2⟩ := hR.shape
  unfold doM
  rw [if_pos rfl]
  by_cases he : n = x.next
  · rw [if_pos he]
    refine W_enter (args := [.pointer (some ⟨g, 0, none⟩), .int .i64 n, str rest]) 31 Tryz.func117 rfl rfl rfl ?_
    refine W_sub [(0, .pointer (some ⟨g, 0, none⟩)), (1, .int .i64 n), (2, str rest)] ?_ ⟨rfl, rfl, rfl, trivial⟩
    have hcw := Chg.refl (fun k => k = g) w
    refine W_rs ?_
    refine sa rfl rfl ?_
    refine Wn ?_
    refine tN ?_
    refine W_seq ?_
    refine W_rs ?_
    refine sm rfl rfl ?_
    refine sm rfl rfl ?_
    refine st (X.nilChk rfl) rfl ?_
    refine st (X.fa fa144_0 rfl) rfl ?_
    refine st (X.fa fa103_2 rfl) rfl ?_
    refine st (X.ldL rfl hB Tryz.underlying3 rfl rfl) rfl ?_
    refine st (X.neq rfl rfl) rfl ?_
    refine Wn ?_
    refine tN ?_
    refine W_no rfl (decide_eq_false (by omega)) ?_
    refine W_skip ?_
    refine tN ?_
    refine W_rs ?_
    refine sm rfl rfl ?_
    refine sm rfl rfl ?_
    refine sm rfl rfl ?_
    refine sm rfl rfl ?_
    refine st (X.nilChk rfl) rfl ?_
    refine st (X.fa fa144_2 rfl) rfl ?_
    refine ssB rfl rfl hB siz3 rfl (by first | decide | simp) (fun w1 hB_ hc_ => ?_)
    replace hB := hB_
    clear hB_
    replace hcw := hcw.next hc_ (fun i_ hi_ => by first | exact .inl hi_ | exact .inl (.inl hi_) | (right; subst hi_; omega) | (left; subst hi_; show _ ≤ _; omega) | (left; subst hi_; assumption))
    have hz_w1 := hc_.size
    clear hc_
    refine st (X.nilChk rfl) rfl ?_
    refine st (X.fa fa144_3 rfl) rfl ?_
    refine ssB rfl rfl hB siz9 rfl (by first | decide | simp) (fun w2 hB_ hc_ => ?_)
    replace hB := hB_
    clear hB_
    replace hcw := hcw.next hc_ (fun i_ hi_ => by first | exact .inl hi_ | exact .inl (.inl hi_) | (right; subst hi_; omega) | (left; subst hi_; show _ ≤ _; omega) | (left; subst hi_; assumption))
    have hz_w2 := hc_.size
    clear hc_
    refine Wn ?_
    refine tN ?_
    refine W_rs ?_
    refine sm rfl rfl ?_
    refine st (X.nilChk rfl) rfl ?_
    refine st (X.fa fa144_0 rfl) rfl ?_
    refine st (X.fa fa103_2 rfl) rfl ?_
    refine st (X.ldL rfl hB Tryz.underlying3 rfl rfl) rfl ?_
    refine st (X.add64 rfl rfl (by omega)) rfl ?_
    refine st (X.nilChk rfl) rfl ?_
    refine st (X.fa fa144_0 rfl) rfl ?_
    refine st (X.fa fa103_2 rfl) rfl ?_
    refine ssB rfl rfl hB siz3 rfl (by first | decide | simp) (fun w3 hB_ hc_ => ?_)
    replace hB := hB_
    clear hB_
    replace hcw := hcw.next hc_ (fun i_ hi_ => by first | exact .inl hi_ | exact .inl (.inl hi_) | (right; subst hi_; omega) | (left; subst hi_; show _ ≤ _; omega) | (left; subst hi_; assumption))
    have hz_w3 := hc_.size
    clear hc_
    refine Wn ?_
    refine tN ?_
    refine W_rs ?_
    refine sa rfl rfl ?_
    refine Wn ?_
    refine tN ?_
    refine W_ret ?_
    refine (rT rfl rfl ⟨rfl, _, ⟨hB, hR.chg hcw (hR.ne2 h.blk (by decide))⟩, fun k hk => .inl hk, hcw.mono (fun k _ hk => .inl hk)⟩).1
  · rw [if_neg he]
    refine W_enter (args := [.pointer (some ⟨g, 0, none⟩), .int .i64 n, str rest]) 31 Tryz.func117 rfl rfl rfl ?_
    refine W_sub [(0, .pointer (some ⟨g, 0, none⟩)), (1, .int .i64 n), (2, str rest)] ?_ ⟨rfl, rfl, rfl, trivial⟩
    have hcw := Chg.refl (fun k => k = g) w
    refine W_rs ?_
    refine sa rfl rfl ?_
    refine Wn ?_
    refine tN ?_
    refine W_seq ?_
    refine W_rs ?_
    refine sm rfl rfl ?_
    refine sm rfl rfl ?_
    refine st (X.nilChk rfl) rfl ?_
    refine st (X.fa fa144_0 rfl) rfl ?_
    refine st (X.fa fa103_2 rfl) rfl ?_
    refine st (X.ldL rfl hB Tryz.underlying3 rfl rfl) rfl ?_
    refine st (X.neq rfl rfl) rfl ?_
    refine Wn ?_
    refine tN ?_
    refine W_yes rfl (decide_eq_true (by omega)) ?_
    refine W_rs ?_
    refine sa rfl rfl ?_
    refine Wn ?_
    refine tN ?_
    refine W_ret (tR ?_)
    exact (rT rfl rfl ⟨rfl, _, ⟨hB, hR⟩, fun k hk => .inl hk, hcw.mono (fun k _ hk => .inl hk)⟩).1
include hdn in
theorem sc_commit : Calls Tryz.prog 118 #[.pointer (some ⟨g, 0, none⟩), .int .i64 n, str rest] w (ScPost w g v x (doM 5 n rest x)) := by
  have hB := h.blk
  have hR := h.row
  have hlt := hB.lt
  obtain ⟨a, c, rfl, hc1, hc2⟩ := hR.shape
  unfold doM
  rw [if_neg (by decide), if_pos rfl]
  by_cases h0 : n = 0
  · rw [if_neg (fun e => e.1 h0)]
    refine W_enter (args := [.pointer (some ⟨g, 0, none⟩), .int .i64 n, str rest]) 39 Tryz.func118 rfl rfl rfl ?_
    refine W_sub [(0, .pointer (some ⟨g, 0, none⟩)), (1, .int .i64 n), (2, str rest)] ?_ ⟨rfl, rfl, rfl, trivial⟩
    have hcw := Chg.refl (fun k => k = g) w
    refine W_rs ?_
    refine sa rfl rfl ?_
    refine Wn ?_
    refine tN ?_
    refine W_seq ?_
    refine W_rs ?_
    refine sm rfl rfl ?_
    refine st (X.eql rfl rfl) rfl ?_
    refine sbY rfl (decide_eq_true (by omega)) rfl ?_
    refine gN (g := 9) rfl rfl rfl rfl ?_
    refine gN (g := 9) rfl rfl rfl rfl ?_
    refine gN (g := 9) rfl rfl rfl rfl ?_
    refine gN (g := 9) rfl rfl rfl rfl ?_
    refine gN (g := 9) rfl rfl rfl rfl ?_
    refine gN (g := 9) rfl rfl rfl rfl ?_
    refine st (X.pickT rfl rfl) rfl ?_
    refine sm rfl rfl ?_
    refine gN (g := 17) rfl rfl rfl rfl ?_
    refine gN (g := 17) rfl rfl rfl rfl ?_
    refine st (X.pickT rfl rfl) rfl ?_
    refine Wn ?_
    refine tN ?_
    refine W_yes rfl (rfl) ?_
    refine W_rs ?_
    refine sa rfl rfl ?_
    refine Wn ?_
    refine tN ?_
    refine W_ret (tR ?_)
    exact (rT rfl rfl ⟨rfl, _, ⟨hB, hR⟩, fun k hk => .inl hk, hcw.mono (fun k _ hk => .inl hk)⟩).1
  by_cases h1 : n = x.open_
  · by_cases h2 : rest = []
    · rw [if_pos ⟨h0, h1, h2⟩]
      subst h2
      refine W_enter (args := [.pointer (some ⟨g, 0, none⟩), .int .i64 n, str []]) 39 Tryz.func118 rfl rfl rfl ?_
      refine W_sub [(0, .pointer (some ⟨g, 0, none⟩)), (1, .int .i64 n), (2, str [])] ?_ ⟨rfl, rfl, rfl, trivial⟩
      have hcw := Chg.refl (fun k => k = g ∨ (Value.slice a x.done.length c).ownBlock = some k) w
      refine W_rs ?_
      refine sa rfl rfl ?_
      refine Wn ?_
      refine tN ?_
      refine W_seq ?_
      refine W_rs ?_
      refine sm rfl rfl ?_
      refine st (X.eql rfl rfl) rfl ?_
      refine sbN rfl (decide_eq_false (by omega)) rfl ?_
      refine gY (g := 9) rfl rfl rfl ?_
      refine sm rfl rfl ?_
      refine gY (g := 9) rfl rfl rfl ?_
      refine sm rfl rfl ?_
      refine gY (g := 9) rfl rfl rfl ?_
      refine st (X.nilChk rfl) rfl ?_
      refine gY (g := 9) rfl rfl rfl ?_
      refine st (X.fa fa144_2 rfl) rfl ?_
      refine gY (g := 9) rfl rfl rfl ?_
      refine st (X.ldL rfl hB Tryz.underlying3 rfl rfl) rfl ?_
      refine gY (g := 9) rfl rfl rfl ?_
      refine st (X.neq rfl rfl) rfl ?_
      refine st (X.pickF rfl rfl) rfl ?_
      refine sbN rfl (decide_eq_false (by omega)) rfl ?_
      refine gY (g := 17) rfl rfl rfl ?_
      refine sm rfl rfl ?_
      refine gY (g := 17) rfl rfl rfl ?_
      refine st (X.neS rfl rfl) rfl ?_
      refine st (X.pickF rfl rfl) rfl ?_
      refine Wn ?_
      refine tN ?_
      refine W_no rfl (rfl) ?_
      refine W_skip ?_
      refine tN ?_
      have hB0 := hB
      refine W_phase_s (fun W_ => Below w.heap.size w W_) 11 [true, true, true, true, true, true, true, true, true, true, false] (by kernel_rfl) (by kernel_rfl) (bdrew (Below.refl _ _)) ?_
      obtain ⟨w1, hw_⟩ : ∃ w1 : World, w1 = World.drew w := ⟨_, rfl⟩
      rw [← hw_]
      have hb : Below w.heap.size w w1 := by rw [hw_]; exact bdrew (Below.refl _ _)
      clear hw_
      have hS := hb
      replace hcw := hcw.then_below hb
      replace hB := hB.bel hb
      replace hR := hR.bel hb
      have hz_w1 := hb.size
      clear hb
      refine pY (fun W_ hW_ => (X.move rfl)) rfl ?_
      refine pY (fun W_ hW_ => (X.move rfl)) rfl ?_
      refine pY (fun W_ hW_ => (X.nilChk rfl)) rfl ?_
      refine pY (fun W_ hW_ => (X.fa fa144_0 rfl)) rfl ?_
      refine pY (fun W_ hW_ => (X.fa fa103_1 rfl)) rfl ?_
      refine pY (fun W_ hW_ => (X.ldL rfl (hB0.bel hW_) Tryz.underlying42 rfl rfl)) rfl ?_
      refine pY (fun W_ hW_ => (X.move rfl)) rfl ?_
      refine pY (fun W_ hW_ => (X.nilChk rfl)) rfl ?_
      refine pY (fun W_ hW_ => (X.fa fa144_3 rfl)) rfl ?_
      refine pY (fun W_ hW_ => (X.ldL rfl (hB0.bel hW_) Tryz.underlying9 rfl rfl)) rfl ?_
      refine pL (fun Q_ hQ_ hP_ => ?_)
      refine sbs1 rfl Tryz.underlying42 inf9 rfl rfl (by decide) (by decide) rfl (fun g31 w2 hR31 hg31 hb => ?_)
      replace hS := bthen hS hb
      replace hcw := hcw.then_below hb
      replace hB := hB.bel hb
      replace hR := hR.bel hb
      have hz_w2 := hb.size
      clear hb
      have hl31 := hR31.blt (by decide)
      refine Wn (hQ_ _ _ hS ?_)
      clear hQ_ hP_ Q_
      refine pN ?_
      refine sapp rfl rfl Tryz.underlying42 inf9 rfl (by decide) hR (hR31.src Tryz.underlying42 (by intro u hu; rw [show u = str x.last by simpa [Value.cells, str] using hu]; rfl)) (by simp only [maxLen]; omega) (by omega) rfl (fun v' w3 hR2 hC2 hv => ?_)
      obtain ⟨a', c', rfl, _, _⟩ := hR2.shape
      have hne := hR2.ne2 (hB.chg hC2 (fun hk => hR.ne2 hB (by decide) _ hk rfl)) (by decide)
      replace hB := hB.chg hC2 (fun hk => hR.ne2 hB (by decide) _ hk rfl)
      replace hcw := hcw.next hC2 (fun i hi => .inl (.inr hi))
      have hz_w3 := hC2.size
      replace hR := hR2
      clear hC2 hR2
      refine st (X.nilChk rfl) rfl ?_
      refine st (X.fa fa144_0 rfl) rfl ?_
      refine st (X.fa fa103_1 rfl) rfl ?_
      refine ssB rfl rfl hB siz42 rfl (by first | decide | simp) (fun w4 hB_ hc_ => ?_)
      replace hB := hB_
      clear hB_
      replace hR := hR.chg hc_ (by first | (show ¬ _ = _; omega) | (intro k_ hk_; simp [Value.ownBlock] at hk_; subst hk_; show ¬ _ = _; omega) | assumption | trivial)
      replace hcw := hcw.next hc_ (fun i_ hi_ => by first | exact .inl hi_ | exact .inl (.inl hi_) | (right; subst hi_; omega) | (left; subst hi_; show _ ≤ _; omega) | (left; subst hi_; assumption))
      have hz_w4 := hc_.size
      clear hc_
      refine Wn ?_
      refine nN ?_
      refine W_rs ?_
      refine sm rfl rfl ?_
      refine st (X.nilChk rfl) rfl ?_
      refine st (X.fa fa144_2 rfl) rfl ?_
      refine ssB rfl rfl hB siz3 rfl (by first | decide | simp) (fun w5 hB_ hc_ => ?_)
      replace hB := hB_
      clear hB_
      replace hR := hR.chg hc_ (by first | (show ¬ _ = _; omega) | (intro k_ hk_; simp [Value.ownBlock] at hk_; subst hk_; show ¬ _ = _; omega) | assumption | trivial)
      replace hcw := hcw.next hc_ (fun i_ hi_ => by first | exact .inl hi_ | exact .inl (.inl hi_) | (right; subst hi_; omega) | (left; subst hi_; show _ ≤ _; omega) | (left; subst hi_; assumption))
      have hz_w5 := hc_.size
      clear hc_
      refine Wn ?_
      refine tN ?_
      refine W_rs ?_
      refine sa rfl rfl ?_
      refine Wn ?_
      refine tN ?_
      refine W_ret ?_
      refine (rT rfl rfl ⟨rfl, _, ⟨hB, ?_⟩, fun k hk => ?_, hcw⟩).1
      · simpa [str, Value.cells] using hR
      · rcases hv with hv | hv
        · exact .inl (hv ▸ hk)
        · rw [hv] at hk
          injection hk with hk
          omega
    · rw [if_neg (fun e => h2 e.2.2)]
      refine W_enter (args := [.pointer (some ⟨g, 0, none⟩), .int .i64 n, str rest]) 39 Tryz.func118 rfl rfl rfl ?_
      refine W_sub [(0, .pointer (some ⟨g, 0, none⟩)), (1, .int .i64 n), (2, str rest)] ?_ ⟨rfl, rfl, rfl, trivial⟩
      have hcw := Chg.refl (fun k => k = g) w
      refine W_rs ?_
      refine sa rfl rfl ?_
      refine Wn ?_
      refine tN ?_
      refine W_seq ?_
      refine W_rs ?_
      refine sm rfl rfl ?_
      refine st (X.eql rfl rfl) rfl ?_
      refine sbN rfl (decide_eq_false (by omega)) rfl ?_
      refine gY (g := 9) rfl rfl rfl ?_
      refine sm rfl rfl ?_
      refine gY (g := 9) rfl rfl rfl ?_
      refine sm rfl rfl ?_
      refine gY (g := 9) rfl rfl rfl ?_
      refine st (X.nilChk rfl) rfl ?_
      refine gY (g := 9) rfl rfl rfl ?_
      refine st (X.fa fa144_2 rfl) rfl ?_
      refine gY (g := 9) rfl rfl rfl ?_
      refine st (X.ldL rfl hB Tryz.underlying3 rfl rfl) rfl ?_
      refine gY (g := 9) rfl rfl rfl ?_
      refine st (X.neq rfl rfl) rfl ?_
      refine st (X.pickF rfl rfl) rfl ?_
      refine sbN rfl (decide_eq_false (by omega)) rfl ?_
      refine gY (g := 17) rfl rfl rfl ?_
      refine sm rfl rfl ?_
      refine gY (g := 17) rfl rfl rfl ?_
      refine st (X.neS rfl rfl) rfl ?_
      refine st (X.pickF rfl rfl) rfl ?_
      refine Wn ?_
      refine tN ?_
      refine W_yes rfl (decide_eq_true (by intro e; exact h2 e)) ?_
      refine W_rs ?_
      refine sa rfl rfl ?_
      refine Wn ?_
      refine tN ?_
      refine W_ret (tR ?_)
      exact (rT rfl rfl ⟨rfl, _, ⟨hB, hR⟩, fun k hk => .inl hk, hcw.mono (fun k _ hk => .inl hk)⟩).1
  · rw [if_neg (fun e => h1 e.2.1)]
    refine W_enter (args := [.pointer (some ⟨g, 0, none⟩), .int .i64 n, str rest]) 39 Tryz.func118 rfl rfl rfl ?_
    refine W_sub [(0, .pointer (some ⟨g, 0, none⟩)), (1, .int .i64 n), (2, str rest)] ?_ ⟨rfl, rfl, rfl, trivial⟩
    have hcw := Chg.refl (fun k => k = g) w
    refine W_rs ?_
    refine sa rfl rfl ?_
    refine Wn ?_
    refine tN ?_
    refine W_seq ?_
    refine W_rs ?_
    refine sm rfl rfl ?_
    refine st (X.eql rfl rfl) rfl ?_
    refine sbN rfl (decide_eq_false (by omega)) rfl ?_
    refine gY (g := 9) rfl rfl rfl ?_
    refine sm rfl rfl ?_
    refine gY (g := 9) rfl rfl rfl ?_
    refine sm rfl rfl ?_
    refine gY (g := 9) rfl rfl rfl ?_
    refine st (X.nilChk rfl) rfl ?_
    refine gY (g := 9) rfl rfl rfl ?_
    refine st (X.fa fa144_2 rfl) rfl ?_
    refine gY (g := 9) rfl rfl rfl ?_
    refine st (X.ldL rfl hB Tryz.underlying3 rfl rfl) rfl ?_
    refine gY (g := 9) rfl rfl rfl ?_
    refine st (X.neq rfl rfl) rfl ?_
    refine st (X.pickF rfl rfl) rfl ?_
    refine sbY rfl (decide_eq_true (by omega)) rfl ?_
    refine gN (g := 17) rfl rfl rfl rfl ?_
    refine gN (g := 17) rfl rfl rfl rfl ?_
    refine st (X.pickT rfl rfl) rfl ?_
    refine Wn ?_
    refine tN ?_
    refine W_yes rfl (rfl) ?_
    refine W_rs ?_
    refine sa rfl rfl ?_
    refine Wn ?_
    refine tN ?_
    refine W_ret (tR ?_)
    exact (rT rfl rfl ⟨rfl, _, ⟨hB, hR⟩, fun k hk => .inl hk, hcw.mono (fun k _ hk => .inl hk)⟩).1
include hn in
theorem sc_checkpoint : Calls Tryz.prog 119 #[.pointer (some ⟨g, 0, none⟩), .int .i64 n, str rest] w (ScPost w g v x (doM 6 n rest x)) := by
  have hB := h.blk
  have hR := h.row
  have hlt := hB.lt
  obtain ⟨a, c, rfl, hc1, hc2⟩ := hR.shape
  unfold doM
  rw [if_neg (by decide), if_neg (by decide), if_pos rfl]
  by_cases hg0 : x.good = 0
  · rw [decide_eq_true hg0] at hB
    by_cases hn1 : 1 ≤ n
    · rw [if_pos ⟨hg0, hn1⟩]
      refine W_enter (args := [.pointer (some ⟨g, 0, none⟩), .int .i64 n, str rest]) 26 Tryz.func119 rfl rfl rfl ?_
      refine W_sub [(0, .pointer (some ⟨g, 0, none⟩)), (1, .int .i64 n), (2, str rest)] ?_ ⟨rfl, rfl, rfl, trivial⟩
      have hcw := Chg.refl (fun k => k = g) w
      refine W_rs ?_
      refine sa rfl rfl ?_
      refine Wn ?_
      refine tN ?_
      refine W_seq ?_
      refine W_rs ?_
      refine sm rfl rfl ?_
      refine st (X.nilChk rfl) rfl ?_
      refine st (X.fa fa144_1 rfl) rfl ?_
      refine st (X.ldL rfl hB Tryz.underlying4 rfl rfl) rfl ?_
      refine st (X.not rfl) rfl ?_
      refine sbN rfl (rfl) rfl ?_
      refine gY (g := 12) rfl rfl rfl ?_
      refine sm rfl rfl ?_
      refine gY (g := 12) rfl rfl rfl ?_
      refine st (X.lss rfl rfl) rfl ?_
      refine st (X.pickF rfl rfl) rfl ?_
      refine Wn ?_
      refine tN ?_
      refine W_no rfl (decide_eq_false (by omega)) ?_
      refine W_skip ?_
      refine tN ?_
      refine W_rs ?_
      refine sm rfl rfl ?_
      refine sm rfl rfl ?_
      refine sm rfl rfl ?_
      refine sm rfl rfl ?_
      refine st (X.nilChk rfl) rfl ?_
      refine st (X.fa fa144_0 rfl) rfl ?_
      refine st (X.fa fa103_0 rfl) rfl ?_
      refine ssB rfl rfl hB siz9 rfl (by first | decide | simp) (fun w1 hB_ hc_ => ?_)
      replace hB := hB_
      clear hB_
      replace hcw := hcw.next hc_ (fun i_ hi_ => by first | exact .inl hi_ | exact .inl (.inl hi_) | (right; subst hi_; omega) | (left; subst hi_; show _ ≤ _; omega) | (left; subst hi_; assumption))
      have hz_w1 := hc_.size
      clear hc_
      refine st (X.nilChk rfl) rfl ?_
      refine st (X.fa fa144_0 rfl) rfl ?_
      refine st (X.fa fa103_2 rfl) rfl ?_
      refine ssB rfl rfl hB siz3 rfl (by first | decide | simp) (fun w2 hB_ hc_ => ?_)
      replace hB := hB_
      clear hB_
      replace hcw := hcw.next hc_ (fun i_ hi_ => by first | exact .inl hi_ | exact .inl (.inl hi_) | (right; subst hi_; omega) | (left; subst hi_; show _ ≤ _; omega) | (left; subst hi_; assumption))
      have hz_w2 := hc_.size
      clear hc_
      refine Wn ?_
      refine tN ?_
      refine W_rs ?_
      refine sa rfl rfl ?_
      refine Wn ?_
      refine tN ?_
      refine W_ret ?_
      refine (rT rfl rfl ⟨rfl, _, ⟨by rw [Option.getD_some, decide_eq_true (show ({ x with state := rest, next := n } : ScM).good = 0 from hg0)]; exact hB, hR.chg hcw (hR.ne2 h.blk (by decide))⟩, fun k hk => .inl hk, hcw.mono (fun k _ hk => .inl hk)⟩).1
    · rw [if_neg (fun e => hn1 e.2)]
      refine W_enter (args := [.pointer (some ⟨g, 0, none⟩), .int .i64 n, str rest]) 26 Tryz.func119 rfl rfl rfl ?_
      refine W_sub [(0, .pointer (some ⟨g, 0, none⟩)), (1, .int .i64 n), (2, str rest)] ?_ ⟨rfl, rfl, rfl, trivial⟩
      have hcw := Chg.refl (fun k => k = g) w
      refine W_rs ?_
      refine sa rfl rfl ?_
      refine Wn ?_
      refine tN ?_
      refine W_seq ?_
      refine W_rs ?_
      refine sm rfl rfl ?_
      refine st (X.nilChk rfl) rfl ?_
      refine st (X.fa fa144_1 rfl) rfl ?_
      refine st (X.ldL rfl hB Tryz.underlying4 rfl rfl) rfl ?_
      refine st (X.not rfl) rfl ?_
      refine sbN rfl (rfl) rfl ?_
      refine gY (g := 12) rfl rfl rfl ?_
      refine sm rfl rfl ?_
      refine gY (g := 12) rfl rfl rfl ?_
      refine st (X.lss rfl rfl) rfl ?_
      refine st (X.pickF rfl rfl) rfl ?_
      refine Wn ?_
      refine tN ?_
      refine W_yes rfl (decide_eq_true (by omega)) ?_
      refine W_rs ?_
      refine sa rfl rfl ?_
      refine Wn ?_
      refine tN ?_
      refine W_ret (tR ?_)
      exact (rT rfl rfl ⟨rfl, _, h, fun k hk => .inl hk, hcw.mono (fun k _ hk => .inl hk)⟩).1
  · rw [if_neg (fun e => hg0 e.1)]
    rw [decide_eq_false hg0] at hB
    refine W_enter (args := [.pointer (some ⟨g, 0, none⟩), .int .i64 n, str rest]) 26 Tryz.func119 rfl rfl rfl ?_
    refine W_sub [(0, .pointer (some ⟨g, 0, none⟩)), (1, .int .i64 n), (2, str rest)] ?_ ⟨rfl, rfl, rfl, trivial⟩
    have hcw := Chg.refl (fun k => k = g) w
    refine W_rs ?_
    refine sa rfl rfl ?_
    refine Wn ?_
    refine tN ?_
    refine W_seq ?_
    refine W_rs ?_
    refine sm rfl rfl ?_
    refine st (X.nilChk rfl) rfl ?_
    refine st (X.fa fa144_1 rfl) rfl ?_
    refine st (X.ldL rfl hB Tryz.underlying4 rfl rfl) rfl ?_
    refine st (X.not rfl) rfl ?_
    refine sbY rfl (rfl) rfl ?_
    refine gN (g := 12) rfl rfl rfl rfl ?_
    refine gN (g := 12) rfl rfl rfl rfl ?_
    refine st (X.pickT rfl rfl) rfl ?_
    refine Wn ?_
    refine tN ?_
    refine W_yes rfl (rfl) ?_
    refine W_rs ?_
    refine sa rfl rfl ?_
    refine Wn ?_
    refine tN ?_
    refine W_ret (tR ?_)
    exact (rT rfl rfl ⟨rfl, _, h, fun k hk => .inl hk, hcw.mono (fun k _ hk => .inl hk)⟩).1
end
end Go.Proofs.YtnijmegalgoipaaGreatDoor
namespace Go.Proofs.YtnijmegalgoipaaGreatDoor
open Go.RowKit
def takesV : Array Value := #[.nilFunc, .nilFunc, .nilFunc, .nilFunc, .func (.func 117) #[] #[], .func (.func 118) #[] #[], .func (.func 119) #[] #[]]
theorem btakes (w : World) : (Instr.build 146 #[(4, .func (.func 117) #[] #[]), (5, .func (.func 118) #[] #[]), (6, .func (.func 119) #[] #[])]).run Tryz.prog w = .ok (.agg takesV) w := by kernel_rfl
theorem takes_any (w : World) : Calls Tryz.prog 99 #[] w fun e w' => e = .returned (.agg takesV) ∧ Below w.heap.size w w' := by
  refine W_enter (args := []) 2 Tryz.func99 rfl rfl rfl ?_
  have hbw := Below.refl w.heap.size w
  refine W_rs ?_
  refine salA inf146 rfl (fun g0 w1 hB0 hg0 hb hl0 => ?_)
  replace hbw := bthen hbw hb
  have hz_w1 := hb.size
  clear hb
  refine Wn ?_
  refine tN ?_
  refine W_rs ?_
  refine st (X.bld rfl (btakes _)) rfl ?_
  refine ssBN rfl rfl hB0 siz146 rfl rfl (fun w2 hB_ hc_ => ?_)
  replace hB0 := hB_
  clear hB_
  replace hbw := bset hbw hc_ (by omega)
  have hz_w2 := hc_.size
  clear hc_
  refine Wn ?_
  refine tN ?_
  refine W_ret ?_
  refine (rC rfl rfl hB0 Tryz.underlying146 rfl siz146 ⟨rfl, hbw⟩).1
theorem bSeen (w : World) : (Instr.build 103 #[(2, .int .i64 1)]).run Tryz.prog w = .ok (.agg #[str [], .slice none 0 0, .int .i64 1, .int .i64 0]) w := by kernel_rfl
theorem bScanner (w : World) : (Instr.build 144 #[(0, .agg #[str [], .slice none 0 0, .int .i64 1, .int .i64 0]), (1, .bool true)]).run Tryz.prog w = .ok (.agg #[str [], .slice none 0 0, .int .i64 1, .int .i64 0, .bool true, .int .i64 0, str []]) w := by kernel_rfl
/-- the first cells of a block -/
theorem Blk.firsts {w : World} {g : Nat} {t : TypeId} {cs : Array Value} (h : Blk w g t cs) {ds : List Value} (hd : ds <+: cs.toList) : w.rangeAt g 0 ds := fun j v hv => by
  refine h.range j v ?_
  obtain ⟨es, he⟩ := hd
  rw [← he, List.getElem?_append_left (List.getElem?_eq_some_iff.1 hv).1]
  exact hv
def kindF (k : Nat) : FuncId := if k = 4 then 117 else if k = 5 then 118 else 119
theorem callFunc_of {P : Program} {f : FuncId} {fn : Func} {c : Code} (hf : P.funcs[f]? = some fn) (hb : fn.body = some c) (hname : (fn.name == "runtime.NumGoroutine") = false) (args : Array Value) (w : World) : (callFunc f args).run P w = .ok (.enter f args) w := by
  have h2 : fn.name ≠ "runtime.NumGoroutine" := by simpa using hname
  simp [callFunc, hf, hb, h2, mark]
theorem kindF_enters {k : Nat} (h4 : 4 ≤ k) (h7 : k < 7) (args : Array Value) (w : World) : (callFunc (kindF k) args).run Tryz.prog w = .ok (.enter (kindF k) args) w := by
  obtain rfl | rfl | rfl : k = 4 ∨ k = 5 ∨ k = 6 := by omega
  · exact callFunc_of Tryz.func117 rfl (by kernel_rfl) args w
  · exact callFunc_of Tryz.func118 rfl (by kernel_rfl) args w
  · exact callFunc_of Tryz.func119 rfl (by kernel_rfl) args w
theorem kindF_cell {k : Nat} (h4 : 4 ≤ k) (h7 : k < 7) : takesV.toList[k]? = some (.func (.func (kindF k)) #[] #[]) := by
  obtain rfl | rfl | rfl : k = 4 ∨ k = 5 ∨ k = 6 := by omega
  all_goals rfl
theorem kindF_any {k : Nat} (h4 : 4 ≤ k) (h7 : k < 7) (g : Nat) (x : ScM) (v : Value) (n : Nat) (rest : List UInt8) (w : World) (h : ScAt w g x v) (hn : n ≤ 4294967296) (hx : x.next ≤ 1152921504606846976) (hd : x.done.length ≤ 1099511627776) :
    Calls Tryz.prog (kindF k) #[.pointer (some ⟨g, 0, none⟩), .int .i64 n, str rest] w (ScPost w g v x (doM k n rest x)) := by
  obtain rfl | rfl | rfl : k = 4 ∨ k = 5 ∨ k = 6 := by omega
  · exact sc_intent g x v n rest w h hn hx
  · exact sc_commit g x v n rest w h hd
  · exact sc_checkpoint g x v n rest w h hn
theorem scanN_none {n : Nat} {s : List UInt8} {x : ScM} (h : stepM s x = none) (hm : 0 < n) : scanN n s x = x := by
  obtain ⟨m, rfl⟩ : ∃ m, n = m + 1 := ⟨n - 1, by omega⟩
  unfold scanN
  rw [h]
theorem scanN_some {n : Nat} {s : List UInt8} {x y : ScM} (h : stepM s x = some y) (hm : 0 < n) : scanN n s x = scanN (n - 1) s y := by
  obtain ⟨m, rfl⟩ : ∃ m, n = m + 1 := ⟨n - 1, by omega⟩
  rw [Nat.add_sub_cancel]
  show (match stepM s x with | none => x | some y => scanN m s y) = _
  rw [h]
theorem doM_kind {k n : Nat} {r : List UInt8} {x : ScM} (h : k < 4 ∨ 7 ≤ k) : doM k n r x = none := by
  unfold doM
  rw [if_neg (by omega), if_neg (by omega), if_neg (by omega)]
theorem nextM_body (s : List UInt8) : (nextM s).2.1.length ≤ s.length := by
  unfold nextM
  split
  · simp
  split
  · simp
  split
  · simp
  split
  · simp
  split
  · simp
  · simp only
    unfold textR
    split
    · simp
    split
    · simp
    split
    · simp
    unfold takeM
    split
    · simp
    · simp only [List.length_take, List.length_drop]
      omega
theorem seen_one {a : List UInt8} {v : Value} {b c : Int} (h : v.oneCell' = true) : (#[str a, v, .int .i64 b, .int .i64 c].toList.all (fun x => x.oneCell')) = true := by
  show (true && (v.oneCell' && (true && (true && true)))) = true
  rw [h]
  rfl
def seenV (x : ScM) (v : Value) : Value := .agg #[str x.state, v, .int .i64 x.next, .int .i64 x.good]
theorem Scan_any (s : List UInt8) (w : World) (hs : s.length ≤ 1099511627776) : Calls Tryz.prog 65 #[str s] w fun e w' =>
    (∃ v, e = .returned (seenV (scanM s) v) ∧ Row w' 9 1 v (scanM s).done.length ((scanM s).done.map str) ∧ ∀ k, v.ownBlock = some k → w.heap.size ≤ k) ∧ Below w.heap.size w w' := by
  refine W_enter (args := [str s]) 74 Tryz.func65 rfl rfl rfl ?_
  refine W_sub [(0, str s)] ?_ ⟨rfl, trivial⟩
  have hbw := Below.refl w.heap.size w
  refine W_rs ?_
  refine salA inf103 rfl (fun g2 w1 hB2 hg2 hb hl2 => ?_)
  replace hbw := bthen hbw hb
  have hz_w1 := hb.size
  clear hb
  refine Wn ?_
  refine tN ?_
  refine W_scope0 ?_
  refine W_rs ?_
  refine st (X.bld rfl (bSeen _)) rfl ?_
  refine st (X.bld rfl (bScanner _)) rfl ?_
  refine sboxA rfl rfl (fun g14 w2 hB14 hg14 hb hl14 => ?_)
  replace hbw := bthen hbw hb
  replace hB2 := hB2.bel hb
  have hz_w2 := hb.size
  clear hb
  refine sa rfl rfl ?_
  refine Wn ?_
  refine tN ?_
  refine W_rs ?_
  refine sc _ Tryz.func99 rfl (by kernel_rfl) rfl rfl ((takes_any _).mono ?_)
  rintro e_ w3 ⟨rfl, hb⟩
  refine cR ?_
  replace hbw := bthen hbw hb
  replace hB2 := hB2.bel hb
  replace hB14 := hB14.bel hb
  have hz_w3 := hb.size
  clear hb
  refine salA inf146 rfl (fun g4 w4 hB4 hg4 hb hl4 => ?_)
  replace hbw := bthen hbw hb
  replace hB2 := hB2.bel hb
  replace hB14 := hB14.bel hb
  have hz_w4 := hb.size
  clear hb
  refine ssBN rfl rfl hB4 siz146 rfl rfl (fun w5 hB_ hc_ => ?_)
  replace hB4 := hB_
  clear hB_
  replace hB2 := hB2.chg hc_ (by first | (show ¬ _ = _; omega) | (intro k_ hk_; simp [Value.ownBlock] at hk_; subst hk_; show ¬ _ = _; omega) | assumption | trivial)
  replace hB14 := hB14.chg hc_ (by first | (show ¬ _ = _; omega) | (intro k_ hk_; simp [Value.ownBlock] at hk_; subst hk_; show ¬ _ = _; omega) | assumption | trivial)
  replace hbw := bset hbw hc_ (by omega)
  have hz_w5 := hc_.size
  clear hc_
  have hs0 : ScOk s scNew := ScOk.new s
  refine Wn ?_
  refine tN ?_
  refine W_label_s ?_
  refine W_seq ?_
  refine W_block ?_
  refine W_lp (fun nw6_ lw6_ w6 => ∃ x : ScM, ∃ v : Value, ∃ m : Nat, nw6_ = s.length - x.good ∧ lw6_ = ([(0, str s), (2, .pointer (some ⟨g2, 0, none⟩)), (3, .pointer (some ⟨g14, 0, none⟩)), (4, .pointer (some ⟨g4, 0, none⟩))] : Env) ∧ (Blk w6 g2 103 #[str [], .slice none 0 0, .int .i64 0, .int .i64 0]) ∧ (Blk w6 g14 144 #[str x.state, v, .int .i64 x.next, .int .i64 x.good, .bool (decide (x.good = 0)), .int .i64 x.open_, str x.last]) ∧ (Row w6 9 1 v x.done.length (x.done.map str)) ∧ (Blk w6 g4 146 takesV) ∧ (ScOk s x) ∧ (scanM s = scanN m s x) ∧ (s.length < m + x.good) ∧ (∀ k, v.ownBlock = some k → w.heap.size ≤ k) ∧ (Below w.heap.size w w6)) _ ⟨_, ⟨scNew, .slice none 0 0, s.length + 1, rfl, rfl, hB2, hB14, Row.nil _ _ _, hB4, hs0, rfl, by simp [scNew], by simp [Value.ownBlock], hbw⟩, ⟨rfl, rfl, rfl, rfl, trivial⟩⟩ ?_
  clear hB2 hB14 hB4 hbw
  rintro nw6_ lw6_ w6 ⟨x, v, m, rfl, rfl, hB2, hB14, hR, hB4, hok, heqm, hm, hvo, hbw⟩
  have hz_w6 := hbw.size
  have hlt_hB2_w6 := hB2.lt
  have hlt_hB14_w6 := hB14.lt
  have hlt_hB4_w6 := hB4.lt
  have hgd := hok.good
  have hnx_ := hok.next
  have hop_ := hok.open_
  have hdn_ := hok.done
  obtain ⟨⟨k, b, n, e⟩, hnm⟩ : ∃ r, nextM (s.drop x.good) = r := ⟨_, rfl⟩
  have hst : stepM s x = if e ≠ 0 ∨ b.length < 4 then none else (doM k.toNat (num b) (b.drop 4) x).map fun y => { y with good := y.good + n } := by unfold stepM; rw [hnm]
  have hm0 : 0 < m := by omega
  have hnum := num_lt b
  have hk8 := k.toNat_lt
  refine W_block ?_
  refine W_rs ?_
  refine sm rfl rfl ?_
  refine sm rfl rfl ?_
  refine st (X.nilChk rfl) rfl ?_
  refine st (X.fa fa144_0 rfl) rfl ?_
  refine st (X.fa fa103_3 rfl) rfl ?_
  refine st (X.ldL rfl hB14 Tryz.underlying3 rfl rfl) rfl ?_
  refine st (X.fromS rfl rfl Tryz.underlying9 rfl (by omega)) rfl ?_
  have hN := Next_any (s.drop x.good) w6 (by rw [List.length_drop]; omega)
  rw [hnm] at hN
  simp only [nextV] at hN
  refine sc _ Tryz.func100 rfl (by kernel_rfl) rfl rfl ((hN).mono ?_)
  rintro e_ w7 ⟨rfl, hb⟩
  refine cR ?_
  replace hbw := bthen hbw hb
  replace hB2 := hB2.bel hb
  replace hB14 := hB14.bel hb
  replace hB4 := hB4.bel hb
  replace hR := hR.bel hb
  have hz_w7 := hb.size
  clear hb
  refine sm rfl rfl ?_
  refine st (X.ext rfl rfl) rfl ?_
  refine st (X.ext rfl rfl) rfl ?_
  refine st (X.ext rfl rfl) rfl ?_
  refine st (X.ext rfl rfl) rfl ?_
  refine sa rfl rfl ?_
  refine sa rfl rfl ?_
  refine sa rfl rfl ?_
  refine sa rfl rfl ?_
  refine Wn ?_
  refine tN ?_
  refine W_seq ?_
  refine W_rs ?_
  refine sm rfl rfl ?_
  refine st (X.neq rfl rfl) rfl ?_
  refine sb rfl rfl (fun h31 => ?_) (fun h31 => ?_)
  · first | replace h31 := of_decide_eq_true h31 | replace h31 := of_decide_eq_false (notT h31) | replace h31 := notT h31 | skip
    have heq : scanM s = x := by rw [heqm]; exact scanN_none (by rw [hst, if_pos (.inl h31)]) hm0
    refine gN (g := 31) rfl rfl rfl rfl ?_
    refine gN (g := 31) rfl rfl rfl rfl ?_
    refine st (X.pickT rfl rfl) rfl ?_
    refine sm rfl rfl ?_
    refine gN (g := 35) rfl rfl rfl rfl ?_
    refine gN (g := 35) rfl rfl rfl rfl ?_
    refine st (X.pickT rfl rfl) rfl ?_
    refine Wn ?_
    refine tN ?_
    refine W_yes rfl (rfl) ?_
    refine W_exit (tE (bM rfl (tE (bH ?_))))
    refine tN ?_
    refine W_rs ?_
    refine sm rfl rfl ?_
    refine st (X.nilChk rfl) rfl ?_
    refine st (X.fa fa144_0 rfl) rfl ?_
    refine st (X.ldN (cs := [str x.state, v, .int .i64 x.next, .int .i64 x.good]) rfl Tryz.underlying103 rfl siz103 (hB14.firsts ⟨_, rfl⟩)) rfl ?_
    have hne2 := hR.ne2 hB2 (by decide)
    refine ssBN rfl rfl hB2 siz103 rfl (seen_one hR.one1) (fun w8 hB_ hc_ => ?_)
    replace hB2 := hB_
    clear hB_
    replace hB14 := hB14.chg hc_ (by first | (show ¬ _ = _; omega) | (intro k_ hk_; simp [Value.ownBlock] at hk_; subst hk_; show ¬ _ = _; omega) | assumption | trivial)
    replace hB4 := hB4.chg hc_ (by first | (show ¬ _ = _; omega) | (intro k_ hk_; simp [Value.ownBlock] at hk_; subst hk_; show ¬ _ = _; omega) | assumption | trivial)
    replace hR := hR.chg hc_ (by first | (show ¬ _ = _; omega) | (intro k_ hk_; simp [Value.ownBlock] at hk_; subst hk_; show ¬ _ = _; omega) | assumption | trivial)
    replace hbw := bset hbw hc_ (by omega)
    have hz_w8 := hc_.size
    clear hc_
    refine Wn ?_
    refine tN ?_
    refine W_ret (njR ?_)
    refine (rC rfl rfl hB2 Tryz.underlying103 rfl siz103 ⟨⟨v, ?_, ?_, hvo⟩, hbw⟩).1
    · rw [heq]; rfl
    · rw [heq]; exact hR
  · first | replace h31 := of_decide_eq_false h31 | replace h31 := of_decide_eq_true (notF h31) | replace h31 := notF h31 | skip
    have he0 : e = 0 := Decidable.of_not_not h31
    have hb5 : b.length ≤ s.length := by
      have hl : (nextM (s.drop x.good)).2.1.length ≤ (s.drop x.good).length := nextM_body _
      rw [hnm, List.length_drop] at hl
      simp only at hl
      omega
    refine gY (g := 31) rfl rfl rfl ?_
    refine sm rfl rfl ?_
    refine gY (g := 31) rfl rfl rfl ?_
    refine st (X.lss rfl rfl) rfl ?_
    refine st (X.pickF rfl rfl) rfl ?_
    refine sb rfl rfl (fun h35 => ?_) (fun h35 => ?_)
    · first | replace h35 := of_decide_eq_true h35 | replace h35 := of_decide_eq_false (notT h35) | replace h35 := notT h35 | skip
      have heq : scanM s = x := by rw [heqm]; exact scanN_none (by rw [hst]; split; rfl; rw [doM_kind (by omega)]; rfl) hm0
      refine gN (g := 35) rfl rfl rfl rfl ?_
      refine gN (g := 35) rfl rfl rfl rfl ?_
      refine st (X.pickT rfl rfl) rfl ?_
      refine Wn ?_
      refine tN ?_
      refine W_yes rfl (rfl) ?_
      refine W_exit (tE (bM rfl (tE (bH ?_))))
      refine tN ?_
      refine W_rs ?_
      refine sm rfl rfl ?_
      refine st (X.nilChk rfl) rfl ?_
      refine st (X.fa fa144_0 rfl) rfl ?_
      refine st (X.ldN (cs := [str x.state, v, .int .i64 x.next, .int .i64 x.good]) rfl Tryz.underlying103 rfl siz103 (hB14.firsts ⟨_, rfl⟩)) rfl ?_
      have hne2 := hR.ne2 hB2 (by decide)
      refine ssBN rfl rfl hB2 siz103 rfl (seen_one hR.one1) (fun w9 hB_ hc_ => ?_)
      replace hB2 := hB_
      clear hB_
      replace hB14 := hB14.chg hc_ (by first | (show ¬ _ = _; omega) | (intro k_ hk_; simp [Value.ownBlock] at hk_; subst hk_; show ¬ _ = _; omega) | assumption | trivial)
      replace hB4 := hB4.chg hc_ (by first | (show ¬ _ = _; omega) | (intro k_ hk_; simp [Value.ownBlock] at hk_; subst hk_; show ¬ _ = _; omega) | assumption | trivial)
      replace hR := hR.chg hc_ (by first | (show ¬ _ = _; omega) | (intro k_ hk_; simp [Value.ownBlock] at hk_; subst hk_; show ¬ _ = _; omega) | assumption | trivial)
      replace hbw := bset hbw hc_ (by omega)
      have hz_w9 := hc_.size
      clear hc_
      refine Wn ?_
      refine tN ?_
      refine W_ret (njR ?_)
      refine (rC rfl rfl hB2 Tryz.underlying103 rfl siz103 ⟨⟨v, ?_, ?_, hvo⟩, hbw⟩).1
      · rw [heq]; rfl
      · rw [heq]; exact hR
    · first | replace h35 := of_decide_eq_false h35 | replace h35 := of_decide_eq_true (notF h35) | replace h35 := notF h35 | skip
      refine gY (g := 35) rfl rfl rfl ?_
      refine sm rfl rfl ?_
      refine gY (g := 35) rfl rfl rfl ?_
      refine st (X.geq rfl rfl) rfl ?_
      refine st (X.pickF rfl rfl) rfl ?_
      refine Wn ?_
      refine tN ?_
      refine W_if rfl (fun h38 => ?_) (fun h38 => ?_)
      · first | replace h38 := of_decide_eq_true h38 | replace h38 := of_decide_eq_false (notT h38) | replace h38 := notT h38 | skip
        have heq : scanM s = x := by rw [heqm]; exact scanN_none (by rw [hst]; split; rfl; rw [doM_kind (by omega)]; rfl) hm0
        refine W_exit (tE (bM rfl (tE (bH ?_))))
        refine tN ?_
        refine W_rs ?_
        refine sm rfl rfl ?_
        refine st (X.nilChk rfl) rfl ?_
        refine st (X.fa fa144_0 rfl) rfl ?_
        refine st (X.ldN (cs := [str x.state, v, .int .i64 x.next, .int .i64 x.good]) rfl Tryz.underlying103 rfl siz103 (hB14.firsts ⟨_, rfl⟩)) rfl ?_
        have hne2 := hR.ne2 hB2 (by decide)
        refine ssBN rfl rfl hB2 siz103 rfl (seen_one hR.one1) (fun w10 hB_ hc_ => ?_)
        replace hB2 := hB_
        clear hB_
        replace hB14 := hB14.chg hc_ (by first | (show ¬ _ = _; omega) | (intro k_ hk_; simp [Value.ownBlock] at hk_; subst hk_; show ¬ _ = _; omega) | assumption | trivial)
        replace hB4 := hB4.chg hc_ (by first | (show ¬ _ = _; omega) | (intro k_ hk_; simp [Value.ownBlock] at hk_; subst hk_; show ¬ _ = _; omega) | assumption | trivial)
        replace hR := hR.chg hc_ (by first | (show ¬ _ = _; omega) | (intro k_ hk_; simp [Value.ownBlock] at hk_; subst hk_; show ¬ _ = _; omega) | assumption | trivial)
        replace hbw := bset hbw hc_ (by omega)
        have hz_w10 := hc_.size
        clear hc_
        refine Wn ?_
        refine tN ?_
        refine W_ret (njR ?_)
        refine (rC rfl rfl hB2 Tryz.underlying103 rfl siz103 ⟨⟨v, ?_, ?_, hvo⟩, hbw⟩).1
        · rw [heq]; rfl
        · rw [heq]; exact hR
      · first | replace h38 := of_decide_eq_false h38 | replace h38 := of_decide_eq_true (notF h38) | replace h38 := notF h38 | skip
        refine W_skip ?_
        refine tN ?_
        refine W_rs ?_
        refine sm rfl rfl ?_
        refine sc _ Tryz.func101 rfl (by kernel_rfl) rfl rfl ((number_any b _ (by omega)).mono ?_)
        rintro e_ w11 ⟨rfl, hb⟩
        refine cR ?_
        replace hbw := bthen hbw hb
        replace hB2 := hB2.bel hb
        replace hB14 := hB14.bel hb
        replace hB4 := hB4.bel hb
        replace hR := hR.bel hb
        have hz_w11 := hb.size
        clear hb
        refine sm rfl rfl ?_
        refine st (X.ext rfl rfl) rfl ?_
        refine st (X.ext rfl rfl) rfl ?_
        refine st (X.ext rfl rfl) rfl ?_
        refine sa rfl rfl ?_
        refine sa rfl rfl ?_
        refine sa rfl rfl ?_
        refine Wn ?_
        refine tN ?_
        refine W_seq ?_
        refine W_rs ?_
        refine sm rfl rfl ?_
        refine st (X.not rfl) rfl ?_
        refine sb rfl rfl (fun h47 => ?_) (fun h47 => ?_)
        · first | replace h47 := of_decide_eq_true h47 | replace h47 := of_decide_eq_false (notT h47) | replace h47 := notT h47 | skip
          have heq : scanM s = x := by rw [heqm]; exact scanN_none (by rw [hst, if_pos (.inr (by omega))]) hm0
          refine gN (g := 47) rfl rfl rfl rfl ?_
          refine gN (g := 47) rfl rfl rfl rfl ?_
          refine gN (g := 47) rfl rfl rfl rfl ?_
          refine gN (g := 47) rfl rfl rfl rfl ?_
          refine gN (g := 47) rfl rfl rfl rfl ?_
          refine gN (g := 47) rfl rfl rfl rfl ?_
          refine gN (g := 47) rfl rfl rfl rfl ?_
          refine gN (g := 47) rfl rfl rfl rfl ?_
          refine st (X.pickT rfl rfl) rfl ?_
          refine Wn ?_
          refine tN ?_
          refine W_yes rfl (rfl) ?_
          refine W_exit (tE (bM rfl (tE (bH ?_))))
          refine tN ?_
          refine W_rs ?_
          refine sm rfl rfl ?_
          refine st (X.nilChk rfl) rfl ?_
          refine st (X.fa fa144_0 rfl) rfl ?_
          refine st (X.ldN (cs := [str x.state, v, .int .i64 x.next, .int .i64 x.good]) rfl Tryz.underlying103 rfl siz103 (hB14.firsts ⟨_, rfl⟩)) rfl ?_
          have hne2 := hR.ne2 hB2 (by decide)
          refine ssBN rfl rfl hB2 siz103 rfl (seen_one hR.one1) (fun w12 hB_ hc_ => ?_)
          replace hB2 := hB_
          clear hB_
          replace hB14 := hB14.chg hc_ (by first | (show ¬ _ = _; omega) | (intro k_ hk_; simp [Value.ownBlock] at hk_; subst hk_; show ¬ _ = _; omega) | assumption | trivial)
          replace hB4 := hB4.chg hc_ (by first | (show ¬ _ = _; omega) | (intro k_ hk_; simp [Value.ownBlock] at hk_; subst hk_; show ¬ _ = _; omega) | assumption | trivial)
          replace hR := hR.chg hc_ (by first | (show ¬ _ = _; omega) | (intro k_ hk_; simp [Value.ownBlock] at hk_; subst hk_; show ¬ _ = _; omega) | assumption | trivial)
          replace hbw := bset hbw hc_ (by omega)
          have hz_w12 := hc_.size
          clear hc_
          refine Wn ?_
          refine tN ?_
          refine W_ret (njR ?_)
          refine (rC rfl rfl hB2 Tryz.underlying103 rfl siz103 ⟨⟨v, ?_, ?_, hvo⟩, hbw⟩).1
          · rw [heq]; rfl
          · rw [heq]; exact hR
        · first | replace h47 := of_decide_eq_false h47 | replace h47 := of_decide_eq_true (notF h47) | replace h47 := notF h47 | skip
          have hb4 : ¬ b.length < 4 := by omega
          rw [if_neg hb4, if_neg hb4]
          refine gY (g := 47) rfl rfl rfl ?_
          refine sm rfl rfl ?_
          refine gY (g := 47) rfl rfl rfl ?_
          refine st (X.idxArr (j := k.toNat) rfl rfl Tryz.underlying146 siz145 rfl (by omega)) rfl ?_
          refine gY (g := 47) rfl rfl rfl ?_
          refine st (X.ldL rfl hB4 Tryz.underlying145 rfl (by rw [Nat.mul_one, Nat.zero_add]; exact kindF_cell (by omega) (by omega))) rfl ?_
          refine gY (g := 47) rfl rfl rfl ?_
          refine sm rfl rfl ?_
          refine gY (g := 47) rfl rfl rfl ?_
          refine sm rfl rfl ?_
          refine gY (g := 47) rfl rfl rfl ?_
          refine sm rfl rfl ?_
          refine gY (g := 47) rfl rfl rfl ?_
          refine scvF [.pointer (some ⟨g14, 0, none⟩), .int .i64 (num b), str (b.drop 4)] rfl (kindF_enters (k := k.toNat) (by omega) (by omega)) rfl rfl ((kindF_any (by omega) (by omega) g14 x v (num b) (b.drop 4) _ ⟨hB14, hR⟩ (by omega) (by omega) (by omega)).mono ?_)
          rintro e_ w13 ⟨rfl, v', hSc, hv', hC⟩
          refine cR ?_
          replace hbw := bchg hbw hC (by rintro k (rfl | hk); omega; exact hvo k hk)
          replace hB2 := hB2.chg hC (by rintro (hk | hk); omega; exact hR.ne2 hB2 (by decide) _ hk rfl)
          replace hB4 := hB4.chg hC (by rintro (hk | hk); omega; exact hR.ne2 hB4 (by decide) _ hk rfl)
          have hvn : ∀ k, v'.ownBlock = some k → w.heap.size ≤ k := fun k hk => by
            rcases hv' k hk with h | h
            · exact hvo k h
            · omega
          have hz_w13 := hC.size
          clear hC hv' hB14 hR
          refine gY (g := 47) rfl rfl rfl ?_
          refine st (X.not rfl) rfl ?_
          refine st (X.pickF rfl rfl) rfl ?_
          refine Wn ?_
          refine tN ?_
          refine W_if rfl (fun h56 => ?_) (fun h56 => ?_)
          · first | replace h56 := of_decide_eq_true h56 | replace h56 := of_decide_eq_false (notT h56) | replace h56 := notT h56 | skip
            have hnone : doM k.toNat (num b) (b.drop 4) x = none := by simpa using h56
            have heq : scanM s = x := by rw [heqm]; exact scanN_none (by rw [hst, hnone]; split <;> rfl) hm0
            rw [hnone] at hSc
            simp only [Option.getD_none] at hSc
            have hB14 := hSc.blk
            have hR := hSc.row
            refine W_exit (tE (bM rfl (tE (bH ?_))))
            refine tN ?_
            refine W_rs ?_
            refine sm rfl rfl ?_
            refine st (X.nilChk rfl) rfl ?_
            refine st (X.fa fa144_0 rfl) rfl ?_
            refine st (X.ldN (cs := [str x.state, v', .int .i64 x.next, .int .i64 x.good]) rfl Tryz.underlying103 rfl siz103 (hB14.firsts ⟨_, rfl⟩)) rfl ?_
            have hne2 := hR.ne2 hB2 (by decide)
            refine ssBN rfl rfl hB2 siz103 rfl (seen_one hR.one1) (fun w14 hB_ hc_ => ?_)
            replace hB2 := hB_
            clear hB_
            replace hB14 := hB14.chg hc_ (by first | (show ¬ _ = _; omega) | (intro k_ hk_; simp [Value.ownBlock] at hk_; subst hk_; show ¬ _ = _; omega) | assumption | trivial)
            replace hB4 := hB4.chg hc_ (by first | (show ¬ _ = _; omega) | (intro k_ hk_; simp [Value.ownBlock] at hk_; subst hk_; show ¬ _ = _; omega) | assumption | trivial)
            replace hR := hR.chg hc_ (by first | (show ¬ _ = _; omega) | (intro k_ hk_; simp [Value.ownBlock] at hk_; subst hk_; show ¬ _ = _; omega) | assumption | trivial)
            replace hbw := bset hbw hc_ (by omega)
            have hz_w14 := hc_.size
            clear hc_
            refine Wn ?_
            refine tN ?_
            refine W_ret (njR ?_)
            refine (rC rfl rfl hB2 Tryz.underlying103 rfl siz103 ⟨⟨v', ?_, ?_, hvn⟩, hbw⟩).1
            · rw [heq]; rfl
            · rw [heq]; exact hR
          · first | replace h56 := of_decide_eq_false h56 | replace h56 := of_decide_eq_true (notF h56) | replace h56 := notF h56 | skip
            obtain ⟨y, hy⟩ : ∃ y, doM k.toNat (num b) (b.drop 4) x = some y := Option.isSome_iff_exists.1 h56
            rw [hy] at hSc
            simp only [Option.getD_some] at hSc
            have hB14 := hSc.blk
            have hR := hSc.row
            have hne := hR.ne2 hB14 (by decide)
            have hstep : stepM s x = some { y with good := y.good + n } := by rw [hst, if_neg (by omega), hy]; rfl
            obtain ⟨hokn, h5_⟩ := stepM_ok hstep hok
            have hyg : y.good = x.good := (doM_good hy).1
            have hgn := hokn.good
            simp only at hgn h5_
            have heqn : scanM s = scanN (m - 1) s { y with good := y.good + n } := by rw [heqm]; exact scanN_some hstep hm0
            have hmn : s.length < m - 1 + (y.good + n) := by omega
            refine W_skip ?_
            refine tN ?_
            refine W_rs ?_
            refine sm rfl rfl ?_
            refine st (X.nilChk rfl) rfl ?_
            refine st (X.fa fa144_1 rfl) rfl ?_
            refine ssB rfl rfl hB14 siz4 rfl (by first | decide | simp) (fun w15 hB_ hc_ => ?_)
            replace hB14 := hB_
            clear hB_
            replace hB2 := hB2.chg hc_ (by first | (show ¬ _ = _; omega) | (intro k_ hk_; simp [Value.ownBlock] at hk_; subst hk_; show ¬ _ = _; omega) | assumption | trivial)
            replace hB4 := hB4.chg hc_ (by first | (show ¬ _ = _; omega) | (intro k_ hk_; simp [Value.ownBlock] at hk_; subst hk_; show ¬ _ = _; omega) | assumption | trivial)
            replace hR := hR.chg hc_ (by first | (show ¬ _ = _; omega) | (intro k_ hk_; simp [Value.ownBlock] at hk_; subst hk_; show ¬ _ = _; omega) | assumption | trivial)
            replace hbw := bset hbw hc_ (by omega)
            have hz_w15 := hc_.size
            clear hc_
            refine Wn ?_
            refine tN ?_
            refine W_reg ?_
            refine sm rfl rfl ?_
            refine st (X.nilChk rfl) rfl ?_
            refine st (X.fa fa144_0 rfl) rfl ?_
            refine st (X.fa fa103_3 rfl) rfl ?_
            refine st (X.ldL rfl hB14 Tryz.underlying3 rfl rfl) rfl ?_
            refine sm rfl rfl ?_
            refine st (X.add64 rfl rfl (by omega)) rfl ?_
            refine st (X.nilChk rfl) rfl ?_
            refine st (X.fa fa144_0 rfl) rfl ?_
            refine st (X.fa fa103_3 rfl) rfl ?_
            refine ssB rfl rfl hB14 siz3 rfl (by first | decide | simp) (fun w16 hB_ hc_ => ?_)
            replace hB14 := hB_
            clear hB_
            replace hB2 := hB2.chg hc_ (by first | (show ¬ _ = _; omega) | (intro k_ hk_; simp [Value.ownBlock] at hk_; subst hk_; show ¬ _ = _; omega) | assumption | trivial)
            replace hB4 := hB4.chg hc_ (by first | (show ¬ _ = _; omega) | (intro k_ hk_; simp [Value.ownBlock] at hk_; subst hk_; show ¬ _ = _; omega) | assumption | trivial)
            replace hR := hR.chg hc_ (by first | (show ¬ _ = _; omega) | (intro k_ hk_; simp [Value.ownBlock] at hk_; subst hk_; show ¬ _ = _; omega) | assumption | trivial)
            replace hbw := bset hbw hc_ (by omega)
            have hz_w16 := hc_.size
            clear hc_
            refine Wn ?_
            refine bN ?_
            refine tN ⟨_, _, ?_, ⟨{ y with good := y.good + n }, v', m - 1, rfl, rfl, hB2, by show Blk _ _ _ #[_, _, _, .int .i64 ((y.good + n : Nat) : Int), .bool (decide (y.good + n = 0)), _, _]; rw [decide_eq_false (by omega), Int.natCast_add]; exact hB14, hR, hB4, hokn, heqn, hmn, hvn, hbw⟩, ⟨rfl, rfl, rfl, rfl, trivial⟩⟩
            show s.length - (y.good + n) < s.length - x.good; omega
end Go.Proofs.YtnijmegalgoipaaGreatDoor
namespace Go.Proofs.YtnijmegalgoipaaGreatDoor
open Go.RowKit
theorem doM_none {k n : Nat} {r : List UInt8} {x : ScM} (h4 : k = 4 → n ≠ x.next) (h5 : k = 5 → ¬ (n ≠ 0 ∧ n = x.open_ ∧ r.length = 0)) (h6 : k = 6 → ¬ (x.good = 0 ∧ 1 ≤ n)) : doM k n r x = none := by
  unfold doM
  by_cases a4 : k = 4
  · rw [if_pos a4, if_neg (h4 a4)]
  rw [if_neg a4]
  by_cases a5 : k = 5
  · rw [if_pos a5, if_neg (fun e => h5 a5 ⟨e.1, e.2.1, by rw [e.2.2]; rfl⟩)]
  rw [if_neg a5]
  by_cases a6 : k = 6
  · rw [if_pos a6, if_neg (h6 a6)]
  rw [if_neg a6]
theorem ref_seen_one {a : List UInt8} {v : Value} {b c : Int} (h : v.oneCell' = true) : (#[str a, v, .int .i64 b, .int .i64 c].toList.all (fun x => x.oneCell')) = true := seen_one h
theorem bSeenR (w : World) : (Instr.build 126 #[(2, .int .i64 1)]).run Tryz.prog w = .ok (.agg #[str [], .slice none 0 0, .int .i64 1, .int .i64 0]) w := by kernel_rfl
set_option maxRecDepth 10000 in
theorem Scan_ref (s : List UInt8) (w : World) (hs : s.length ≤ 1099511627776) : Calls Tryz.prog 82 #[str s] w fun e w' =>
    (∃ v, e = .returned (seenV (scanM s) v) ∧ Row w' 9 1 v (scanM s).done.length ((scanM s).done.map str) ∧ ∀ k, v.ownBlock = some k → w.heap.size ≤ k) ∧ Below w.heap.size w w' := by
  refine W_enter (args := [str s]) 91 Tryz.func82 rfl rfl rfl ?_
  refine W_sub [(0, str s)] ?_ ⟨rfl, trivial⟩
  have hbw := Below.refl w.heap.size w
  refine W_rs ?_
  refine salA inf126 rfl (fun g2 w1 hB2 hg2 hb hl2 => ?_)
  replace hbw := bthen hbw hb
  have hz_w1 := hb.size
  clear hb
  refine Wn ?_
  refine tN ?_
  refine W_rs ?_
  refine st (X.bld rfl (bSeenR _)) rfl ?_
  refine salA inf126 rfl (fun g3 w2 hB3 hg3 hb hl3 => ?_)
  replace hbw := bthen hbw hb
  replace hB2 := hB2.bel hb
  have hz_w2 := hb.size
  clear hb
  refine ssBN rfl rfl hB3 siz126 rfl rfl (fun w3 hB_ hc_ => ?_)
  replace hB3 := hB_
  clear hB_
  replace hB2 := hB2.chg hc_ (by first | (show ¬ _ = _; omega) | (intro k_ hk_; simp [Value.ownBlock] at hk_; subst hk_; show ¬ _ = _; omega) | assumption | trivial)
  replace hbw := bset hbw hc_ (by omega)
  have hz_w3 := hc_.size
  clear hc_
  refine Wn ?_
  refine tN ?_
  refine W_rs ?_
  refine sa rfl rfl ?_
  refine Wn ?_
  refine tN ?_
  refine W_rs ?_
  have hs0 : ScOk s scNew := ScOk.new s
  refine sa rfl rfl ?_
  refine Wn ?_
  refine tN ?_
  refine W_block ?_
  refine W_lp (fun nw4_ lw4_ w4 => ∃ x : ScM, ∃ v : Value, ∃ m : Nat, nw4_ = s.length - x.good ∧ lw4_ = ([(0, str s), (2, .pointer (some ⟨g2, 0, none⟩)), (3, .pointer (some ⟨g3, 0, none⟩)), (4, .int .i64 x.open_), (5, str x.last)] : Env) ∧ (∀ k, v.ownBlock = some k → w.heap.size ≤ k) ∧ (Blk w4 g2 126 #[str [], .slice none 0 0, .int .i64 0, .int .i64 0]) ∧ (Blk w4 g3 126 #[str x.state, v, .int .i64 x.next, .int .i64 x.good]) ∧ (Row w4 9 1 v x.done.length (x.done.map str)) ∧ (ScOk s x) ∧ (scanM s = scanN m s x) ∧ (s.length < m + x.good) ∧ (Below w.heap.size w w4)) _ ⟨_, ⟨scNew, .slice none 0 0, s.length + 1, rfl, rfl, by simp [Value.ownBlock], hB2, hB3, Row.nil _ _ _, hs0, rfl, by simp [scNew], hbw⟩, ⟨rfl, rfl, rfl, rfl, rfl, trivial⟩⟩ ?_
  clear hB2 hB3 hbw
  rintro nw4_ lw4_ w4 ⟨x, v, m, rfl, rfl, hvo, hB2, hB3, hR, hok, heqm, hm, hbw⟩
  have hz_w4 := hbw.size
  have hlt_hB2_w4 := hB2.lt
  have hlt_hB3_w4 := hB3.lt
  have hgd := hok.good
  have hnx_ := hok.next
  have hop_ := hok.open_
  have hdn_ := hok.done
  obtain ⟨⟨k, b, n, e⟩, hnm⟩ : ∃ r, nextM (s.drop x.good) = r := ⟨_, rfl⟩
  have hst : stepM s x = if e ≠ 0 ∨ b.length < 4 then none else (doM k.toNat (num b) (b.drop 4) x).map fun y => { y with good := y.good + n } := by unfold stepM; rw [hnm]
  have hm0 : 0 < m := by omega
  have hnum := num_lt b
  have hk8 := k.toNat_lt
  have hb5 : b.length ≤ s.length := by
    have hl : (nextM (s.drop x.good)).2.1.length ≤ (s.drop x.good).length := nextM_body _
    rw [hnm, List.length_drop] at hl
    simp only at hl
    omega
  refine W_block ?_
  refine W_rs ?_
  refine sm rfl rfl ?_
  refine st (X.fa fa126_3 rfl) rfl ?_
  refine st (X.ldL rfl hB3 Tryz.underlying3 rfl rfl) rfl ?_
  refine st (X.fromS rfl rfl Tryz.underlying9 rfl (by omega)) rfl ?_
  have hN := Next_ref (s.drop x.good) w4 (by rw [List.length_drop]; omega)
  rw [hnm] at hN
  simp only [nextV] at hN
  refine sc _ Tryz.func111 rfl (by kernel_rfl) rfl rfl ((hN).mono ?_)
  rintro e_ w5 ⟨rfl, hb⟩
  refine cR ?_
  replace hbw := bthen hbw hb
  replace hB2 := hB2.bel hb
  replace hB3 := hB3.bel hb
  replace hR := hR.bel hb
  have hz_w5 := hb.size
  clear hb
  refine sm rfl rfl ?_
  refine st (X.ext rfl rfl) rfl ?_
  refine st (X.ext rfl rfl) rfl ?_
  refine st (X.ext rfl rfl) rfl ?_
  refine st (X.ext rfl rfl) rfl ?_
  refine sa rfl rfl ?_
  refine sa rfl rfl ?_
  refine sa rfl rfl ?_
  refine sa rfl rfl ?_
  refine Wn ?_
  refine tN ?_
  refine W_seq ?_
  refine W_rs ?_
  refine sm rfl rfl ?_
  refine st (X.neq rfl rfl) rfl ?_
  refine sb rfl rfl (fun h24 => ?_) (fun h24 => ?_)
  · first | replace h24 := of_decide_eq_true h24 | replace h24 := of_decide_eq_false (notT h24) | replace h24 := notT h24 | skip
    have heq : scanM s = x := by rw [heqm]; exact scanN_none (by rw [hst, if_pos (.inl h24)]) hm0
    refine gN (g := 24) rfl rfl rfl rfl ?_
    refine gN (g := 24) rfl rfl rfl rfl ?_
    refine gN (g := 24) rfl rfl rfl rfl ?_
    refine st (X.pickT rfl rfl) rfl ?_
    refine Wn ?_
    refine tN ?_
    refine W_yes rfl (rfl) ?_
    refine W_rs ?_
    refine st (X.ldBN rfl hB3 Tryz.underlying126 rfl siz126) rfl ?_
    have hne2 := hR.ne2 hB2 (by decide)
    refine ssBN rfl rfl hB2 siz126 rfl (seen_one hR.one1) (fun w6 hB_ hc_ => ?_)
    replace hB2 := hB_
    clear hB_
    replace hB3 := hB3.chg hc_ (by first | (show ¬ _ = _; omega) | (intro k_ hk_; simp [Value.ownBlock] at hk_; subst hk_; show ¬ _ = _; omega) | assumption | trivial)
    replace hR := hR.chg hc_ (by first | (show ¬ _ = _; omega) | (intro k_ hk_; simp [Value.ownBlock] at hk_; subst hk_; show ¬ _ = _; omega) | assumption | trivial)
    replace hbw := bset hbw hc_ (by omega)
    have hz_w6 := hc_.size
    clear hc_
    refine Wn ?_
    refine tN ?_
    refine W_ret (tR (bR (tR (bR ?_))))
    refine (rC rfl rfl hB2 Tryz.underlying126 rfl siz126 ⟨⟨v, ?_, ?_, hvo⟩, hbw⟩).1
    · rw [heq]; rfl
    · rw [heq]; exact hR
  · first | replace h24 := of_decide_eq_false h24 | replace h24 := of_decide_eq_true (notF h24) | replace h24 := notF h24 | skip
    have he0 : e = 0 := Decidable.of_not_not h24
    refine gY (g := 24) rfl rfl rfl ?_
    refine sm rfl rfl ?_
    refine gY (g := 24) rfl rfl rfl ?_
    refine st (X.lenS rfl rfl Tryz.underlying9) rfl ?_
    refine gY (g := 24) rfl rfl rfl ?_
    refine st (X.lss rfl rfl) rfl ?_
    refine st (X.pickF rfl rfl) rfl ?_
    refine Wn ?_
    refine tN ?_
    refine W_if rfl (fun h28 => ?_) (fun h28 => ?_)
    · first | replace h28 := of_decide_eq_true h28 | replace h28 := of_decide_eq_false (notT h28) | replace h28 := notT h28 | skip
      have heq : scanM s = x := by rw [heqm]; exact scanN_none (by rw [hst, if_pos (.inr (by omega))]) hm0
      refine W_rs ?_
      refine st (X.ldBN rfl hB3 Tryz.underlying126 rfl siz126) rfl ?_
      have hne2 := hR.ne2 hB2 (by decide)
      refine ssBN rfl rfl hB2 siz126 rfl (seen_one hR.one1) (fun w7 hB_ hc_ => ?_)
      replace hB2 := hB_
      clear hB_
      replace hB3 := hB3.chg hc_ (by first | (show ¬ _ = _; omega) | (intro k_ hk_; simp [Value.ownBlock] at hk_; subst hk_; show ¬ _ = _; omega) | assumption | trivial)
      replace hR := hR.chg hc_ (by first | (show ¬ _ = _; omega) | (intro k_ hk_; simp [Value.ownBlock] at hk_; subst hk_; show ¬ _ = _; omega) | assumption | trivial)
      replace hbw := bset hbw hc_ (by omega)
      have hz_w7 := hc_.size
      clear hc_
      refine Wn ?_
      refine tN ?_
      refine W_ret (tR (bR (tR (bR ?_))))
      refine (rC rfl rfl hB2 Tryz.underlying126 rfl siz126 ⟨⟨v, ?_, ?_, hvo⟩, hbw⟩).1
      · rw [heq]; rfl
      · rw [heq]; exact hR
    · first | replace h28 := of_decide_eq_false h28 | replace h28 := of_decide_eq_true (notF h28) | replace h28 := notF h28 | skip
      have hb4 : ¬ b.length < 4 := by omega
      have hrl : (b.drop 4).length = b.length - 4 := by rw [List.length_drop]
      refine W_skip ?_
      refine tN ?_
      refine W_rs ?_
      refine sm rfl rfl ?_
      refine sc _ Tryz.func112 rfl (by kernel_rfl) rfl rfl ((Of_any b 0 _ (by omega) (by omega)).mono ?_)
      rintro e_ w8 ⟨rfl, hb⟩
      refine cR ?_
      replace hbw := bthen hbw hb
      replace hB2 := hB2.bel hb
      replace hB3 := hB3.bel hb
      replace hR := hR.bel hb
      have hz_w8 := hb.size
      clear hb
      rw [List.drop_zero]
      refine sa rfl rfl ?_
      refine Wn ?_
      refine tN ?_
      refine W_seq ?_
      refine W_rs ?_
      refine sm rfl rfl ?_
      refine st (X.eql rfl rfl) rfl ?_
      refine sb rfl rfl (fun h34 => ?_) (fun h34 => ?_)
      · first | replace h34 := of_decide_eq_true h34 | replace h34 := of_decide_eq_false (notT h34) | replace h34 := notT h34 | skip
        refine gY (g := 34) rfl rfl rfl ?_
        refine st (X.fa fa126_3 rfl) rfl ?_
        refine gY (g := 34) rfl rfl rfl ?_
        refine st (X.ldL rfl hB3 Tryz.underlying3 rfl rfl) rfl ?_
        refine gY (g := 34) rfl rfl rfl ?_
        refine st (X.eql rfl rfl) rfl ?_
        refine st (X.pickT rfl rfl) rfl ?_
        refine sb rfl rfl (fun h39 => ?_) (fun h39 => ?_)
        · first | replace h39 := of_decide_eq_true h39 | replace h39 := of_decide_eq_false (notT h39) | replace h39 := notT h39 | skip
          refine gY (g := 39) rfl rfl rfl ?_
          refine sm rfl rfl ?_
          refine gY (g := 39) rfl rfl rfl ?_
          refine st (X.gtr rfl rfl) rfl ?_
          refine st (X.pickT rfl rfl) rfl ?_
          refine Wn ?_
          refine tN ?_
          refine W_if rfl (fun h42 => ?_) (fun h42 => ?_)
          · first | replace h42 := of_decide_eq_true h42 | replace h42 := of_decide_eq_false (notT h42) | replace h42 := notT h42 | skip
            refine W_rs ?_
            have hvn := hvo
            obtain ⟨y, hyd⟩ : ∃ y : ScM, y = { x with state := b.drop 4, next := num b } := ⟨_, rfl⟩
            have hy : doM k.toNat (num b) (b.drop 4) x = some y := by rw [show k.toNat = 6 by omega, hyd]; unfold doM; rw [if_neg (by decide), if_neg (by decide), if_pos rfl, if_pos ⟨by omega, by omega⟩]
            have hstep : stepM s x = some { y with good := y.good + n } := by rw [hst, if_neg (by omega), hy]; rfl
            obtain ⟨hokn, h5_⟩ := stepM_ok hstep hok
            have hyg : y.good = x.good := (doM_good hy).1
            have hgn := hokn.good
            simp only at hgn h5_
            have heqn : scanM s = scanN (m - 1) s { y with good := y.good + n } := by rw [heqm]; exact scanN_some hstep hm0
            have hmn : s.length < m - 1 + (y.good + n) := by omega
            have hne3 := hR.ne2 hB3 (by decide)
            refine sm rfl rfl ?_
            refine st (X.fromS (i := 4) rfl rfl Tryz.underlying9 rfl (by omega)) rfl ?_
            refine st (X.fa fa126_0 rfl) rfl ?_
            refine ssB rfl rfl hB3 siz9 rfl (by first | decide | simp) (fun w9 hB_ hc_ => ?_)
            replace hB3 := hB_
            clear hB_
            replace hB2 := hB2.chg hc_ (by first | (show ¬ _ = _; omega) | (intro k_ hk_; simp [Value.ownBlock] at hk_; subst hk_; show ¬ _ = _; omega) | assumption | trivial)
            replace hR := hR.chg hc_ (by first | (show ¬ _ = _; omega) | (intro k_ hk_; simp [Value.ownBlock] at hk_; subst hk_; show ¬ _ = _; omega) | assumption | trivial)
            replace hbw := bset hbw hc_ (by omega)
            have hz_w9 := hc_.size
            clear hc_
            refine Wn ?_
            refine tN ?_
            refine W_reg ?_
            refine sm rfl rfl ?_
            refine st (X.fa fa126_2 rfl) rfl ?_
            refine ssB rfl rfl hB3 siz3 rfl (by first | decide | simp) (fun w10 hB_ hc_ => ?_)
            replace hB3 := hB_
            clear hB_
            replace hB2 := hB2.chg hc_ (by first | (show ¬ _ = _; omega) | (intro k_ hk_; simp [Value.ownBlock] at hk_; subst hk_; show ¬ _ = _; omega) | assumption | trivial)
            replace hR := hR.chg hc_ (by first | (show ¬ _ = _; omega) | (intro k_ hk_; simp [Value.ownBlock] at hk_; subst hk_; show ¬ _ = _; omega) | assumption | trivial)
            replace hbw := bset hbw hc_ (by omega)
            have hz_w10 := hc_.size
            clear hc_
            refine Wn ?_
            refine tN ?_
            refine W_reg ?_
            refine st (X.fa fa126_3 rfl) rfl ?_
            refine st (X.ldL rfl hB3 Tryz.underlying3 rfl rfl) rfl ?_
            refine sm rfl rfl ?_
            refine st (X.add64 rfl rfl (by omega)) rfl ?_
            refine st (X.fa fa126_3 rfl) rfl ?_
            refine ssB rfl rfl hB3 siz3 rfl (by first | decide | simp) (fun w11 hB_ hc_ => ?_)
            replace hB3 := hB_
            clear hB_
            replace hB2 := hB2.chg hc_ (by first | (show ¬ _ = _; omega) | (intro k_ hk_; simp [Value.ownBlock] at hk_; subst hk_; show ¬ _ = _; omega) | assumption | trivial)
            replace hR := hR.chg hc_ (by first | (show ¬ _ = _; omega) | (intro k_ hk_; simp [Value.ownBlock] at hk_; subst hk_; show ¬ _ = _; omega) | assumption | trivial)
            replace hbw := bset hbw hc_ (by omega)
            have hz_w11 := hc_.size
            clear hc_
            refine Wn ?_
            refine bN ?_
            refine tN ⟨_, _, ?_, ⟨{ y with good := y.good + n }, _, m - 1, rfl, rfl, hvn, hB2, by subst hyd; exact hB3, by subst hyd; first | exact hR | simpa [str, Value.cells] using hR, hokn, heqn, hmn, hbw⟩, ⟨rfl, rfl, rfl, by subst hyd; rfl, by subst hyd; rfl, trivial⟩⟩
            show s.length - (y.good + n) < s.length - x.good; omega
          · first | replace h42 := of_decide_eq_false h42 | replace h42 := of_decide_eq_true (notF h42) | replace h42 := notF h42 | skip
            refine W_rs ?_
            refine sm rfl rfl ?_
            refine st (X.eql rfl rfl) rfl ?_
            refine sbN rfl (decide_eq_false (by omega)) rfl ?_
            refine gN (g := 50) rfl rfl rfl rfl ?_
            refine gN (g := 50) rfl rfl rfl rfl ?_
            refine gN (g := 50) rfl rfl rfl rfl ?_
            refine gN (g := 50) rfl rfl rfl rfl ?_
            refine st (X.pickF rfl rfl) rfl ?_
            refine Wn ?_
            refine tN ?_
            refine W_no rfl (rfl) ?_
            refine W_rs ?_
            refine sm rfl rfl ?_
            refine st (X.eql rfl rfl) rfl ?_
            refine sbN rfl (decide_eq_false (by omega)) rfl ?_
            refine gN (g := 65) rfl rfl rfl rfl ?_
            refine gN (g := 65) rfl rfl rfl rfl ?_
            refine st (X.pickF rfl rfl) rfl ?_
            refine sm rfl rfl ?_
            refine gN (g := 69) rfl rfl rfl rfl ?_
            refine gN (g := 69) rfl rfl rfl rfl ?_
            refine gN (g := 69) rfl rfl rfl rfl ?_
            refine st (X.pickF rfl rfl) rfl ?_
            refine sm rfl rfl ?_
            refine gN (g := 74) rfl rfl rfl rfl ?_
            refine gN (g := 74) rfl rfl rfl rfl ?_
            refine gN (g := 74) rfl rfl rfl rfl ?_
            refine st (X.pickF rfl rfl) rfl ?_
            refine Wn ?_
            refine tN ?_
            refine W_no rfl (rfl) ?_
            refine W_rs ?_
            have heq : scanM s = x := by rw [heqm]; exact scanN_none (by rw [hst, if_neg (by omega), doM_none (by omega) (by omega) (by omega)]; rfl) hm0
            refine st (X.ldBN rfl hB3 Tryz.underlying126 rfl siz126) rfl ?_
            have hne2 := hR.ne2 hB2 (by decide)
            refine ssBN rfl rfl hB2 siz126 rfl (seen_one hR.one1) (fun w12 hB_ hc_ => ?_)
            replace hB2 := hB_
            clear hB_
            replace hB3 := hB3.chg hc_ (by first | (show ¬ _ = _; omega) | (intro k_ hk_; simp [Value.ownBlock] at hk_; subst hk_; show ¬ _ = _; omega) | assumption | trivial)
            replace hR := hR.chg hc_ (by first | (show ¬ _ = _; omega) | (intro k_ hk_; simp [Value.ownBlock] at hk_; subst hk_; show ¬ _ = _; omega) | assumption | trivial)
            replace hbw := bset hbw hc_ (by omega)
            have hz_w12 := hc_.size
            clear hc_
            refine Wn ?_
            refine tN ?_
            refine W_ret (tR (bR (tR (bR ?_))))
            refine (rC rfl rfl hB2 Tryz.underlying126 rfl siz126 ⟨⟨v, ?_, ?_, hvo⟩, hbw⟩).1
            · rw [heq]; rfl
            · rw [heq]; exact hR
        · first | replace h39 := of_decide_eq_false h39 | replace h39 := of_decide_eq_true (notF h39) | replace h39 := notF h39 | skip
          refine gN (g := 39) rfl rfl rfl rfl ?_
          refine gN (g := 39) rfl rfl rfl rfl ?_
          refine st (X.pickF rfl rfl) rfl ?_
          refine Wn ?_
          refine tN ?_
          refine W_no rfl (rfl) ?_
          refine W_rs ?_
          refine sm rfl rfl ?_
          refine st (X.eql rfl rfl) rfl ?_
          refine sbN rfl (decide_eq_false (by omega)) rfl ?_
          refine gN (g := 50) rfl rfl rfl rfl ?_
          refine gN (g := 50) rfl rfl rfl rfl ?_
          refine gN (g := 50) rfl rfl rfl rfl ?_
          refine gN (g := 50) rfl rfl rfl rfl ?_
          refine st (X.pickF rfl rfl) rfl ?_
          refine Wn ?_
          refine tN ?_
          refine W_no rfl (rfl) ?_
          refine W_rs ?_
          refine sm rfl rfl ?_
          refine st (X.eql rfl rfl) rfl ?_
          refine sbN rfl (decide_eq_false (by omega)) rfl ?_
          refine gN (g := 65) rfl rfl rfl rfl ?_
          refine gN (g := 65) rfl rfl rfl rfl ?_
          refine st (X.pickF rfl rfl) rfl ?_
          refine sm rfl rfl ?_
          refine gN (g := 69) rfl rfl rfl rfl ?_
          refine gN (g := 69) rfl rfl rfl rfl ?_
          refine gN (g := 69) rfl rfl rfl rfl ?_
          refine st (X.pickF rfl rfl) rfl ?_
          refine sm rfl rfl ?_
          refine gN (g := 74) rfl rfl rfl rfl ?_
          refine gN (g := 74) rfl rfl rfl rfl ?_
          refine gN (g := 74) rfl rfl rfl rfl ?_
          refine st (X.pickF rfl rfl) rfl ?_
          refine Wn ?_
          refine tN ?_
          refine W_no rfl (rfl) ?_
          refine W_rs ?_
          have heq : scanM s = x := by rw [heqm]; exact scanN_none (by rw [hst, if_neg (by omega), doM_none (by omega) (by omega) (by omega)]; rfl) hm0
          refine st (X.ldBN rfl hB3 Tryz.underlying126 rfl siz126) rfl ?_
          have hne2 := hR.ne2 hB2 (by decide)
          refine ssBN rfl rfl hB2 siz126 rfl (seen_one hR.one1) (fun w13 hB_ hc_ => ?_)
          replace hB2 := hB_
          clear hB_
          replace hB3 := hB3.chg hc_ (by first | (show ¬ _ = _; omega) | (intro k_ hk_; simp [Value.ownBlock] at hk_; subst hk_; show ¬ _ = _; omega) | assumption | trivial)
          replace hR := hR.chg hc_ (by first | (show ¬ _ = _; omega) | (intro k_ hk_; simp [Value.ownBlock] at hk_; subst hk_; show ¬ _ = _; omega) | assumption | trivial)
          replace hbw := bset hbw hc_ (by omega)
          have hz_w13 := hc_.size
          clear hc_
          refine Wn ?_
          refine tN ?_
          refine W_ret (tR (bR (tR (bR ?_))))
          refine (rC rfl rfl hB2 Tryz.underlying126 rfl siz126 ⟨⟨v, ?_, ?_, hvo⟩, hbw⟩).1
          · rw [heq]; rfl
          · rw [heq]; exact hR
      · first | replace h34 := of_decide_eq_false h34 | replace h34 := of_decide_eq_true (notF h34) | replace h34 := notF h34 | skip
        refine gN (g := 34) rfl rfl rfl rfl ?_
        refine gN (g := 34) rfl rfl rfl rfl ?_
        refine gN (g := 34) rfl rfl rfl rfl ?_
        refine st (X.pickF rfl rfl) rfl ?_
        refine sm rfl rfl ?_
        refine gN (g := 39) rfl rfl rfl rfl ?_
        refine gN (g := 39) rfl rfl rfl rfl ?_
        refine st (X.pickF rfl rfl) rfl ?_
        refine Wn ?_
        refine tN ?_
        refine W_no rfl (rfl) ?_
        refine W_rs ?_
        refine sm rfl rfl ?_
        refine st (X.eql rfl rfl) rfl ?_
        refine sb rfl rfl (fun h50 => ?_) (fun h50 => ?_)
        · first | replace h50 := of_decide_eq_true h50 | replace h50 := of_decide_eq_false (notT h50) | replace h50 := notT h50 | skip
          refine gY (g := 50) rfl rfl rfl ?_
          refine sm rfl rfl ?_
          refine gY (g := 50) rfl rfl rfl ?_
          refine st (X.fa fa126_2 rfl) rfl ?_
          refine gY (g := 50) rfl rfl rfl ?_
          refine st (X.ldL rfl hB3 Tryz.underlying3 rfl rfl) rfl ?_
          refine gY (g := 50) rfl rfl rfl ?_
          refine st (X.eql rfl rfl) rfl ?_
          refine st (X.pickT rfl rfl) rfl ?_
          refine Wn ?_
          refine tN ?_
          refine W_if rfl (fun h55 => ?_) (fun h55 => ?_)
          · first | replace h55 := of_decide_eq_true h55 | replace h55 := of_decide_eq_false (notT h55) | replace h55 := notT h55 | skip
            refine W_rs ?_
            have hvn := hvo
            obtain ⟨y, hyd⟩ : ∃ y : ScM, y = { x with open_ := num b, last := b.drop 4, next := x.next + 1 } := ⟨_, rfl⟩
            have hy : doM k.toNat (num b) (b.drop 4) x = some y := by rw [show k.toNat = 4 by omega, hyd]; unfold doM; rw [if_pos rfl, if_pos (by omega)]
            have hstep : stepM s x = some { y with good := y.good + n } := by rw [hst, if_neg (by omega), hy]; rfl
            obtain ⟨hokn, h5_⟩ := stepM_ok hstep hok
            have hyg : y.good = x.good := (doM_good hy).1
            have hgn := hokn.good
            simp only at hgn h5_
            have heqn : scanM s = scanN (m - 1) s { y with good := y.good + n } := by rw [heqm]; exact scanN_some hstep hm0
            have hmn : s.length < m - 1 + (y.good + n) := by omega
            have hne3 := hR.ne2 hB3 (by decide)
            refine sm rfl rfl ?_
            refine sa rfl rfl ?_
            refine Wn ?_
            refine tN ?_
            refine W_rs ?_
            refine sm rfl rfl ?_
            refine st (X.fromS (i := 4) rfl rfl Tryz.underlying9 rfl (by omega)) rfl ?_
            refine sa rfl rfl ?_
            refine Wn ?_
            refine tN ?_
            refine W_reg ?_
            refine st (X.fa fa126_2 rfl) rfl ?_
            refine st (X.ldL rfl hB3 Tryz.underlying3 rfl rfl) rfl ?_
            refine st (X.add64 rfl rfl (by omega)) rfl ?_
            refine st (X.fa fa126_2 rfl) rfl ?_
            refine ssB rfl rfl hB3 siz3 rfl (by first | decide | simp) (fun w14 hB_ hc_ => ?_)
            replace hB3 := hB_
            clear hB_
            replace hB2 := hB2.chg hc_ (by first | (show ¬ _ = _; omega) | (intro k_ hk_; simp [Value.ownBlock] at hk_; subst hk_; show ¬ _ = _; omega) | assumption | trivial)
            replace hR := hR.chg hc_ (by first | (show ¬ _ = _; omega) | (intro k_ hk_; simp [Value.ownBlock] at hk_; subst hk_; show ¬ _ = _; omega) | assumption | trivial)
            replace hbw := bset hbw hc_ (by omega)
            have hz_w14 := hc_.size
            clear hc_
            refine Wn ?_
            refine tN ?_
            refine W_reg ?_
            refine st (X.fa fa126_3 rfl) rfl ?_
            refine st (X.ldL rfl hB3 Tryz.underlying3 rfl rfl) rfl ?_
            refine sm rfl rfl ?_
            refine st (X.add64 rfl rfl (by omega)) rfl ?_
            refine st (X.fa fa126_3 rfl) rfl ?_
            refine ssB rfl rfl hB3 siz3 rfl (by first | decide | simp) (fun w15 hB_ hc_ => ?_)
            replace hB3 := hB_
            clear hB_
            replace hB2 := hB2.chg hc_ (by first | (show ¬ _ = _; omega) | (intro k_ hk_; simp [Value.ownBlock] at hk_; subst hk_; show ¬ _ = _; omega) | assumption | trivial)
            replace hR := hR.chg hc_ (by first | (show ¬ _ = _; omega) | (intro k_ hk_; simp [Value.ownBlock] at hk_; subst hk_; show ¬ _ = _; omega) | assumption | trivial)
            replace hbw := bset hbw hc_ (by omega)
            have hz_w15 := hc_.size
            clear hc_
            refine Wn ?_
            refine bN ?_
            refine tN ⟨_, _, ?_, ⟨{ y with good := y.good + n }, _, m - 1, rfl, rfl, hvn, hB2, by subst hyd; exact hB3, by subst hyd; first | exact hR | simpa [str, Value.cells] using hR, hokn, heqn, hmn, hbw⟩, ⟨rfl, rfl, rfl, by subst hyd; rfl, by subst hyd; rfl, trivial⟩⟩
            show s.length - (y.good + n) < s.length - x.good; omega
          · first | replace h55 := of_decide_eq_false h55 | replace h55 := of_decide_eq_true (notF h55) | replace h55 := notF h55 | skip
            refine W_rs ?_
            refine sm rfl rfl ?_
            refine st (X.eql rfl rfl) rfl ?_
            refine sbN rfl (decide_eq_false (by omega)) rfl ?_
            refine gN (g := 65) rfl rfl rfl rfl ?_
            refine gN (g := 65) rfl rfl rfl rfl ?_
            refine st (X.pickF rfl rfl) rfl ?_
            refine sm rfl rfl ?_
            refine gN (g := 69) rfl rfl rfl rfl ?_
            refine gN (g := 69) rfl rfl rfl rfl ?_
            refine gN (g := 69) rfl rfl rfl rfl ?_
            refine st (X.pickF rfl rfl) rfl ?_
            refine sm rfl rfl ?_
            refine gN (g := 74) rfl rfl rfl rfl ?_
            refine gN (g := 74) rfl rfl rfl rfl ?_
            refine gN (g := 74) rfl rfl rfl rfl ?_
            refine st (X.pickF rfl rfl) rfl ?_
            refine Wn ?_
            refine tN ?_
            refine W_no rfl (rfl) ?_
            refine W_rs ?_
            have heq : scanM s = x := by rw [heqm]; exact scanN_none (by rw [hst, if_neg (by omega), doM_none (by omega) (by omega) (by omega)]; rfl) hm0
            refine st (X.ldBN rfl hB3 Tryz.underlying126 rfl siz126) rfl ?_
            have hne2 := hR.ne2 hB2 (by decide)
            refine ssBN rfl rfl hB2 siz126 rfl (seen_one hR.one1) (fun w16 hB_ hc_ => ?_)
            replace hB2 := hB_
            clear hB_
            replace hB3 := hB3.chg hc_ (by first | (show ¬ _ = _; omega) | (intro k_ hk_; simp [Value.ownBlock] at hk_; subst hk_; show ¬ _ = _; omega) | assumption | trivial)
            replace hR := hR.chg hc_ (by first | (show ¬ _ = _; omega) | (intro k_ hk_; simp [Value.ownBlock] at hk_; subst hk_; show ¬ _ = _; omega) | assumption | trivial)
            replace hbw := bset hbw hc_ (by omega)
            have hz_w16 := hc_.size
            clear hc_
            refine Wn ?_
            refine tN ?_
            refine W_ret (tR (bR (tR (bR ?_))))
            refine (rC rfl rfl hB2 Tryz.underlying126 rfl siz126 ⟨⟨v, ?_, ?_, hvo⟩, hbw⟩).1
            · rw [heq]; rfl
            · rw [heq]; exact hR
        · first | replace h50 := of_decide_eq_false h50 | replace h50 := of_decide_eq_true (notF h50) | replace h50 := notF h50 | skip
          refine gN (g := 50) rfl rfl rfl rfl ?_
          refine gN (g := 50) rfl rfl rfl rfl ?_
          refine gN (g := 50) rfl rfl rfl rfl ?_
          refine gN (g := 50) rfl rfl rfl rfl ?_
          refine st (X.pickF rfl rfl) rfl ?_
          refine Wn ?_
          refine tN ?_
          refine W_no rfl (rfl) ?_
          refine W_rs ?_
          refine sm rfl rfl ?_
          refine st (X.eql rfl rfl) rfl ?_
          refine sb rfl rfl (fun h65 => ?_) (fun h65 => ?_)
          · first | replace h65 := of_decide_eq_true h65 | replace h65 := of_decide_eq_false (notT h65) | replace h65 := notT h65 | skip
            refine gY (g := 65) rfl rfl rfl ?_
            refine sm rfl rfl ?_
            refine gY (g := 65) rfl rfl rfl ?_
            refine st (X.gtr rfl rfl) rfl ?_
            refine st (X.pickT rfl rfl) rfl ?_
            refine sb rfl rfl (fun h69 => ?_) (fun h69 => ?_)
            · first | replace h69 := of_decide_eq_true h69 | replace h69 := of_decide_eq_false (notT h69) | replace h69 := notT h69 | skip
              refine gY (g := 69) rfl rfl rfl ?_
              refine sm rfl rfl ?_
              refine gY (g := 69) rfl rfl rfl ?_
              refine sm rfl rfl ?_
              refine gY (g := 69) rfl rfl rfl ?_
              refine st (X.eql rfl rfl) rfl ?_
              refine st (X.pickT rfl rfl) rfl ?_
              refine sb rfl rfl (fun h74 => ?_) (fun h74 => ?_)
              · first | replace h74 := of_decide_eq_true h74 | replace h74 := of_decide_eq_false (notT h74) | replace h74 := notT h74 | skip
                refine gY (g := 74) rfl rfl rfl ?_
                refine sm rfl rfl ?_
                refine gY (g := 74) rfl rfl rfl ?_
                refine st (X.lenS rfl rfl Tryz.underlying9) rfl ?_
                refine gY (g := 74) rfl rfl rfl ?_
                refine st (X.eql rfl rfl) rfl ?_
                refine st (X.pickT rfl rfl) rfl ?_
                refine Wn ?_
                refine tN ?_
                refine W_if rfl (fun h78 => ?_) (fun h78 => ?_)
                · first | replace h78 := of_decide_eq_true h78 | replace h78 := of_decide_eq_false (notT h78) | replace h78 := notT h78 | skip
                  refine W_rs ?_
                  have hr0 : b.drop 4 = [] := List.eq_nil_of_length_eq_zero (by omega)
                  obtain ⟨y, hyd⟩ : ∃ y : ScM, y = { x with done := x.done ++ [x.last], open_ := 0 } := ⟨_, rfl⟩
                  have hy : doM k.toNat (num b) (b.drop 4) x = some y := by rw [show k.toNat = 5 by omega, hyd]; unfold doM; rw [if_neg (by decide), if_pos rfl, if_pos ⟨by omega, by omega, hr0⟩]
                  have hstep : stepM s x = some { y with good := y.good + n } := by rw [hst, if_neg (by omega), hy]; rfl
                  obtain ⟨hokn, h5_⟩ := stepM_ok hstep hok
                  have hyg : y.good = x.good := (doM_good hy).1
                  have hgn := hokn.good
                  simp only at hgn h5_
                  have heqn : scanM s = scanN (m - 1) s { y with good := y.good + n } := by rw [heqm]; exact scanN_some hstep hm0
                  have hmn : s.length < m - 1 + (y.good + n) := by omega
                  have hne3 := hR.ne2 hB3 (by decide)
                  refine st (X.fa fa126_1 rfl) rfl ?_
                  refine st (X.ldL rfl hB3 Tryz.underlying42 rfl rfl) rfl ?_
                  refine sm rfl rfl ?_
                  refine sbs1 rfl Tryz.underlying42 inf9 rfl rfl (by decide) (by decide) rfl (fun g82 w17 hR82 hg82 hb => ?_)
                  replace hbw := bthen hbw hb
                  replace hB2 := hB2.bel hb
                  replace hB3 := hB3.bel hb
                  replace hR := hR.bel hb
                  have hz_w17 := hb.size
                  clear hb
                  have hl82 := hR82.blt (by decide)
                  refine sapp rfl rfl Tryz.underlying42 inf9 rfl (by decide) hR (hR82.src Tryz.underlying42 (by intro u hu; rw [show u = str x.last by simpa [Value.cells, str] using hu]; rfl)) (by simp only [maxLen]; omega) (by omega) rfl (fun v' w18 hR2 hC2 hv => ?_)
                  obtain ⟨a', c', rfl, _, _⟩ := hR2.shape
                  have hvn : ∀ k, (Value.slice a' (x.done.length + 1) c').ownBlock = some k → w.heap.size ≤ k := fun k hk => by
                    rcases hv with hv | hv
                    · exact hvo k (hv ▸ hk)
                    · rw [hv] at hk
                      injection hk with hk
                      omega
                  have hne := hR2.ne2 (hB3.chg hC2 (fun hk => hR.ne2 hB3 (by decide) _ hk rfl)) (by decide)
                  replace hB3 := hB3.chg hC2 (fun hk => hR.ne2 hB3 (by decide) _ hk rfl)
                  replace hB2 := hB2.chg hC2 (fun hk => hR.ne2 hB2 (by decide) _ hk rfl)
                  replace hbw := bchg hbw hC2 hvo
                  have hz_w18 := hC2.size
                  replace hR := hR2
                  clear hC2 hR2
                  refine st (X.fa fa126_1 rfl) rfl ?_
                  refine ssB rfl rfl hB3 siz42 rfl (by first | decide | simp) (fun w19 hB_ hc_ => ?_)
                  replace hB3 := hB_
                  clear hB_
                  replace hB2 := hB2.chg hc_ (by first | (show ¬ _ = _; omega) | (intro k_ hk_; simp [Value.ownBlock] at hk_; subst hk_; show ¬ _ = _; omega) | assumption | trivial)
                  replace hR := hR.chg hc_ (by first | (show ¬ _ = _; omega) | (intro k_ hk_; simp [Value.ownBlock] at hk_; subst hk_; show ¬ _ = _; omega) | assumption | trivial)
                  replace hbw := bset hbw hc_ (by omega)
                  have hz_w19 := hc_.size
                  clear hc_
                  refine Wn ?_
                  refine tN ?_
                  refine W_reg ?_
                  refine sa rfl rfl ?_
                  refine Wn ?_
                  refine tN ?_
                  refine W_reg ?_
                  refine st (X.fa fa126_3 rfl) rfl ?_
                  refine st (X.ldL rfl hB3 Tryz.underlying3 rfl rfl) rfl ?_
                  refine sm rfl rfl ?_
                  refine st (X.add64 rfl rfl (by omega)) rfl ?_
                  refine st (X.fa fa126_3 rfl) rfl ?_
                  refine ssB rfl rfl hB3 siz3 rfl (by first | decide | simp) (fun w20 hB_ hc_ => ?_)
                  replace hB3 := hB_
                  clear hB_
                  replace hB2 := hB2.chg hc_ (by first | (show ¬ _ = _; omega) | (intro k_ hk_; simp [Value.ownBlock] at hk_; subst hk_; show ¬ _ = _; omega) | assumption | trivial)
                  replace hR := hR.chg hc_ (by first | (show ¬ _ = _; omega) | (intro k_ hk_; simp [Value.ownBlock] at hk_; subst hk_; show ¬ _ = _; omega) | assumption | trivial)
                  replace hbw := bset hbw hc_ (by omega)
                  have hz_w20 := hc_.size
                  clear hc_
                  refine Wn ?_
                  refine bN ?_
                  refine tN ⟨_, _, ?_, ⟨{ y with good := y.good + n }, _, m - 1, rfl, rfl, hvn, hB2, by subst hyd; exact hB3, by subst hyd; first | exact hR | simpa [str, Value.cells] using hR, hokn, heqn, hmn, hbw⟩, ⟨rfl, rfl, rfl, by subst hyd; rfl, by subst hyd; rfl, trivial⟩⟩
                  show s.length - (y.good + n) < s.length - x.good; omega
                · first | replace h78 := of_decide_eq_false h78 | replace h78 := of_decide_eq_true (notF h78) | replace h78 := notF h78 | skip
                  refine W_rs ?_
                  have heq : scanM s = x := by rw [heqm]; exact scanN_none (by rw [hst, if_neg (by omega), doM_none (by omega) (by omega) (by omega)]; rfl) hm0
                  refine st (X.ldBN rfl hB3 Tryz.underlying126 rfl siz126) rfl ?_
                  have hne2 := hR.ne2 hB2 (by decide)
                  refine ssBN rfl rfl hB2 siz126 rfl (seen_one hR.one1) (fun w21 hB_ hc_ => ?_)
                  replace hB2 := hB_
                  clear hB_
                  replace hB3 := hB3.chg hc_ (by first | (show ¬ _ = _; omega) | (intro k_ hk_; simp [Value.ownBlock] at hk_; subst hk_; show ¬ _ = _; omega) | assumption | trivial)
                  replace hR := hR.chg hc_ (by first | (show ¬ _ = _; omega) | (intro k_ hk_; simp [Value.ownBlock] at hk_; subst hk_; show ¬ _ = _; omega) | assumption | trivial)
                  replace hbw := bset hbw hc_ (by omega)
                  have hz_w21 := hc_.size
                  clear hc_
                  refine Wn ?_
                  refine tN ?_
                  refine W_ret (tR (bR (tR (bR ?_))))
                  refine (rC rfl rfl hB2 Tryz.underlying126 rfl siz126 ⟨⟨v, ?_, ?_, hvo⟩, hbw⟩).1
                  · rw [heq]; rfl
                  · rw [heq]; exact hR
              · first | replace h74 := of_decide_eq_false h74 | replace h74 := of_decide_eq_true (notF h74) | replace h74 := notF h74 | skip
                refine gN (g := 74) rfl rfl rfl rfl ?_
                refine gN (g := 74) rfl rfl rfl rfl ?_
                refine gN (g := 74) rfl rfl rfl rfl ?_
                refine st (X.pickF rfl rfl) rfl ?_
                refine Wn ?_
                refine tN ?_
                refine W_no rfl (rfl) ?_
                refine W_rs ?_
                have heq : scanM s = x := by rw [heqm]; exact scanN_none (by rw [hst, if_neg (by omega), doM_none (by omega) (by omega) (by omega)]; rfl) hm0
                refine st (X.ldBN rfl hB3 Tryz.underlying126 rfl siz126) rfl ?_
                have hne2 := hR.ne2 hB2 (by decide)
                refine ssBN rfl rfl hB2 siz126 rfl (seen_one hR.one1) (fun w22 hB_ hc_ => ?_)
                replace hB2 := hB_
                clear hB_
                replace hB3 := hB3.chg hc_ (by first | (show ¬ _ = _; omega) | (intro k_ hk_; simp [Value.ownBlock] at hk_; subst hk_; show ¬ _ = _; omega) | assumption | trivial)
                replace hR := hR.chg hc_ (by first | (show ¬ _ = _; omega) | (intro k_ hk_; simp [Value.ownBlock] at hk_; subst hk_; show ¬ _ = _; omega) | assumption | trivial)
                replace hbw := bset hbw hc_ (by omega)
                have hz_w22 := hc_.size
                clear hc_
                refine Wn ?_
                refine tN ?_
                refine W_ret (tR (bR (tR (bR ?_))))
                refine (rC rfl rfl hB2 Tryz.underlying126 rfl siz126 ⟨⟨v, ?_, ?_, hvo⟩, hbw⟩).1
                · rw [heq]; rfl
                · rw [heq]; exact hR
            · first | replace h69 := of_decide_eq_false h69 | replace h69 := of_decide_eq_true (notF h69) | replace h69 := notF h69 | skip
              refine gN (g := 69) rfl rfl rfl rfl ?_
              refine gN (g := 69) rfl rfl rfl rfl ?_
              refine gN (g := 69) rfl rfl rfl rfl ?_
              refine st (X.pickF rfl rfl) rfl ?_
              refine sm rfl rfl ?_
              refine gN (g := 74) rfl rfl rfl rfl ?_
              refine gN (g := 74) rfl rfl rfl rfl ?_
              refine gN (g := 74) rfl rfl rfl rfl ?_
              refine st (X.pickF rfl rfl) rfl ?_
              refine Wn ?_
              refine tN ?_
              refine W_no rfl (rfl) ?_
              refine W_rs ?_
              have heq : scanM s = x := by rw [heqm]; exact scanN_none (by rw [hst, if_neg (by omega), doM_none (by omega) (by omega) (by omega)]; rfl) hm0
              refine st (X.ldBN rfl hB3 Tryz.underlying126 rfl siz126) rfl ?_
              have hne2 := hR.ne2 hB2 (by decide)
              refine ssBN rfl rfl hB2 siz126 rfl (seen_one hR.one1) (fun w23 hB_ hc_ => ?_)
              replace hB2 := hB_
              clear hB_
              replace hB3 := hB3.chg hc_ (by first | (show ¬ _ = _; omega) | (intro k_ hk_; simp [Value.ownBlock] at hk_; subst hk_; show ¬ _ = _; omega) | assumption | trivial)
              replace hR := hR.chg hc_ (by first | (show ¬ _ = _; omega) | (intro k_ hk_; simp [Value.ownBlock] at hk_; subst hk_; show ¬ _ = _; omega) | assumption | trivial)
              replace hbw := bset hbw hc_ (by omega)
              have hz_w23 := hc_.size
              clear hc_
              refine Wn ?_
              refine tN ?_
              refine W_ret (tR (bR (tR (bR ?_))))
              refine (rC rfl rfl hB2 Tryz.underlying126 rfl siz126 ⟨⟨v, ?_, ?_, hvo⟩, hbw⟩).1
              · rw [heq]; rfl
              · rw [heq]; exact hR
          · first | replace h65 := of_decide_eq_false h65 | replace h65 := of_decide_eq_true (notF h65) | replace h65 := notF h65 | skip
            refine gN (g := 65) rfl rfl rfl rfl ?_
            refine gN (g := 65) rfl rfl rfl rfl ?_
            refine st (X.pickF rfl rfl) rfl ?_
            refine sm rfl rfl ?_
            refine gN (g := 69) rfl rfl rfl rfl ?_
            refine gN (g := 69) rfl rfl rfl rfl ?_
            refine gN (g := 69) rfl rfl rfl rfl ?_
            refine st (X.pickF rfl rfl) rfl ?_
            refine sm rfl rfl ?_
            refine gN (g := 74) rfl rfl rfl rfl ?_
            refine gN (g := 74) rfl rfl rfl rfl ?_
            refine gN (g := 74) rfl rfl rfl rfl ?_
            refine st (X.pickF rfl rfl) rfl ?_
            refine Wn ?_
            refine tN ?_
            refine W_no rfl (rfl) ?_
            refine W_rs ?_
            have heq : scanM s = x := by rw [heqm]; exact scanN_none (by rw [hst, if_neg (by omega), doM_none (by omega) (by omega) (by omega)]; rfl) hm0
            refine st (X.ldBN rfl hB3 Tryz.underlying126 rfl siz126) rfl ?_
            have hne2 := hR.ne2 hB2 (by decide)
            refine ssBN rfl rfl hB2 siz126 rfl (seen_one hR.one1) (fun w24 hB_ hc_ => ?_)
            replace hB2 := hB_
            clear hB_
            replace hB3 := hB3.chg hc_ (by first | (show ¬ _ = _; omega) | (intro k_ hk_; simp [Value.ownBlock] at hk_; subst hk_; show ¬ _ = _; omega) | assumption | trivial)
            replace hR := hR.chg hc_ (by first | (show ¬ _ = _; omega) | (intro k_ hk_; simp [Value.ownBlock] at hk_; subst hk_; show ¬ _ = _; omega) | assumption | trivial)
            replace hbw := bset hbw hc_ (by omega)
            have hz_w24 := hc_.size
            clear hc_
            refine Wn ?_
            refine tN ?_
            refine W_ret (tR (bR (tR (bR ?_))))
            refine (rC rfl rfl hB2 Tryz.underlying126 rfl siz126 ⟨⟨v, ?_, ?_, hvo⟩, hbw⟩).1
            · rw [heq]; rfl
            · rw [heq]; exact hR
end Go.Proofs.YtnijmegalgoipaaGreatDoor
namespace Go.Proofs.YtnijmegalgoipaaGreatDoor
open Go.RowKit
theorem Same16_any (va vb : Value) (la lb : List (List UInt8)) (w : World) (ha : Reads w 1 va la.length (la.map str)) (hb_ : Reads w 1 vb lb.length (lb.map str)) :
    Calls Tryz.prog 30 #[va, vb] w fun e w' => e = .returned (.bool (decide (la = lb))) ∧ Below w.heap.size w w' := by
  obtain ⟨aa, ca, rfl, han, hac⟩ := ha.shape
  obtain ⟨ab, cb, rfl, hbn, hbc⟩ := hb_.shape
  refine W_enter (args := [.slice aa la.length ca, .slice ab lb.length cb]) 26 Tryz.func30 rfl rfl rfl ?_
  refine W_sub [(0, .slice aa la.length ca), (1, .slice ab lb.length cb)] ?_ ⟨rfl, rfl, trivial⟩
  have hbw := Below.refl w.heap.size w
  refine W_rs ?_
  refine sa rfl rfl ?_
  refine Wn ?_
  refine tN ?_
  refine W_seq ?_
  refine W_rs ?_
  refine sm rfl rfl ?_
  refine st (X.lenL rfl rfl Tryz.underlying42) rfl ?_
  refine sm rfl rfl ?_
  refine st (X.lenL rfl rfl Tryz.underlying42) rfl ?_
  refine st (X.neq rfl rfl) rfl ?_
  refine Wn ?_
  refine tN ?_
  refine W_if rfl (fun h10 => ?_) (fun h10 => ?_)
  · first | replace h10 := of_decide_eq_true h10 | replace h10 := of_decide_eq_false (notT h10) | replace h10 := notT h10 | skip
    refine W_rs ?_
    refine sa rfl rfl ?_
    refine Wn ?_
    refine tN ?_
    refine W_ret (tR ?_)
    refine (rT rfl rfl ⟨?_, hbw⟩).1
    rw [show decide (la = lb) = false from decide_eq_false (fun h => by subst h; exact h10 rfl)]
  · first | replace h10 := of_decide_eq_false h10 | replace h10 := of_decide_eq_true (notF h10) | replace h10 := notF h10 | skip
    refine W_skip ?_
    refine tN ?_
    refine W_seq ?_
    refine W_rs ?_
    refine sa rfl rfl ?_
    refine Wn ?_
    refine tN ?_
    refine W_block ?_
    refine W_lp (fun nw1_ lw1_ w1 => ∃ j : Nat, nw1_ = la.length - j ∧ lw1_ = ([(0, .slice aa la.length ca), (1, .slice ab lb.length cb), (5, .int .i64 j)] : Env) ∧ (j ≤ la.length) ∧ (la.take j = lb.take j) ∧ (Below w.heap.size w w1)) _ ⟨_, ⟨0, rfl, rfl, by omega, rfl, hbw⟩, ⟨rfl, rfl, rfl, trivial⟩⟩ ?_
    clear hbw
    rintro nw1_ lw1_ w1 ⟨j, rfl, rfl, hj, hq, hbw⟩
    have hz_w1 := hbw.size
    refine W_seq ?_
    refine W_rs ?_
    refine sm rfl rfl ?_
    refine sm rfl rfl ?_
    refine st (X.lenL rfl rfl Tryz.underlying42) rfl ?_
    refine st (X.lss rfl rfl) rfl ?_
    refine Wn ?_
    refine tN ?_
    refine W_if rfl (fun h14 => ?_) (fun h14 => ?_)
    · first | replace h14 := of_decide_eq_true h14 | replace h14 := of_decide_eq_false (notT h14) | replace h14 := notT h14 | skip
      obtain ⟨x, hx⟩ : ∃ x, la[j]? = some x := ⟨_, List.getElem?_eq_getElem (by omega)⟩
      obtain ⟨y, hy⟩ : ∃ y, lb[j]? = some y := ⟨_, List.getElem?_eq_getElem (by omega)⟩
      have hxs : (la.map str)[j]? = some (str x) := by rw [List.getElem?_map, hx]; rfl
      have hys : (lb.map str)[j]? = some (str y) := by rw [List.getElem?_map, hy]; rfl
      obtain ⟨g1, o1, c', hv, hg1⟩ := (ha.bel hbw).some_ (by omega)
      injection hv with e1 _ e3
      subst e1 e3
      obtain ⟨g2, o2, c', hv, hg2⟩ := (hb_.bel hbw).some_ (by omega)
      injection hv with e1 _ e3
      subst e1 e3
      refine W_skip ?_
      refine tN ?_
      refine W_seq ?_
      refine W_block ?_
      refine W_drsN (fun W_ => W_.cell? ⟨g1, o1 + j * 1, none⟩ = some (str x) ∧ W_.cell? ⟨g2, o2 + j * 1, none⟩ = some (str y)) [0, 1, 2, 3, 4, 5, 6, 7, 8] [true, true, true, true, true, true, true, true, true] (by kernel_rfl) (by kernel_rfl) (⟨by rw [Nat.mul_one]; exact (ha.bel (bdrew hbw)).cellAt (by omega) hxs, by rw [Nat.mul_one]; exact (hb_.bel (bdrew hbw)).cellAt (by omega) hys⟩) ?_
      obtain ⟨w2, hw_⟩ : ∃ w2 : World, w2 = World.drew w1 := ⟨_, rfl⟩
      rw [← hw_]
      have hb : Below w1.heap.size w1 w2 := by rw [hw_]; exact bdrew (Below.refl _ _)
      clear hw_
      have hS := hb
      replace hbw := bthen hbw hb
      have hz_w2 := hb.size
      clear hb
      refine oY rfl (fun W_ hW_ => (X.move rfl)) rfl ?_
      refine oY rfl (fun W_ hW_ => (X.move rfl)) rfl ?_
      refine oY rfl (fun W_ hW_ => (X.idxA rfl rfl Tryz.underlying42 siz9 rfl (by omega))) rfl ?_
      refine oY rfl (fun W_ hW_ => (X.ld rfl Tryz.underlying9 rfl hW_.1)) rfl ?_
      refine oY rfl (fun W_ hW_ => (X.move rfl)) rfl ?_
      refine oY rfl (fun W_ hW_ => (X.move rfl)) rfl ?_
      refine oY rfl (fun W_ hW_ => (X.idxA rfl rfl Tryz.underlying42 siz9 rfl (by omega))) rfl ?_
      refine oY rfl (fun W_ hW_ => (X.ld rfl Tryz.underlying9 rfl hW_.2)) rfl ?_
      refine oY rfl (fun W_ hW_ => (X.neS rfl rfl)) rfl ?_
      refine oN ?_
      refine nN ?_
      refine W_if rfl (fun h25 => ?_) (fun h25 => ?_)
      · first | replace h25 := of_decide_eq_true h25 | replace h25 := of_decide_eq_false (notT h25) | replace h25 := notT h25 | skip
        refine W_rs ?_
        refine sa rfl rfl ?_
        refine Wn ?_
        refine tN ?_
        refine W_ret (bR (tR (tR (bR (tR ?_)))))
        refine (rT rfl rfl ⟨?_, hbw⟩).1
        rw [show decide (la = lb) = false from decide_eq_false (at_ne hx hy h25)]
      · first | replace h25 := of_decide_eq_false h25 | replace h25 := of_decide_eq_true (notF h25) | replace h25 := notF h25 | skip
        refine W_skip ?_
        refine bN ?_
        refine tN ?_
        refine W_reg ?_
        refine sm rfl rfl ?_
        refine st (X.add64 rfl rfl (by omega)) rfl ?_
        refine sa rfl rfl ?_
        refine Wn ?_
        refine tN ⟨_, _, ?_, ⟨j + 1, rfl, rfl, by omega, by rw [take_next' hx, take_next' hy, hq, Classical.not_not.1 h25], hbw⟩, ⟨rfl, rfl, rfl, trivial⟩⟩
        omega
    · first | replace h14 := of_decide_eq_false h14 | replace h14 := of_decide_eq_true (notF h14) | replace h14 := notF h14 | skip
      refine W_exit (tE (tE (bH ?_)))
      refine tN ?_
      refine W_rs ?_
      refine sa rfl rfl ?_
      refine Wn ?_
      refine tN ?_
      refine W_ret ?_
      obtain rfl : j = la.length := by omega
      refine (rT rfl rfl ⟨?_, hbw⟩).1
      rw [show decide (la = lb) = true from decide_eq_true (take_all (by omega) hq)]
end Go.Proofs.YtnijmegalgoipaaGreatDoor
