/- A walk of my own: a frame as a list of what is known of its slots, one law a kind of operation; no search. -/
import Derived.Test.YtnijmegalgoipaaGreatDoorRegion
namespace Go.Proofs.YtnijmegalgoipaaGreatDoor
open Go.RowKit

theorem notT {b : Bool} (h : (!b) = true) : b = false := by cases b <;> simp_all
theorem notF {b : Bool} (h : (!b) = false) : b = true := by cases b <;> simp_all
/- ---------- what is known of a frame ---------- -/
abbrev Env := List (Nat × Value)
def lk : Env → Nat → Option Value
  | [], _ => none
  | (d, v) :: l, t => bif Nat.beq t d then some v else lk l t
def ev (l : Env) : Operand → Option Value
  | .tmp t => lk l t
  | .const v => some v
  | .global g => some (.pointer (some ⟨g, 0, none⟩))
  | .func f => some (.func (.func f) #[] #[])
structure Rep (N : Nat) (ds : List Deferred) (l : Env) (a : Act) : Prop where
  size : a.tmps.size = N
  defers : a.defers = ds
  val : ∀ t v, lk l t = some v → a.tmps.getD t undef = v
/-- an evaluation that knows at least what the list says -/
def Knows (l : Env) (ρ : Operand → Value) : Prop := ∀ x v, ev l x = some v → ρ x = v
theorem Rep.knows {N : Nat} {ds : List Deferred} {l : Env} {a : Act} (h : Rep N ds l a) : Knows l a.eval := by
  intro x v hx
  cases x with
  | tmp t => exact h.val t v hx
  | const u => injection hx
  | «global» g => injection hx
  | func f => injection hx
theorem Rep.put {N : Nat} {ds : List Deferred} {l : Env} {a : Act} (h : Rep N ds l a) {d : Nat} (hd : Nat.blt d N = true) (v : Value) : Rep N ds ((d, v) :: l) (a.put (some d) v) := by
  have hd' : d < a.tmps.size := by rw [h.size]; exact of_decide_eq_true (by simpa [Nat.blt_eq] using hd)
  refine ⟨by simpa [Act.put] using h.size, h.defers, fun t u hu => ?_⟩
  unfold lk at hu
  cases ht : Nat.beq t d with
  | true =>
    rw [ht] at hu
    have e : t = d := Nat.eq_of_beq_eq_true ht
    subst e
    simp only [cond_true, Option.some.injEq] at hu
    subst hu
    simp [Act.put, hd']
  | false =>
    rw [ht] at hu
    have e : t ≠ d := Nat.ne_of_beq_eq_false ht
    have := h.val t u hu
    simp only [Act.put, Array.getD_eq_getD_getElem?] at this ⊢
    rw [Array.getElem?_setIfInBounds]
    rw [if_neg (fun h => e h.symm)]
    exact this
/-- a shorter list that says no more -/
def sub : Env → Env → Prop
  | [], _ => True
  | (t, v) :: r, l => lk l t = some v ∧ sub r l
theorem sub_lk : ∀ {r l : Env}, sub r l → ∀ t v, lk r t = some v → lk l t = some v
  | [], _, _, _, _, h => by cases h
  | (d, u) :: r, l, hs, t, v, h => by
    unfold lk at h
    cases ht : Nat.beq t d with
    | true =>
      rw [ht] at h
      have e : t = d := Nat.eq_of_beq_eq_true ht
      subst e
      simp only [cond_true, Option.some.injEq] at h
      subst h
      exact hs.1
    | false =>
      rw [ht] at h
      exact sub_lk hs.2 t v h
theorem Rep.sub {N : Nat} {ds : List Deferred} {r l : Env} {a : Act} (h : Rep N ds l a) (hs : sub r l) : Rep N ds r a :=
  ⟨h.size, h.defers, fun t v ht => h.val t v (sub_lk hs t v ht)⟩

/- ---------- the judgement ---------- -/
abbrev Post := Exit → Env → World → Prop
def lift (N : Nat) (ds : List Deferred) (Q : Post) : Exit → Act → World → Prop := fun e a w => ∃ l, Rep N ds l a ∧ Q e l w
def W (P : Program) (N : Nat) (ds : List Deferred) (Q : Post) (c : Code) (l : Env) (w : World) : Prop := ∀ a, Rep N ds l a → c.wp P (lift N ds Q) a w
def WL (P : Program) (N : Nat) (ds : List Deferred) (ops : Array Oper) (Q : Post) (os : List Oper) (l : Env) (w : World) : Prop := ∀ a, Rep N ds l a → wpList P ops (lift N ds Q) os a w
def thenQ (next : Env → World → Prop) (Q : Post) : Post
  | .normal, l, w => next l w
  | e, l, w => Q e l w
def inB (id : Nat) (Q : Post) : Post
  | .exit i, l, w => bif Nat.beq i id then Q .normal l w else Q (.exit i) l w
  | e, l, w => Q e l w
section
variable {P : Program} {N : Nat} {ds : List Deferred} {Q : Post} {l r : Env} {w : World} {next : Env → World → Prop} {id i : Nat}
theorem tN (h : next l w) : thenQ next Q .normal l w := h
theorem tR (h : Q .ret l w) : thenQ next Q .ret l w := h
theorem tE (h : Q (.exit i) l w) : thenQ next Q (.exit i) l w := h
theorem tG (h : Q (.goto i) l w) : thenQ next Q (.goto i) l w := h
theorem tP {c : List PanicEntry} (h : Q (.panic c) l w) : thenQ next Q (.panic c) l w := h
theorem bN (h : Q .normal l w) : inB id Q .normal l w := h
theorem bR (h : Q .ret l w) : inB id Q .ret l w := h
theorem bG (h : Q (.goto i) l w) : inB id Q (.goto i) l w := h
theorem bP {c : List PanicEntry} (h : Q (.panic c) l w) : inB id Q (.panic c) l w := h
theorem bH (h : Q .normal l w) : inB id Q (.exit id) l w := by
  show (bif Nat.beq id id then Q .normal l w else Q (.exit id) l w)
  rw [show Nat.beq id id = true from Nat.beq_refl id]
  exact h
theorem bM (hn : Nat.beq i id = false) (h : Q (.exit i) l w) : inB id Q (.exit i) l w := by
  show (bif Nat.beq i id then Q .normal l w else Q (.exit i) l w)
  rw [hn]
  exact h
theorem W_sub {c : Code} (r : Env) (h : W P N ds Q c r w) (hs : sub r l) : W P N ds Q c l w := fun a ha => h a (ha.sub hs)
theorem W_skip (h : Q .normal l w) : W P N ds Q .skip l w := fun _ ha => wp_skip ⟨_, ha, h⟩
theorem W_ret (h : Q .ret l w) : W P N ds Q .ret l w := fun _ ha => wp_ret ⟨_, ha, h⟩
theorem W_exit (h : Q (.exit i) l w) : W P N ds Q (.exit i) l w := fun _ ha => wp_exit ⟨_, ha, h⟩
theorem W_seq {x y : Code} (h : W P N ds (thenQ (W P N ds Q y) Q) x l w) : W P N ds Q (.seq x y) l w := by
  intro a ha
  refine wp_seq (Code.wp_mono (fun e a w hq => ?_) (h a ha))
  obtain ⟨l', hr, hq⟩ := hq
  cases e with
  | normal => exact hq a hr
  | _ => exact ⟨l', hr, hq⟩
/-- the ways meet again -/
theorem W_cut {x y : Code} (M : Env → World → Prop) (h : W P N ds (thenQ M Q) x l w) (h2 : ∀ l w, M l w → W P N ds Q y l w) : W P N ds Q (.seq x y) l w :=
  W_seq fun a ha => Code.wp_mono (fun e a w hq => by
    obtain ⟨l', hr, hq⟩ := hq
    refine ⟨l', hr, ?_⟩
    cases e with
    | normal => exact h2 _ _ hq
    | _ => exact hq) (h a ha)
theorem W_if {x y : Code} {c : Operand} {b : Bool} (hc : ev l c = some (.bool b)) (h1 : b = true → W P N ds Q x l w) (h0 : b = false → W P N ds Q y l w) : W P N ds Q (.cond c x y) l w :=
  fun a ha => wp_cond_split (ha.knows _ _ hc) (fun h => h1 h a ha) (fun h => h0 h a ha)
theorem W_yes {x y : Code} {c : Operand} {b : Bool} (hc : ev l c = some (.bool b)) (hb : b = true) (h : W P N ds Q x l w) : W P N ds Q (.cond c x y) l w :=
  W_if hc (fun _ => h) (fun h0 => by rw [hb] at h0; cases h0)
theorem W_no {x y : Code} {c : Operand} {b : Bool} (hc : ev l c = some (.bool b)) (hb : b = false) (h : W P N ds Q y l w) : W P N ds Q (.cond c x y) l w :=
  W_if hc (fun h0 => by rw [hb] at h0; cases h0) (fun _ => h)
theorem W_block {c : Code} (h : W P N ds (inB id Q) c l w) : W P N ds Q (.block id c) l w := by
  intro a ha
  refine wp_block (Code.wp_mono (fun e a w hq => ?_) (h a ha))
  obtain ⟨l', hr, hq⟩ := hq
  cases e with
  | exit i =>
    replace hq : (bif Nat.beq i id then Q .normal l' w else Q (.exit i) l' w) := hq
    show (if i = id then lift N ds Q .normal a w else lift N ds Q (.exit i) a w)
    by_cases hi : i = id
    · subst hi
      rw [show Nat.beq i i = true from Nat.beq_refl i] at hq
      rw [if_pos rfl]
      exact ⟨l', hr, hq⟩
    · rw [show Nat.beq i id = false from by
        cases hb : Nat.beq i id with
        | false => rfl
        | true => exact absurd (Nat.eq_of_beq_eq_true hb) hi] at hq
      rw [if_neg hi]
      exact ⟨l', hr, hq⟩
  | _ => exact ⟨l', hr, hq⟩
/-- a loop: what holds at each round's head, with a measure -/
def Again (I : Nat → Env → World → Prop) (n : Nat) (l : Env) (w : World) : Prop := ∃ m r, m < n ∧ I m r w ∧ sub r l
theorem W_loop {c : Code} (I : Nat → Env → World → Prop) (n : Nat) (h0 : I n l w) (hr : ∀ n l w, I n l w → W P N ds (thenQ (Again I n) Q) c l w) : W P N ds Q (.loop c) l w := by
  intro a ha b k cs
  have key : ∀ n a w l, Rep N ds l a → I n l w →
      ∃ e a' w', lift N ds Q e a' w' ∧ Arrives P (lone (b.at a (.code c :: .inLoop c :: k)) cs w) b k cs e a' w' := by
    intro n
    induction n using Nat.strongRecOn with
    | _ n ih =>
      intro a w l ha hI
      obtain ⟨e, a₁, w₁, hq, harr⟩ := hr n l w hI a ha b (.inLoop c :: k) cs
      obtain ⟨l', hl', hq⟩ := hq
      cases e with
      | normal =>
        obtain ⟨m, r, hm, hI', hs⟩ := hq
        obtain ⟨e₂, a₂, w₂, hq₂, harr₂⟩ := ih m hm a₁ w₁ r (hl'.sub hs) hI'
        exact ⟨e₂, a₂, w₂, hq₂, .of_steps (Steps.trans harr (.one step_inLoop)) harr₂⟩
      | exit id => exact ⟨_, a₁, w₁, ⟨l', hl', hq⟩, .pass (x := .inLoop c) rfl (fun _ _ => .inl (by simp)) harr⟩
      | goto l => exact ⟨_, a₁, w₁, ⟨l', hl', hq⟩, .pass (x := .inLoop c) rfl (fun _ _ => .inl (by simp)) harr⟩
      | ret => exact ⟨_, a₁, w₁, ⟨l', hl', hq⟩, .pass (x := .inLoop c) rfl (fun _ _ => .inl (by simp)) harr⟩
      | panic ch => exact ⟨_, a₁, w₁, ⟨l', hl', hq⟩, .pass (x := .inLoop c) rfl (fun _ _ => .inl (by simp)) harr⟩
      | outgrown => exact ⟨_, a₁, w₁, ⟨l', hl', hq⟩, .pass (x := .inLoop c) rfl (fun _ _ => .inl (by simp)) harr⟩
  obtain ⟨e, a', w', hq, harr⟩ := key n a w l ha h0
  exact ⟨e, a', w', hq, .of_steps (.one step_loop) harr⟩
theorem W_lp {c : Code} (I : Nat → Env → World → Prop) (n : Nat) (h0 : ∃ r, I n r w ∧ sub r l) (hr : ∀ n l w, I n l w → W P N ds (thenQ (Again I n) Q) c l w) : W P N ds Q (.loop c) l w := by
  obtain ⟨r, h1, h2⟩ := h0
  exact W_sub r (W_loop I n h1 hr) h2
theorem W_reg {os : List Oper} (h : WL P N ds os.toArray Q os l w) : W P N ds Q (.region id os.toArray false) l w := fun a ha => wp_region_lit (h a ha)
theorem W_rs {os : List Oper} {y : Code} (h : WL P N ds os.toArray (thenQ (W P N ds Q y) Q) os l w) : W P N ds Q (.seq (.region id os.toArray false) y) l w := W_seq (W_reg h)
end

/- ---------- operations ---------- -/
/-- the operation yields v -/
def X (P : Program) (l : Env) (op : Op) (ty : TypeId) (w : World) (v : Value) (w' : World) : Prop :=
  ∀ ρ, Knows l ρ → (execOp ρ ⟨none, op, ty, "", #[], none⟩).run P w = .ok (.value v) w'
/-- the operation yields nothing -/
def Xs (P : Program) (l : Env) (op : Op) (ty : TypeId) (w : World) (w' : World) : Prop :=
  ∀ ρ, Knows l ρ → (execOp ρ ⟨none, op, ty, "", #[], none⟩).run P w = .ok .skip w'
section
variable {P : Program} {N : Nat} {ds : List Deferred} {Q : Post} {l r : Env} {w w' : World} {ops : Array Oper} {rest : List Oper} {op : Op} {ty : TypeId} {pos : String} {aft : Array Edge} {d : Nat} {v : Value}
theorem Wn (h : Q .normal l w) : WL P N ds ops Q [] l w := fun _ ha => wpList_nil ⟨_, ha, h⟩
theorem WL_sub (r : Env) {os : List Oper} (h : WL P N ds ops Q os r w) (hs : sub r l) : WL P N ds ops Q os l w := fun a ha => h a (ha.sub hs)
theorem st (hx : X P l op ty w v w') (hd : Nat.blt d N = true) (h : WL P N ds ops Q rest ((d, v) :: l) w') : WL P N ds ops Q (⟨some d, op, ty, pos, aft, none⟩ :: rest) l w := by
  intro a ha
  refine wpList_plain rfl fun K hK => ?_
  unfold Oper.wp
  have : (execOp a.eval ⟨some d, op, ty, pos, aft, none⟩).run P w = .ok (.value v) w' := hx _ ha.knows
  rw [this]
  exact hK _ _ (h _ (ha.put hd v))
/-- whatever is known of the value -/
theorem stE {R : Value → World → Prop} (hx : ∀ ρ, Knows l ρ → ∃ v w', (execOp ρ ⟨none, op, ty, "", #[], none⟩).run P w = .ok (.value v) w' ∧ R v w') (hd : Nat.blt d N = true) (h : ∀ v w', R v w' → WL P N ds ops Q rest ((d, v) :: l) w') : WL P N ds ops Q (⟨some d, op, ty, pos, aft, none⟩ :: rest) l w := by
  intro a ha
  refine wpList_plain rfl fun K hK => ?_
  unfold Oper.wp
  obtain ⟨v, w', hr, hR⟩ := hx _ ha.knows
  have : (execOp a.eval ⟨some d, op, ty, pos, aft, none⟩).run P w = .ok (.value v) w' := hr
  rw [this]
  exact hK _ _ (h v w' hR _ (ha.put hd v))
theorem ss (hx : Xs P l op ty w w') (h : WL P N ds ops Q rest l w') : WL P N ds ops Q (⟨none, op, ty, pos, aft, none⟩ :: rest) l w := by
  intro a ha
  refine wpList_plain rfl fun K hK => ?_
  unfold Oper.wp
  have : (execOp a.eval ⟨none, op, ty, pos, aft, none⟩).run P w = .ok .skip w' := hx _ ha.knows
  rw [this]
  exact hK _ _ (h _ ha)
theorem ssE {R : World → Prop} (hx : ∀ ρ, Knows l ρ → ∃ w', (execOp ρ ⟨none, op, ty, "", #[], none⟩).run P w = .ok .skip w' ∧ R w') (h : ∀ w', R w' → WL P N ds ops Q rest l w') : WL P N ds ops Q (⟨none, op, ty, pos, aft, none⟩ :: rest) l w := by
  intro a ha
  refine wpList_plain rfl fun K hK => ?_
  unfold Oper.wp
  obtain ⟨w', hr, hR⟩ := hx _ ha.knows
  have : (execOp a.eval ⟨none, op, ty, pos, aft, none⟩).run P w = .ok .skip w' := hr
  rw [this]
  exact hK _ _ (h w' hR _ ha)
theorem sm {x : Operand} (hx : ev l x = some v) (hd : Nat.blt d N = true) (h : WL P N ds ops Q rest ((d, v) :: l) w) : WL P N ds ops Q (⟨some d, .move x, ty, pos, aft, none⟩ :: rest) l w :=
  st (fun ρ hρ => by rw [← hρ _ _ hx]; rfl) hd h
theorem sa {x : Operand} (hx : ev l x = some v) (hd : Nat.blt d N = true) (h : WL P N ds ops Q rest ((d, v) :: l) w) : WL P N ds ops Q (⟨some d, .assign x, ty, pos, aft, none⟩ :: rest) l w :=
  st (fun ρ hρ => by rw [← hρ _ _ hx]; rfl) hd h
/-- a bool on which others are guarded -/
theorem sb {x : Operand} {b : Bool} (hx : ev l x = some (.bool b)) (hd : Nat.blt d N = true) (h1 : b = true → WL P N ds ops Q rest ((d, .bool true) :: l) w) (h0 : b = false → WL P N ds ops Q rest ((d, .bool false) :: l) w) :
    WL P N ds ops Q (⟨some d, .move x, ty, pos, aft, none⟩ :: rest) l w := by
  cases b with
  | true => exact sm hx hd (h1 rfl)
  | false => exact sm hx hd (h0 rfl)
theorem sbY {x : Operand} {b : Bool} (hx : ev l x = some (.bool b)) (hb : b = true) (hd : Nat.blt d N = true) (h : WL P N ds ops Q rest ((d, .bool true) :: l) w) : WL P N ds ops Q (⟨some d, .move x, ty, pos, aft, none⟩ :: rest) l w := by
  subst hb; exact sm hx hd h
theorem sbN {x : Operand} {b : Bool} (hx : ev l x = some (.bool b)) (hb : b = false) (hd : Nat.blt d N = true) (h : WL P N ds ops Q rest ((d, .bool false) :: l) w) : WL P N ds ops Q (⟨some d, .move x, ty, pos, aft, none⟩ :: rest) l w := by
  subst hb; exact sm hx hd h
/-- the guard says yes -/
theorem gY {dst : Option Nat} {j g : Nat} {b : Bool} (hj : (ops[j]?).bind (·.dst) = some g) (hg : lk l g = some (.bool b)) (hN : Nat.blt g N = true) (h : WL P N ds ops Q (⟨dst, op, ty, pos, aft, none⟩ :: rest) l w) :
    WL P N ds ops Q (⟨dst, op, ty, pos, aft, some (j, b)⟩ :: rest) l w := by
  intro a ha
  have h := h a ha
  have hs : g < a.tmps.size := by rw [ha.size]; exact of_decide_eq_true (by simpa [Nat.blt_eq] using hN)
  have hv := ha.val g _ hg
  have hy : yielded ops a.tmps j = some b := by
    unfold yielded
    rw [hj]
    simp only [Option.bind_some]
    rw [Array.getElem?_eq_getElem hs]
    simp only [Array.getD_eq_getD_getElem?, Array.getElem?_eq_getElem hs, Option.getD_some] at hv
    rw [hv]
  unfold wpList at h ⊢
  rw [if_pos (by simp [Region.wanted])] at h
  rw [if_pos (by simp [Region.wanted, hy])]
  exact h
/-- the guard says no -/
theorem gN {d j g : Nat} {b : Bool} (hj : (ops[j]?).bind (·.dst) = some g) (hg : lk l g = some (.bool !b)) (hN : Nat.blt g N = true) (hd : Nat.blt d N = true) (h : WL P N ds ops Q rest ((d, undef) :: l) w) :
    WL P N ds ops Q (⟨some d, op, ty, pos, aft, some (j, b)⟩ :: rest) l w := by
  intro a ha
  have hs : g < a.tmps.size := by rw [ha.size]; exact of_decide_eq_true (by simpa [Nat.blt_eq] using hN)
  have hv := ha.val g _ hg
  have hy : yielded ops a.tmps j = some !b := by
    unfold yielded
    rw [hj]
    simp only [Option.bind_some]
    rw [Array.getElem?_eq_getElem hs]
    simp only [Array.getD_eq_getD_getElem?, Array.getElem?_eq_getElem hs, Option.getD_some] at hv
    rw [hv]
  unfold wpList
  rw [if_neg (by simp [Region.wanted, hy])]
  exact h _ (ha.put hd undef)
/-- a guard that never says anything (its own was no) -/
theorem gU {d j g : Nat} {b : Bool} (hj : (ops[j]?).bind (·.dst) = some g) (hg : lk l g = some undef) (hN : Nat.blt g N = true) (hd : Nat.blt d N = true) (h : WL P N ds ops Q rest ((d, undef) :: l) w) :
    WL P N ds ops Q (⟨some d, op, ty, pos, aft, some (j, b)⟩ :: rest) l w := by
  intro a ha
  have hs : g < a.tmps.size := by rw [ha.size]; exact of_decide_eq_true (by simpa [Nat.blt_eq] using hN)
  have hv := ha.val g _ hg
  have hy : yielded ops a.tmps j = none := by
    unfold yielded
    rw [hj]
    simp only [Option.bind_some]
    rw [Array.getElem?_eq_getElem hs]
    simp only [Array.getD_eq_getD_getElem?, Array.getElem?_eq_getElem hs, Option.getD_some] at hv
    rw [hv]
    rfl
  unfold wpList
  rw [if_neg (by simp [Region.wanted, hy])]
  exact h _ (ha.put hd undef)
theorem gN0 {j g : Nat} {b : Bool} (hj : (ops[j]?).bind (·.dst) = some g) (hg : lk l g = some (.bool !b)) (hN : Nat.blt g N = true) (h : WL P N ds ops Q rest l w) :
    WL P N ds ops Q (⟨none, op, ty, pos, aft, some (j, b)⟩ :: rest) l w := by
  intro a ha
  have hs : g < a.tmps.size := by rw [ha.size]; exact of_decide_eq_true (by simpa [Nat.blt_eq] using hN)
  have hv := ha.val g _ hg
  have hy : yielded ops a.tmps j = some !b := by
    unfold yielded
    rw [hj]
    simp only [Option.bind_some]
    rw [Array.getElem?_eq_getElem hs]
    simp only [Array.getD_eq_getD_getElem?, Array.getElem?_eq_getElem hs, Option.getD_some] at hv
    rw [hv]
  unfold wpList
  rw [if_neg (by simp [Region.wanted, hy])]
  exact h _ ha
end

/- ---------- calls ---------- -/
def CP (ret : Value → World → Prop) (pan : List PanicEntry → World → Prop) : Ending → World → Prop
  | .returned v, w => ret v w
  | .panicked c, w => pan c w
  | .outgrown, _ => False
def evs (l : Env) : List Operand → Option (List Value)
  | [] => some []
  | x :: xs => match ev l x with
    | some v => match evs l xs with
      | some vs => some (v :: vs)
      | none => none
    | none => none
theorem evs_map {l : Env} {ρ : Operand → Value} (hρ : Knows l ρ) : ∀ {xs : List Operand} {vs : List Value}, evs l xs = some vs → xs.map ρ = vs
  | [], vs, h => by injection h
  | x :: xs, vs, h => by
    unfold evs at h
    cases hx : ev l x with
    | none => rw [hx] at h; cases h
    | some v =>
      rw [hx] at h
      cases hxs : evs l xs with
      | none => rw [hxs] at h; cases h
      | some us =>
        rw [hxs] at h
        injection h with h
        subst h
        rw [List.map_cons, hρ _ _ hx, evs_map hρ hxs]
section
variable {P : Program} {N : Nat} {ds : List Deferred} {Q : Post} {l r : Env} {w w' : World} {ops : Array Oper} {rest : List Oper} {op : Op} {ty : TypeId} {pos : String} {aft : Array Edge} {d : Nat} {v : Value}
theorem cR {ret : Value → World → Prop} {pan : List PanicEntry → World → Prop} (h : ret v w) : CP ret pan (.returned v) w := h
theorem cP {ret : Value → World → Prop} {pan : List PanicEntry → World → Prop} {c : List PanicEntry} (h : pan c w) : CP ret pan (.panicked c) w := h
theorem sc {f : FuncId} {args : List Operand} {ats : Array TypeId} {fn : Func} {c : Code} (vs : List Value) (hf : P.funcs[f]? = some fn) (hb : fn.body = some c) (hname : (fn.name == "runtime.NumGoroutine") = false)
    (hvs : evs l args = some vs) (hd : Nat.blt d N = true)
    (hc : Calls P f vs.toArray w (CP (fun v w' => WL P N ds ops Q rest ((d, v) :: l) w') (fun c w' => Q (.panic c) l w'))) :
    WL P N ds ops Q (⟨some d, .call { callee := .value (.func f), args := args.toArray, argTypes := ats }, ty, pos, aft, none⟩ :: rest) l w := by
  intro a ha
  refine wpList_plain rfl fun K hK => ?_
  unfold Oper.wp execOp
  have h2 : fn.name ≠ "runtime.NumGoroutine" := by simpa using hname
  have hvs' := evs_map ha.knows hvs
  simp only [resolve, invoke]
  simp [Deferred.ofValue, Act.eval, callFunc, hf, hb, h2, mark]
  have e : List.map (fun x => a.eval x) args = vs := hvs'
  rw [show List.map a.eval args = vs from e]
  refine Calls.mono hc fun e w' h => ?_
  cases e with
  | returned v => exact hK _ _ (h _ (ha.put hd v))
  | panicked c => exact ⟨l, ha, h⟩
  | outgrown => exact h.elim
/-- the call of a closure -/
theorem scv {f : FuncId} {x : Operand} {cap : List Value} {args : List Operand} {ats : Array TypeId} {fn : Func} {c : Code} (vs : List Value) (hx : ev l x = some (.func (.func f) #[] cap.toArray)) (hf : P.funcs[f]? = some fn) (hb : fn.body = some c) (hname : (fn.name == "runtime.NumGoroutine") = false)
    (hvs : evs l args = some vs) (hd : Nat.blt d N = true)
    (hc : Calls P f (vs ++ cap).toArray w (CP (fun v w' => WL P N ds ops Q rest ((d, v) :: l) w') (fun c w' => Q (.panic c) l w'))) :
    WL P N ds ops Q (⟨some d, .call { callee := .value x, args := args.toArray, argTypes := ats }, ty, pos, aft, none⟩ :: rest) l w := by
  intro a ha
  refine wpList_plain rfl fun K hK => ?_
  unfold Oper.wp execOp
  have h2 : fn.name ≠ "runtime.NumGoroutine" := by simpa using hname
  have hvs' := evs_map ha.knows hvs
  have hx' := ha.knows _ _ hx
  simp only [resolve, invoke, hx']
  simp [Deferred.ofValue, callFunc, hf, hb, h2, mark]
  have e : List.map (fun x => a.eval x) args = vs := hvs'
  refine Calls.mono (by simpa [e] using hc) fun e w' h => ?_
  cases e with
  | returned v => exact hK _ _ (h _ (ha.put hd v))
  | panicked c => exact ⟨l, ha, h⟩
  | outgrown => exact h.elim
end

/- ---------- a function ---------- -/
def ResVar (P : Program) (l : Env) (w : World) : ResultVar → Value → Prop
  | .tmp t, v => lk l t = some v
  | .cell p ty, v => ∃ a, lk l p = some (.pointer (some a)) ∧ (loadVar ty a).run P w = .ok v w
def fnPost (P : Program) (fn : Func) (R : Ending → World → Prop) : Post
  | .normal, l, w => ∃ v, (∀ a, (∀ t v, lk l t = some v → a.getD t undef = v) → (results fn a).run P w = .ok v w) ∧ R (.returned v) w
  | .ret, l, w => ∃ v, (∀ a, (∀ t v, lk l t = some v → a.getD t undef = v) → (results fn a).run P w = .ok v w) ∧ R (.returned v) w
  | .panic c, _, w => R (.panicked c) w
  | _, _, _ => False
def env0 (args : List Value) : Env := args.zipIdx.map fun p => (p.2, p.1)
theorem lk_env0 (args : List Value) : ∀ (k t : Nat) (v : Value), lk ((args.zipIdx k).map fun p => (p.2, p.1)) t = some v → k ≤ t ∧ args[t - k]? = some v := by
  induction args with
  | nil => intro k t v h; cases h
  | cons x xs ih =>
    intro k t v h
    simp only [List.zipIdx_cons, List.map_cons] at h
    unfold lk at h
    cases ht : Nat.beq t k with
    | true =>
      rw [ht] at h
      have e : t = k := Nat.eq_of_beq_eq_true ht
      subst e
      simp only [cond_true, Option.some.injEq] at h
      subst h
      simp
    | false =>
      rw [ht] at h
      have e : t ≠ k := Nat.ne_of_beq_eq_false ht
      obtain ⟨h1, h2⟩ := ih (k + 1) t v h
      refine ⟨by omega, ?_⟩
      rw [show t - k = (t - (k + 1)) + 1 by omega, List.getElem?_cons_succ]
      exact h2
theorem W_enter {P : Program} {f : FuncId} {fn : Func} {c : Code} {args : List Value} {w : World} {R : Ending → World → Prop} (N : Nat) (hf : P.funcs[f]? = some fn) (hb : fn.body = some c) (hN : fn.ntmps = N) (hn : Nat.ble args.length N = true)
    (h : W P N [] (fnPost P fn R) c (env0 args) w) : Calls P f args.toArray w R := by
  have hn' : args.length ≤ N := Nat.le_of_ble_eq_true hn
  refine calls_of_wp hf hb (Code.wp_mono (fun e a w hq => ?_) (h _ ⟨by simp; omega, rfl, fun t v ht => ?_⟩))
  · obtain ⟨l, hr, hq⟩ := hq
    cases e with
    | normal => obtain ⟨v, h1, h2⟩ := hq; exact ⟨hr.defers, v, h1 _ hr.val, h2⟩
    | ret => obtain ⟨v, h1, h2⟩ := hq; exact ⟨hr.defers, v, h1 _ hr.val, h2⟩
    | panic c => exact ⟨hr.defers, hq⟩
    | _ => exact hq.elim
  · obtain ⟨_, h2⟩ := lk_env0 args 0 t v ht
    rw [Array.getD_eq_getD_getElem?, Array.getElem?_append]
    have hlt : t < args.length := by
      rcases Nat.lt_or_ge t args.length with h | h
      · exact h
      · rw [List.getElem?_eq_none (by omega)] at h2; cases h2
    rw [if_pos (by simpa using hlt)]
    simp only [Nat.sub_zero] at h2
    simp [h2]
section
variable {P : Program} {fn : Func} {R : Ending → World → Prop} {l : Env} {w : World}
def resVal (a : Array Value) : ResultVar → Sem Value
  | .tmp t => pure (a.getD t undef)
  | .cell p t => do loadVar t (← asAddr (a.getD p undef))
theorem results_eq (a : Array Value) : results fn a = (do let vs ← fn.results.mapM (resVal a); pure (if h : vs.size = 1 then vs[0] else .tuple vs)) := rfl
theorem run_resVar {x : ResultVar} {v : Value} (h : ResVar P l w x v) (a : Array Value) (ha : ∀ t v, lk l t = some v → a.getD t undef = v) :
    (resVal a x).run P w = .ok v w := by
  unfold resVal
  cases x with
  | tmp t => simp only [Sem.run_pure]; rw [ha t v h]
  | cell p ty =>
    obtain ⟨ad, h1, h2⟩ := h
    simp only [Sem.run_bind]
    rw [ha p _ h1]
    simp [asAddr, h2]
theorem r0 (hf : fn.results = #[]) (hR : R (.returned (.tuple #[])) w) : fnPost P fn R .ret l w ∧ fnPost P fn R .normal l w := by
  have h : ∃ v, (∀ a : Array Value, (∀ t v, lk l t = some v → a.getD t undef = v) → (results fn a).run P w = .ok v w) ∧ R (.returned v) w := ⟨_, fun a ha => by simp [results, hf], hR⟩
  exact ⟨h, h⟩
theorem r1 {x : ResultVar} {v : Value} (hf : fn.results = #[x]) (hx : ResVar P l w x v) (hR : R (.returned v) w) : fnPost P fn R .ret l w ∧ fnPost P fn R .normal l w := by
  have h : ∃ v, (∀ a : Array Value, (∀ t v, lk l t = some v → a.getD t undef = v) → (results fn a).run P w = .ok v w) ∧ R (.returned v) w := ⟨v, fun a ha => by
    have := run_resVar hx a ha
    rw [results_eq, hf]
    simp only [List.mapM_toArray, List.mapM_cons, List.mapM_nil, Sem.run_bind, Sem.run_pure, map_eq_pure_bind]
    simp only [this, Result.andThen_ok]
    rfl, hR⟩
  exact ⟨h, h⟩
theorem r2 {x y : ResultVar} {v u : Value} (hf : fn.results = #[x, y]) (hx : ResVar P l w x v) (hy : ResVar P l w y u) (hR : R (.returned (.tuple #[v, u])) w) : fnPost P fn R .ret l w ∧ fnPost P fn R .normal l w := by
  have h : ∃ v, (∀ a : Array Value, (∀ t v, lk l t = some v → a.getD t undef = v) → (results fn a).run P w = .ok v w) ∧ R (.returned v) w := ⟨.tuple #[v, u], fun a ha => by
    have h1 := run_resVar hx a ha
    have h2 := run_resVar hy a ha
    rw [results_eq, hf]
    simp only [List.mapM_toArray, List.mapM_cons, List.mapM_nil, Sem.run_bind, Sem.run_pure, map_eq_pure_bind]
    simp only [h1, h2, Result.andThen_ok]
    rfl, hR⟩
  exact ⟨h, h⟩
end
section
variable {P : Program} {fn : Func} {R : Ending → World → Prop} {l : Env} {w : World}
theorem rT {t : Nat} {v : Value} (hf : fn.results = #[.tmp t]) (hx : lk l t = some v) (hR : R (.returned v) w) : fnPost P fn R .ret l w ∧ fnPost P fn R .normal l w := r1 hf hx hR
theorem rTT {t t2 : Nat} {v v2 : Value} (hf : fn.results = #[.tmp t, .tmp t2]) (hx : lk l t = some v) (hy : lk l t2 = some v2) (hR : R (.returned (.tuple #[v, v2])) w) : fnPost P fn R .ret l w ∧ fnPost P fn R .normal l w := r2 hf hx hy hR
theorem resCell {ty : TypeId} {p g : Nat} {bt : TypeId} {cs : Array Value} {d : TypeDesc} (hx : lk l p = some (.pointer (some ⟨g, 0, none⟩))) (hB : Blk w g bt cs) (hu : P.underlying ty = some d) (hd : (match d with | .struct _ | .array _ _ => true | _ => false) = true) (hi : (P.info? ty).map (·.size) = some cs.size) :
    ResVar P l w (.cell p ty) (.agg cs) := ⟨_, hx, run_loadVar_row w g bt ty cs (0, 0) d hB hu hd hi⟩
theorem resCell1 {ty : TypeId} {p g : Nat} {bt : TypeId} {v : Value} {d : TypeDesc} (hx : lk l p = some (.pointer (some ⟨g, 0, none⟩))) (hB : Blk w g bt #[v]) (hu : P.underlying ty = some d) (hd : (match d with | .struct _ | .array _ _ => true | _ => false) = false) :
    ResVar P l w (.cell p ty) v := ⟨_, hx, by
  have hc : w.cell? ⟨g, 0, none⟩ = some v := by rw [hB.cell]; rfl
  unfold loadVar isAgg
  cases d <;> simp at hd <;> simp [run_underlying hu, run_load, hc]⟩
theorem rC {ty : TypeId} {p g : Nat} {bt : TypeId} {cs : Array Value} {d : TypeDesc} (hf : fn.results = #[.cell p ty]) (hx : lk l p = some (.pointer (some ⟨g, 0, none⟩))) (hB : Blk w g bt cs) (hu : P.underlying ty = some d) (hd : (match d with | .struct _ | .array _ _ => true | _ => false) = true) (hi : (P.info? ty).map (·.size) = some cs.size)
    (hR : R (.returned (.agg cs)) w) : fnPost P fn R .ret l w ∧ fnPost P fn R .normal l w := r1 hf (resCell hx hB hu hd hi) hR
theorem rCT {ty : TypeId} {p g t : Nat} {v : Value} {bt : TypeId} {cs : Array Value} {d : TypeDesc} (hf : fn.results = #[.cell p ty, .tmp t]) (hx : lk l p = some (.pointer (some ⟨g, 0, none⟩))) (hB : Blk w g bt cs) (hu : P.underlying ty = some d) (hd : (match d with | .struct _ | .array _ _ => true | _ => false) = true) (hi : (P.info? ty).map (·.size) = some cs.size) (hy : lk l t = some v)
    (hR : R (.returned (.tuple #[.agg cs, v])) w) : fnPost P fn R .ret l w ∧ fnPost P fn R .normal l w := r2 hf (resCell hx hB hu hd hi) hy hR
end
/-- a panic -/
theorem sp {P : Program} {N : Nat} {ds : List Deferred} {Q : Post} {l : Env} {w : World} {ops : Array Oper} {rest : List Oper} {ty : TypeId} {pos : String} {aft : Array Edge} {x : Operand} {t : TypeId} {v : Value}
    (hx : ev l x = some (.iface t v)) (h : Q (.panic [{ v := .iface t v, recovered := false }]) l w) : WL P N ds ops Q (⟨none, .panic x, ty, pos, aft, none⟩ :: rest) l w := by
  intro a ha
  refine wpList_plain rfl fun K hK => ?_
  unfold Oper.wp execOp
  simp only [ha.knows _ _ hx, Instr.panic, Sem.run_bind]
  exact ⟨l, ha, h⟩
/-- one's own store -/
theorem bset {g : Nat} {w0 w w' : World} (hb : Below w0.heap.size w0 w) (hc : Chg (fun k => k = g) w w') (hg : w0.heap.size ≤ g) : Below w0.heap.size w0 w' :=
  ⟨hc.os.trans hb.os, hc.tape.trans hb.tape, hc.output.trans hb.output, Nat.le_trans hb.size hc.size, fun k hk => (hc.block k (Nat.lt_of_lt_of_le hk hb.size) (by omega)).trans (hb.block k hk)⟩
theorem bthen {w0 w w' : World} (hb : Below w0.heap.size w0 w) (hc : Below w.heap.size w w') : Below w0.heap.size w0 w' := below_then hb hc (Nat.le_refl _)
theorem bdrew {w0 w : World} (hb : Below w0.heap.size w0 w) : Below w0.heap.size w0 w.drew := ⟨hb.os, hb.tape, hb.output, hb.size, hb.block⟩
end Go.Proofs.YtnijmegalgoipaaGreatDoor
