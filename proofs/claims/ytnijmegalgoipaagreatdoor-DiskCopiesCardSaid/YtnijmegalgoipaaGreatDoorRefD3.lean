/- armariumref01: who owns what; Create, Remove, Rename. -/
import Derived.Test.YtnijmegalgoipaaGreatDoorRefD2
namespace Go.Proofs.YtnijmegalgoipaaGreatDoor
open Go.RowKit
/- ---------- plain ---------- -/
theorem sput_set : ∀ {l : List (Key × FileD)} {i : Nat} {n : Key} {f f' : FileD}, Rising l → l[i]? = some (n, f) → sput l n f' = l.set i (n, f')
  | [], _, _, _, _, _, h => by simp at h
  | (a, u) :: l, 0, n, f, f', _, h => by
    simp only [List.getElem?_cons_zero, Option.some.injEq, Prod.mk.injEq] at h
    rw [sput, if_pos h.1.symm, List.set_cons_zero, h.1]
  | (a, u) :: l, i + 1, n, f, f', hs, h => by
    rw [List.getElem?_cons_succ] at h
    have h1 := List.pairwise_cons.1 hs
    have hlt := h1.1 _ (List.mem_of_getElem? h)
    rw [sput, if_neg (fun e => by rw [e] at hlt; exact klt_irrefl _ hlt), if_neg (fun e => klt_irrefl _ (klt_trans e hlt)), List.set_cons_succ, sput_set h1.2 h]
theorem sput_mdel {l : List (Key × FileD)} {n : Key} {f : FileD} (hs : Rising l) (h : mget l n = some f) (f' : FileD) : sput (mdel l n) n f' = sput l n f' := by
  induction l with
  | nil => simp [mget] at h
  | cons p l ih =>
    obtain ⟨a, u⟩ := p
    have h1 := List.pairwise_cons.1 hs
    unfold mget at h
    by_cases e : n = a
    · subst e
      rw [mdel, if_pos rfl, sput, if_pos rfl]
      cases l with
      | nil => rfl
      | cons q l =>
        obtain ⟨b, v⟩ := q
        have hlt := h1.1 (b, v) (List.mem_cons_self ..)
        rw [sput, if_neg (fun e => by rw [e] at hlt; exact klt_irrefl _ hlt), if_pos hlt]
    · rw [if_neg e] at h
      have := ih h1.2 h
      have hlt : a < n := h1.1 _ (mget_mem h)
      rw [mdel, if_neg e, sput, if_neg e, if_neg (fun k => klt_irrefl _ (klt_trans k hlt)), this, sput, if_neg e, if_neg (fun k => klt_irrefl _ (klt_trans k hlt))]
theorem sput_self {l : List (Key × FileD)} {n : Key} {f : FileD} (hs : Rising l) (h : mget l n = some f) : sput l n f = l := by
  induction l with
  | nil => simp [mget] at h
  | cons p l ih =>
    obtain ⟨a, u⟩ := p
    have h1 := List.pairwise_cons.1 hs
    unfold mget at h
    by_cases e : n = a
    · subst e
      rw [if_pos rfl] at h
      injection h with h
      rw [sput, if_pos rfl, h]
    · rw [if_neg e] at h
      have hlt : a < n := h1.1 _ (mget_mem h)
      rw [sput, if_neg e, if_neg (fun k => klt_irrefl _ (klt_trans k hlt)), ih h1.2 h]
theorem place_ex (rs : List RRec) (n : Key) : ∃ o, PlaceIs rs n o := by
  induction rs with
  | nil => exact ⟨none, fun r hr => by cases hr⟩
  | cons a l ih =>
    by_cases e : a.n = n
    · exact ⟨some 0, ⟨a, rfl, e⟩, fun j s hj => by omega⟩
    · obtain ⟨o, ho⟩ := ih
      cases o with
      | none =>
        refine ⟨none, fun r hr => ?_⟩
        rcases List.mem_cons.1 hr with h | h
        · rw [h]; exact e
        · exact ho r h
      | some i =>
        obtain ⟨⟨r, h1, h2⟩, h3⟩ := ho
        refine ⟨some (i + 1), ⟨r, h1, h2⟩, fun j s hj hs => ?_⟩
        cases j with
        | zero =>
          simp only [List.getElem?_cons_zero, Option.some.injEq] at hs
          rw [← hs]; exact e
        | succ j => exact h3 j s (by omega) (by rwa [List.getElem?_cons_succ] at hs)
theorem RIn.get_none {w : World} {g : Nat} {D : DiskD} {vF : Value} {rs : List RRec} {n : Key} (h : RIn w g D vF rs) (ho : PlaceIs rs n none) : mget D.files n = none := by
  rw [← h.files, mget_none]
  intro hk
  obtain ⟨p, hp, rfl⟩ := List.mem_map.1 hk
  obtain ⟨r, hr, rfl⟩ := List.mem_map.1 hp
  exact ho r hr rfl
theorem RIn.get_some {w : World} {g : Nat} {D : DiskD} {vF : Value} {rs : List RRec} {n : Key} {i : Nat} (h : RIn w g D vF rs) (hok : DOk D) (ho : PlaceIs rs n (some i)) : ∃ r, rs[i]? = some r ∧ r.n = n ∧ mget D.files n = some r.f ∧ FOk r.f := by
  obtain ⟨⟨r, h1, h2⟩, _⟩ := ho
  obtain ⟨hf, hg⟩ := h.fok hok (List.mem_of_getElem? h1)
  exact ⟨r, h1, h2, by rw [← h2]; exact hg, hf⟩
/- ---------- who owns what ---------- -/
def RApart (rs : List RRec) : Prop := rs.Pairwise fun r s => ∀ k, r.v.ownBlock = some k → ¬ s.v.ownBlock = some k
structure RHas (g : Nat) (vF : Value) (rs : List RRec) (S : Nat → Prop) : Prop where
  apart : RApart rs
  g : S g
  vF : ∀ k, vF.ownBlock = some k → S k
  v : ∀ r ∈ rs, ∀ k, r.v.ownBlock = some k → S k
def RDisk (w : World) (g : Nat) (D : DiskD) (S : Nat → Prop) : Prop := ∃ vF rs, RIn w g D vF rs ∧ RHas g vF rs S
theorem RDisk.bel {w w' : World} {g : Nat} {D : DiskD} {S : Nat → Prop} (h : RDisk w g D S) (hb : Below w.heap.size w w') : RDisk w' g D S := by
  obtain ⟨vF, rs, h1, h2⟩ := h
  exact ⟨vF, rs, h1.bel hb, h2⟩
def RPost (g : Nat) (S : Nat → Prop) (w : World) (x : Int × DiskD) (e : Ending) (w' : World) : Prop := e = .returned (.int .i64 x.1) ∧ RDisk w' g x.2 (Ext S w w') ∧ Chg S w w'
theorem RPost.same {w w' : World} {g : Nat} {D : DiskD} {S : Nat → Prop} {x : Int × DiskD} (h : RDisk w g D S) (hb : Below w.heap.size w w') {i : Int} (he : x = (i, D)) : RPost g S w x (.returned (.int .i64 i)) w' := by
  obtain ⟨vF, rs, h1, h2⟩ := h
  subst he
  exact ⟨rfl, ⟨vF, rs, h1.bel hb, h2.apart, .inl h2.g, fun k hk => .inl (h2.vF k hk), fun r hr k hk => .inl (h2.v r hr k hk)⟩, Chg.of_below hb S⟩
theorem RPost.of {w w' : World} {g : Nat} {S : Nat → Prop} {D : DiskD} {vF : Value} {rs : List RRec} {x : Int × DiskD} (h : RIn w' g D vF rs) (hh : RHas g vF rs (Ext S w w')) (hC : Chg S w w') {i : Int} (he : x = (i, D)) : RPost g S w x (.returned (.int .i64 i)) w' := by
  subst he
  exact ⟨rfl, ⟨vF, rs, h, hh⟩, hC⟩
theorem RHas.ext {w w' : World} {g : Nat} {vF : Value} {rs : List RRec} {S : Nat → Prop} (h : RHas g vF rs S) : RHas g vF rs (Ext S w w') := ⟨h.apart, .inl h.g, fun k hk => .inl (h.vF k hk), fun r hr k hk => .inl (h.v r hr k hk)⟩
theorem RIn.rows_chg {w w' : World} {g : Nat} {D : DiskD} {vF : Value} {rs : List RRec} (h : RIn w g D vF rs) (hC : Chg (fun k => k = g) w w') : ∀ r ∈ rs, Row w' 132 2 r.v r.f.pend.length (r.f.pend.flatMap putCells) := fun r hr => (h.rows r hr).chg hC ((h.rows r hr).ne2 h.blk (by decide))
/-- a file more -/
theorem RIn.put {w w' : World} {g : Nat} {D : DiskD} {vF vo : Value} {rs : List RRec} {r : RRec} (h : RIn w g D vF rs) (hr : Row w 132 2 r.v r.f.pend.length (r.f.pend.flatMap putCells)) (hn : ∀ a ∈ rs, a.n ≠ r.n)
    (hB : Blk w' g 83 #[vo, .int .i64 D.limit, .int .i64 D.refused, .bool D.stops, .int .i64 D.left]) (hR : Row w' 92 3 vo (insR rs r).length ((insR rs r).flatMap RRec.cells)) (hC : Chg (fun k => k = g) w w') (u : Int) :
    RIn w' g { D with files := sput D.files r.n r.f, used := u } vo (insR rs r) :=
  ⟨hB, hR, by rw [insR_map hn, h.files], fun q hq => by
    rcases insR_mem hq with rfl | hq
    · exact hr.chg hC (hr.ne2 h.blk (by decide))
    · exact h.rows_chg hC q hq⟩
theorem insR_apart {rs : List RRec} {r : RRec} (h : RApart rs) (hr : ∀ a ∈ rs, ∀ k, a.v.ownBlock = some k → ¬ r.v.ownBlock = some k) : RApart (insR rs r) := by
  induction rs with
  | nil => exact List.pairwise_singleton _ _
  | cons a l ih =>
    have h1 := List.pairwise_cons.1 h
    unfold insR
    split
    · exact List.pairwise_cons.2 ⟨fun b hb k hk e => hr b hb k e hk, h⟩
    · refine List.pairwise_cons.2 ⟨fun b hb => ?_, ih h1.2 (fun b hb => hr b (List.mem_cons_of_mem _ hb))⟩
      rcases insR_mem hb with rfl | hb
      · exact hr a (List.mem_cons_self ..)
      · exact h1.1 b hb
/-- a file fewer -/
theorem RIn.del {w w' : World} {g : Nat} {D : DiskD} {vF vo : Value} {rs : List RRec} {r : RRec} {i : Nat} (h : RIn w g D vF rs) (hr : rs[i]? = some r) (hn : ∀ j s, j < i → rs[j]? = some s → s.n ≠ r.n)
    (hB : Blk w' g 83 #[vo, .int .i64 D.limit, .int .i64 D.refused, .bool D.stops, .int .i64 D.left]) (hR : Row w' 92 3 vo (delR rs i).length ((delR rs i).flatMap RRec.cells)) (hC : Chg (fun k => k = g) w w') (u : Int) :
    RIn w' g { D with files := mdel D.files r.n, used := u } vo (delR rs i) :=
  ⟨hB, hR, by rw [delR_map hr hn, h.files], fun q hq => h.rows_chg hC q (by
    rcases List.mem_append.1 hq with hq | hq
    · exact List.mem_of_mem_take hq
    · exact List.mem_of_mem_drop hq)⟩
theorem delR_mem {rs : List RRec} {i : Nat} {q : RRec} (h : q ∈ delR rs i) : q ∈ rs := by
  rcases List.mem_append.1 h with hq | hq
  · exact List.mem_of_mem_take hq
  · exact List.mem_of_mem_drop hq
theorem delR_sub (rs : List RRec) (i : Nat) : (delR rs i).Sublist rs := by
  unfold delR
  have h := (List.Sublist.refl (rs.take i)).append (List.drop_sublist_drop_left rs (Nat.le_succ i))
  rwa [List.take_append_drop] at h
end Go.Proofs.YtnijmegalgoipaaGreatDoor
