/- armariumref01: over, Bytes, place, Used, dead, New, Stop. -/
import Derived.Test.YtnijmegalgoipaaGreatDoorNameL
namespace Go.Proofs.YtnijmegalgoipaaGreatDoor
open Go.RowKit
/-- a file of the document's disk -/
structure RRec where
  n : Key
  f : FileD
  v : Value
def RRec.cells (r : RRec) : List Value := [str r.n, str r.f.last, r.v]
theorem RRec.cells_length (r : RRec) : r.cells.length = 3 := rfl
theorem rrec_len (rs : List RRec) : ∀ a ∈ rs, a.cells.length = 3 := fun a _ => a.cells_length
/-- the disk's cells and its files' -/
structure RIn (w : World) (g : Nat) (D : DiskD) (vF : Value) (rs : List RRec) : Prop where
  blk : Blk w g 83 #[vF, .int .i64 D.limit, .int .i64 D.refused, .bool D.stops, .int .i64 D.left]
  row : Row w 92 3 vF rs.length (rs.flatMap RRec.cells)
  files : rs.map (fun r => (r.n, r.f)) = D.files
  rows : ∀ r ∈ rs, Row w 132 2 r.v r.f.pend.length (r.f.pend.flatMap putCells)
theorem RIn.bel {w w' : World} {g : Nat} {D : DiskD} {vF : Value} {rs : List RRec} (h : RIn w g D vF rs) (hb : Below w.heap.size w w') : RIn w' g D vF rs :=
  ⟨h.blk.bel hb, h.row.bel hb, h.files, fun r hr => (h.rows r hr).bel hb⟩
/- ---------- plain ---------- -/
theorem putsOk_at : ∀ (l : List (Nat × List UInt8)) (s : List UInt8) (j : Nat) (p : Nat × List UInt8), PutsOk s.length l → l[j]? = some p → p.1 ≤ (bytesM s (l.take j)).length ∧ p.2 ≠ []
  | [], _, _, _, _, h => by simp at h
  | q :: l, s, 0, p, hp, h => by
    simp only [List.getElem?_cons_zero, Option.some.injEq] at h
    subst h
    exact ⟨hp.1, hp.2.1⟩
  | q :: l, s, j + 1, p, hp, h => by
    rw [List.getElem?_cons_succ] at h
    have h1 := overM_length (l := s) (d := q.2) hp.1
    exact putsOk_at l (overM s q.1 q.2) j p (by rw [h1]; exact hp.2.2) h
theorem bytesM_take_le : ∀ (l : List (Nat × List UInt8)) (s : List UInt8) (j : Nat), PutsOk s.length l → (bytesM s (l.take j)).length ≤ (bytesM s l).length
  | l, s, 0, hp => by rw [List.take_zero]; exact bytesM_len l s hp
  | [], s, j + 1, _ => by simp
  | q :: l, s, j + 1, hp => by
    have h1 := overM_length (l := s) (d := q.2) hp.1
    rw [List.take_succ_cons]
    exact bytesM_take_le l (overM s q.1 q.2) j (by rw [h1]; exact hp.2.2)
theorem bytesM_next {l : List (Nat × List UInt8)} {s : List UInt8} {j : Nat} {p : Nat × List UInt8} (h : l[j]? = some p) : bytesM s (l.take (j + 1)) = overM (bytesM s (l.take j)) p.1 p.2 := by
  rw [take_next' h, bytesM_snoc]
/- ---------- over, Bytes ---------- -/
theorem overR_any (s : List UInt8) (p : Nat × List UInt8) (w : World) (hp : p.1 ≤ s.length) (hs : s.length ≤ 1099511627776) (hd : p.2.length ≤ 1099511627776) : Calls Tryz.prog 84 #[str s, .agg #[.int .i64 p.1, str p.2]] w fun e w' => e = .returned (str (overM s p.1 p.2)) ∧ Below w.heap.size w w' := by
  have htl : (s.take p.1).length = p.1 := by rw [List.length_take]; omega
  unfold overM
  refine W_enter (args := [str s, .agg #[.int .i64 p.1, str p.2]]) 33 Tryz.func84 rfl rfl rfl ?_
  refine W_sub [(0, str s), (1, .agg #[.int .i64 p.1, str p.2])] ?_ ⟨rfl, rfl, trivial⟩
  have hbw := Below.refl w.heap.size w
  refine W_rs ?_
  refine sboxA rfl rfl (fun g3 w1 hB3 hg3 hb hl3 => ?_)
  replace hbw := bthen hbw hb
  have hz_w1 := hb.size
  clear hb
  refine sa rfl rfl ?_
  refine Wn ?_
  refine tN ?_
  refine W_drsN (fun W_ => Blk W_ g3 132 #[.int .i64 p.1, str p.2]) [0, 1, 2, 3, 4, 5, 6, 7] [true, true, true, true, true, true, true, true] (by kernel_rfl) (by kernel_rfl) (hB3.bel (bdrew (Below.refl _ _))) ?_
  obtain ⟨w2, hw_⟩ : ∃ w2 : World, w2 = World.drew w1 := ⟨_, rfl⟩
  rw [← hw_]
  have hb : Below w1.heap.size w1 w2 := by rw [hw_]; exact bdrew (Below.refl _ _)
  clear hw_
  have hS := hb
  replace hbw := bthen hbw hb
  replace hB3 := hB3.bel hb
  have hz_w2 := hb.size
  clear hb
  refine oY rfl (fun W_ hW_ => (X.move rfl)) rfl ?_
  refine oY rfl (fun W_ hW_ => (X.fa fa132_0 rfl)) rfl ?_
  refine oY rfl (fun W_ hW_ => (X.ldL rfl hW_ Tryz.underlying3 rfl rfl)) rfl ?_
  refine oY rfl (fun W_ hW_ => (X.toS rfl rfl Tryz.underlying9 rfl (by omega))) rfl ?_
  refine oY rfl (fun W_ hW_ => (X.fa fa132_1 rfl)) rfl ?_
  refine oY rfl (fun W_ hW_ => (X.ldL rfl hW_ Tryz.underlying9 rfl rfl)) rfl ?_
  refine oY rfl (fun W_ hW_ => (X.cat rfl rfl (by omega))) rfl ?_
  refine oY rfl (fun W_ hW_ => (X.assign rfl)) rfl ?_
  refine oN ?_
  refine nN ?_
  refine W_seq ?_
  refine W_rs ?_
  refine st (X.fa fa132_0 rfl) rfl ?_
  refine st (X.ldL rfl hB3 Tryz.underlying3 rfl rfl) rfl ?_
  refine st (X.fa fa132_1 rfl) rfl ?_
  refine st (X.ldL rfl hB3 Tryz.underlying9 rfl rfl) rfl ?_
  refine st (X.lenS rfl rfl Tryz.underlying9) rfl ?_
  refine st (X.add64 rfl rfl (by omega)) rfl ?_
  refine sm rfl rfl ?_
  refine st (X.lenS rfl rfl Tryz.underlying9) rfl ?_
  refine st (X.lss rfl rfl) rfl ?_
  refine Wn ?_
  refine tN ?_
  refine W_if rfl (fun h21 => ?_) (fun h21 => ?_)
  · first | replace h21 := of_decide_eq_true h21 | replace h21 := of_decide_eq_false (notT h21) | replace h21 := notT h21 | skip
    refine W_reg ?_
    refine sm rfl rfl ?_
    refine sm rfl rfl ?_
    refine st (X.fa fa132_0 rfl) rfl ?_
    refine st (X.ldL rfl hB3 Tryz.underlying3 rfl rfl) rfl ?_
    refine st (X.fa fa132_1 rfl) rfl ?_
    refine st (X.ldL rfl hB3 Tryz.underlying9 rfl rfl) rfl ?_
    refine st (X.lenS rfl rfl Tryz.underlying9) rfl ?_
    refine st (X.add64 rfl rfl (by omega)) rfl ?_
    refine st (X.fromS (i := p.1 + p.2.length) rfl rfl Tryz.underlying9 (by omega) (by omega)) rfl ?_
    have hdl := List.length_drop (i := p.1 + p.2.length) (l := s)
    have hcl : (s.take p.1 ++ p.2).length = p.1 + p.2.length := by rw [List.length_append, htl]
    refine st (X.cat rfl rfl (by omega)) rfl ?_
    refine sa rfl rfl ?_
    refine Wn ?_
    refine tN ?_
    refine W_rs ?_
    refine sm rfl rfl ?_
    refine sa rfl rfl ?_
    refine Wn ?_
    refine tN ?_
    refine W_ret ?_
    exact (rT rfl rfl ⟨rfl, hbw⟩).1
  · first | replace h21 := of_decide_eq_false h21 | replace h21 := of_decide_eq_true (notF h21) | replace h21 := notF h21 | skip
    refine W_skip ?_
    refine tN ?_
    refine W_rs ?_
    refine sm rfl rfl ?_
    refine sa rfl rfl ?_
    refine Wn ?_
    refine tN ?_
    refine W_ret ?_
    rw [List.drop_of_length_le (by omega), List.append_nil]
    exact (rT rfl rfl ⟨rfl, hbw⟩).1
theorem Bytes_any (r : RRec) (w : World) (hR : Reads w 2 r.v r.f.pend.length (r.f.pend.flatMap putCells)) (hok : PutsOk r.f.last.length r.f.pend) (hb_ : (bytesM r.f.last r.f.pend).length ≤ 16777216) (hpl : ∀ p ∈ r.f.pend, p.2.length ≤ 1099511627776) :
    Calls Tryz.prog 62 #[.agg r.cells.toArray] w fun e w' => e = .returned (str (bytesM r.f.last r.f.pend)) ∧ Below w.heap.size w w' := by
  obtain ⟨n, f, v⟩ := r
  simp only at hR hok hb_ hpl ⊢
  obtain ⟨a, c, rfl, hc1, hc2⟩ := hR.shape
  have hnn := hR.nle
  refine W_enter (args := [.agg #[str n, str f.last, .slice a f.pend.length c]]) 22 Tryz.func62 rfl rfl rfl ?_
  refine W_sub [(0, .agg #[str n, str f.last, .slice a f.pend.length c])] ?_ ⟨rfl, trivial⟩
  have hbw := Below.refl w.heap.size w
  refine W_rs ?_
  refine sboxA rfl rfl (fun g1 w1 hB1 hg1 hb hl1 => ?_)
  replace hbw := bthen hbw hb
  have hz_w1 := hb.size
  clear hb
  refine sa rfl rfl ?_
  refine Wn ?_
  refine tN ?_
  refine W_rs ?_
  refine st (X.fa fa92_1 rfl) rfl ?_
  refine st (X.ldL rfl hB1 Tryz.underlying9 rfl rfl) rfl ?_
  refine sa rfl rfl ?_
  refine Wn ?_
  refine tN ?_
  refine W_seq ?_
  refine W_rs ?_
  refine sa rfl rfl ?_
  refine Wn ?_
  refine tN ?_
  refine W_block ?_
  refine W_lp (fun nw2_ lw2_ w2 => ∃ j : Nat, nw2_ = f.pend.length - j ∧ lw2_ = ([(1, .pointer (some ⟨g1, 0, none⟩)), (3, str (bytesM f.last (f.pend.take j))), (4, .int .i64 j)] : Env) ∧ (Blk w2 g1 92 #[str n, str f.last, .slice a f.pend.length c]) ∧ (j ≤ f.pend.length) ∧ (Below w.heap.size w w2)) _ ⟨_, ⟨0, rfl, rfl, hB1, by omega, hbw⟩, ⟨rfl, rfl, rfl, trivial⟩⟩ ?_
  clear hB1 hbw
  rintro nw2_ lw2_ w2 ⟨j, rfl, rfl, hB1, hj, hbw⟩
  have hz_w2 := hbw.size
  have hlt_hB1_w2 := hB1.lt
  refine W_seq ?_
  refine W_rs ?_
  refine sm rfl rfl ?_
  refine st (X.fa fa92_2 rfl) rfl ?_
  refine st (X.ldL rfl hB1 Tryz.underlying90 rfl rfl) rfl ?_
  refine st (X.lenL rfl rfl Tryz.underlying90) rfl ?_
  refine st (X.lss rfl rfl) rfl ?_
  refine Wn ?_
  refine tN ?_
  refine W_if rfl (fun h11 => ?_) (fun h11 => ?_)
  · first | replace h11 := of_decide_eq_true h11 | replace h11 := of_decide_eq_false (notT h11) | replace h11 := notT h11 | skip
    obtain ⟨p, hp⟩ : ∃ p, f.pend[j]? = some p := ⟨_, List.getElem?_eq_getElem (by omega)⟩
    obtain ⟨gp, op, c', hv, hgp⟩ := hR.some_ (by omega)
    injection hv with e1 _ e3
    subst e1 e3
    have hpo := putsOk_at _ _ _ _ hok hp
    have hle := bytesM_take_le _ _ j hok
    refine W_skip ?_
    refine tN ?_
    refine W_seq ?_
    refine W_block ?_
    refine W_reg ?_
    refine sm rfl rfl ?_
    refine st (X.fa fa92_2 rfl) rfl ?_
    refine st (X.ldL rfl hB1 Tryz.underlying90 rfl rfl) rfl ?_
    refine sm rfl rfl ?_
    refine st (X.idxA rfl rfl Tryz.underlying90 siz132 rfl (by omega)) rfl ?_
    refine st (X.ldN (cs := putCells p) rfl Tryz.underlying132 rfl siz132 ((hR.bel hbw).rec_ (f := putCells) (fun a _ => putCells_length a) hp)) rfl ?_
    refine sc _ Tryz.func84 rfl (by kernel_rfl) rfl rfl ((overR_any (bytesM f.last (f.pend.take j)) p _ hpo.1 (by omega) (hpl p (List.mem_of_getElem? hp))).mono ?_)
    rintro e_ w3 ⟨rfl, hb⟩
    refine cR ?_
    replace hbw := bthen hbw hb
    replace hB1 := hB1.bel hb
    have hz_w3 := hb.size
    clear hb
    refine sa rfl rfl ?_
    refine Wn ?_
    refine bN ?_
    refine tN ?_
    refine W_reg ?_
    refine sm rfl rfl ?_
    refine st (X.add64 rfl rfl (by omega)) rfl ?_
    refine sa rfl rfl ?_
    refine Wn ?_
    refine tN ⟨_, _, ?_, ⟨j + 1, rfl, rfl, hB1, by omega, hbw⟩, ⟨rfl, by rw [bytesM_next hp]; rfl, rfl, trivial⟩⟩
    omega
  · first | replace h11 := of_decide_eq_false h11 | replace h11 := of_decide_eq_true (notF h11) | replace h11 := notF h11 | skip
    refine W_exit (tE (tE (bH ?_)))
    refine tN ?_
    refine W_rs ?_
    refine sm rfl rfl ?_
    refine sa rfl rfl ?_
    refine Wn ?_
    refine tN ?_
    refine W_ret ?_
    obtain rfl : j = f.pend.length := by omega
    rw [List.take_length]
    exact (rT rfl rfl ⟨rfl, hbw⟩).1
/- ---------- place ---------- -/
def PlaceIs (rs : List RRec) (n : Key) : Option Nat → Prop
  | none => ∀ r ∈ rs, r.n ≠ n
  | some i => (∃ r, rs[i]? = some r ∧ r.n = n) ∧ ∀ j s, j < i → rs[j]? = some s → s.n ≠ n
def placeV : Option Nat → Int
  | none => -1
  | some i => i
theorem PlaceIs.at_ {rs : List RRec} {n : Key} {o : Option Nat} (h : PlaceIs rs n o) {i : Nat} {r : RRec} (hr : rs[i]? = some r) (hn : r.n = n) (hi : ∀ j s, j < i → rs[j]? = some s → s.n ≠ n) : o = some i := by
  cases o with
  | none => exact absurd hn (h r (List.mem_of_getElem? hr))
  | some k =>
    obtain ⟨⟨s, hs, hsn⟩, hm⟩ := h
    rcases Nat.lt_trichotomy k i with e | e | e
    · exact absurd hsn (hi k s e hs)
    · rw [e]
    · exact absurd hn (hm i r e hr)
theorem PlaceIs.out {rs : List RRec} {n : Key} {o : Option Nat} (h : PlaceIs rs n o) (hi : ∀ j s, j < rs.length → rs[j]? = some s → s.n ≠ n) : o = none := by
  cases o with
  | none => rfl
  | some k =>
    obtain ⟨⟨s, hs, hsn⟩, hm⟩ := h
    exact absurd hsn (hi k s (List.getElem?_eq_some_iff.1 hs).1 hs)
set_option maxRecDepth 10000 in
theorem place_any (g : Nat) (D : DiskD) (vF : Value) (rs : List RRec) (n : Key) (o : Option Nat) (w : World) (h : RIn w g D vF rs) (ho : PlaceIs rs n o) :
    Calls Tryz.prog 95 #[.pointer (some ⟨g, 0, none⟩), str n] w fun e w' => e = .returned (.int .i64 (placeV o)) ∧ w = w' := by
  have hB := h.blk
  have hR := h.row.reads
  obtain ⟨a, c, rfl, hc1, hc2⟩ := hR.shape
  have hnn := hR.nle
  clear h
  refine W_enter (args := [.pointer (some ⟨g, 0, none⟩), str n]) 26 Tryz.func95 rfl rfl rfl ?_
  refine W_sub [(0, .pointer (some ⟨g, 0, none⟩)), (1, str n)] ?_ ⟨rfl, rfl, trivial⟩
  refine W_rs ?_
  refine sa rfl rfl ?_
  refine Wn ?_
  refine tN ?_
  refine W_seq ?_
  refine W_rs ?_
  refine sa rfl rfl ?_
  refine Wn ?_
  refine tN ?_
  refine W_block ?_
  refine W_lp (fun nw1_ lw1_ w1 => ∃ i : Nat, nw1_ = rs.length - i ∧ lw1_ = ([(0, .pointer (some ⟨g, 0, none⟩)), (1, str n), (5, .int .i64 i)] : Env) ∧ (w1 = w) ∧ (i ≤ rs.length) ∧ (∀ j s, j < i → rs[j]? = some s → s.n ≠ n)) _ ⟨_, ⟨0, rfl, rfl, rfl, by omega, (fun j s hj => by omega)⟩, ⟨rfl, rfl, rfl, trivial⟩⟩ ?_
  rintro nw1_ lw1_ w1 ⟨i, rfl, rfl, hw, hi, hne⟩
  have hlt_hB_w1 := hB.lt
  subst hw
  refine W_seq ?_
  refine W_rs ?_
  refine sm rfl rfl ?_
  refine sm rfl rfl ?_
  refine st (X.nilChk rfl) rfl ?_
  refine st (X.fa fa83_0 rfl) rfl ?_
  refine st (X.ldL rfl hB Tryz.underlying81 rfl rfl) rfl ?_
  refine st (X.lenL rfl rfl Tryz.underlying81) rfl ?_
  refine st (X.lss rfl rfl) rfl ?_
  refine Wn ?_
  refine tN ?_
  refine W_if rfl (fun h12 => ?_) (fun h12 => ?_)
  · first | replace h12 := of_decide_eq_true h12 | replace h12 := of_decide_eq_false (notT h12) | replace h12 := notT h12 | skip
    obtain ⟨x, hx⟩ : ∃ x, rs[i]? = some x := ⟨_, List.getElem?_eq_getElem (by omega)⟩
    obtain ⟨gF, oF, c', hv, hgF⟩ := hR.some_ (by omega)
    injection hv with e1 _ e3
    subst e1 e3
    have hrec := hR.rec_ (f := RRec.cells) (rrec_len rs) hx
    refine W_skip ?_
    refine tN ?_
    refine W_seq ?_
    refine W_block ?_
    refine W_rs ?_
    refine sm rfl rfl ?_
    refine st (X.nilChk rfl) rfl ?_
    refine st (X.fa fa83_0 rfl) rfl ?_
    refine st (X.ldL rfl hB Tryz.underlying81 rfl rfl) rfl ?_
    refine sm rfl rfl ?_
    refine st (X.idxA rfl rfl Tryz.underlying81 siz92 rfl (by omega)) rfl ?_
    refine st (X.fa fa92_0 rfl) rfl ?_
    refine st (X.ld rfl Tryz.underlying9 rfl (hrec 0 _ rfl)) rfl ?_
    refine sm rfl rfl ?_
    refine st (X.eqS rfl rfl) rfl ?_
    refine Wn ?_
    refine tN ?_
    refine W_if rfl (fun h24 => ?_) (fun h24 => ?_)
    · first | replace h24 := of_decide_eq_true h24 | replace h24 := of_decide_eq_false (notT h24) | replace h24 := notT h24 | skip
      obtain rfl := ho.at_ hx h24 hne
      refine W_rs ?_
      refine sm rfl rfl ?_
      refine sa rfl rfl ?_
      refine Wn ?_
      refine tN ?_
      refine W_ret (bR (tR (tR (bR (tR ?_)))))
      exact (rT rfl rfl ⟨rfl, rfl⟩).1
    · first | replace h24 := of_decide_eq_false h24 | replace h24 := of_decide_eq_true (notF h24) | replace h24 := notF h24 | skip
      refine W_skip ?_
      refine bN ?_
      refine tN ?_
      refine W_reg ?_
      refine sm rfl rfl ?_
      refine st (X.add64 rfl rfl (by omega)) rfl ?_
      refine sa rfl rfl ?_
      refine Wn ?_
      refine tN ⟨_, _, ?_, ⟨i + 1, rfl, rfl, rfl, by omega, (fun j s hj hs => by rcases Nat.lt_or_ge j i with e | e; exact hne j s e hs; obtain rfl : j = i := (by omega); rw [hx] at hs; injection hs with hs; rw [← hs]; exact h24)⟩, ⟨rfl, rfl, rfl, trivial⟩⟩
      omega
  · first | replace h12 := of_decide_eq_false h12 | replace h12 := of_decide_eq_true (notF h12) | replace h12 := notF h12 | skip
    refine W_exit (tE (tE (bH ?_)))
    refine tN ?_
    refine W_rs ?_
    refine sa rfl rfl ?_
    refine Wn ?_
    refine tN ?_
    refine W_ret ?_
    obtain rfl : i = rs.length := by omega
    obtain rfl := ho.out hne
    exact (rT rfl rfl ⟨rfl, rfl⟩).1
/- ---------- Used ---------- -/
theorem RIn.fok {w : World} {g : Nat} {D : DiskD} {vF : Value} {rs : List RRec} (h : RIn w g D vF rs) (hok : DOk D) {r : RRec} (hr : r ∈ rs) : FOk r.f ∧ mget D.files r.n = some r.f := by
  have hm : (r.n, r.f) ∈ D.files := by rw [← h.files]; exact List.mem_map.2 ⟨r, hr, rfl⟩
  have hg := mget_of_mem hok.srt.nodup hm
  exact ⟨hok.fok _ _ hg, hg⟩
theorem pend_mem_le {l : List (Nat × List UInt8)} {p : Nat × List UInt8} (h : p ∈ l) : p.2.length ≤ pendLen l := by
  induction l with
  | nil => cases h
  | cons q l ih =>
    unfold pendLen
    rcases List.mem_cons.1 h with h | h
    · subst h; omega
    · have := ih h; omega
/-- the bytes of a file of the disk -/
theorem BytesOf_any {g : Nat} {D : DiskD} {vF : Value} {rs : List RRec} {r : RRec} {w : World} (h : RIn w g D vF rs) (hok : DOk D) (hbud : DBud D) (hr : r ∈ rs) :
    Calls Tryz.prog 62 #[.agg r.cells.toArray] w fun e w' => e = .returned (str r.f.now) ∧ Below w.heap.size w w' := by
  obtain ⟨hf, hg⟩ := h.fok hok hr
  have hl := (hok.len hg).1
  have hp := (hbud.pend _ _ hg).1
  have := Bytes_any r w (h.rows r hr).reads hf.puts (by rw [← hf.now]; exact hl) (fun p hp' => Nat.le_trans (pend_mem_le hp') hp)
  rwa [← hf.now] at this
theorem usedM_take {l : List (Key × FileD)} {j : Nat} {p : Key × FileD} (h : l[j]? = some p) : usedM (l.take (j + 1)) = usedM (l.take j) + p.2.now.length := by
  rw [take_next' h, usedM_append]
  simp [usedM]
theorem usedM_take_le (l : List (Key × FileD)) (j : Nat) : usedM (l.take j) ≤ usedM l := by
  have := usedM_append (l.take j) (l.drop j)
  rw [List.take_append_drop] at this
  omega
theorem RIn.file {w : World} {g : Nat} {D : DiskD} {vF : Value} {rs : List RRec} (h : RIn w g D vF rs) {j : Nat} {r : RRec} (hr : rs[j]? = some r) : D.files[j]? = some (r.n, r.f) := by
  rw [← h.files, List.getElem?_map, hr]
  rfl
theorem RIn.len {w : World} {g : Nat} {D : DiskD} {vF : Value} {rs : List RRec} (h : RIn w g D vF rs) : rs.length = D.files.length := by
  rw [← h.files, List.length_map]
theorem RUsed_any (g : Nat) (D : DiskD) (vF : Value) (rs : List RRec) (w : World) (h : RIn w g D vF rs) (hok : DOk D) (hbud : DBud D) :
    Calls Tryz.prog 40 #[.pointer (some ⟨g, 0, none⟩)] w fun e w' => e = .returned (.int .i64 D.used) ∧ Below w.heap.size w w' := by
  have hB := h.blk
  obtain ⟨a, c, rfl, hc1, hc2⟩ := h.row.shape
  have hnn := h.row.nle
  have hum : usedM D.files ≤ 16777216 := by have := hok.used; have := hok.room; have := hok.lim; omega
  refine W_enter (args := [.pointer (some ⟨g, 0, none⟩)]) 26 Tryz.func40 rfl rfl rfl ?_
  refine W_sub [(0, .pointer (some ⟨g, 0, none⟩))] ?_ ⟨rfl, trivial⟩
  have hbw := Below.refl w.heap.size w
  refine W_rs ?_
  refine sa rfl rfl ?_
  refine Wn ?_
  refine tN ?_
  refine W_rs ?_
  refine sa rfl rfl ?_
  refine Wn ?_
  refine tN ?_
  refine W_seq ?_
  refine W_rs ?_
  refine sa rfl rfl ?_
  refine Wn ?_
  refine tN ?_
  refine W_block ?_
  refine W_lp (fun nw1_ lw1_ w1 => ∃ i : Nat, nw1_ = rs.length - i ∧ lw1_ = ([(0, .pointer (some ⟨g, 0, none⟩)), (3, .int .i64 (usedM (D.files.take i))), (4, .int .i64 i)] : Env) ∧ (Blk w1 g 83 #[.slice a rs.length c, .int .i64 D.limit, .int .i64 D.refused, .bool D.stops, .int .i64 D.left]) ∧ (i ≤ rs.length) ∧ (Below w.heap.size w w1)) _ ⟨_, ⟨0, rfl, rfl, hB, by omega, hbw⟩, ⟨rfl, rfl, rfl, trivial⟩⟩ ?_
  clear hB hbw
  rintro nw1_ lw1_ w1 ⟨i, rfl, rfl, hB, hi, hbw⟩
  have hz_w1 := hbw.size
  have hlt_hB_w1 := hB.lt
  have hut := usedM_take_le D.files i
  refine W_seq ?_
  refine W_rs ?_
  refine sm rfl rfl ?_
  refine sm rfl rfl ?_
  refine st (X.nilChk rfl) rfl ?_
  refine st (X.fa fa83_0 rfl) rfl ?_
  refine st (X.ldL rfl hB Tryz.underlying81 rfl rfl) rfl ?_
  refine st (X.lenL rfl rfl Tryz.underlying81) rfl ?_
  refine st (X.lss rfl rfl) rfl ?_
  refine Wn ?_
  refine tN ?_
  refine W_if rfl (fun h11 => ?_) (fun h11 => ?_)
  · first | replace h11 := of_decide_eq_true h11 | replace h11 := of_decide_eq_false (notT h11) | replace h11 := notT h11 | skip
    obtain ⟨x, hx⟩ : ∃ x, rs[i]? = some x := ⟨_, List.getElem?_eq_getElem (by omega)⟩
    obtain ⟨gF, oF, c', hv, hgF⟩ := h.row.reads.some_ (by omega)
    injection hv with e1 _ e3
    subst e1 e3
    have hxl := (hok.len (h.fok hok (List.mem_of_getElem? hx)).2).1
    refine W_skip ?_
    refine tN ?_
    refine W_seq ?_
    refine W_block ?_
    refine W_reg ?_
    refine sm rfl rfl ?_
    refine sm rfl rfl ?_
    refine st (X.nilChk rfl) rfl ?_
    refine st (X.fa fa83_0 rfl) rfl ?_
    refine st (X.ldL rfl hB Tryz.underlying81 rfl rfl) rfl ?_
    refine sm rfl rfl ?_
    refine st (X.idxA rfl rfl Tryz.underlying81 siz92 rfl (by omega)) rfl ?_
    refine st (X.ldN (cs := x.cells) rfl Tryz.underlying92 rfl siz92 ((h.bel hbw).row.reads.rec_ (f := RRec.cells) (rrec_len rs) hx)) rfl ?_
    refine sc _ Tryz.func62 rfl (by kernel_rfl) rfl rfl ((BytesOf_any (h.bel hbw) hok hbud (List.mem_of_getElem? hx)).mono ?_)
    rintro e_ w2 ⟨rfl, hb⟩
    refine cR ?_
    replace hbw := bthen hbw hb
    replace hB := hB.bel hb
    have hz_w2 := hb.size
    clear hb
    refine st (X.lenS rfl rfl Tryz.underlying9) rfl ?_
    refine st (X.add64 rfl rfl (by omega)) rfl ?_
    refine sa rfl rfl ?_
    refine Wn ?_
    refine bN ?_
    refine tN ?_
    refine W_reg ?_
    refine sm rfl rfl ?_
    refine st (X.add64 rfl rfl (by omega)) rfl ?_
    refine sa rfl rfl ?_
    refine Wn ?_
    refine tN ⟨_, _, ?_, ⟨i + 1, rfl, rfl, hB, by omega, hbw⟩, ⟨rfl, by rw [usedM_take (h.file hx), Int.natCast_add]; rfl, rfl, trivial⟩⟩
    omega
  · first | replace h11 := of_decide_eq_false h11 | replace h11 := of_decide_eq_true (notF h11) | replace h11 := notF h11 | skip
    refine W_exit (tE (tE (bH ?_)))
    refine tN ?_
    refine W_rs ?_
    refine sm rfl rfl ?_
    refine sa rfl rfl ?_
    refine Wn ?_
    refine tN ?_
    refine W_ret ?_
    obtain rfl : i = rs.length := by omega
    have hu := hok.used
    rw [h.len, List.take_length, ← hu]
    exact (rT rfl rfl ⟨rfl, hbw⟩).1
/- ---------- dead ---------- -/
theorem RIn.tick {w w' : World} {g : Nat} {D : DiskD} {vF : Value} {rs : List RRec} (h : RIn w g D vF rs) (hC : Chg (fun k => k = g) w w') (hB : Blk w' g 83 #[vF, .int .i64 D.limit, .int .i64 D.refused, .bool (tickM D).stops, .int .i64 (tickM D).left]) : RIn w' g (tickM D) vF rs := by
  have e1 : (tickM D).limit = D.limit := by unfold tickM; split <;> rfl
  have e2 : (tickM D).refused = D.refused := by unfold tickM; split <;> rfl
  refine ⟨by rw [e1, e2]; exact hB, h.row.chg hC (h.row.ne2 h.blk (by decide)), by rw [tick_files]; exact h.files, fun r hr => (h.rows r hr).chg hC ((h.rows r hr).ne2 h.blk (by decide))⟩
theorem dead_yes (g : Nat) (D : DiskD) (vF : Value) (rs : List RRec) (w : World) (h : RIn w g D vF rs) (hl : D.stops = true ∧ D.left = 0) : Calls Tryz.prog 93 #[.pointer (some ⟨g, 0, none⟩)] w fun e w' => e = .returned (.bool true) ∧ w = w' := by
  have hB := h.blk
  refine W_enter (args := [.pointer (some ⟨g, 0, none⟩)]) 21 Tryz.func93 rfl rfl rfl ?_
  refine W_sub [(0, .pointer (some ⟨g, 0, none⟩))] ?_ ⟨rfl, trivial⟩
  refine W_rs ?_
  refine sa rfl rfl ?_
  refine Wn ?_
  refine tN ?_
  refine W_seq ?_
  refine W_rs ?_
  refine sm rfl rfl ?_
  refine st (X.nilChk rfl) rfl ?_
  refine st (X.fa fa83_3 rfl) rfl ?_
  refine st (X.ldL rfl hB Tryz.underlying4 rfl rfl) rfl ?_
  refine st (X.not rfl) rfl ?_
  refine Wn ?_
  refine tN ?_
  refine W_no rfl (by rw [hl.1]; rfl) ?_
  refine W_skip ?_
  refine tN ?_
  refine W_seq ?_
  refine W_rs ?_
  refine sm rfl rfl ?_
  refine st (X.nilChk rfl) rfl ?_
  refine st (X.fa fa83_4 rfl) rfl ?_
  refine st (X.ldL rfl hB Tryz.underlying3 rfl rfl) rfl ?_
  refine st (X.eql rfl rfl) rfl ?_
  refine Wn ?_
  refine tN ?_
  refine W_yes rfl (decide_eq_true hl.2) ?_
  refine W_rs ?_
  refine sa rfl rfl ?_
  refine Wn ?_
  refine tN ?_
  refine W_ret (tR ?_)
  exact (rT rfl rfl ⟨rfl, rfl⟩).1
theorem dead_no (g : Nat) (D : DiskD) (vF : Value) (rs : List RRec) (w : World) (h : RIn w g D vF rs) (hok : DOk D) (hl : ¬ (D.stops = true ∧ D.left = 0)) : Calls Tryz.prog 93 #[.pointer (some ⟨g, 0, none⟩)] w fun e w' => e = .returned (.bool false) ∧ RIn w' g (tickM D) vF rs ∧ Chg (fun k => k = g) w w' := by
  have hB := h.blk
  cases hs : D.stops with
  | false =>
    rw [hs] at hB
    have ht : tickM D = D := by unfold tickM; rw [if_neg (by simp [hs])]
    rw [ht]
    refine W_enter (args := [.pointer (some ⟨g, 0, none⟩)]) 21 Tryz.func93 rfl rfl rfl ?_
    refine W_sub [(0, .pointer (some ⟨g, 0, none⟩))] ?_ ⟨rfl, trivial⟩
    have hcw := Chg.refl (fun k => k = g) w
    refine W_rs ?_
    refine sa rfl rfl ?_
    refine Wn ?_
    refine tN ?_
    refine W_seq ?_
    refine W_rs ?_
    refine sm rfl rfl ?_
    refine st (X.nilChk rfl) rfl ?_
    refine st (X.fa fa83_3 rfl) rfl ?_
    refine st (X.ldL rfl hB Tryz.underlying4 rfl rfl) rfl ?_
    refine st (X.not rfl) rfl ?_
    refine Wn ?_
    refine tN ?_
    refine W_yes rfl (rfl) ?_
    refine W_rs ?_
    refine sa rfl rfl ?_
    refine Wn ?_
    refine tN ?_
    refine W_ret (tR ?_)
    exact (rT rfl rfl ⟨rfl, h, hcw⟩).1
  | true =>
    have hl0 : D.left ≠ 0 := fun e => hl ⟨hs, e⟩
    have hst := hok.stp hs
    have ht : tickM D = { D with left := D.left - 1 } := by unfold tickM; rw [if_pos hs]
    rw [hs] at hB
    have hlt := hB.lt
    refine W_enter (args := [.pointer (some ⟨g, 0, none⟩)]) 21 Tryz.func93 rfl rfl rfl ?_
    refine W_sub [(0, .pointer (some ⟨g, 0, none⟩))] ?_ ⟨rfl, trivial⟩
    have hcw := Chg.refl (fun k => k = g) w
    refine W_rs ?_
    refine sa rfl rfl ?_
    refine Wn ?_
    refine tN ?_
    refine W_seq ?_
    refine W_rs ?_
    refine sm rfl rfl ?_
    refine st (X.nilChk rfl) rfl ?_
    refine st (X.fa fa83_3 rfl) rfl ?_
    refine st (X.ldL rfl hB Tryz.underlying4 rfl rfl) rfl ?_
    refine st (X.not rfl) rfl ?_
    refine Wn ?_
    refine tN ?_
    refine W_no rfl (rfl) ?_
    refine W_skip ?_
    refine tN ?_
    refine W_seq ?_
    refine W_rs ?_
    refine sm rfl rfl ?_
    refine st (X.nilChk rfl) rfl ?_
    refine st (X.fa fa83_4 rfl) rfl ?_
    refine st (X.ldL rfl hB Tryz.underlying3 rfl rfl) rfl ?_
    refine st (X.eql rfl rfl) rfl ?_
    refine Wn ?_
    refine tN ?_
    refine W_no rfl (decide_eq_false hl0) ?_
    refine W_skip ?_
    refine tN ?_
    refine W_rs ?_
    refine sm rfl rfl ?_
    refine sm rfl rfl ?_
    refine st (X.nilChk rfl) rfl ?_
    refine st (X.fa fa83_4 rfl) rfl ?_
    refine st (X.ldL rfl hB Tryz.underlying3 rfl rfl) rfl ?_
    refine st (X.sub64 rfl rfl (by omega)) rfl ?_
    refine st (X.nilChk rfl) rfl ?_
    refine st (X.fa fa83_4 rfl) rfl ?_
    refine ssB rfl rfl hB siz3 rfl (by first | decide | simp) (fun w1 hB_ hc_ => ?_)
    replace hB := hB_
    clear hB_
    replace hcw := hcw.next hc_ (fun i_ hi_ => by first | exact .inl hi_ | exact .inl (.inl hi_) | (right; subst hi_; omega) | (left; subst hi_; show _ ≤ _; omega) | (left; subst hi_; assumption))
    have hz_w1 := hc_.size
    clear hc_
    refine Wn ?_
    refine tN ?_
    refine W_rs ?_
    refine sa rfl rfl ?_
    refine Wn ?_
    refine tN ?_
    refine W_ret ?_
    exact (rT rfl rfl ⟨rfl, h.tick hcw (by rw [ht]; show Blk _ _ _ #[_, _, _, .bool D.stops, _]; rw [hs]; exact hB), hcw⟩).1
end Go.Proofs.YtnijmegalgoipaaGreatDoor
