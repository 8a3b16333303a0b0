/- armariumref01: Crash. -/
import Derived.Test.YtnijmegalgoipaaGreatDoorRefD5
namespace Go.Proofs.YtnijmegalgoipaaGreatDoor
open Go.RowKit
/- ---------- plain ---------- -/
theorem pendLen_next {l : List (Nat × List UInt8)} {j : Nat} {p : Nat × List UInt8} (h : l[j]? = some p) : pendLen (l.take (j + 1)) = pendLen (l.take j) + p.2.length := by
  rw [take_next' h, pendLen_append]
  rfl
theorem pendLen_take_le (l : List (Nat × List UInt8)) (j : Nat) : pendLen (l.take j) ≤ pendLen l := by
  have := pendLen_append (l.take j) (l.drop j)
  rw [List.take_append_drop] at this
  omega
theorem crashBytes_snoc : ∀ (l : List (Nat × List UInt8)) (s : List UInt8) (p : Nat × List UInt8) (k : Nat), crashBytes s (l ++ [p]) k = overM (crashBytes s l k) (min p.1 (crashBytes s l k).length) (p.2.take (k - pendLen l))
  | [], s, p, k => rfl
  | q :: l, s, p, k => by
    show crashBytes _ (l ++ [p]) _ = _
    rw [crashBytes_snoc l]
    show overM _ _ _ = overM (crashBytes _ l _) _ (p.2.take (k - (q.2.length + pendLen l)))
    rw [show k - min k q.2.length - pendLen l = k - (q.2.length + pendLen l) by omega]
    rfl
theorem crash_full : ∀ (l : List (Nat × List UInt8)) (s : List UInt8) (k : Nat), PutsOk s.length l → pendLen l ≤ k → crashBytes s l k = bytesM s l
  | [], _, _, _, _ => rfl
  | p :: l, s, k, hp, hk => by
    unfold pendLen at hk
    have h1 := overM_length (l := s) (d := p.2) hp.1
    show crashBytes (overM s (min p.1 s.length) (p.2.take k)) l _ = _
    rw [List.take_of_length_le (by omega), Nat.min_eq_left hp.1]
    exact crash_full l _ _ (by rw [h1]; exact hp.2.2) (by omega)
theorem crash_pos {l : List (Nat × List UInt8)} {s : List UInt8} {k j : Nat} {p : Nat × List UInt8} (h : PutsOk s.length l) (hj : l[j]? = some p) (hk : 0 < k - pendLen (l.take j)) : p.1 ≤ (crashBytes s (l.take j) k).length := by
  have hpo := putsOk_at l s j p h hj
  have hpt : PutsOk s.length (l.take j) := by
    clear hj hk hpo
    induction l generalizing s j with
    | nil => rw [List.take_nil]; trivial
    | cons q l ih =>
      cases j with
      | zero => trivial
      | succ j =>
        have h1 := overM_length (l := s) (d := q.2) h.1
        refine ⟨h.1, h.2.1, ?_⟩
        have := ih (s := overM s q.1 q.2) (j := j) (by rw [h1]; exact h.2.2)
        rwa [h1] at this
  rw [crash_full _ _ _ hpt (by omega)]
  exact hpo.1
theorem crash_next {l : List (Nat × List UInt8)} {s : List UInt8} {k j : Nat} {p : Nat × List UInt8} (h : PutsOk s.length l) (hj : l[j]? = some p) : crashBytes s (l.take (j + 1)) k = overM (crashBytes s (l.take j) k) p.1 (p.2.take (k - pendLen (l.take j))) := by
  rw [take_next' hj, crashBytes_snoc]
  by_cases hk : 0 < k - pendLen (l.take j)
  · rw [Nat.min_eq_left (crash_pos h hj hk)]
  · rw [show k - pendLen (l.take j) = 0 by omega, List.take_zero, overM_nil, overM_nil]
theorem crash_take_le {l : List (Nat × List UInt8)} {s : List UInt8} (k j : Nat) (h : PutsOk s.length l) : (crashBytes s (l.take j) k).length ≤ (bytesM s l).length := by
  refine Nat.le_trans ?_ (bytesM_take_le l s j h)
  refine crash_len _ _ _ _ ?_ (Nat.le_refl _)
  induction l generalizing s j with
  | nil => rw [List.take_nil]; trivial
  | cons q l ih =>
    cases j with
    | zero => trivial
    | succ j =>
      have h1 := overM_length (l := s) (d := q.2) h.1
      refine ⟨h.1, h.2.1, ?_⟩
      have := ih (s := overM s q.1 q.2) j (by rw [h1]; exact h.2.2)
      rwa [h1] at this
theorem mod_twiceR (p n q : Int) (hq : p.tmod n = q) : (q + n) % n = p % n := by rw [← hq, mod_twice]
def crR : List RRec → List Int → List RRec
  | [], _ => []
  | r :: l, ks => ⟨r.n, crashM r.f (keptM r.f (ks.head?.getD 0)), .slice none 0 0⟩ :: crR l ks.tail
theorem crR_length : ∀ (l : List RRec) (ks : List Int), (crR l ks).length = l.length
  | [], _ => rfl
  | r :: l, ks => by rw [crR, List.length_cons, List.length_cons, crR_length l]
theorem crR_at : ∀ (l : List RRec) (ks : List Int) (i : Nat) (r : RRec), l[i]? = some r → (crR l ks)[i]? = some ⟨r.n, crashM r.f (keptM r.f (ks[i]?.getD 0)), .slice none 0 0⟩
  | [], _, _, _, h => by simp at h
  | q :: l, ks, 0, r, h => by
    simp only [List.getElem?_cons_zero, Option.some.injEq] at h
    subst h
    cases ks <;> rfl
  | q :: l, ks, i + 1, r, h => by
    simp only [List.getElem?_cons_succ] at h
    have := crR_at l ks.tail i r h
    simp only [crR, List.getElem?_cons_succ, this]
    cases ks <;> rfl
theorem crR_map : ∀ (l : List RRec) (ks : List Int), (crR l ks).map (fun r => (r.n, r.f)) = crashAll (l.map (fun r => (r.n, r.f))) ks
  | [], _ => rfl
  | r :: l, ks => by simp only [crR, List.map_cons, crashAll, crR_map l]
theorem crR_nil : ∀ (l : List RRec) (ks : List Int) (r : RRec), r ∈ crR l ks → r.v = .slice none 0 0 ∧ r.f.pend = []
  | [], _, _, h => by cases h
  | a :: l, ks, r, h => by
    rcases List.mem_cons.1 h with h | h
    · subst h; exact ⟨rfl, rfl⟩
    · exact crR_nil l _ r h
def midR (rs : List RRec) (ks : List Int) (i : Nat) : List RRec := (crR rs ks).take i ++ rs.drop i
theorem midR_at {rs : List RRec} {ks : List Int} {i : Nat} {r : RRec} (h : rs[i]? = some r) : (midR rs ks i)[i]? = some r := by
  have hi := (List.getElem?_eq_some_iff.1 h).1
  have hl := crR_length rs ks
  unfold midR
  rw [List.getElem?_append_right (by rw [List.length_take]; omega), List.length_take, Nat.min_eq_left (by omega), Nat.sub_self, List.getElem?_drop]
  exact h
theorem midR_set {rs : List RRec} {ks : List Int} {i : Nat} {r : RRec} (h : rs[i]? = some r) : (midR rs ks i).set i ⟨r.n, crashM r.f (keptM r.f (ks[i]?.getD 0)), .slice none 0 0⟩ = midR rs ks (i + 1) := by
  have hi := (List.getElem?_eq_some_iff.1 h).1
  have hl := crR_length rs ks
  have hlt : ((crR rs ks).take i).length = i := by rw [List.length_take]; omega
  have hd : rs.drop i = r :: rs.drop (i + 1) := by
    obtain ⟨hj, rfl⟩ := List.getElem?_eq_some_iff.1 h
    exact List.drop_eq_getElem_cons hj
  unfold midR
  rw [List.set_append_right _ _ (by omega), hlt, Nat.sub_self, hd, List.set_cons_zero, take_next' (crR_at _ ks _ _ h), List.append_assoc]
  rfl
theorem midR_zero (rs : List RRec) (ks : List Int) : midR rs ks 0 = rs := rfl
theorem midR_all (rs : List RRec) (ks : List Int) : midR rs ks rs.length = crR rs ks := by
  unfold midR
  rw [List.drop_length, List.append_nil, List.take_of_length_le (by rw [crR_length]; omega)]
theorem midR_length {rs : List RRec} {ks : List Int} {i : Nat} (hi : i ≤ rs.length) : (midR rs ks i).length = rs.length := by
  unfold midR
  rw [List.length_append, List.length_take, crR_length, List.length_drop]
  omega
theorem Reads.rec_' {α : Type} {f : α → List Value} {k : Nat} {w : World} {g o c n : Nat} {l : List α} (h : Reads w k (.slice (some ⟨g, o, none⟩) n c) n (l.flatMap f)) (hk : ∀ a ∈ l, (f a).length = k) (hn : l.length = n) {j : Nat} {x : α} (hx : l[j]? = some x) : w.rangeAt g (o + j * k) (f x) := by
  subst hn
  exact h.rec_ hk hx
/-- the writes' rows -/
def PutsAt (w : World) (rs : List RRec) : Prop := ∀ r ∈ rs, Row w 132 2 r.v r.f.pend.length (r.f.pend.flatMap putCells)
theorem PutsAt.bel {w w' : World} {rs : List RRec} (h : PutsAt w rs) (hb : Below w.heap.size w w') : PutsAt w' rs := fun r hr => (h r hr).bel hb
theorem PutsAt.chg {w w' : World} {rs : List RRec} {T : Nat → Prop} (h : PutsAt w rs) (hC : Chg T w w') (hn : ∀ r ∈ rs, ∀ k, r.v.ownBlock = some k → ¬ T k) : PutsAt w' rs := fun r hr => (h r hr).chg hC (hn r hr)
section
variable (g : Nat) (D : DiskD) (S : Nat → Prop) (w : World) (h : RDisk w g D S)
include h
set_option maxRecDepth 10000 in
theorem RCrash_any (v : Value) (ks : List Int) (hok : DOk D) (hbud : DBud D) (hK : Reads w 1 v ks.length (ks.map fun k => .int .i64 k)) (hKS : 0 < ks.length → ∀ k, v.ownBlock = some k → ¬ S k) :
    Calls Tryz.prog 37 #[.pointer (some ⟨g, 0, none⟩), v] w fun e w' => e = .returned (.tuple #[]) ∧ RDisk w' g (crashD D ks) (Ext S w w') ∧ Chg S w w' := by
  obtain ⟨vF, rs, h, hh⟩ := h
  have hSg := hh.g
  have hB := h.blk
  have hR := h.row
  have hV : PutsAt w rs := h.rows
  have hlt := hB.lt
  obtain ⟨ak, ck, rfl, hck, hck2⟩ := hK.shape
  obtain ⟨a, c, rfl, hc1, hc2⟩ := h.row.shape
  have hnn := h.row.nle
  have hkn := hK.nle
  refine W_enter (args := [.pointer (some ⟨g, 0, none⟩), .slice ak ks.length ck]) 136 Tryz.func37 rfl rfl rfl ?_
  refine W_sub [(0, .pointer (some ⟨g, 0, none⟩)), (1, .slice ak ks.length ck)] ?_ ⟨rfl, rfl, trivial⟩
  have hcw := Chg.refl (S) w
  refine W_rs ?_
  refine sm rfl rfl ?_
  refine st (X.nilChk rfl) rfl ?_
  refine st (X.fa fa83_3 rfl) rfl ?_
  refine ssB rfl rfl hB siz4 rfl (by simp) (fun w1 hB1 hC1 => ?_)
  have hR1 := hR.chg hC1 (hR.ne2 hB (by decide))
  have hV1 := hV.chg hC1 (fun r hr => (hV r hr).ne2 hB (by decide))
  have hK1 := hK.chgS hC1 (fun h0 k hk e => hKS h0 k hk (by rw [e]; exact hSg))
  have hcw1 := hcw.next hC1 (fun k hk => .inl (by rw [show k = g from hk]; exact hSg))
  clear hB hR hV hK hcw
  have hB := hB1
  have hR := hR1
  have hV := hV1
  have hK := hK1
  have hcw := hcw1
  clear hB1 hR1 hV1 hK1 hcw1 hC1
  refine Wn ?_
  refine tN ?_
  refine W_rs ?_
  refine sa rfl rfl ?_
  refine Wn ?_
  refine tN ?_
  refine W_block ?_
  refine W_lp (fun nw2_ lw2_ w2 => ∃ i : Nat, nw2_ = rs.length - i ∧ lw2_ = ([(0, .pointer (some ⟨g, 0, none⟩)), (1, .slice ak ks.length ck), (4, .int .i64 i)] : Env) ∧ (i ≤ rs.length) ∧ (Chg S w w2) ∧ (Blk w2 g 83 #[.slice a rs.length c, .int .i64 D.limit, .int .i64 D.refused, .bool false, .int .i64 D.left]) ∧ (Row w2 92 3 (.slice a rs.length c) rs.length ((midR rs ks i).flatMap RRec.cells)) ∧ (PutsAt w2 rs) ∧ (Reads w2 1 (.slice ak ks.length ck) ks.length (ks.map fun k => .int .i64 k))) _ ⟨_, ⟨0, rfl, rfl, Nat.zero_le _, hcw, hB, hR, hV, hK⟩, ⟨rfl, rfl, rfl, trivial⟩⟩ ?_
  clear hcw hB hR hV hK
  rintro nw2_ lw2_ w2 ⟨i, rfl, rfl, hi, hcw, hB, hR, hV, hK⟩
  have hlt_hB_w2 := hB.lt
  have hzc := hcw.size
  refine W_seq ?_
  refine W_rs ?_
  refine sm rfl rfl ?_
  refine sm rfl rfl ?_
  refine st (X.nilChk rfl) rfl ?_
  refine st (X.fa fa83_0 rfl) rfl ?_
  refine st (X.ldL rfl hB Tryz.underlying81 rfl rfl) rfl ?_
  refine st (X.lenL rfl rfl Tryz.underlying81) rfl ?_
  refine st (X.lss rfl rfl) rfl ?_
  refine Wn ?_
  refine tN ?_
  refine W_if rfl (fun h20 => ?_) (fun h20 => ?_)
  · first | replace h20 := of_decide_eq_true h20 | replace h20 := of_decide_eq_false (notT h20) | replace h20 := notT h20 | skip
    obtain ⟨⟨n, f, v⟩, hx⟩ : ∃ x, rs[i]? = some x := ⟨_, List.getElem?_eq_getElem (by omega)⟩
    have hmem := List.mem_of_getElem? hx
    obtain ⟨av, cv, hve, _, _⟩ := (hV _ hmem).shape
    simp only at hve
    subst hve
    obtain ⟨hfk, hg⟩ := h.fok hok hmem
    simp only at hfk hg
    have hpl := (hbud.pend _ _ hg).1
    have hln := (hok.len hg).1
    have hpn := (hV _ hmem).nle
    simp only at hpn
    obtain ⟨gF, oF, c', hv, hgF⟩ := hR.reads.some_ (by omega)
    injection hv with e1 _ e3
    subst e1 e3
    have hneF : gF ≠ g := fun e => h.row.ne2 h.blk (by decide) gF rfl e
    have hSF : S gF := hh.vF gF rfl
    have hml := midR_length (ks := ks) hi
    have hxm := midR_at (ks := ks) hx
    obtain ⟨pk, hpk⟩ : ∃ pk, ks[i]?.getD 0 = pk := ⟨_, rfl⟩
    obtain ⟨kp, hkp⟩ : ∃ kp, keptM f pk = kp := ⟨_, rfl⟩
    have hkpl := keptM_le (f := f) pk hpl
    rw [hkp] at hkpl
    refine W_skip ?_
    refine tN ?_
    refine W_seq ?_
    refine W_block ?_
    refine W_rs ?_
    refine sa rfl rfl ?_
    refine Wn ?_
    refine tN ?_
    refine W_seq ?_
    refine W_rs ?_
    refine sa rfl rfl ?_
    refine Wn ?_
    refine tN ?_
    refine W_block ?_
    refine W_lp (fun nw3_ lw3_ w3 => ∃ j : Nat, nw3_ = f.pend.length - j ∧ lw3_ = ([(0, .pointer (some ⟨g, 0, none⟩)), (1, .slice ak ks.length ck), (4, .int .i64 i), (5, .int .i64 (pendLen (f.pend.take j))), (6, .int .i64 j)] : Env) ∧ (j ≤ f.pend.length) ∧ (Chg S w w3) ∧ (Blk w3 g 83 #[.slice (some ⟨gF, oF, none⟩) rs.length c, .int .i64 D.limit, .int .i64 D.refused, .bool false, .int .i64 D.left]) ∧ (Row w3 92 3 (.slice (some ⟨gF, oF, none⟩) rs.length c) rs.length ((midR rs ks i).flatMap RRec.cells)) ∧ (PutsAt w3 rs) ∧ (Reads w3 1 (.slice ak ks.length ck) ks.length (ks.map fun k => .int .i64 k))) _ ⟨_, ⟨0, rfl, rfl, by omega, hcw, hB, hR, hV, hK⟩, ⟨rfl, rfl, rfl, rfl, rfl, trivial⟩⟩ ?_
    clear hcw hB hR hV hK
    rintro nw3_ lw3_ w3 ⟨j, rfl, rfl, hj, hcw, hB, hR, hV, hK⟩
    have hlt_hB_w3 := hB.lt
    have hpt := pendLen_take_le f.pend j
    have hzc2 := hcw.size
    refine W_seq ?_
    refine W_rs ?_
    refine sm rfl rfl ?_
    refine sm rfl rfl ?_
    refine st (X.nilChk rfl) rfl ?_
    refine st (X.fa fa83_0 rfl) rfl ?_
    refine st (X.ldL rfl hB Tryz.underlying81 rfl rfl) rfl ?_
    refine sm rfl rfl ?_
    refine st (X.idxA rfl rfl Tryz.underlying81 siz92 rfl (by omega)) rfl ?_
    refine st (X.fa fa92_2 rfl) rfl ?_
    refine st (X.ld rfl Tryz.underlying90 rfl (hR.reads.rec_' (f := RRec.cells) (rrec_len _) hml hxm 2 _ rfl)) rfl ?_
    refine st (X.lenL rfl rfl Tryz.underlying90) rfl ?_
    refine st (X.lss rfl rfl) rfl ?_
    refine Wn ?_
    refine tN ?_
    refine W_if rfl (fun h33 => ?_) (fun h33 => ?_)
    · first | replace h33 := of_decide_eq_true h33 | replace h33 := of_decide_eq_false (notT h33) | replace h33 := notT h33 | skip
      obtain ⟨p, hp⟩ : ∃ p, f.pend[j]? = some p := ⟨_, List.getElem?_eq_getElem (by omega)⟩
      have hrow := (hV _ hmem).reads
      simp only at hrow
      obtain ⟨gp, op, c', hv, hgp⟩ := hrow.some_ (by omega)
      injection hv with e1 _ e3
      subst e1 e3
      have hpm := pend_mem_le (List.mem_of_getElem? hp)
      have hcell := hrow.rec_ (f := putCells) (fun a _ => putCells_length a) hp
      refine W_skip ?_
      refine tN ?_
      refine W_seq ?_
      refine W_block ?_
      refine W_reg ?_
      refine sm rfl rfl ?_
      refine sm rfl rfl ?_
      refine st (X.nilChk rfl) rfl ?_
      refine st (X.fa fa83_0 rfl) rfl ?_
      refine st (X.ldL rfl hB Tryz.underlying81 rfl rfl) rfl ?_
      refine sm rfl rfl ?_
      refine st (X.idxA rfl rfl Tryz.underlying81 siz92 rfl (by omega)) rfl ?_
      refine st (X.fa fa92_2 rfl) rfl ?_
      refine st (X.ld rfl Tryz.underlying90 rfl (hR.reads.rec_' (f := RRec.cells) (rrec_len _) hml hxm 2 _ rfl)) rfl ?_
      refine sm rfl rfl ?_
      refine st (X.idxA rfl rfl Tryz.underlying90 siz132 rfl (by omega)) rfl ?_
      refine st (X.fa fa132_1 rfl) rfl ?_
      refine st (X.ld rfl Tryz.underlying9 rfl (hcell 1 _ rfl)) rfl ?_
      refine st (X.lenS rfl rfl Tryz.underlying9) rfl ?_
      refine st (X.add64 rfl rfl (by omega)) rfl ?_
      refine sa rfl rfl ?_
      refine Wn ?_
      refine bN ?_
      refine tN ?_
      refine W_reg ?_
      refine sm rfl rfl ?_
      refine st (X.add64 rfl rfl (by omega)) rfl ?_
      refine sa rfl rfl ?_
      refine Wn ?_
      refine tN ⟨_, _, ?_, ⟨j + 1, rfl, rfl, by omega, hcw, hB, hR, hV, hK⟩, ⟨rfl, rfl, rfl, by rw [pendLen_next hp, Int.natCast_add]; rfl, rfl, trivial⟩⟩
      omega
    · first | replace h33 := of_decide_eq_false h33 | replace h33 := of_decide_eq_true (notF h33) | replace h33 := notF h33 | skip
      obtain rfl : j = f.pend.length := by omega
      rw [List.take_length]
      refine W_exit (tE (tE (bH ?_)))
      refine tN ?_
      refine W_rs ?_
      refine sa rfl rfl ?_
      refine Wn ?_
      refine tN ?_
      refine W_seq ?_
      refine W_rs ?_
      refine sm rfl rfl ?_
      refine sm rfl rfl ?_
      refine st (X.lenL rfl rfl Tryz.underlying34) rfl ?_
      refine st (X.lss rfl rfl) rfl ?_
      refine Wn ?_
      refine tN ?_
      refine W_if rfl (fun h54 => ?_) (fun h54 => ?_)
      · first | replace h54 := of_decide_eq_true h54 | replace h54 := of_decide_eq_false (notT h54) | replace h54 := notT h54 | skip
        obtain ⟨gk, ok_, ck', hvk, hgk⟩ := hK.some_ (by omega)
        injection hvk with hak _ _
        have hKs : Reads w3 1 (.slice (some ⟨gk, ok_, none⟩) ks.length ck) ks.length (ks.map fun k => .int .i64 k) := by rw [← hak]; exact hK
        have hkx : ks[i]? = some pk := by
          rw [← hpk, List.getElem?_eq_getElem (by omega)]
          rfl
        have hkx2 : (ks.map fun k => Value.int .i64 k)[i]? = some (.int .i64 pk) := by rw [List.getElem?_map, hkx]; rfl
        have ht1 := Int.tmod_lt_of_pos pk (b := (pendLen f.pend : Int) + 1) (by omega)
        have ht2 := Int.lt_tmod_of_pos pk (b := (pendLen f.pend : Int) + 1) (by omega)
        obtain ⟨q, hq⟩ : ∃ q, pk.tmod ((pendLen f.pend : Int) + 1) = q := ⟨_, rfl⟩
        rw [hq] at ht1 ht2
        have hqk : (q + (pendLen f.pend : Int) + 1) % ((pendLen f.pend : Int) + 1) = (kp : Int) := by
          rw [Int.add_assoc, mod_twiceR _ _ _ hq, ← hkp]
          unfold keptM
          rw [Int.toNat_of_nonneg (Int.emod_nonneg _ (by omega))]
          rfl
        refine W_reg ?_
        refine sm rfl rfl ?_
        refine sm rfl rfl ?_
        refine st (X.idxA (j := i) (by rw [← hak]; rfl) rfl Tryz.underlying34 siz3 rfl (by omega)) rfl ?_
        refine st (X.ld rfl Tryz.underlying3 rfl (by rw [Nat.mul_one]; exact hKs.cellAt (by omega) hkx2)) rfl ?_
        refine sm rfl rfl ?_
        refine st (X.add64 rfl rfl (by omega)) rfl ?_
        refine st (X.rem rfl rfl (by omega) hq) rfl ?_
        refine sm rfl rfl ?_
        refine st (X.add64 rfl rfl (by omega)) rfl ?_
        refine st (X.add64 rfl rfl (by omega)) rfl ?_
        refine sm rfl rfl ?_
        refine st (X.add64 rfl rfl (by omega)) rfl ?_
        refine st (X.rem64 rfl rfl (by omega) (by omega)) rfl ?_
        rw [hqk]
        refine sa rfl rfl ?_
        refine Wn ?_
        refine tN ?_
        refine W_rs ?_
        refine sm rfl rfl ?_
        refine st (X.nilChk rfl) rfl ?_
        refine st (X.fa fa83_0 rfl) rfl ?_
        refine st (X.ldL rfl hB Tryz.underlying81 rfl rfl) rfl ?_
        refine sm rfl rfl ?_
        refine st (X.idxA rfl rfl Tryz.underlying81 siz92 rfl (by omega)) rfl ?_
        refine st (X.fa fa92_1 rfl) rfl ?_
        refine st (X.ld rfl Tryz.underlying9 rfl (hR.reads.rec_' (f := RRec.cells) (rrec_len _) hml hxm 1 _ rfl)) rfl ?_
        refine sa rfl rfl ?_
        refine Wn ?_
        refine tN ?_
        refine W_seq ?_
        refine W_rs ?_
        refine sa rfl rfl ?_
        refine Wn ?_
        refine tN ?_
        refine W_block ?_
        obtain ⟨wB, hwB⟩ : ∃ W_ : World, W_ = w3 := ⟨_, rfl⟩
        have hbB : Below wB.heap.size wB w3 := by rw [hwB]; exact Below.refl _ _
        have hwBz : w.heap.size ≤ wB.heap.size := by rw [hwB]; exact hcw.size
        have hgB : g < wB.heap.size := by rw [hwB]; exact hB.lt
        rw [← hwB] at hB hR hV hK
        clear hwB
        refine W_lp (fun nw4_ lw4_ w4 => ∃ m : Nat, nw4_ = f.pend.length - m ∧ lw4_ = ([(0, .pointer (some ⟨g, 0, none⟩)), (1, .slice ak ks.length ck), (4, .int .i64 i), (7, .int .i64 ((kp - pendLen (f.pend.take m) : Nat) : Int)), (8, str (crashBytes f.last (f.pend.take m) kp)), (9, .int .i64 m)] : Env) ∧ (m ≤ f.pend.length) ∧ (Chg S w w4) ∧ (Below wB.heap.size wB w4)) _ ⟨_, ⟨0, rfl, rfl, by omega, hcw, hbB⟩, ⟨rfl, rfl, rfl, by first | rfl | (rw [hkp0]; rfl), rfl, rfl, trivial⟩⟩ ?_
        clear hcw hbB
        rintro nw4_ lw4_ w4 ⟨m, rfl, rfl, hm, hcw, hbB⟩
        have hz_hbB_w4 := hbB.size
        have hzc3 := hcw.size
        have hcl := crash_take_le (s := f.last) kp m hfk.puts
        rw [← hfk.now] at hcl
        refine W_seq ?_
        refine W_rs ?_
        refine sm rfl rfl ?_
        refine sm rfl rfl ?_
        refine st (X.nilChk rfl) rfl ?_
        refine st (X.fa fa83_0 rfl) rfl ?_
        refine st (X.ldL rfl (hB.bel hbB) Tryz.underlying81 rfl rfl) rfl ?_
        refine sm rfl rfl ?_
        refine st (X.idxA rfl rfl Tryz.underlying81 siz92 rfl (by omega)) rfl ?_
        refine st (X.fa fa92_2 rfl) rfl ?_
        refine st (X.ld rfl Tryz.underlying90 rfl ((hR.bel hbB).reads.rec_' (f := RRec.cells) (rrec_len _) hml hxm 2 _ rfl)) rfl ?_
        refine st (X.lenL rfl rfl Tryz.underlying90) rfl ?_
        refine st (X.lss rfl rfl) rfl ?_
        refine Wn ?_
        refine tN ?_
        refine W_if rfl (fun h86 => ?_) (fun h86 => ?_)
        · first | replace h86 := of_decide_eq_true h86 | replace h86 := of_decide_eq_false (notT h86) | replace h86 := notT h86 | skip
          obtain ⟨p, hp⟩ : ∃ p, f.pend[m]? = some p := ⟨_, List.getElem?_eq_getElem (by omega)⟩
          have hrow := ((hV _ hmem).bel hbB).reads
          simp only at hrow
          obtain ⟨gp, op, c', hv, hgp⟩ := hrow.some_ (by omega)
          injection hv with e1 _ e3
          subst e1 e3
          have hpm := pend_mem_le (List.mem_of_getElem? hp)
          have hcell := hrow.rec_ (f := putCells) (fun a _ => putCells_length a) hp
          have hkn2 : ((kp - pendLen (f.pend.take (m + 1)) : Nat) : Int) = ((kp - pendLen (f.pend.take m) : Nat) : Int) - ((p.2.take (kp - pendLen (f.pend.take m))).length : Int) := by rw [pendLen_next hp, List.length_take]; omega
          have hltp : (p.2.take (kp - pendLen (f.pend.take m))).length ≤ p.2.length := by rw [List.length_take]; omega
          have hltk : (p.2.take (kp - pendLen (f.pend.take m))).length ≤ kp - pendLen (f.pend.take m) := by rw [List.length_take]; omega
          refine W_skip ?_
          refine tN ?_
          refine W_seq ?_
          refine W_block ?_
          refine W_rs ?_
          refine sm rfl rfl ?_
          refine st (X.nilChk rfl) rfl ?_
          refine st (X.fa fa83_0 rfl) rfl ?_
          refine st (X.ldL rfl (hB.bel hbB) Tryz.underlying81 rfl rfl) rfl ?_
          refine sm rfl rfl ?_
          refine st (X.idxA rfl rfl Tryz.underlying81 siz92 rfl (by omega)) rfl ?_
          refine st (X.fa fa92_2 rfl) rfl ?_
          refine st (X.ld rfl Tryz.underlying90 rfl ((hR.bel hbB).reads.rec_' (f := RRec.cells) (rrec_len _) hml hxm 2 _ rfl)) rfl ?_
          refine sm rfl rfl ?_
          refine st (X.idxA rfl rfl Tryz.underlying90 siz132 rfl (by omega)) rfl ?_
          refine st (X.ldN (cs := putCells p) rfl Tryz.underlying132 rfl siz132 hcell) rfl ?_
          refine salA inf132 rfl (fun g10 w5 hB10 hg10 hb hl10 => ?_)
          replace hcw := hcw.then_below hb
          replace hbB := bthen hbB hb
          have hz_w5 := hb.size
          clear hb
          refine ssBN rfl rfl hB10 siz132 rfl rfl (fun w6 hB_ hc_ => ?_)
          replace hB10 := hB_
          clear hB_
          replace hcw := hcw.next hc_ (fun i_ hi_ => by first | exact .inl hi_ | exact .inl (.inl hi_) | (right; subst hi_; omega) | (left; subst hi_; show _ ≤ _; omega) | (left; subst hi_; assumption))
          replace hbB := bset hbB hc_ (by omega)
          have hz_w6 := hc_.size
          clear hc_
          have hB10' : Blk w6 g10 132 #[.int .i64 p.1, str p.2] := hB10
          clear hB10
          have hB10 := hB10'
          clear hB10'
          refine Wn ?_
          refine tN ?_
          refine W_seq ?_
          refine W_rs ?_
          refine st (X.fa fa132_1 rfl) rfl ?_
          refine st (X.ldL rfl hB10 Tryz.underlying9 rfl rfl) rfl ?_
          refine st (X.lenS rfl rfl Tryz.underlying9) rfl ?_
          refine sm rfl rfl ?_
          refine st (X.gtr rfl rfl) rfl ?_
          refine Wn ?_
          refine tN ?_
          refine W_if rfl (fun h104 => ?_) (fun h104 => ?_)
          · first | replace h104 := of_decide_eq_true h104 | replace h104 := of_decide_eq_false (notT h104) | replace h104 := notT h104 | skip
            refine W_reg ?_
            refine st (X.fa fa132_1 rfl) rfl ?_
            refine st (X.ldL rfl hB10 Tryz.underlying9 rfl rfl) rfl ?_
            refine sm rfl rfl ?_
            refine st (X.toS rfl rfl Tryz.underlying9 rfl (by omega)) rfl ?_
            refine st (X.fa fa132_1 rfl) rfl ?_
            refine ssB rfl rfl hB10 siz9 rfl (by first | decide | simp) (fun w7 hB_ hc_ => ?_)
            replace hB10 := hB_
            clear hB_
            replace hcw := hcw.next hc_ (fun i_ hi_ => by first | exact .inl hi_ | exact .inl (.inl hi_) | (right; subst hi_; omega) | (left; subst hi_; show _ ≤ _; omega) | (left; subst hi_; assumption))
            replace hbB := bset hbB hc_ (by omega)
            have hz_w7 := hc_.size
            clear hc_
            refine Wn ?_
            refine tN ?_
            refine W_rs ?_
            refine sm rfl rfl ?_
            refine st (X.fa fa132_1 rfl) rfl ?_
            refine st (X.ldL rfl hB10 Tryz.underlying9 rfl rfl) rfl ?_
            refine st (X.lenS rfl rfl Tryz.underlying9) rfl ?_
            refine st (X.sub64 rfl rfl (by omega)) rfl ?_
            refine sa rfl rfl ?_
            refine Wn ?_
            refine tN ?_
            refine W_rs ?_
            refine st (X.fa fa132_1 rfl) rfl ?_
            refine st (X.ldL rfl hB10 Tryz.underlying9 rfl rfl) rfl ?_
            refine st (X.neS rfl rfl) rfl ?_
            refine Wn ?_
            refine tN ?_
            refine W_if rfl (fun h117 => ?_) (fun h117 => ?_)
            · first | replace h117 := of_decide_eq_true h117 | replace h117 := of_decide_eq_false (notT h117) | replace h117 := notT h117 | skip
              refine W_reg ?_
              refine sm rfl rfl ?_
              refine st (X.ldBN rfl hB10 Tryz.underlying132 rfl siz132) rfl ?_
              have hpp : 0 < kp - pendLen (f.pend.take m) := by
                rcases Nat.eq_zero_or_pos (kp - pendLen (f.pend.take m)) with e | e
                · rw [e, List.take_zero] at h117
                  exact absurd rfl h117
                · exact e
              have hov := fun W_ : World => overR_any (crashBytes f.last (f.pend.take m) kp) (p.1, p.2.take (kp - pendLen (f.pend.take m))) W_ (crash_pos (p := p) hfk.puts hp hpp) (by omega) (by simp only; omega)
              simp only at hov
              obtain ⟨so, hso⟩ : ∃ s, overM (crashBytes f.last (f.pend.take m) kp) p.1 (p.2.take (kp - pendLen (f.pend.take m))) = s := ⟨_, rfl⟩
              rw [hso] at hov
              refine sc _ Tryz.func84 rfl (by kernel_rfl) rfl rfl ((hov _).mono ?_)
              rintro e_ w8 ⟨rfl, hb⟩
              refine cR ?_
              replace hcw := hcw.then_below hb
              replace hbB := bthen hbB hb
              replace hB10 := hB10.bel hb
              have hz_w8 := hb.size
              clear hb
              refine sa rfl rfl ?_
              refine Wn ?_
              refine bN ?_
              refine tN ?_
              refine W_reg ?_
              refine sm rfl rfl ?_
              refine st (X.add64 rfl rfl (by omega)) rfl ?_
              refine sa rfl rfl ?_
              refine Wn ?_
              refine tN ⟨_, _, ?_, ⟨m + 1, rfl, rfl, by omega, hcw, hbB⟩, ⟨rfl, rfl, rfl, by rw [hkn2]; rfl, by first | (rw [crash_next hfk.puts hp, hso] <;> rfl) | (rw [crash_next hfk.puts hp, h117, overM_nil] <;> rfl), rfl, trivial⟩⟩
              omega
            · first | replace h117 := of_decide_eq_false h117 | replace h117 := of_decide_eq_true (notF h117) | replace h117 := notF h117 | skip
              replace h117 := Classical.not_not.1 h117
              refine W_skip ?_
              refine bN ?_
              refine tN ?_
              refine W_reg ?_
              refine sm rfl rfl ?_
              refine st (X.add64 rfl rfl (by omega)) rfl ?_
              refine sa rfl rfl ?_
              refine Wn ?_
              refine tN ⟨_, _, ?_, ⟨m + 1, rfl, rfl, by omega, hcw, hbB⟩, ⟨rfl, rfl, rfl, by rw [hkn2]; rfl, by first | (rw [crash_next hfk.puts hp, hso] <;> rfl) | (rw [crash_next hfk.puts hp, h117, overM_nil] <;> rfl), rfl, trivial⟩⟩
              omega
          · first | replace h104 := of_decide_eq_false h104 | replace h104 := of_decide_eq_true (notF h104) | replace h104 := notF h104 | skip
            have htk : p.2.take (kp - pendLen (f.pend.take m)) = p.2 := List.take_of_length_le (by omega)
            rw [← htk] at hB10
            refine W_skip ?_
            refine tN ?_
            refine W_rs ?_
            refine sm rfl rfl ?_
            refine st (X.fa fa132_1 rfl) rfl ?_
            refine st (X.ldL rfl hB10 Tryz.underlying9 rfl rfl) rfl ?_
            refine st (X.lenS rfl rfl Tryz.underlying9) rfl ?_
            refine st (X.sub64 rfl rfl (by omega)) rfl ?_
            refine sa rfl rfl ?_
            refine Wn ?_
            refine tN ?_
            refine W_rs ?_
            refine st (X.fa fa132_1 rfl) rfl ?_
            refine st (X.ldL rfl hB10 Tryz.underlying9 rfl rfl) rfl ?_
            refine st (X.neS rfl rfl) rfl ?_
            refine Wn ?_
            refine tN ?_
            refine W_if rfl (fun h117 => ?_) (fun h117 => ?_)
            · first | replace h117 := of_decide_eq_true h117 | replace h117 := of_decide_eq_false (notT h117) | replace h117 := notT h117 | skip
              refine W_reg ?_
              refine sm rfl rfl ?_
              refine st (X.ldBN rfl hB10 Tryz.underlying132 rfl siz132) rfl ?_
              have hpp : 0 < kp - pendLen (f.pend.take m) := by
                rcases Nat.eq_zero_or_pos (kp - pendLen (f.pend.take m)) with e | e
                · rw [e, List.take_zero] at h117
                  exact absurd rfl h117
                · exact e
              have hov := fun W_ : World => overR_any (crashBytes f.last (f.pend.take m) kp) (p.1, p.2.take (kp - pendLen (f.pend.take m))) W_ (crash_pos (p := p) hfk.puts hp hpp) (by omega) (by simp only; omega)
              simp only at hov
              obtain ⟨so, hso⟩ : ∃ s, overM (crashBytes f.last (f.pend.take m) kp) p.1 (p.2.take (kp - pendLen (f.pend.take m))) = s := ⟨_, rfl⟩
              rw [hso] at hov
              refine sc _ Tryz.func84 rfl (by kernel_rfl) rfl rfl ((hov _).mono ?_)
              rintro e_ w9 ⟨rfl, hb⟩
              refine cR ?_
              replace hcw := hcw.then_below hb
              replace hbB := bthen hbB hb
              replace hB10 := hB10.bel hb
              have hz_w9 := hb.size
              clear hb
              refine sa rfl rfl ?_
              refine Wn ?_
              refine bN ?_
              refine tN ?_
              refine W_reg ?_
              refine sm rfl rfl ?_
              refine st (X.add64 rfl rfl (by omega)) rfl ?_
              refine sa rfl rfl ?_
              refine Wn ?_
              refine tN ⟨_, _, ?_, ⟨m + 1, rfl, rfl, by omega, hcw, hbB⟩, ⟨rfl, rfl, rfl, by rw [hkn2]; rfl, by first | (rw [crash_next hfk.puts hp, hso] <;> rfl) | (rw [crash_next hfk.puts hp, h117, overM_nil] <;> rfl), rfl, trivial⟩⟩
              omega
            · first | replace h117 := of_decide_eq_false h117 | replace h117 := of_decide_eq_true (notF h117) | replace h117 := notF h117 | skip
              replace h117 := Classical.not_not.1 h117
              refine W_skip ?_
              refine bN ?_
              refine tN ?_
              refine W_reg ?_
              refine sm rfl rfl ?_
              refine st (X.add64 rfl rfl (by omega)) rfl ?_
              refine sa rfl rfl ?_
              refine Wn ?_
              refine tN ⟨_, _, ?_, ⟨m + 1, rfl, rfl, by omega, hcw, hbB⟩, ⟨rfl, rfl, rfl, by rw [hkn2]; rfl, by first | (rw [crash_next hfk.puts hp, hso] <;> rfl) | (rw [crash_next hfk.puts hp, h117, overM_nil] <;> rfl), rfl, trivial⟩⟩
              omega
        · first | replace h86 := of_decide_eq_false h86 | replace h86 := of_decide_eq_true (notF h86) | replace h86 := notF h86 | skip
          obtain rfl : m = f.pend.length := by omega
          rw [List.take_length]
          replace hB := hB.bel hbB
          replace hR := hR.bel hbB
          replace hV := hV.bel hbB
          replace hK := hK.belowAll hbB
          refine W_exit (tE (tE (bH ?_)))
          refine tN ?_
          refine W_rs ?_
          refine sm rfl rfl ?_
          refine st (X.nilChk rfl) rfl ?_
          refine st (X.fa fa83_0 rfl) rfl ?_
          refine st (X.ldL rfl hB Tryz.underlying81 rfl rfl) rfl ?_
          refine sm rfl rfl ?_
          refine sm rfl rfl ?_
          refine st (X.idxA rfl rfl Tryz.underlying81 siz92 rfl (by omega)) rfl ?_
          refine st (X.fa fa92_1 rfl) rfl ?_
          refine ssRN (o := oF) (j := i * 3 + 1) rfl (by omega) rfl hR (by omega) (by omega) siz9 rfl (fun w10 hR3 hC3 => ?_)
          have hB3 := hB.chg hC3 (fun e => hneF e.symm)
          have hV3 := hV.chg hC3 (fun q hq => (hV q hq).ne2x hR)
          have hK3 := hK.chgS hC3 (fun h0 k hk e => hKS h0 k hk (by rw [show k = gF from e]; exact hSF))
          replace hcw := hcw.next hC3 (fun k hk => .inl (by rw [show k = gF from hk]; exact hSF))
          clear hB hR hV hK hC3
          have hB := hB3
          have hV := hV3
          have hK := hK3
          clear hB3 hV3 hK3
          refine Wn ?_
          refine tN ?_
          refine W_reg ?_
          refine sm rfl rfl ?_
          refine st (X.nilChk rfl) rfl ?_
          refine st (X.fa fa83_0 rfl) rfl ?_
          refine st (X.ldL rfl hB Tryz.underlying81 rfl rfl) rfl ?_
          refine sm rfl rfl ?_
          refine st (X.idxA rfl rfl Tryz.underlying81 siz92 rfl (by omega)) rfl ?_
          refine st (X.fa fa92_2 rfl) rfl ?_
          refine ssRN (o := oF) (j := i * 3 + 2) rfl (by omega) rfl hR3 (by omega) (by omega) siz90 rfl (fun w11 hR4 hC3 => ?_)
          have hB3 := hB.chg hC3 (fun e => hneF e.symm)
          have hV3 := hV.chg hC3 (fun q hq => (hV q hq).ne2x hR3)
          have hK3 := hK.chgS hC3 (fun h0 k hk e => hKS h0 k hk (by rw [show k = gF from e]; exact hSF))
          replace hcw := hcw.next hC3 (fun k hk => .inl (by rw [show k = gF from hk]; exact hSF))
          clear hB hV hK hC3
          have hB := hB3
          have hV := hV3
          have hK := hK3
          clear hB3 hV3 hK3
          rw [flat_set3 ⟨n, ⟨crashBytes f.last f.pend kp, f.now, f.pend⟩, .slice av f.pend.length cv⟩ 1 _ hxm (by omega) rfl, flat_set3 (r := ⟨n, ⟨crashBytes f.last f.pend kp, f.now, f.pend⟩, .slice av f.pend.length cv⟩) ⟨n, crashM f kp, .slice none 0 0⟩ 2 _ (by rw [List.getElem?_set_self (by omega)]) (by omega) rfl, List.set_set] at hR4
          have hR' := hR4
          rw [← hkp, ← hpk, midR_set hx] at hR'
          clear hR4 hR3
          refine Wn ?_
          refine bN ?_
          refine tN ?_
          refine W_reg ?_
          refine sm rfl rfl ?_
          refine st (X.add64 rfl rfl (by omega)) rfl ?_
          refine sa rfl rfl ?_
          refine Wn ?_
          refine tN ⟨_, _, ?_, ⟨i + 1, rfl, rfl, by omega, hcw, hB, hR', hV, hK⟩, ⟨rfl, rfl, rfl, trivial⟩⟩
          omega
      · first | replace h54 := of_decide_eq_false h54 | replace h54 := of_decide_eq_true (notF h54) | replace h54 := notF h54 | skip
        obtain rfl : pk = 0 := by rw [← hpk, List.getElem?_eq_none (by omega)]; rfl
        have hk0 : keptM f 0 = 0 := by unfold keptM; rw [Int.zero_emod]; rfl
        have hkp0 : kp = 0 := by rw [← hkp, hk0]
        refine W_skip ?_
        refine tN ?_
        refine W_rs ?_
        refine sm rfl rfl ?_
        refine st (X.nilChk rfl) rfl ?_
        refine st (X.fa fa83_0 rfl) rfl ?_
        refine st (X.ldL rfl hB Tryz.underlying81 rfl rfl) rfl ?_
        refine sm rfl rfl ?_
        refine st (X.idxA rfl rfl Tryz.underlying81 siz92 rfl (by omega)) rfl ?_
        refine st (X.fa fa92_1 rfl) rfl ?_
        refine st (X.ld rfl Tryz.underlying9 rfl (hR.reads.rec_' (f := RRec.cells) (rrec_len _) hml hxm 1 _ rfl)) rfl ?_
        refine sa rfl rfl ?_
        refine Wn ?_
        refine tN ?_
        refine W_seq ?_
        refine W_rs ?_
        refine sa rfl rfl ?_
        refine Wn ?_
        refine tN ?_
        refine W_block ?_
        obtain ⟨wB, hwB⟩ : ∃ W_ : World, W_ = w3 := ⟨_, rfl⟩
        have hbB : Below wB.heap.size wB w3 := by rw [hwB]; exact Below.refl _ _
        have hwBz : w.heap.size ≤ wB.heap.size := by rw [hwB]; exact hcw.size
        have hgB : g < wB.heap.size := by rw [hwB]; exact hB.lt
        rw [← hwB] at hB hR hV hK
        clear hwB
        refine W_lp (fun nw12_ lw12_ w12 => ∃ m : Nat, nw12_ = f.pend.length - m ∧ lw12_ = ([(0, .pointer (some ⟨g, 0, none⟩)), (1, .slice ak ks.length ck), (4, .int .i64 i), (7, .int .i64 ((kp - pendLen (f.pend.take m) : Nat) : Int)), (8, str (crashBytes f.last (f.pend.take m) kp)), (9, .int .i64 m)] : Env) ∧ (m ≤ f.pend.length) ∧ (Chg S w w12) ∧ (Below wB.heap.size wB w12)) _ ⟨_, ⟨0, rfl, rfl, by omega, hcw, hbB⟩, ⟨rfl, rfl, rfl, by first | rfl | (rw [hkp0]; rfl), rfl, rfl, trivial⟩⟩ ?_
        clear hcw hbB
        rintro nw12_ lw12_ w12 ⟨m, rfl, rfl, hm, hcw, hbB⟩
        have hz_hbB_w12 := hbB.size
        have hzc3 := hcw.size
        have hcl := crash_take_le (s := f.last) kp m hfk.puts
        rw [← hfk.now] at hcl
        refine W_seq ?_
        refine W_rs ?_
        refine sm rfl rfl ?_
        refine sm rfl rfl ?_
        refine st (X.nilChk rfl) rfl ?_
        refine st (X.fa fa83_0 rfl) rfl ?_
        refine st (X.ldL rfl (hB.bel hbB) Tryz.underlying81 rfl rfl) rfl ?_
        refine sm rfl rfl ?_
        refine st (X.idxA rfl rfl Tryz.underlying81 siz92 rfl (by omega)) rfl ?_
        refine st (X.fa fa92_2 rfl) rfl ?_
        refine st (X.ld rfl Tryz.underlying90 rfl ((hR.bel hbB).reads.rec_' (f := RRec.cells) (rrec_len _) hml hxm 2 _ rfl)) rfl ?_
        refine st (X.lenL rfl rfl Tryz.underlying90) rfl ?_
        refine st (X.lss rfl rfl) rfl ?_
        refine Wn ?_
        refine tN ?_
        refine W_if rfl (fun h86 => ?_) (fun h86 => ?_)
        · first | replace h86 := of_decide_eq_true h86 | replace h86 := of_decide_eq_false (notT h86) | replace h86 := notT h86 | skip
          obtain ⟨p, hp⟩ : ∃ p, f.pend[m]? = some p := ⟨_, List.getElem?_eq_getElem (by omega)⟩
          have hrow := ((hV _ hmem).bel hbB).reads
          simp only at hrow
          obtain ⟨gp, op, c', hv, hgp⟩ := hrow.some_ (by omega)
          injection hv with e1 _ e3
          subst e1 e3
          have hpm := pend_mem_le (List.mem_of_getElem? hp)
          have hcell := hrow.rec_ (f := putCells) (fun a _ => putCells_length a) hp
          have hkn2 : ((kp - pendLen (f.pend.take (m + 1)) : Nat) : Int) = ((kp - pendLen (f.pend.take m) : Nat) : Int) - ((p.2.take (kp - pendLen (f.pend.take m))).length : Int) := by rw [pendLen_next hp, List.length_take]; omega
          have hltp : (p.2.take (kp - pendLen (f.pend.take m))).length ≤ p.2.length := by rw [List.length_take]; omega
          have hltk : (p.2.take (kp - pendLen (f.pend.take m))).length ≤ kp - pendLen (f.pend.take m) := by rw [List.length_take]; omega
          refine W_skip ?_
          refine tN ?_
          refine W_seq ?_
          refine W_block ?_
          refine W_rs ?_
          refine sm rfl rfl ?_
          refine st (X.nilChk rfl) rfl ?_
          refine st (X.fa fa83_0 rfl) rfl ?_
          refine st (X.ldL rfl (hB.bel hbB) Tryz.underlying81 rfl rfl) rfl ?_
          refine sm rfl rfl ?_
          refine st (X.idxA rfl rfl Tryz.underlying81 siz92 rfl (by omega)) rfl ?_
          refine st (X.fa fa92_2 rfl) rfl ?_
          refine st (X.ld rfl Tryz.underlying90 rfl ((hR.bel hbB).reads.rec_' (f := RRec.cells) (rrec_len _) hml hxm 2 _ rfl)) rfl ?_
          refine sm rfl rfl ?_
          refine st (X.idxA rfl rfl Tryz.underlying90 siz132 rfl (by omega)) rfl ?_
          refine st (X.ldN (cs := putCells p) rfl Tryz.underlying132 rfl siz132 hcell) rfl ?_
          refine salA inf132 rfl (fun g10 w13 hB10 hg10 hb hl10 => ?_)
          replace hcw := hcw.then_below hb
          replace hbB := bthen hbB hb
          have hz_w13 := hb.size
          clear hb
          refine ssBN rfl rfl hB10 siz132 rfl rfl (fun w14 hB_ hc_ => ?_)
          replace hB10 := hB_
          clear hB_
          replace hcw := hcw.next hc_ (fun i_ hi_ => by first | exact .inl hi_ | exact .inl (.inl hi_) | (right; subst hi_; omega) | (left; subst hi_; show _ ≤ _; omega) | (left; subst hi_; assumption))
          replace hbB := bset hbB hc_ (by omega)
          have hz_w14 := hc_.size
          clear hc_
          have hB10' : Blk w14 g10 132 #[.int .i64 p.1, str p.2] := hB10
          clear hB10
          have hB10 := hB10'
          clear hB10'
          refine Wn ?_
          refine tN ?_
          refine W_seq ?_
          refine W_rs ?_
          refine st (X.fa fa132_1 rfl) rfl ?_
          refine st (X.ldL rfl hB10 Tryz.underlying9 rfl rfl) rfl ?_
          refine st (X.lenS rfl rfl Tryz.underlying9) rfl ?_
          refine sm rfl rfl ?_
          refine st (X.gtr rfl rfl) rfl ?_
          refine Wn ?_
          refine tN ?_
          refine W_if rfl (fun h104 => ?_) (fun h104 => ?_)
          · first | replace h104 := of_decide_eq_true h104 | replace h104 := of_decide_eq_false (notT h104) | replace h104 := notT h104 | skip
            refine W_reg ?_
            refine st (X.fa fa132_1 rfl) rfl ?_
            refine st (X.ldL rfl hB10 Tryz.underlying9 rfl rfl) rfl ?_
            refine sm rfl rfl ?_
            refine st (X.toS rfl rfl Tryz.underlying9 rfl (by omega)) rfl ?_
            refine st (X.fa fa132_1 rfl) rfl ?_
            refine ssB rfl rfl hB10 siz9 rfl (by first | decide | simp) (fun w15 hB_ hc_ => ?_)
            replace hB10 := hB_
            clear hB_
            replace hcw := hcw.next hc_ (fun i_ hi_ => by first | exact .inl hi_ | exact .inl (.inl hi_) | (right; subst hi_; omega) | (left; subst hi_; show _ ≤ _; omega) | (left; subst hi_; assumption))
            replace hbB := bset hbB hc_ (by omega)
            have hz_w15 := hc_.size
            clear hc_
            refine Wn ?_
            refine tN ?_
            refine W_rs ?_
            refine sm rfl rfl ?_
            refine st (X.fa fa132_1 rfl) rfl ?_
            refine st (X.ldL rfl hB10 Tryz.underlying9 rfl rfl) rfl ?_
            refine st (X.lenS rfl rfl Tryz.underlying9) rfl ?_
            refine st (X.sub64 rfl rfl (by omega)) rfl ?_
            refine sa rfl rfl ?_
            refine Wn ?_
            refine tN ?_
            refine W_rs ?_
            refine st (X.fa fa132_1 rfl) rfl ?_
            refine st (X.ldL rfl hB10 Tryz.underlying9 rfl rfl) rfl ?_
            refine st (X.neS rfl rfl) rfl ?_
            refine Wn ?_
            refine tN ?_
            refine W_if rfl (fun h117 => ?_) (fun h117 => ?_)
            · first | replace h117 := of_decide_eq_true h117 | replace h117 := of_decide_eq_false (notT h117) | replace h117 := notT h117 | skip
              refine W_reg ?_
              refine sm rfl rfl ?_
              refine st (X.ldBN rfl hB10 Tryz.underlying132 rfl siz132) rfl ?_
              have hpp : 0 < kp - pendLen (f.pend.take m) := by
                rcases Nat.eq_zero_or_pos (kp - pendLen (f.pend.take m)) with e | e
                · rw [e, List.take_zero] at h117
                  exact absurd rfl h117
                · exact e
              have hov := fun W_ : World => overR_any (crashBytes f.last (f.pend.take m) kp) (p.1, p.2.take (kp - pendLen (f.pend.take m))) W_ (crash_pos (p := p) hfk.puts hp hpp) (by omega) (by simp only; omega)
              simp only at hov
              obtain ⟨so, hso⟩ : ∃ s, overM (crashBytes f.last (f.pend.take m) kp) p.1 (p.2.take (kp - pendLen (f.pend.take m))) = s := ⟨_, rfl⟩
              rw [hso] at hov
              refine sc _ Tryz.func84 rfl (by kernel_rfl) rfl rfl ((hov _).mono ?_)
              rintro e_ w16 ⟨rfl, hb⟩
              refine cR ?_
              replace hcw := hcw.then_below hb
              replace hbB := bthen hbB hb
              replace hB10 := hB10.bel hb
              have hz_w16 := hb.size
              clear hb
              refine sa rfl rfl ?_
              refine Wn ?_
              refine bN ?_
              refine tN ?_
              refine W_reg ?_
              refine sm rfl rfl ?_
              refine st (X.add64 rfl rfl (by omega)) rfl ?_
              refine sa rfl rfl ?_
              refine Wn ?_
              refine tN ⟨_, _, ?_, ⟨m + 1, rfl, rfl, by omega, hcw, hbB⟩, ⟨rfl, rfl, rfl, by rw [hkn2]; rfl, by first | (rw [crash_next hfk.puts hp, hso] <;> rfl) | (rw [crash_next hfk.puts hp, h117, overM_nil] <;> rfl), rfl, trivial⟩⟩
              omega
            · first | replace h117 := of_decide_eq_false h117 | replace h117 := of_decide_eq_true (notF h117) | replace h117 := notF h117 | skip
              replace h117 := Classical.not_not.1 h117
              refine W_skip ?_
              refine bN ?_
              refine tN ?_
              refine W_reg ?_
              refine sm rfl rfl ?_
              refine st (X.add64 rfl rfl (by omega)) rfl ?_
              refine sa rfl rfl ?_
              refine Wn ?_
              refine tN ⟨_, _, ?_, ⟨m + 1, rfl, rfl, by omega, hcw, hbB⟩, ⟨rfl, rfl, rfl, by rw [hkn2]; rfl, by first | (rw [crash_next hfk.puts hp, hso] <;> rfl) | (rw [crash_next hfk.puts hp, h117, overM_nil] <;> rfl), rfl, trivial⟩⟩
              omega
          · first | replace h104 := of_decide_eq_false h104 | replace h104 := of_decide_eq_true (notF h104) | replace h104 := notF h104 | skip
            have htk : p.2.take (kp - pendLen (f.pend.take m)) = p.2 := List.take_of_length_le (by omega)
            rw [← htk] at hB10
            refine W_skip ?_
            refine tN ?_
            refine W_rs ?_
            refine sm rfl rfl ?_
            refine st (X.fa fa132_1 rfl) rfl ?_
            refine st (X.ldL rfl hB10 Tryz.underlying9 rfl rfl) rfl ?_
            refine st (X.lenS rfl rfl Tryz.underlying9) rfl ?_
            refine st (X.sub64 rfl rfl (by omega)) rfl ?_
            refine sa rfl rfl ?_
            refine Wn ?_
            refine tN ?_
            refine W_rs ?_
            refine st (X.fa fa132_1 rfl) rfl ?_
            refine st (X.ldL rfl hB10 Tryz.underlying9 rfl rfl) rfl ?_
            refine st (X.neS rfl rfl) rfl ?_
            refine Wn ?_
            refine tN ?_
            refine W_if rfl (fun h117 => ?_) (fun h117 => ?_)
            · first | replace h117 := of_decide_eq_true h117 | replace h117 := of_decide_eq_false (notT h117) | replace h117 := notT h117 | skip
              refine W_reg ?_
              refine sm rfl rfl ?_
              refine st (X.ldBN rfl hB10 Tryz.underlying132 rfl siz132) rfl ?_
              have hpp : 0 < kp - pendLen (f.pend.take m) := by
                rcases Nat.eq_zero_or_pos (kp - pendLen (f.pend.take m)) with e | e
                · rw [e, List.take_zero] at h117
                  exact absurd rfl h117
                · exact e
              have hov := fun W_ : World => overR_any (crashBytes f.last (f.pend.take m) kp) (p.1, p.2.take (kp - pendLen (f.pend.take m))) W_ (crash_pos (p := p) hfk.puts hp hpp) (by omega) (by simp only; omega)
              simp only at hov
              obtain ⟨so, hso⟩ : ∃ s, overM (crashBytes f.last (f.pend.take m) kp) p.1 (p.2.take (kp - pendLen (f.pend.take m))) = s := ⟨_, rfl⟩
              rw [hso] at hov
              refine sc _ Tryz.func84 rfl (by kernel_rfl) rfl rfl ((hov _).mono ?_)
              rintro e_ w17 ⟨rfl, hb⟩
              refine cR ?_
              replace hcw := hcw.then_below hb
              replace hbB := bthen hbB hb
              replace hB10 := hB10.bel hb
              have hz_w17 := hb.size
              clear hb
              refine sa rfl rfl ?_
              refine Wn ?_
              refine bN ?_
              refine tN ?_
              refine W_reg ?_
              refine sm rfl rfl ?_
              refine st (X.add64 rfl rfl (by omega)) rfl ?_
              refine sa rfl rfl ?_
              refine Wn ?_
              refine tN ⟨_, _, ?_, ⟨m + 1, rfl, rfl, by omega, hcw, hbB⟩, ⟨rfl, rfl, rfl, by rw [hkn2]; rfl, by first | (rw [crash_next hfk.puts hp, hso] <;> rfl) | (rw [crash_next hfk.puts hp, h117, overM_nil] <;> rfl), rfl, trivial⟩⟩
              omega
            · first | replace h117 := of_decide_eq_false h117 | replace h117 := of_decide_eq_true (notF h117) | replace h117 := notF h117 | skip
              replace h117 := Classical.not_not.1 h117
              refine W_skip ?_
              refine bN ?_
              refine tN ?_
              refine W_reg ?_
              refine sm rfl rfl ?_
              refine st (X.add64 rfl rfl (by omega)) rfl ?_
              refine sa rfl rfl ?_
              refine Wn ?_
              refine tN ⟨_, _, ?_, ⟨m + 1, rfl, rfl, by omega, hcw, hbB⟩, ⟨rfl, rfl, rfl, by rw [hkn2]; rfl, by first | (rw [crash_next hfk.puts hp, hso] <;> rfl) | (rw [crash_next hfk.puts hp, h117, overM_nil] <;> rfl), rfl, trivial⟩⟩
              omega
        · first | replace h86 := of_decide_eq_false h86 | replace h86 := of_decide_eq_true (notF h86) | replace h86 := notF h86 | skip
          obtain rfl : m = f.pend.length := by omega
          rw [List.take_length]
          replace hB := hB.bel hbB
          replace hR := hR.bel hbB
          replace hV := hV.bel hbB
          replace hK := hK.belowAll hbB
          refine W_exit (tE (tE (bH ?_)))
          refine tN ?_
          refine W_rs ?_
          refine sm rfl rfl ?_
          refine st (X.nilChk rfl) rfl ?_
          refine st (X.fa fa83_0 rfl) rfl ?_
          refine st (X.ldL rfl hB Tryz.underlying81 rfl rfl) rfl ?_
          refine sm rfl rfl ?_
          refine sm rfl rfl ?_
          refine st (X.idxA rfl rfl Tryz.underlying81 siz92 rfl (by omega)) rfl ?_
          refine st (X.fa fa92_1 rfl) rfl ?_
          refine ssRN (o := oF) (j := i * 3 + 1) rfl (by omega) rfl hR (by omega) (by omega) siz9 rfl (fun w18 hR3 hC3 => ?_)
          have hB3 := hB.chg hC3 (fun e => hneF e.symm)
          have hV3 := hV.chg hC3 (fun q hq => (hV q hq).ne2x hR)
          have hK3 := hK.chgS hC3 (fun h0 k hk e => hKS h0 k hk (by rw [show k = gF from e]; exact hSF))
          replace hcw := hcw.next hC3 (fun k hk => .inl (by rw [show k = gF from hk]; exact hSF))
          clear hB hR hV hK hC3
          have hB := hB3
          have hV := hV3
          have hK := hK3
          clear hB3 hV3 hK3
          refine Wn ?_
          refine tN ?_
          refine W_reg ?_
          refine sm rfl rfl ?_
          refine st (X.nilChk rfl) rfl ?_
          refine st (X.fa fa83_0 rfl) rfl ?_
          refine st (X.ldL rfl hB Tryz.underlying81 rfl rfl) rfl ?_
          refine sm rfl rfl ?_
          refine st (X.idxA rfl rfl Tryz.underlying81 siz92 rfl (by omega)) rfl ?_
          refine st (X.fa fa92_2 rfl) rfl ?_
          refine ssRN (o := oF) (j := i * 3 + 2) rfl (by omega) rfl hR3 (by omega) (by omega) siz90 rfl (fun w19 hR4 hC3 => ?_)
          have hB3 := hB.chg hC3 (fun e => hneF e.symm)
          have hV3 := hV.chg hC3 (fun q hq => (hV q hq).ne2x hR3)
          have hK3 := hK.chgS hC3 (fun h0 k hk e => hKS h0 k hk (by rw [show k = gF from e]; exact hSF))
          replace hcw := hcw.next hC3 (fun k hk => .inl (by rw [show k = gF from hk]; exact hSF))
          clear hB hV hK hC3
          have hB := hB3
          have hV := hV3
          have hK := hK3
          clear hB3 hV3 hK3
          rw [flat_set3 ⟨n, ⟨crashBytes f.last f.pend kp, f.now, f.pend⟩, .slice av f.pend.length cv⟩ 1 _ hxm (by omega) rfl, flat_set3 (r := ⟨n, ⟨crashBytes f.last f.pend kp, f.now, f.pend⟩, .slice av f.pend.length cv⟩) ⟨n, crashM f kp, .slice none 0 0⟩ 2 _ (by rw [List.getElem?_set_self (by omega)]) (by omega) rfl, List.set_set] at hR4
          have hR' := hR4
          rw [← hkp, ← hpk, midR_set hx] at hR'
          clear hR4 hR3
          refine Wn ?_
          refine bN ?_
          refine tN ?_
          refine W_reg ?_
          refine sm rfl rfl ?_
          refine st (X.add64 rfl rfl (by omega)) rfl ?_
          refine sa rfl rfl ?_
          refine Wn ?_
          refine tN ⟨_, _, ?_, ⟨i + 1, rfl, rfl, by omega, hcw, hB, hR', hV, hK⟩, ⟨rfl, rfl, rfl, trivial⟩⟩
          omega
  · first | replace h20 := of_decide_eq_false h20 | replace h20 := of_decide_eq_true (notF h20) | replace h20 := notF h20 | skip
    obtain rfl : i = rs.length := by omega
    rw [midR_all, ← crR_length rs ks] at hR
    refine W_exit (tE (tE (bH ?_)))
    refine (r0 rfl ⟨rfl, ⟨.slice a rs.length c, crR rs ks, ⟨hB, ?_, ?_, fun r hr => ?_⟩, ?_, .inl hSg, fun k hk => .inl (hh.vF k hk), fun r hr k hk => ?_⟩, hcw⟩).2
    · rw [crR_length] at hR ⊢; exact hR
    · rw [crR_map, h.files]; rfl
    · obtain ⟨e1, e2⟩ := crR_nil _ _ _ hr; rw [e1, e2]; exact Row.nil _ _ _
    · refine List.Pairwise.imp_of_mem (R := fun _ _ => True) (fun {x y} hx hy _ k hk => ?_) (List.pairwise_of_forall (fun _ _ => trivial))
      rw [(crR_nil _ _ _ hx).1] at hk
      simp [Value.ownBlock] at hk
    · rw [(crR_nil _ _ _ hr).1] at hk
      simp [Value.ownBlock] at hk
end
end Go.Proofs.YtnijmegalgoipaaGreatDoor
