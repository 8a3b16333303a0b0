/- disk: Crash. -/
import Derived.Test.YtnijmegalgoipaaDoorDiskL
namespace Go.Proofs.YtnijmegalgoipaaDoor
open Go.RowKit
theorem Reads.chgS {w w' : World} {size n : Nat} {v : Value} {xs : List Value} {T : Nat → Prop} (h : Reads w size v n xs) (hc : Chg T w w') (hn : 0 < n → ∀ k, v.ownBlock = some k → ¬ T k) : Reads w' size v n xs := by
  obtain ⟨h1, a, cap, rfl, h3, h4, h5⟩ := h
  refine ⟨h1, a, cap, rfl, h3, h4, fun h0 => ?_⟩
  obtain ⟨g', off, rfl, hg, hcl⟩ := h5 h0
  have := hc.size
  exact ⟨g', off, rfl, by omega, fun j u hu => (hc.cell (p := ⟨g', off + j, none⟩) hg (hn h0 g' (by simp [Value.ownBlock]))).trans (hcl j u hu)⟩
theorem Reads.ownLt {w : World} {size n : Nat} {v : Value} {xs : List Value} (h : Reads w size v n xs) (hn : 0 < n) {k : Nat} (hk : v.ownBlock = some k) : k < w.heap.size := by
  obtain ⟨h1, a, cap, rfl, h3, h4, h5⟩ := h
  obtain ⟨g', off, rfl, hg, hcl⟩ := h5 hn
  simp [Value.ownBlock] at hk
  omega
theorem FileAt.ne_row {w : World} {r : FRec} (h : FileAt w r) {e : TypeId} {size n : Nat} {v : Value} {xs : List Value} (hR : Row w e size v n xs) (h1 : e ≠ 95) (h2 : e ≠ 5) (h3 : e ≠ 109) : ∀ k, v.ownBlock = some k → ¬ r.owns k := fun k hk ho => by
  obtain ⟨cs', t', fz, e', ht⟩ := h.cells ho
  obtain ⟨cs, fz2, e2⟩ := hR.heap_cells hk
  rw [e2] at e'
  injection e' with e'
  injection e' with _ e'
  subst e'
  exact ht.elim h1 (fun h => h.elim h2 h3)
/- ---------- plain ---------- -/
theorem crashAll_at : ∀ (l : List (Key × FileD)) (ks : List Int) (i : Nat) (p : Key × FileD), l[i]? = some p → (crashAll l ks)[i]? = some (p.1, crashM p.2 (keptM p.2 (ks[i]?.getD 0)))
  | [], _, _, _, h => by simp at h
  | q :: l, ks, 0, p, h => by
    simp only [List.getElem?_cons_zero, Option.some.injEq] at h
    subst h
    cases ks <;> rfl
  | q :: l, ks, i + 1, p, h => by
    simp only [List.getElem?_cons_succ] at h
    have := crashAll_at l ks.tail i p h
    simp only [crashAll, List.getElem?_cons_succ, this]
    cases ks <;> rfl
theorem mget_append {ν : Type} (a b : List (Key × ν)) (k : Key) : mget (a ++ b) k = (mget a k).or (mget b k) := by
  induction a with
  | nil => rfl
  | cons p a ih =>
    obtain ⟨x, u⟩ := p
    simp only [List.cons_append, mget]
    split
    · rfl
    · exact ih
/-- the files while the disk crashes -/
def midM (D : DiskD) (ks : List Int) (i : Nat) : DiskD := { D with files := (crashAll D.files ks).take i ++ D.files.drop i, used := usedM ((crashAll D.files ks).take i), stops := false }
theorem usedM_append (a b : List (Key × FileD)) : usedM (a ++ b) = usedM a + usedM b := by
  induction a with
  | nil => simp [usedM]
  | cons p a ih => simp only [List.cons_append, usedM, ih]; omega
section
variable {D : DiskD} {ks : List Int} {i : Nat} {p : Key × FileD}
theorem mid_zero : midM D ks 0 = { D with used := 0, stops := false } := by simp [midM, usedM]
theorem mid_all : midM D ks D.files.length = crashD D ks := by
  have h : (crashAll D.files ks).length = D.files.length := by simpa using congrArg List.length (crashAll_keys D.files ks)
  unfold midM crashD
  rw [List.take_of_length_le (by omega), List.drop_length, List.append_nil]
theorem mid_get (hs : Rising D.files) (hp : D.files[i]? = some p) : mget (midM D ks i).files p.1 = some p.2 ∧
    (∀ m, mget (midM D ks (i + 1)).files m = if m = p.1 then some (crashM p.2 (keptM p.2 (ks[i]?.getD 0))) else mget (midM D ks i).files m) ∧
    (midM D ks (i + 1)).used = (midM D ks i).used + ((crashM p.2 (keptM p.2 (ks[i]?.getD 0))).now.length : Nat) := by
  have hc := crashAll_at D.files ks i p hp
  have hd : D.files.drop i = p :: D.files.drop (i + 1) := by
    obtain ⟨hj, rfl⟩ := List.getElem?_eq_some_iff.1 hp
    exact List.drop_eq_getElem_cons hj
  have ht := take_next' hc
  have hnone : mget ((crashAll D.files ks).take i) p.1 = none := by
    rw [mget_none, List.map_take, crashAll_keys, ← List.map_take]
    have h1 := hs.nodup
    rw [← List.take_append_drop i D.files, hd, List.map_append, List.map_cons, List.nodup_append] at h1
    intro h2
    exact h1.2.2 _ h2 _ (List.mem_cons_self ..) rfl
  refine ⟨?_, fun m => ?_, ?_⟩
  · show mget (_ ++ _) _ = _
    rw [mget_append, hnone, hd]
    obtain ⟨a, u⟩ := p
    simp [mget]
  · show mget (_ ++ _) _ = if _ then _ else mget (_ ++ _) _
    rw [ht, mget_append, mget_append, mget_append, hd]
    obtain ⟨a, u⟩ := p
    simp only [mget]
    split
    · rename_i e
      subst e
      rw [hnone]
      simp
    · simp
  · show ((usedM _ : Nat) : Int) = ((usedM _ : Nat) : Int) + _
    rw [ht, usedM_append]
    simp only [usedM]
    omega
theorem mid_used (hok : DOk D) : 0 ≤ (midM D ks i).used ∧ (midM D ks i).used ≤ 16777216 := by
  have h1 := crashAll_used D.files ks (fun p hp => hok.fok p.1 p.2 (mget_of_mem hok.srt.nodup hp))
  have h2 := hok.used
  have h3 := hok.room
  have h4 := hok.lim
  have h5 : usedM ((crashAll D.files ks).take i) ≤ usedM (crashAll D.files ks) := by
    conv => rhs; rw [← List.take_append_drop i (crashAll D.files ks), usedM_append]
    omega
  show 0 ≤ ((usedM _ : Nat) : Int) ∧ ((usedM _ : Nat) : Int) ≤ _
  omega
end
theorem keptM_le {f : FileD} (pk : Int) (h : pendLen f.pend ≤ 1099511627776) : keptM f pk ≤ 4398046511104 := by
  have h1 := Int.emod_lt_of_pos pk (b := ((pendLen f.pend + 1 : Nat) : Int)) (by omega)
  unfold keptM
  omega
theorem midCells (b : Nat) (D : DiskD) (ks : List Int) (i : Nat) : diskCells b (midM D ks i) = #[.map (some b), .int .i64 D.limit, .int .i64 (midM D ks i).used, .int .i64 D.refused, .bool false, .int .i64 D.left] := rfl
set_option maxRecDepth 10000 in
theorem Crash_any (g : Nat) (D : DiskD) (S : Nat → Prop) (vk : Value) (ks : List Int) (w : World) (h : DiskAt w g D S) (hok : DOk D) (hbud : DBud D) (hlen : D.files.length ≤ 1000000) (hK : Reads w 1 vk ks.length (ks.map fun k => .int .i64 k)) (hKS : 0 < ks.length → ∀ k, vk.ownBlock = some k → ¬ S k) :
    Calls Tryd.prog 28 #[.pointer (some ⟨g, 0, none⟩), vk] w fun e w' => e = .returned (.tuple #[]) ∧ DiskAt w' g (crashD D ks) (Ext S w w') ∧ Chg S w w' := by
  obtain ⟨b, rs, h⟩ := h
  have hlt := h.blk.lt
  have hKlt : 0 < ks.length → ∀ k, vk.ownBlock = some k → k < w.heap.size := fun h0 k hk => hK.ownLt h0 hk
  obtain ⟨ak, ck, hvk, hck, hck2⟩ := hK.shape
  subst hvk
  have hB : Blk w g 88 #[.map (some b), .int .i64 D.limit, .int .i64 D.used, .int .i64 D.refused, .bool D.stops, .int .i64 D.left] := h.blk
  have hD := h
  have hnl : (namesM D).length = D.files.length := by simp [namesM]
  refine W_enter (args := [.pointer (some ⟨g, 0, none⟩), .slice ak ks.length ck]) 56 Tryd.func28 rfl rfl rfl ?_
  refine W_sub [(0, .pointer (some ⟨g, 0, none⟩)), (1, .slice ak ks.length ck)] ?_ ⟨rfl, rfl, trivial⟩
  have hcw := Chg.refl (S) w
  refine W_seq ?_
  refine W_rs ?_
  refine sm rfl rfl ?_
  refine st (X.dEq rfl) rfl ?_
  refine Wn ?_
  refine tN ?_
  refine W_no rfl (rfl) ?_
  refine W_skip ?_
  refine tN ?_
  refine W_rs ?_
  refine sm rfl rfl ?_
  refine sm rfl rfl ?_
  refine st (X.nilChk rfl) rfl ?_
  refine st (X.fa fa88_2 rfl) rfl ?_
  refine ssB rfl rfl hB siz3 rfl (by simp) (fun w1 hB1 hC1 => ?_)
  have hD1 := hD.self (D' := { D with used := 0 }) hC1 hB1 rfl
  have hK1 := hK.chgS hC1 (fun h0 k hk e => hKS h0 k hk (by rw [e]; exact h.inS.1))
  have hcw1 := hcw.next hC1 (fun k hk => .inl (by rw [hk]; exact h.inS.1))
  clear hD hK hcw hB
  have hD := hD1
  have hK := hK1
  have hcw := hcw1
  have hB := hB1
  clear hD1 hK1 hcw1
  refine st (X.nilChk rfl) rfl ?_
  refine st (X.fa fa88_4 rfl) rfl ?_
  refine ssB rfl rfl hB siz4 rfl (by simp) (fun w2 hB2 hC2 => ?_)
  have hD2 := hD.self (D' := midM D ks 0) hC2 (by rw [mid_zero]; exact hB2) (by rw [mid_zero])
  have hK2 := hK.chgS hC2 (fun h0 k hk e => hKS h0 k hk (by rw [e]; exact h.inS.1))
  have hcw2 := hcw.next hC2 (fun k hk => .inl (by rw [hk]; exact h.inS.1))
  clear hD hK hcw hB hB1
  have hD := hD2
  have hK := hK2
  have hcw := hcw2
  have hB := hB2
  clear hD2 hK2 hcw2
  refine Wn ?_
  refine tN ?_
  refine W_rs ?_
  refine sm rfl rfl ?_
  refine sc _ Tryd.func33 rfl (by kernel_rfl) rfl rfl ((List_any g (midM D ks 0) S _ ⟨b, rs, hD⟩ (by rw [mid_zero]; exact hok.srt) (by rw [mid_zero]; exact hlen)).mono ?_)
  rintro e_ w3 ⟨v, rfl, hL, hO, hb⟩
  refine cR ?_
  replace hcw := hcw.then_below hb
  replace hK := hK.bel hb
  replace hD := hD.bel hb
  have hz_w3 := hb.size
  clear hb
  have hLn : namesM (midM D ks 0) = namesM D := by rw [mid_zero]; rfl
  rw [hLn, hnl] at hL
  clear hLn hO
  obtain ⟨a, c, rfl, hc1, hc2⟩ := hL.shape
  refine st (X.lenL rfl rfl Tryd.underlying23) rfl ?_
  refine sm rfl rfl ?_
  refine Wn ?_
  refine tN ?_
  refine W_block ?_
  refine W_lp (fun nw4_ lw4_ w4 => ∃ i : Nat, ∃ rsx : List (Key × FRec), nw4_ = D.files.length - i ∧ lw4_ = ([(0, .pointer (some ⟨g, 0, none⟩)), (1, .slice ak ks.length ck), (17, .slice a D.files.length c), (18, .int .i64 D.files.length), (19, .int .i64 i)] : Env) ∧ (i ≤ D.files.length) ∧ (Chg S w w4) ∧ (DiskIn w4 g b (midM D ks i) rsx (Ext S w w4)) ∧ (Reads w4 1 (.slice ak ks.length ck) ks.length (ks.map fun k => .int .i64 k)) ∧ (Row w4 9 1 (.slice a D.files.length c) D.files.length ((namesM D).map str)) ∧ (Blk w4 g 88 #[.map (some b), .int .i64 D.limit, .int .i64 (midM D ks i).used, .int .i64 D.refused, .bool false, .int .i64 D.left])) _ ⟨_, ⟨0, rs, rfl, rfl, Nat.zero_le _, hcw, hD.mono Ext.of, hK, hL, hD.blk⟩, ⟨rfl, rfl, rfl, rfl, rfl, trivial⟩⟩ ?_
  clear hcw hK hL
  rintro nw4_ lw4_ w4 ⟨i, rsx, rfl, rfl, hi, hcw, hD, hK, hL, hB⟩
  have hlt_hB_w4 := hB.lt
  have hu := mid_used (ks := ks) (i := i) hok
  have hzc := hcw.size
  refine W_rs ?_
  refine st (X.lss rfl rfl) rfl ?_
  refine Wn ?_
  refine tN ?_
  refine W_seq ?_
  refine W_if rfl (fun h20 => ?_) (fun h20 => ?_)
  · first | replace h20 := of_decide_eq_true h20 | replace h20 := of_decide_eq_false (notT h20) | replace h20 := notT h20 | skip
    obtain ⟨p, hp⟩ : ∃ p, D.files[i]? = some p := ⟨_, List.getElem?_eq_getElem (by omega)⟩
    obtain ⟨hm1, hm2, hm3⟩ := mid_get (ks := ks) hok.srt hp
    obtain ⟨g1, o1, c', hv, hg1⟩ := hL.reads.some_ (by omega)
    injection hv with e1 _ e3
    subst e1 e3
    have hux : ((namesM D).map str)[i]? = some (str p.1) := by simp [namesM, hp]
    obtain ⟨r, hr, hrf⟩ : ∃ r, mget rsx p.1 = some r ∧ r.f = p.2 := by
      have := hD.files p.1
      rw [hm1] at this
      cases hr : mget rsx p.1 with
      | none => rw [hr] at this; cases this
      | some r => rw [hr] at this; injection this with this; exact ⟨r, rfl, this.symm⟩
    have hv : ((mget (rsx.map fun p => (p.1, p.2.blk)) p.1).map encPtr).getD (.pointer none) = .pointer (some ⟨r.blk, 0, none⟩) := look_ptr (o := some r.blk) (by rw [hr]; rfl)
    obtain ⟨pk, hpk⟩ : ∃ pk, ks[i]?.getD 0 = pk := ⟨_, rfl⟩
    rw [hpk] at hm2 hm3
    rw [← hrf] at hm2 hm3
    have hfo : mget D.files p.1 = some r.f := by rw [hrf]; exact mget_of_mem hok.srt.nodup (List.mem_of_getElem? hp)
    have hfb := hbud.pend _ _ hfo
    obtain ⟨hln1, hln2, _⟩ := hok.len hfo
    have hKr : 0 < ks.length → ∀ k, (Value.slice ak ks.length ck).ownBlock = some k → ¬ r.owns k := fun h0 k hk ho => by
      rcases hD.inR _ _ k hr ho with e | e
      · exact hKS h0 k hk e
      · have := hKlt h0 k hk; omega
    refine W_skip ?_
    refine tN ?_
    refine W_seq ?_
    refine W_block ?_
    refine W_rs ?_
    refine sm rfl rfl ?_
    refine st (X.idxA rfl rfl Tryd.underlying23 siz9 rfl (by omega)) rfl ?_
    refine st (X.ld rfl Tryd.underlying9 rfl (by rw [Nat.mul_one]; exact hL.reads.cellAt (by omega) hux)) rfl ?_
    refine sa rfl rfl ?_
    refine sa rfl rfl ?_
    refine Wn ?_
    refine tN ?_
    refine W_rs ?_
    refine sm rfl rfl ?_
    refine st (X.nilChk rfl) rfl ?_
    refine st (X.fa fa88_0 rfl) rfl ?_
    refine st (X.ldL rfl hB Tryd.underlying86 rfl rfl) rfl ?_
    refine sm rfl rfl ?_
    refine st (v := .pointer (some ⟨r.blk, 0, none⟩)) (hv ▸ X.look (keyStr Tryd.underlying9) rfl p.1 rfl Tryd.underlying86 (zptr _) hD.map) rfl ?_
    refine sa rfl rfl ?_
    refine sa rfl rfl ?_
    refine Wn ?_
    refine tN ?_
    refine W_seq ?_
    refine W_rs ?_
    refine sm rfl rfl ?_
    refine sm rfl rfl ?_
    refine st (X.lenL rfl rfl Tryd.underlying56) rfl ?_
    refine st (X.lss rfl rfl) rfl ?_
    refine Wn ?_
    refine tN ?_
    refine W_if rfl (fun h33 => ?_) (fun h33 => ?_)
    · first | replace h33 := of_decide_eq_true h33 | replace h33 := of_decide_eq_false (notT h33) | replace h33 := notT h33 | skip
      obtain ⟨gk, ok_, ck', hvk, hgk⟩ := hK.some_ (by omega)
      injection hvk with e1 _ e3
      subst e1 e3
      have hkx : ks[i]? = some pk := by
        rw [← hpk, List.getElem?_eq_getElem (by omega)]
        rfl
      have hkx2 : (ks.map fun k => Value.int .i64 k)[i]? = some (.int .i64 pk) := by rw [List.getElem?_map, hkx]; rfl
      refine W_reg ?_
      refine sm rfl rfl ?_
      refine sm rfl rfl ?_
      refine st (X.idxA rfl rfl Tryd.underlying56 siz3 rfl (by omega)) rfl ?_
      refine st (X.ld rfl Tryd.underlying3 rfl (by rw [Nat.mul_one]; exact hK.cellAt (by omega) hkx2)) rfl ?_
      refine sa rfl rfl ?_
      refine Wn ?_
      refine tN ?_
      refine W_rs ?_
      refine sm rfl rfl ?_
      refine sm rfl rfl ?_
      refine sm rfl rfl ?_
      refine sc _ Tryd.func61 rfl (by kernel_rfl) rfl rfl ((kept_any r.blk r.vl r.vn r.vp r.f _ _ (hD.at_ _ _ hr).blk (hD.at_ _ _ hr).pend hfb.1).mono ?_)
      rintro e_ w5 ⟨rfl, hb⟩
      refine cR ?_
      replace hcw := hcw.then_below hb
      replace hD := hD.bel hb
      replace hK := hK.bel hb
      replace hL := hL.bel hb
      replace hB := hB.bel hb
      have hz_w5 := hb.size
      clear hb
      refine sc _ Tryd.func60 rfl (by kernel_rfl) rfl rfl ((crash_any r (keptM r.f _) _ (hD.at_ _ _ hr) hfb.1 (by omega) (keptM_le _ hfb.1)).mono ?_)
      rintro e_ w6 ⟨rfl, r', hF', hbl, hff, how, hCr⟩
      refine cR ?_
      have hB1 := hB.chg hCr (hD.ne hr).1
      have hL1 := hL.chg hCr ((hD.at_ _ _ hr).ne_row hL (by decide) (by decide) (by decide))
      have hK1 := hK.chgS hCr hKr
      have hcw1 := hcw.next hCr (fun k hk => (hD.inR _ _ k hr hk).imp id (fun e => e.1))
      have hzr := hCr.size
      have hCc := hCr.mono (T := fun k => k = g ∨ r.owns k) (fun k _ hk => .inr hk)
      clear hB hL hK hcw hCr
      have hB := hB1
      have hL := hL1
      have hK := hK1
      have hcw := hcw1
      clear hB1 hL1 hK1 hcw1
      obtain ⟨an, cn, hvn, _⟩ := hF'.now.shape
      have hF6 : Blk w6 r.blk 95 #[r'.vl, .slice an r'.f.now.length cn, r'.vp] := by rw [← hbl, ← hvn]; exact hF'.blk
      have hrl : r'.f.now.length ≤ 16777216 := by
        rw [hff]
        exact Nat.le_trans ((hok.fok _ _ hfo).crash_len _) hln1
      refine Wn ?_
      refine tN ?_
      refine W_still 12 (by kernel_rfl) (by kernel_rfl) ?_
      obtain ⟨w7, hw_⟩ : ∃ w7 : World, w7 = World.drew w6 := ⟨_, rfl⟩
      rw [← hw_]
      have hb : Below w6.heap.size w6 w7 := by rw [hw_]; exact bdrew (Below.refl _ _)
      clear hw_
      replace hcw := hcw.then_below hb
      replace hK := hK.bel hb
      replace hL := hL.bel hb
      replace hB := hB.bel hb
      replace hCc := hCc.bel hb
      replace hF6 := hF6.bel hb
      replace hF' := hF'.bel hb
      have hz_w7 := hb.size
      clear hb
      refine hY (X.move rfl) rfl ?_
      refine hY (X.nilChk rfl) rfl ?_
      refine hY (X.fa fa88_2 rfl) rfl ?_
      refine hY (X.ldL rfl hB Tryd.underlying3 rfl rfl) rfl ?_
      refine hY (X.move rfl) rfl ?_
      refine hY (X.nilChk rfl) rfl ?_
      refine hY (X.fa fa95_1 rfl) rfl ?_
      refine hY (X.ldL rfl hF6 Tryd.underlying92 rfl rfl) rfl ?_
      refine hY (X.lenL rfl rfl Tryd.underlying92) rfl ?_
      refine hY (X.add64 rfl rfl (by omega)) rfl ?_
      refine hY (X.nilChk rfl) rfl ?_
      refine hY (X.fa fa88_2 rfl) rfl ?_
      refine hN ?_
      refine ssB rfl rfl hB siz3 rfl (by simp) (fun w8 hB1 hC1 => ?_)
      have hg' : ¬ r'.owns g := fun e => (how g e).elim (hD.ne hr).1 (fun e => by have := hD.blk.lt; omega)
      have hD' : DiskIn w8 g b (midM D ks (i + 1)) (mput rsx p.1 r') (Ext S w w8) := by
        refine (hD.file hr (hCc.next hC1 (fun k hk => .inl (.inl hk))) (D' := midM D ks (i + 1)) (r' := r') (by rw [midCells, hm3, ← hff]; exact hB1) (by rw [hff]; exact hm2) (hF'.chg hC1 (fun k hk e => hg' (by rw [← e]; exact hk))) hbl how).mono (fun k hk => ?_)
        rcases hk with hk | hk
        · rcases hk with hk | hk
          · exact .inl hk
          · exact .inr ⟨hk.1, by have := hC1.size; have := hCc.size; omega⟩
        · exact .inr ⟨by have := hzc; omega, hk.2⟩
      have hL1 := hL.chg hC1 (hL.ne2 hB (by decide))
      have hK1 := hK.chgS hC1 (fun h0 k hk e => hKS h0 k hk (by rw [e]; exact h.inS.1))
      have hcw1 := hcw.next hC1 (fun k hk => .inl (by rw [hk]; exact h.inS.1))
      clear hL hK hcw hB
      have hL := hL1
      have hK := hK1
      have hcw := hcw1
      have hB := hB1
      refine Wn ?_
      refine bN ?_
      refine tN ?_
      refine W_reg ?_
      refine st (X.add64 rfl rfl (by omega)) rfl ?_
      refine sm rfl rfl ?_
      refine Wn ?_
      refine tN ⟨_, _, ?_, ⟨i + 1, mput rsx p.1 r', rfl, rfl, by omega, hcw, hD', hK, hL, hD'.blk⟩, ⟨rfl, rfl, rfl, rfl, rfl, trivial⟩⟩
      omega
    · first | replace h33 := of_decide_eq_false h33 | replace h33 := of_decide_eq_true (notF h33) | replace h33 := notF h33 | skip
      obtain rfl : pk = 0 := by rw [← hpk, List.getElem?_eq_none (by omega)]; rfl
      refine W_skip ?_
      refine tN ?_
      refine W_rs ?_
      refine sm rfl rfl ?_
      refine sm rfl rfl ?_
      refine sm rfl rfl ?_
      refine sc _ Tryd.func61 rfl (by kernel_rfl) rfl rfl ((kept_any r.blk r.vl r.vn r.vp r.f _ _ (hD.at_ _ _ hr).blk (hD.at_ _ _ hr).pend hfb.1).mono ?_)
      rintro e_ w9 ⟨rfl, hb⟩
      refine cR ?_
      replace hcw := hcw.then_below hb
      replace hD := hD.bel hb
      replace hK := hK.bel hb
      replace hL := hL.bel hb
      replace hB := hB.bel hb
      have hz_w9 := hb.size
      clear hb
      refine sc _ Tryd.func60 rfl (by kernel_rfl) rfl rfl ((crash_any r (keptM r.f _) _ (hD.at_ _ _ hr) hfb.1 (by omega) (keptM_le _ hfb.1)).mono ?_)
      rintro e_ w10 ⟨rfl, r', hF', hbl, hff, how, hCr⟩
      refine cR ?_
      have hB1 := hB.chg hCr (hD.ne hr).1
      have hL1 := hL.chg hCr ((hD.at_ _ _ hr).ne_row hL (by decide) (by decide) (by decide))
      have hK1 := hK.chgS hCr hKr
      have hcw1 := hcw.next hCr (fun k hk => (hD.inR _ _ k hr hk).imp id (fun e => e.1))
      have hzr := hCr.size
      have hCc := hCr.mono (T := fun k => k = g ∨ r.owns k) (fun k _ hk => .inr hk)
      clear hB hL hK hcw hCr
      have hB := hB1
      have hL := hL1
      have hK := hK1
      have hcw := hcw1
      clear hB1 hL1 hK1 hcw1
      obtain ⟨an, cn, hvn, _⟩ := hF'.now.shape
      have hF6 : Blk w10 r.blk 95 #[r'.vl, .slice an r'.f.now.length cn, r'.vp] := by rw [← hbl, ← hvn]; exact hF'.blk
      have hrl : r'.f.now.length ≤ 16777216 := by
        rw [hff]
        exact Nat.le_trans ((hok.fok _ _ hfo).crash_len _) hln1
      refine Wn ?_
      refine tN ?_
      refine W_still 12 (by kernel_rfl) (by kernel_rfl) ?_
      obtain ⟨w11, hw_⟩ : ∃ w11 : World, w11 = World.drew w10 := ⟨_, rfl⟩
      rw [← hw_]
      have hb : Below w10.heap.size w10 w11 := by rw [hw_]; exact bdrew (Below.refl _ _)
      clear hw_
      replace hcw := hcw.then_below hb
      replace hK := hK.bel hb
      replace hL := hL.bel hb
      replace hB := hB.bel hb
      replace hCc := hCc.bel hb
      replace hF6 := hF6.bel hb
      replace hF' := hF'.bel hb
      have hz_w11 := hb.size
      clear hb
      refine hY (X.move rfl) rfl ?_
      refine hY (X.nilChk rfl) rfl ?_
      refine hY (X.fa fa88_2 rfl) rfl ?_
      refine hY (X.ldL rfl hB Tryd.underlying3 rfl rfl) rfl ?_
      refine hY (X.move rfl) rfl ?_
      refine hY (X.nilChk rfl) rfl ?_
      refine hY (X.fa fa95_1 rfl) rfl ?_
      refine hY (X.ldL rfl hF6 Tryd.underlying92 rfl rfl) rfl ?_
      refine hY (X.lenL rfl rfl Tryd.underlying92) rfl ?_
      refine hY (X.add64 rfl rfl (by omega)) rfl ?_
      refine hY (X.nilChk rfl) rfl ?_
      refine hY (X.fa fa88_2 rfl) rfl ?_
      refine hN ?_
      refine ssB rfl rfl hB siz3 rfl (by simp) (fun w12 hB1 hC1 => ?_)
      have hg' : ¬ r'.owns g := fun e => (how g e).elim (hD.ne hr).1 (fun e => by have := hD.blk.lt; omega)
      have hD' : DiskIn w12 g b (midM D ks (i + 1)) (mput rsx p.1 r') (Ext S w w12) := by
        refine (hD.file hr (hCc.next hC1 (fun k hk => .inl (.inl hk))) (D' := midM D ks (i + 1)) (r' := r') (by rw [midCells, hm3, ← hff]; exact hB1) (by rw [hff]; exact hm2) (hF'.chg hC1 (fun k hk e => hg' (by rw [← e]; exact hk))) hbl how).mono (fun k hk => ?_)
        rcases hk with hk | hk
        · rcases hk with hk | hk
          · exact .inl hk
          · exact .inr ⟨hk.1, by have := hC1.size; have := hCc.size; omega⟩
        · exact .inr ⟨by have := hzc; omega, hk.2⟩
      have hL1 := hL.chg hC1 (hL.ne2 hB (by decide))
      have hK1 := hK.chgS hC1 (fun h0 k hk e => hKS h0 k hk (by rw [e]; exact h.inS.1))
      have hcw1 := hcw.next hC1 (fun k hk => .inl (by rw [hk]; exact h.inS.1))
      clear hL hK hcw hB
      have hL := hL1
      have hK := hK1
      have hcw := hcw1
      have hB := hB1
      refine Wn ?_
      refine bN ?_
      refine tN ?_
      refine W_reg ?_
      refine st (X.add64 rfl rfl (by omega)) rfl ?_
      refine sm rfl rfl ?_
      refine Wn ?_
      refine tN ⟨_, _, ?_, ⟨i + 1, mput rsx p.1 r', rfl, rfl, by omega, hcw, hD', hK, hL, hD'.blk⟩, ⟨rfl, rfl, rfl, rfl, rfl, trivial⟩⟩
      omega
  · first | replace h20 := of_decide_eq_false h20 | replace h20 := of_decide_eq_true (notF h20) | replace h20 := notF h20 | skip
    obtain rfl : i = D.files.length := by omega
    rw [mid_all] at hD
    refine W_exit (tE (tE (bH ?_)))
    exact (r0 rfl ⟨rfl, ⟨b, _, hD⟩, hcw⟩).2
end Go.Proofs.YtnijmegalgoipaaDoor
