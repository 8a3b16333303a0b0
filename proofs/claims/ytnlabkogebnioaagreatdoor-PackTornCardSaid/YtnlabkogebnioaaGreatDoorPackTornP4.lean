/- What PackTorn needs, part 4. -/
import Derived.Lib.LaidU8T
import Derived.Stop.LaidErr
import Derived.Test.YtnlabkogebnioaaGreatDoorCards
import Derived.Test.YtnlabkogebnioaaGreatDoorPackTornP3
namespace Go.Proofs.YtnlabkogebnioaaGreatDoor
open Go.RowKit Sha
theorem pzer_eq (n : Nat) : (madeCells (Value.int IntKind.u8 0).cells (n * 1)).toList = (List.replicate n (0 : UInt8)).map bv := by
 rw [Nat.mul_one]
 apply List.ext_getElem
 ·simp [madeCells]
 ·intro i h1 h2
  have e : (Value.int IntKind.u8 0).cells = #[Value.int IntKind.u8 0] := rfl
  simp [madeCells, e, Nat.mod_one, bv]
def EOk (l : List Ent) : Prop := ∀ e ∈ l, 0 ≤ e.pos ∧ e.pos ≤ 16777216 ∧ 1 ≤ e.len ∧ e.len ≤ 1024
theorem stepP_eok {n : Int} {s : List UInt8} {x y : Scn} (h : stepP n s x = some y) (hs : s.length ≤ 16777216) (hg : x.good ≤ s.length) (hx : EOk x.l) : EOk y.l := by
 unfold stepP at h
 split at h
 ·cases h
 split at h
 ·cases h
 unfold takeP at h
 split at h
 ·split at h
  ·rename_i h5
   have h6 := openB_len h5.1
   injection h with h; subst h
   intro e he
   rcases List.mem_append.1 he with he | he
   ·exact hx e he
   ·rw [List.mem_singleton.1 he]
    simp only [entP]
    omega
  ·cases h
 split at h
 ·split at h
  ·injection h with h; subst h
   exact hx
  ·cases h
 ·cases h
theorem scanPN_eok {n : Int} {s : List UInt8} (hs : s.length ≤ 16777216) : ∀ (k : Nat) {x : Scn}, SOk s n x → EOk x.l → EOk (scanPN n s k x).l
 | 0, _, _, hx => hx
 | k + 1, x, ho, hx => by
  rw [scanPN]
  cases h : stepP n s x with
  | none => exact hx
  | some y => exact scanPN_eok hs k (stepP_ok h ho) (stepP_eok h hs ho.g hx)
theorem scanP_eok {s : List UInt8} (hs : s.length ≤ 16777216) (n : Int) : EOk (scanP s n).1.l := by
 unfold scanP
 split
 ·intro e he; cases he
 split
 ·intro e he; cases he
 ·rename_i h1 h2
  exact scanPN_eok hs _ (SOk.start (by simpa using h2)) (fun e he => by cases he)
section
variable {B gd gp gx gm : Nat} {w : World} {D : DiskD} {n : Int} {x : Scn} {v : Value} {S : Nat → Prop}
theorem kIndex_any (h : PakAt w gd gp gx gm v n x) (hl : x.l.length ≤ 1000000) :
  Calls Tryz.prog 32 #[.pointer (some ⟨gp, 0, none⟩)] w fun e w' => ∃ u, e = .returned (.agg #[u]) ∧ EntsAt w' u (makeM x.l).1 ∧ (∀ k, u.ownBlock = some k → w.heap.size ≤ k) ∧ Below w.heap.size w w' := by
 have hB : Blk w gp 119 #[.pointer (some ⟨gd, 0, none⟩), .int .i64 n, .pointer (some ⟨gx, 0, none⟩)] := h.blk
 have hSn := h.scn
 have h32 := hSn.s32
 refine W_enter (args := [.pointer (some ⟨gp, 0, none⟩)]) 11 Tryz.func32 rfl rfl rfl (W_sub [(0, .pointer (some ⟨gp, 0, none⟩))] ?_ ⟨rfl, trivial⟩)
 have hbw := Below.refl w.heap.size w
 refine W_rs (salA inf25 rfl (fun g2 w1 hB2 hg2 hb hl2 => ?_))
 replace hbw := bthen hbw hb
 replace hB := hB.bel hb
 replace hSn := hSn.bel hb
 have hz_w1 := hb.size
 clear hb
 refine Wn (tN (W_seq (W_rs (sm rfl rfl (st (X.kEq rfl) rfl (Wn (tN (W_no rfl (rfl) (W_skip (tN ?_))))))))))
 refine W_rs (sm rfl rfl (st (X.nilChk rfl) rfl (st (X.fa fa119_2 rfl) rfl (st (X.ldL rfl hB Tryz.underlying92 rfl rfl) rfl (sc _ Tryz.func43 rfl (by kernel_rfl) rfl rfl ((index_any gx gm v _ _ hSn hl).mono ?_))))))
 rintro e_ w2 ⟨u, rfl, hE, hO, hb⟩
 refine cR ?_
 replace hbw := bthen hbw hb
 replace hB := hB.bel hb
 replace hSn := hSn.bel hb
 replace hB2 := hB2.bel hb
 have hz_w2 := hb.size
 clear hb
 obtain ⟨am, cm, rfl⟩ : ∃ am cm, u = .slice am (makeM x.l).1.length cm := by obtain ⟨_, am, cm, e, _⟩ := hE; exact ⟨am, cm, e⟩
 refine ssBN rfl rfl hB2 siz25 rfl (by simp [Value.oneCell']) (fun w3 hB_ hc_ => ?_)
 replace hE := EntsAt.chgI hE (make_S32 h32) hB2 hc_
 replace hbw := bset hbw hc_ (by omega)
 replace hB2 := hB_
 clear hB_ hc_ hB hSn
 refine Wn (tN (W_ret ?_))
 exact (rC rfl rfl hB2 Tryz.underlying25 rfl siz25 ⟨_, rfl, hE, fun k hk => by have := hO k hk; omega, hbw⟩).1
theorem kWhole_any (h : PakAt w gd gp gx gm v n x) :
  Calls Tryz.prog 33 #[.pointer (some ⟨gp, 0, none⟩)] w fun e w' => e = .returned (.bool x.whole) ∧ Below w.heap.size w w' := by
 have hB : Blk w gp 119 #[.pointer (some ⟨gd, 0, none⟩), .int .i64 n, .pointer (some ⟨gx, 0, none⟩)] := h.blk
 have hX : Blk w gx 97 #[v, .map (some gm), .int .i64 x.good, .bool x.whole] := h.scn.blk
 refine W_enter (args := [.pointer (some ⟨gp, 0, none⟩)]) 14 Tryz.func33 rfl rfl rfl (W_sub [(0, .pointer (some ⟨gp, 0, none⟩))] ?_ ⟨rfl, trivial⟩)
 have hbw := Below.refl w.heap.size w
 refine W_rs (sa rfl rfl (Wn (tN (W_rs (sm rfl rfl (st (X.kNe rfl) rfl (sbY rfl (rfl) rfl (gY (g := 5) rfl rfl rfl (sm rfl rfl (gY (g := 5) rfl rfl rfl ?_))))))))))
 refine st (X.nilChk rfl) rfl (gY (g := 5) rfl rfl rfl (st (X.fa fa119_2 rfl) rfl (gY (g := 5) rfl rfl rfl (st (X.ldL rfl hB Tryz.underlying92 rfl rfl) rfl (gY (g := 5) rfl rfl rfl (st (X.nilChk rfl) rfl (gY (g := 5) rfl rfl rfl (st (X.fa fa97_3 rfl) rfl (gY (g := 5) rfl rfl rfl (st (X.ldL rfl hX Tryz.underlying4 rfl rfl) rfl ?_))))))))))
 refine st (X.pickT rfl rfl) rfl (sa rfl rfl (Wn (tN (W_ret ?_))))
 exact (rT rfl rfl ⟨rfl, hbw⟩).1
def pgetR (e : Ent) (a : List UInt8) (r : List UInt8 × Int) : List UInt8 × Int := if r.2 = 1 then ([], 35) else if r.2 ≠ 0 then ([], r.2) else gotM e.len a r.1
theorem pget_none {l : List Ent} {a : List UInt8} (h : findM l a = none) : pgetM D n l a = ([], 15) := by unfold pgetM; rw [h]
theorem readM_some {k : Key} {f : FileD} (h : mget D.files k = some f) {p q : Int} (hp : 0 ≤ p) (hq : 0 ≤ q) : readM D k p q = if (f.now.length : Int) < p then ([], 1) else ((f.now.drop p.toNat).take q.toNat, 0) := by
 unfold readM
 rw [h]
 show (if _ then _ else _) = _
 by_cases hl : (f.now.length : Int) < p
 ·rw [if_pos hl, if_pos (by omega)]
 ·rw [if_neg hl, if_neg (by omega)]
theorem readM_none {k : Key} (h : mget D.files k = none) (p q : Int) : readM D k p q = ([], 15) := by
 unfold readM
 rw [h]
theorem readM_len (hok : DOk D) (k : Key) (p q : Int) : (readM D k p q).1.length ≤ 16777216 := by
 unfold readM
 cases hm : mget D.files k with
 | none => simp
 | some f =>
  have := (hok.len hm).1
  show (if _ then _ else _ : List UInt8 × Int).1.length ≤ _
  split
  ·simp
  ·simp only [List.length_take, List.length_drop]
   omega
theorem pget_read {l : List Ent} {a : List UInt8} {e : Ent} (h : findM l a = some e) (hp : 0 ≤ e.pos) : pgetM D n l a = pgetR e a (readM D (nameP n) e.pos (longM e.len.toNat)) := by
 unfold pgetM pgetR
 rw [h]
 cases hm : mget D.files (nameP n) with
 | none =>
  rw [readM_none hm]
  rfl
 | some f =>
  rw [readM_some hm hp (by omega)]
  simp only
  by_cases hl : (f.now.length : Int) < e.pos
  ·rw [if_pos hl, if_pos hl]
   rfl
  ·rw [if_neg hl, if_neg hl]
   rfl
set_option maxRecDepth 10000 in
theorem pget_any (a : List UInt8) (h : PakAt w gd gp gx gm v n x) (hd : DiskAt w gd D S) (hok : DOk D) (hT : PTabs B w) (ha : a.length = 32) (he : EOk x.l) :
  Calls Tryz.prog 23 #[.pointer (some ⟨gp, 0, none⟩), .agg (a.map bv).toArray] w fun e w' => e = .returned (.tuple #[str (pgetM D n x.l a).1, .int .i64 (pgetM D n x.l a).2]) ∧ Below w.heap.size w w' := by
 have hB : Blk w gp 119 #[.pointer (some ⟨gd, 0, none⟩), .int .i64 n, .pointer (some ⟨gx, 0, none⟩)] := h.blk
 have hSn := h.scn
 have h32 := hSn.s32
 obtain ⟨m, hM, hm⟩ := hSn.map
 have hRow : Row w 66 35 v x.l.length (x.l.flatMap Ent.cells) := hSn.row
 obtain ⟨q, cq, rfl, hq1, hq2⟩ := hRow.shape
 clear hRow h
 refine W_enter (args := [.pointer (some ⟨gp, 0, none⟩), .agg (a.map bv).toArray]) 108 Tryz.func23 rfl rfl rfl (W_sub [(0, .pointer (some ⟨gp, 0, none⟩)), (1, .agg (a.map bv).toArray)] ?_ ⟨rfl, rfl, trivial⟩)
 have hbw := Below.refl w.heap.size w
 refine W_rs (sboxA rfl rfl (fun g3 w1 hB3 hg3 hb hl3 => ?_))
 replace hbw := bthen hbw hb
 have hz_w1 := hb.size
 clear hb
 refine sa rfl rfl (sa rfl rfl (Wn (tN (W_seq (W_rs (sm rfl rfl (st (X.kEq rfl) rfl (Wn (tN (W_no rfl (rfl) ?_))))))))))
 refine W_skip (tN ?_)
 have hBp := hB.bel hbw
 have hXp : Blk _ gx 97 #[.slice q x.l.length cq, .map (some gm), .int .i64 x.good, .bool x.whole] := (hSn.bel hbw).blk
 have h3p := hB3
 refine W_drsN (fun W_ => Below w1.heap.size w1 W_) [0, 1, 2, 3, 4, 5, 6, 7, 8, 9, 10, 11, 12, 13] [true, true, true, true, true, true, true, true, false, true, true, true, true, true] (by kernel_rfl) (by kernel_rfl) (bdrew (Below.refl _ _)) ?_
 obtain ⟨w2, hw_⟩ : ∃ w2 : World, w2 = World.drew w1 := ⟨_, rfl⟩
 rw [← hw_]
 have hb : Below w1.heap.size w1 w2 := by rw [hw_]; exact bdrew (Below.refl _ _)
 clear hw_
 have hS := hb
 replace hbw := bthen hbw hb
 replace hB3 := hB3.bel hb
 have hz_w2 := hb.size
 clear hb
 refine oY rfl (fun W_ hW_ => (X.move rfl)) rfl (oY rfl (fun W_ hW_ => (X.nilChk rfl)) rfl (oY rfl (fun W_ hW_ => (X.fa fa119_2 rfl)) rfl (oY rfl (fun W_ hW_ => (X.ldL rfl (hBp.bel hW_) Tryz.underlying92 rfl rfl)) rfl (oY rfl (fun W_ hW_ => (X.nilChk rfl)) rfl (oY rfl (fun W_ hW_ => (X.fa fa97_1 rfl)) rfl (oY rfl (fun W_ hW_ => (X.ldL rfl (hXp.bel hW_) Tryz.underlying95 rfl rfl)) rfl (oY rfl (fun W_ hW_ => (X.ldBN rfl (h3p.bel hW_) Tryz.underlying60 rfl (by rw [sumSize ha]; exact siz60))) rfl ?_)))))))
 refine oL rfl (fun Q_ hQ_ hP_ => (st (X.lookOk (z := .int .i64 0) keySum rfl ⟨a, ha⟩ rfl Tryz.underlying95 (by kernel_rfl) (hM.bel hbw)) rfl (Wn (hQ_ _ _ hS ?_))))
 clear hQ_ hP_ Q_
 refine oY rfl (fun W_ hW_ => (X.move rfl)) rfl (oY rfl (fun W_ hW_ => (X.ext rfl rfl)) rfl (oY rfl (fun W_ hW_ => (X.ext rfl rfl)) rfl (oY rfl (fun W_ hW_ => (X.assign rfl)) rfl (oY rfl (fun W_ hW_ => (X.assign rfl)) rfl ?_))))
 clear hBp hXp h3p
 refine oN (nN (W_seq (W_rs (sm rfl rfl (st (X.not rfl) rfl (Wn (tN (W_if rfl (fun h33 => ?_) (fun h33 => ?_)))))))))
 ·first | replace h33 := of_decide_eq_true h33 | replace h33 := of_decide_eq_false (notT h33) | replace h33 := notT h33 | skip
  refine W_rs (sa rfl rfl (sa rfl rfl (Wn (tN (W_ret (tR ?_))))))
  have hgn : mget m (⟨a, ha⟩ : Sum32) = none := by cases hg : mget m (⟨a, ha⟩ : Sum32) with | none => rfl | some z => rw [hg] at h33; simp at h33
  have hfn : findM x.l a = none := (has_none hm hgn).1
  exact (rTT rfl rfl rfl ⟨by rw [pget_none hfn]; rfl, hbw⟩).1
 ·first | replace h33 := of_decide_eq_false h33 | replace h33 := of_decide_eq_true (notF h33) | replace h33 := notF h33 | skip
  obtain ⟨i, hgi⟩ : ∃ i, mget m (⟨a, ha⟩ : Sum32) = some i := by cases hg : mget m (⟨a, ha⟩ : Sum32) with | none => rw [hg] at h33; simp at h33 | some z => exact ⟨z, rfl⟩
  obtain ⟨j, en, rfl, hj, hes, hfi⟩ := has_get hm hM.nodup hgi
  have hfi : findM x.l a = some en := hfi
  have hen : en.sum.length = 32 := h32 en (List.mem_of_getElem? hj)
  obtain ⟨hp0, hp1, hn0, hn1⟩ := he en (List.mem_of_getElem? hj)
  have hjl : j < x.l.length := (List.getElem?_eq_some_iff.1 hj).1
  rw [hgi, pget_read hfi hp0]
  obtain ⟨ln, hln⟩ : ∃ ln : Nat, en.len = ln := ⟨en.len.toNat, by omega⟩
  have hRr := hSn.row.reads
  obtain ⟨g1, o1, c', hvv, hg1⟩ := hRr.some_ (by show 0 < x.l.length; omega)
  injection hvv with e1 _ e3
  subst e1 e3
  have hRg := EntsAt.range (l := x.l) (hRr.bel hbw) h32 hj
  clear hRr
  refine W_skip (tN (W_rs (sm rfl rfl (st (X.nilChk rfl) rfl (st (X.fa fa119_2 rfl) rfl (st (X.ldL rfl (hB.bel hbw) Tryz.underlying92 rfl rfl) rfl (st (X.nilChk rfl) rfl (st (X.fa fa97_0 rfl) rfl (st (X.ldL rfl (hSn.bel hbw).blk Tryz.underlying23 rfl rfl) rfl (sm rfl rfl ?_))))))))))
  refine st (X.idxA rfl rfl Tryz.underlying23 siz66 rfl hjl) rfl (st (X.ldN (cs := en.cells) rfl Tryz.underlying66 rfl (by rw [Ent.cells_length hen]; exact siz66) hRg) rfl ?_)
  refine salA inf66 rfl (fun g8 w3 hB8 hg8 hb hl8 => ?_)
  replace hbw := bthen hbw hb
  replace hB3 := hB3.bel hb
  have hz_w3 := hb.size
  clear hb
  refine ssBN rfl rfl hB8 (by rw [Ent.size hen]; exact siz66) (by rw [Ent.size hen]; rfl) (Ent.cells_one en) (fun w4 hB_ hc_ => ?_)
  replace hB8 := hB_
  replace hB3 := hB3.chg hc_ (by show ¬ g3 = g8; omega)
  replace hbw := bset hbw hc_ (by omega)
  have hz_w4 := hc_.size
  clear hB_ hc_
  refine Wn (tN (W_rs (st (X.fa fa66_3 rfl) rfl (st (X.ldB rfl hB8 Tryz.underlying3 rfl (Ent.cell_ hen 2 _ rfl)) rfl ?_))))
  rw [hln]
  refine st (X.add64 rfl rfl (by omega)) rfl (smk (q := 32 + ln) rfl rfl (show 32 + (ln : Int) = ((32 + ln : Nat) : Int) by omega) (show 32 + (ln : Int) = ((32 + ln : Nat) : Int) by omega) Tryz.underlying123 inf5 (by omega) (by simp only [maxLen]; omega) rfl (fun g47 w5 hR47 hg47 hb => ?_))
  replace hB3 := hB3.bel hb
  replace hB8 := hB8.bel hb
  replace hbw := bthen hbw hb
  have hz_w5 := hb.size
  rw [pzer_eq] at hR47
  clear hb
  refine st (X.strOf (s := List.replicate (32 + ln) 0) rfl Tryz.underlying123 Tryz.underlying5 Tryz.underlying9 hR47.reads) rfl (sc _ Tryz.func52 rfl (by kernel_rfl) rfl rfl ((Seal_any 2 (List.replicate (32 + ln) 0) _ (by rw [List.length_replicate]; omega)).mono ?_))
  rintro e_ w6 ⟨rfl, hb⟩
  refine cR ?_
  replace hbw := bthen hbw hb
  replace hB3 := hB3.bel hb
  replace hB8 := hB8.bel hb
  have hz_w6 := hb.size
  clear hb
  refine st (X.lenS rfl rfl Tryz.underlying9) rfl (sa rfl rfl (Wn (tN ?_)))
  have hBp := hB.bel hbw
  have h8p := hB8
  refine W_drsN (fun W_ => Below w6.heap.size w6 W_) [0, 1, 2, 3, 4, 5, 6, 7, 9, 10, 11, 8, 12, 13, 14, 15, 16, 17] [true, true, true, true, true, true, true, true, true, true, true, false, false, true, true, true, true, true] (by kernel_rfl) (by kernel_rfl) (bdrew (Below.refl _ _)) ?_
  obtain ⟨w7, hw_⟩ : ∃ w7 : World, w7 = World.drew w6 := ⟨_, rfl⟩
  rw [← hw_]
  have hb : Below w6.heap.size w6 w7 := by rw [hw_]; exact bdrew (Below.refl _ _)
  clear hw_
  have hS := hb
  replace hbw := bthen hbw hb
  replace hB3 := hB3.bel hb
  replace hB8 := hB8.bel hb
  have hz_w7 := hb.size
  clear hb
  refine oY rfl (fun W_ hW_ => (X.move rfl)) rfl (oY rfl (fun W_ hW_ => (X.nilChk rfl)) rfl (oY rfl (fun W_ hW_ => (X.fa fa119_0 rfl)) rfl (oY rfl (fun W_ hW_ => (X.ldL rfl (hBp.bel hW_) Tryz.underlying41 rfl rfl)) rfl (oY rfl (fun W_ hW_ => (X.move rfl)) rfl (oY rfl (fun W_ hW_ => (X.nilChk rfl)) rfl (oY rfl (fun W_ hW_ => (X.fa fa119_1 rfl)) rfl (oY rfl (fun W_ hW_ => (X.ldL rfl (hBp.bel hW_) Tryz.underlying3 rfl rfl)) rfl (oY rfl (fun W_ hW_ => (X.fa fa66_2 rfl)) rfl (oY rfl (fun W_ hW_ => (X.ldB rfl (h8p.bel hW_) Tryz.underlying3 rfl (Ent.cell_ hen 1 _ rfl))) rfl (oY rfl (fun W_ hW_ => (X.move rfl)) rfl ?_))))))))))
  refine oL rfl (fun Q_ hQ_ hP_ => (sc _ Tryz.func21 rfl (by kernel_rfl) rfl rfl ((Name_p n _ (hT.bel hbw).pow).mono ?_)))
  rintro e_ w8 ⟨rfl, hb⟩
  refine cR ?_
  replace hS := bthen hS hb
  replace hbw := bthen hbw hb
  replace hB3 := hB3.bel hb
  replace hB8 := hB8.bel hb
  have hz_w8 := hb.size
  clear hb
  refine Wn (hQ_ _ _ hS ?_)
  clear hQ_ hP_ Q_
  refine oL rfl (fun Q_ hQ_ hP_ => (sc _ Tryz.func60 rfl (by kernel_rfl) rfl rfl ((Read_any gd D S (nameP n) en.pos (longM ln) _ (hd.bel hbw) hok).mono ?_)))
  rintro e_ w9 ⟨rfl, hb⟩
  refine cR ?_
  replace hS := bthen hS hb
  replace hbw := bthen hbw hb
  replace hB3 := hB3.bel hb
  replace hB8 := hB8.bel hb
  have hz_w9 := hb.size
  clear hb
  refine Wn (hQ_ _ _ hS ?_)
  clear hQ_ hP_ Q_
  refine oY rfl (fun W_ hW_ => (X.move rfl)) rfl (oY rfl (fun W_ hW_ => (X.ext rfl rfl)) rfl (oY rfl (fun W_ hW_ => (X.ext rfl rfl)) rfl (oY rfl (fun W_ hW_ => (X.assign rfl)) rfl (oY rfl (fun W_ hW_ => (X.assign rfl)) rfl (oN (nN (W_seq (W_block (W_rs ?_)))))))))
  rw [Int.toNat_natCast]
  have hrl := readM_len hok (nameP n) en.pos (longM ln)
  obtain ⟨r, hr⟩ : ∃ r, readM D (nameP n) en.pos (longM ln) = r := ⟨_, rfl⟩
  rw [hr] at hrl ⊢
  refine sm rfl rfl (st (X.eql rfl rfl) rfl (sa rfl rfl (Wn (tN (W_if rfl (fun h67 => ?_) (fun h67 => ?_))))))
  ·first | replace h67 := of_decide_eq_true h67 | replace h67 := of_decide_eq_false (notT h67) | replace h67 := notT h67 | skip
   refine W_rs (sa rfl rfl (sa rfl rfl (Wn (tN (W_ret (bR (tR ?_)))))))
   exact (rTT rfl rfl rfl ⟨by unfold pgetR; rw [if_pos h67]; rfl, hbw⟩).1
  ·first | replace h67 := of_decide_eq_false h67 | replace h67 := of_decide_eq_true (notF h67) | replace h67 := notF h67 | skip
   refine W_rs (sm rfl rfl (st (X.neq rfl rfl) rfl (sa rfl rfl (Wn (tN (W_if rfl (fun h70 => ?_) (fun h70 => ?_)))))))
   ·first | replace h70 := of_decide_eq_true h70 | replace h70 := of_decide_eq_false (notT h70) | replace h70 := notT h70 | skip
    refine W_rs (sm rfl rfl (sa rfl rfl (sa rfl rfl (Wn (tN (W_ret (bR (tR ?_))))))))
    exact (rTT rfl rfl rfl ⟨by unfold pgetR; rw [if_neg h67, if_pos h70]; rfl, hbw⟩).1
   ·first | replace h70 := of_decide_eq_false h70 | replace h70 := of_decide_eq_true (notF h70) | replace h70 := notF h70 | skip
    have hpg : pgetR en a r = gotM en.len a r.1 := by unfold pgetR; rw [if_neg h67, if_neg h70]
    rw [hpg]
    have hbl := nextM_body r.1
    refine W_skip (bN (tN (W_rs (sm rfl rfl (sc _ Tryz.func61 rfl (by kernel_rfl) rfl rfl ((Next_any r.1 _ (by omega)).mono ?_))))))
    rintro e_ w10 ⟨rfl, hb⟩
    refine cR ?_
    replace hbw := bthen hbw hb
    replace hB3 := hB3.bel hb
    replace hB8 := hB8.bel hb
    have hz_w10 := hb.size
    clear hb
    refine sm rfl rfl (st (X.ext rfl rfl) rfl (st (X.ext rfl rfl) rfl (st (X.ext rfl rfl) rfl (st (X.ext rfl rfl) rfl (sa rfl rfl (sa rfl rfl (sa rfl rfl (sa rfl rfl (Wn (tN ?_))))))))))
    refine W_seq (W_rs (sm rfl rfl (st (X.neq rfl rfl) rfl (sb rfl rfl (fun h83 => ?_) (fun h83 => ?_)))))
    ·first | replace h83 := of_decide_eq_true h83 | replace h83 := of_decide_eq_false (notT h83) | replace h83 := notT h83 | skip
     refine gN (g := 83) rfl rfl rfl rfl (gN (g := 83) rfl rfl rfl rfl (st (X.pickT rfl rfl) rfl (Wn (tN (W_yes rfl (rfl) (W_rs (sa rfl rfl (sa rfl rfl (Wn (tN ?_))))))))))
     refine W_ret (tR ?_)
     exact (rTT rfl rfl rfl ⟨by unfold gotM; rw [if_pos (.inl h83)]; rfl, hbw⟩).1
    ·first | replace h83 := of_decide_eq_false h83 | replace h83 := of_decide_eq_true (notF h83) | replace h83 := notF h83 | skip
     refine gY (g := 83) rfl rfl rfl (sm rfl rfl (gY (g := 83) rfl rfl rfl (st (X.neq rfl rfl) rfl (st (X.pickF rfl rfl) rfl (Wn (tN (W_if rfl (fun h86 => ?_) (fun h86 => ?_))))))))
     ·first | replace h86 := of_decide_eq_true h86 | replace h86 := of_decide_eq_false (notT h86) | replace h86 := notT h86 | skip
      have hk : (nextM r.1).1 ≠ 2 := fun e => by rw [e] at h86; exact h86 rfl
      refine W_rs (sa rfl rfl (sa rfl rfl (Wn (tN (W_ret (tR ?_))))))
      exact (rTT rfl rfl rfl ⟨by unfold gotM; rw [if_pos (.inr hk)]; rfl, hbw⟩).1
     ·first | replace h86 := of_decide_eq_false h86 | replace h86 := of_decide_eq_true (notF h86) | replace h86 := notF h86 | skip
      have hk : ¬ ((nextM r.1).2.2.2 ≠ 0 ∨ (nextM r.1).1 ≠ 2) := by rintro (e | e); exact h83 e; exact e (UInt8.toNat.inj (by show (nextM r.1).1.toNat = 2; omega))
      refine W_skip (tN (W_rs (sm rfl rfl (sc _ Tryz.func62 rfl (by kernel_rfl) rfl rfl ((opened_any (nextM r.1).2.1 _ (hT.bel hbw).sha (by omega)).mono ?_)))))
      rintro e_ w11 ⟨a2, d2, ok, rfl, ha2, hok2, hal2, hb⟩
      refine cR ?_
      replace hbw := bthen hbw hb
      replace hB3 := hB3.bel hb
      replace hB8 := hB8.bel hb
      have hz_w11 := hb.size
      clear hb
      refine sm rfl rfl (st (X.ext rfl rfl) rfl (st (X.ext rfl rfl) rfl (st (X.ext rfl rfl) rfl (salA inf60 rfl (fun g15 w12 hB15 hg15 hb hl15 => ?_)))))
      replace hbw := bthen hbw hb
      replace hB3 := hB3.bel hb
      replace hB8 := hB8.bel hb
      have hz_w12 := hb.size
      clear hb
      refine ssBN rfl rfl hB15 (by rw [sumSize ha2]; exact siz60) (by rw [sumSize ha2]; rfl) (sumOne _) (fun w13 hB_ hc_ => ?_)
      replace hB15 := hB_
      replace hB8 := hB8.chg hc_ (by show ¬ g8 = g15; omega)
      replace hB3 := hB3.chg hc_ (by show ¬ g3 = g15; omega)
      replace hbw := bset hbw hc_ (by omega)
      clear hB_ hc_
      refine sa rfl rfl (sa rfl rfl (Wn (tN (W_seq (W_rs (sm rfl rfl (st (X.not rfl) rfl (sb rfl rfl (fun h95 => ?_) (fun h95 => ?_)))))))))
      ·first | replace h95 := of_decide_eq_true h95 | replace h95 := of_decide_eq_false (notT h95) | replace h95 := notT h95 | skip
       refine gN (g := 95) rfl rfl rfl rfl (gN (g := 95) rfl rfl rfl rfl (gN (g := 95) rfl rfl rfl rfl (st (X.pickT rfl rfl) rfl (sm rfl rfl (gN (g := 100) rfl rfl rfl rfl (gN (g := 100) rfl rfl rfl rfl (gN (g := 100) rfl rfl rfl rfl (gN (g := 100) rfl rfl rfl rfl (gN (g := 100) rfl rfl rfl rfl (st (X.pickT rfl rfl) rfl ?_))))))))))
       refine Wn (tN (W_yes rfl (rfl) (W_rs (sa rfl rfl (sa rfl rfl (Wn (tN (W_ret (tR ?_)))))))))
       exact (rTT rfl rfl rfl ⟨by unfold gotM; rw [if_neg hk, if_neg (by rw [← hok2, h95]; simp)]; rfl, hbw⟩).1
      ·first | replace h95 := of_decide_eq_false h95 | replace h95 := of_decide_eq_true (notF h95) | replace h95 := notF h95 | skip
       obtain ⟨e1, e2⟩ := hal2 h95
       subst e1 e2
       refine gY (g := 95) rfl rfl rfl (st (X.ldBN rfl hB15 Tryz.underlying60 rfl (by rw [sumSize ha2]; exact siz60)) rfl ?_)
       refine gY (g := 95) rfl rfl rfl (st (X.ldBN rfl hB3 Tryz.underlying60 rfl (by rw [sumSize ha]; exact siz60)) rfl ?_)
       refine gY (g := 95) rfl rfl rfl (st (X.neSumF ha2 ha rfl rfl) rfl (st (X.pickF rfl rfl) rfl (sb rfl rfl (fun h100 => ?_) (fun h100 => ?_))))
       ·first | replace h100 := of_decide_eq_true h100 | replace h100 := of_decide_eq_false (notT h100) | replace h100 := notT h100 | skip
        refine gN (g := 100) rfl rfl rfl rfl (gN (g := 100) rfl rfl rfl rfl (gN (g := 100) rfl rfl rfl rfl (gN (g := 100) rfl rfl rfl rfl (gN (g := 100) rfl rfl rfl rfl (st (X.pickT rfl rfl) rfl (Wn (tN (W_yes rfl (rfl) (W_rs (sa rfl rfl ?_))))))))))
        refine sa rfl rfl (Wn (tN (W_ret (tR ?_))))
        exact (rTT rfl rfl rfl ⟨by unfold gotM; rw [if_neg hk, if_neg (by rintro ⟨_, e, _⟩; rw [e] at h100; simp at h100)]; rfl, hbw⟩).1
       ·first | replace h100 := of_decide_eq_false h100 | replace h100 := of_decide_eq_true (notF h100) | replace h100 := notF h100 | skip
        refine gY (g := 100) rfl rfl rfl (sm rfl rfl (gY (g := 100) rfl rfl rfl (st (X.lenS rfl rfl Tryz.underlying9) rfl (gY (g := 100) rfl rfl rfl (st (X.fa fa66_3 rfl) rfl (gY (g := 100) rfl rfl rfl (st (X.ldB rfl hB8 Tryz.underlying3 rfl (Ent.cell_ hen 2 _ rfl)) rfl (gY (g := 100) rfl rfl rfl (st (X.neq rfl rfl) rfl (st (X.pickF rfl rfl) rfl ?_))))))))))
        refine Wn (tN (W_if rfl (fun h106 => ?_) (fun h106 => ?_)))
        ·first | replace h106 := of_decide_eq_true h106 | replace h106 := of_decide_eq_false (notT h106) | replace h106 := notT h106 | skip
         refine W_rs (sa rfl rfl (sa rfl rfl (Wn (tN (W_ret (tR ?_))))))
         exact (rTT rfl rfl rfl ⟨by unfold gotM; rw [if_neg hk, if_neg (by rintro ⟨_, _, e⟩; rw [List.length_drop] at h106; omega)]; rfl, hbw⟩).1
        ·first | replace h106 := of_decide_eq_false h106 | replace h106 := of_decide_eq_true (notF h106) | replace h106 := notF h106 | skip
         refine W_skip (tN (W_rs (sm rfl rfl (sa rfl rfl (sa rfl rfl (Wn (tN (W_ret ?_))))))))
         exact (rTT rfl rfl rfl ⟨by unfold gotM; rw [if_neg hk, if_pos ⟨by rw [← hok2]; exact h95, by simpa using h100, by rw [List.length_drop] at h106; have := openB_len (by rw [← hok2]; exact h95 : openB (nextM r.1).2.1 = true); omega⟩], hbw⟩).1
end
end Go.Proofs.YtnlabkogebnioaaGreatDoor
namespace Go.Proofs.YtnlabkogebnioaaGreatDoor
theorem uvM_app : ∀ (l u : List UInt8) (i x : Nat), (uvM i x l).2.2 = 0 → uvM i x (l ++ u) = uvM i x l
 | [], _, _, _, h => by simp [uvM] at h
 | b :: l, u, i, x, h => by
  rw [List.cons_append]
  unfold uvM at h ⊢
  split
  ·rfl
  ·rename_i h1
   rw [if_neg h1] at h
   split
   ·rfl
   ·rename_i h2
    rw [if_neg h2] at h
    exact uvM_app l u _ _ h
theorem drop_app {s u : List UInt8} {a : Nat} (h : a ≤ s.length) : (s ++ u).drop a = s.drop a ++ u := by
 rw [List.drop_append, Nat.sub_eq_zero_of_le h, List.drop_zero]
theorem uvR_app {s : List UInt8} (u : List UInt8) {a : Nat} (ha : a ≤ s.length) (h : (uvR s a 0).2.2 = 0) : uvR (s ++ u) a 0 = uvR s a 0 := by
 have e0 : ¬ ((0 : Int) ≠ 0) := by simp
 have h1 : (uvM 0 0 (s.drop a)).2.2 = 0 := by
  refine Classical.byContradiction fun h1 => ?_
  unfold uvR at h
  rw [if_neg e0, if_neg h1] at h
  exact h1 h
 have h2 := uvM_app _ u _ _ h1
 unfold uvR
 rw [if_neg e0, if_neg e0, drop_app ha, h2]
theorem textR_app {s : List UInt8} (u : List UInt8) {a m : Nat} (ha : a ≤ s.length) (h : (textR s a m).2.2 = 0) : textR (s ++ u) a m = textR s a m := by
 have hat := uvR_at (s := s) (at_ := a) (e := 0) ha
 have h1 : (uvR s a 0).2.2 = 0 := by
  refine Classical.byContradiction fun h1 => ?_
  unfold textR at h
  rw [if_pos h1] at h
  exact h1 h
 have hu := uvR_app u ha h1
 unfold textR at h ⊢
 rw [hu]
 obtain ⟨⟨n, b, e⟩, hx⟩ : ∃ x, uvR s a 0 = x := ⟨_, rfl⟩
 rw [hx] at h h1 hat ⊢
 simp only at h h1 hat ⊢
 subst h1
 have e0 : ¬ ((0 : Int) ≠ 0) := by simp
 rw [if_neg e0] at h
 rw [if_neg e0, if_neg e0]
 by_cases h2 : m < n
 ·rw [if_pos h2, if_pos h2]
 ·rw [if_neg h2] at h
  rw [if_neg h2, if_neg h2]
  by_cases h3 : s.length - b < n
  ·rw [if_pos h3] at h
   simp at h
  ·rw [if_neg h3, if_neg (by rw [List.length_append]; omega)]
   unfold takeM
   rw [if_neg e0, if_neg e0, if_neg h3, if_neg (by rw [List.length_append]; omega), drop_app hat, List.take_append_of_le_length (by rw [List.length_drop]; omega)]
theorem nextM_app {s : List UInt8} (u : List UInt8) (h : (nextM s).2.2.2 = 0) : nextM (s ++ u) = nextM s := by
 unfold nextM at h
 split at h
 ·simp at h
 rename_i h1
 split at h
 ·simp at h
 rename_i h2
 split at h
 ·rename_i h3; exact absurd h h3
 rename_i h3
 split at h
 ·simp at h
 rename_i h4
 split at h
 ·simp at h
 rename_i h5
 have hl : 1 ≤ s.length := by
  cases s with
  | nil => exact absurd rfl h1
  | cons x l => simp
 have h30 : (textR s 1 1048576).2.2 = 0 := by simpa using h3
 have ht := textR_at (s := s) (a := 1) (m := 1048576) hl
 have hh : (s ++ u).headD 0 = s.headD 0 := by
  cases s with
  | nil => exact absurd rfl h1
  | cons x l => rfl
 unfold nextM
 rw [if_neg h1, if_neg (by simp [h1]), hh, if_neg h2, if_neg h2, textR_app u hl h30, if_neg h3, if_neg h3, if_neg h4, if_neg (by rw [List.length_append]; omega), drop_app ht, List.take_append_of_le_length (by rw [List.length_drop]; omega), List.take_append_of_le_length (by omega), if_neg h5]
theorem nextM_cut {k : UInt8} {b : List UInt8} {m : Nat} (hk : k ≠ 0) (hb : b.length ≤ 1048576) (hm : m < (sealM k b).length) : (nextM ((sealM k b).take m)).2.2.2 ≠ 0 := by
 intro h
 have h1 := nextM_app ((sealM k b).drop m) h
 rw [List.take_append_drop] at h1
 have h2 := nextM_seal (k := k) (b := b) [] hk hb
 rw [List.append_nil, h1] at h2
 have h3 := (nextM_len h).2
 rw [h2, List.length_take] at h3
 simp only at h3
 omega
end Go.Proofs.YtnlabkogebnioaaGreatDoor
namespace Go.Proofs.YtnlabkogebnioaaGreatDoor
open Go.RowKit
def Consec : Nat → List (Nat × List UInt8) → Prop
  | _, [] => True
  | n, p :: l => p.1 = n ∧ Consec (n + p.2.length) l
def flatP : List (Nat × List UInt8) → List UInt8
  | [] => []
  | p :: l => p.2 ++ flatP l
theorem flatP_length (l : List (Nat × List UInt8)) : (flatP l).length = pendLen l := by
 induction l with
 | nil => rfl
 | cons p l ih => simp only [flatP, pendLen, List.length_append, ih]
theorem flatP_append (l m : List (Nat × List UInt8)) : flatP (l ++ m) = flatP l ++ flatP m := by
 induction l with
 | nil => rfl
 | cons p l ih => simp only [List.cons_append, flatP, ih, List.append_assoc]
theorem Consec.snoc : ∀ {l : List (Nat × List UInt8)} {n : Nat} {d : List UInt8}, Consec n l → Consec n (l ++ [(n + pendLen l, d)])
 | [], _, _, _ => ⟨rfl, trivial⟩
 | p :: l, n, d, h => ⟨h.1, by
  have := Consec.snoc (d := d) h.2
  rwa [show n + p.2.length + pendLen l = n + (p.2.length + pendLen l) by omega] at this⟩
theorem crash_none : ∀ (l : List (Nat × List UInt8)) (t : List UInt8), crashBytes t l 0 = t
 | [], _ => rfl
 | p :: l, t => by
  show crashBytes (overM t (min p.1 t.length) (p.2.take 0)) l (0 - min 0 p.2.length) = t
  rw [List.take_zero, overM_nil, Nat.zero_sub]
  exact crash_none l t
theorem crash_consec : ∀ (l : List (Nat × List UInt8)) (t : List UInt8) (k : Nat), Consec t.length l → crashBytes t l k = t ++ (flatP l).take k
 | [], t, k, _ => by simp [crashBytes, flatP]
 | p :: l, t, k, h => by
  show crashBytes (overM t (min p.1 t.length) (p.2.take k)) l (k - min k p.2.length) = t ++ (p.2 ++ flatP l).take k
  rw [h.1, Nat.min_self, overM_end]
  rcases Nat.lt_or_ge k p.2.length with hk | hk
  ·rw [Nat.min_eq_left (by omega), Nat.sub_self, crash_none, List.take_append_of_le_length (by omega)]
  ·rw [Nat.min_eq_right hk, List.take_of_length_le hk, crash_consec l (t ++ p.2) _ (by rw [List.length_append]; exact h.2), List.take_append, List.take_of_length_le hk, List.append_assoc]
structure LastsAt (D : DiskD) (k : Key) (lim : Int) (s all : List UInt8) : Prop where
  ex : ∃ f, D.files = [(k, f)] ∧ f.last = s ∧ f.now = s ++ all ∧ Consec s.length f.pend ∧ flatP f.pend = all
  limit : D.limit = lim
  used : D.used = (s ++ all).length
  stops : D.stops = false
section
variable {D : DiskD} {s all d : List UInt8} {k b : Key} {lim : Int}
theorem mget_one {ν : Type} (k : Key) (f : ν) : mget [(k, f)] k = some f := if_pos rfl
theorem sput_one (k : Key) (f g : FileD) : sput [(k, f)] k g = [(k, g)] := if_pos rfl
theorem LastsAt.op (h : LastsAt D k lim s all) (c : DiskD → Int × DiskD) : opM D c = c D := by
 unfold opM tickM
 rw [if_neg (by rw [h.stops]; simp), if_neg (by rw [h.stops]; simp)]
theorem LastsAt.append (h : LastsAt D k lim s all) (hl : ((s ++ all).length : Int) + d.length ≤ lim) : (appendM D k d).1 = 0 ∧ LastsAt (appendM D k d).2 k lim s (all ++ d) := by
 obtain ⟨f, hf, h1, h2, h3, h4⟩ := h.ex
 unfold appendM
 rw [h.op, fileM_some (f := f) (by rw [hf]; exact mget_one _ _)]
 unfold putM
 split
 ·rename_i hd
  subst hd
  rw [List.append_nil]
  exact ⟨rfl, h⟩
 ·have hm : moreM f f.now.length d = d.length := by unfold moreM; omega
  rw [if_neg (by rw [hm, h.limit, h.used]; omega)]
  refine ⟨rfl, ⟨⟨laidM f f.now.length d, by rw [hf]; exact sput_one _ _ _, h1, ?_, ?_, ?_⟩, h.limit, ?_, h.stops⟩⟩
  ·show overM f.now f.now.length d = _
   rw [overM_end, h2, List.append_assoc]
  ·show Consec s.length (f.pend ++ [(f.now.length, d)])
   have := h3.snoc (d := d)
   rw [← flatP_length, h4] at this
   rw [h2, List.length_append]
   exact this
  ·show flatP (f.pend ++ [(f.now.length, d)]) = _
   rw [flatP_append, h4]
   simp [flatP]
  ·show D.used + _ = _
   rw [hm, h.used, ← List.append_assoc]
   simp only [List.length_append]
   omega
theorem LastsAt.crash (h : LastsAt D k lim s all) (pick : Int) : LastsAt (crashD D [pick]) k lim (s ++ all.take (pick % ((all.length + 1 : Nat) : Int)).toNat) [] := by
 obtain ⟨f, hf, h1, h2, h3, h4⟩ := h.ex
 have hk : keptM f pick = (pick % ((all.length + 1 : Nat) : Int)).toNat := by
  unfold keptM
  rw [← flatP_length, h4]
 have hc : crashM f (keptM f pick) = ⟨s ++ all.take (pick % ((all.length + 1 : Nat) : Int)).toNat, s ++ all.take (pick % ((all.length + 1 : Nat) : Int)).toNat, []⟩ := by
  unfold crashM
  rw [hk, crash_consec _ _ _ (by rw [h1]; exact h3), h1, h4]
 have hfs : (crashD D [pick]).files = [(k, ⟨s ++ all.take (pick % ((all.length + 1 : Nat) : Int)).toNat, s ++ all.take (pick % ((all.length + 1 : Nat) : Int)).toNat, []⟩)] := by
  show crashAll D.files [pick] = _
  rw [hf]
  show [(k, crashM f (keptM f pick))] = _
  rw [hc]
 refine ⟨⟨_, hfs, rfl, by rw [List.append_nil], trivial, rfl⟩, h.limit, ?_, rfl⟩
 show ((usedM (crashAll D.files [pick]) : Nat) : Int) = _
 rw [show crashAll D.files [pick] = _ from hfs, List.append_nil]
 rfl
theorem LastsAt.new (hk : nameOk k = true) : (createM (newM lim) k).1 = 0 ∧ LastsAt (createM (newM lim) k).2 k lim [] [] := by
 have h : createM (newM lim) k = (0, ⟨[(k, newFile)], lim, 0, 0, false, 0⟩) := by
  unfold createM opM
  rw [if_neg (by simp [newM])]
  show (if nameOk k = true then _ else _) = _
  rw [if_pos hk]
  rfl
 rw [h]
 exact ⟨rfl, ⟨newFile, rfl, rfl, rfl, trivial, rfl⟩, rfl, rfl, rfl⟩
end
end Go.Proofs.YtnlabkogebnioaaGreatDoor
namespace Go.Proofs.YtnlabkogebnioaaGreatDoor
open Go.RowKit Sha
def wents (n : Int) : Nat → List (List UInt8) → List Ent
  | _, [] => []
  | p, d :: l => ⟨sha d, n, p, d.length⟩ :: wents n (p + (chunkB d).length) l
def chunksB (l : List (List UInt8)) : List UInt8 := l.flatMap chunkB
theorem wents_length (n : Int) : ∀ (p : Nat) (l : List (List UInt8)), (wents n p l).length = l.length
 | _, [] => rfl
 | p, d :: l => by rw [wents, List.length_cons, wents_length n _ l, List.length_cons]
theorem wents_sums (n : Int) : ∀ (p : Nat) (l : List (List UInt8)), (wents n p l).map (·.sum) = l.map sha
 | _, [] => rfl
 | p, d :: l => by rw [wents, List.map_cons, wents_sums n _ l, List.map_cons]
theorem wents_snoc (n : Int) (d : List UInt8) : ∀ (p : Nat) (l : List (List UInt8)), wents n p (l ++ [d]) = wents n p l ++ [⟨sha d, n, ((p + (chunksB l).length : Nat) : Int), d.length⟩]
 | p, [] => by simp [wents, chunksB]
 | p, c :: l => by
  rw [List.cons_append, wents, wents, wents_snoc n d _ l, List.cons_append]
  simp only [chunksB, List.flatMap_cons, List.length_append]
  rw [Nat.add_assoc]
def DOkC (d : List UInt8) : Prop := d ≠ [] ∧ d.length ≤ 1024
theorem nextM_chunk {d : List UInt8} (hd : DOkC d) (t : List UInt8) : nextM (chunkB d ++ t) = (2, sha d ++ d, (chunkB d).length, 0) := nextM_seal t (by decide) (by rw [List.length_append, sha_length]; have := hd.2; omega)
theorem openB_sha {d : List UInt8} (hd : DOkC d) : openB (sha d ++ d) = true := by
 unfold openB
 rw [decide_eq_true_eq, List.length_append, sha_length, List.drop_left' (sha_length d), List.take_left' (sha_length d)]
 have := List.length_pos_iff.2 hd.1
 exact ⟨by omega, by have := hd.2; omega, rfl⟩
theorem chunkB_ge {d : List UInt8} (hd : DOkC d) : 38 ≤ (chunkB d).length := by
 unfold chunkB
 have := List.length_pos_iff.2 hd.1
 rw [seal_length (by decide) (by rw [List.length_append, sha_length]; have := hd.2; omega), List.length_append, sha_length]
 omega
theorem step_chunk {n : Int} {pre t d : List UInt8} {x : Scn} (hd : DOkC d) (hx : x.good = pre.length) (hw : x.whole = false) (hn : hadM x.l (sha d) = false) :
  stepP n (pre ++ (chunkB d ++ t)) x = some ⟨x.l ++ [⟨sha d, n, (pre.length : Nat), d.length⟩], pre.length + (chunkB d).length, false⟩ := by
 unfold stepP
 rw [if_neg (by rw [hw]; decide), hx, List.drop_left, nextM_chunk hd]
 simp only
 rw [if_neg (by decide)]
 unfold takeP
 rw [if_pos rfl, List.take_left' (sha_length d), if_pos ⟨openB_sha hd, hn⟩]
 unfold entP
 rw [List.take_left' (sha_length d), hx, hw, List.length_append, sha_length, show ((32 + d.length : Nat) : Int) - 32 = d.length by omega]
theorem hadM_snoc {l : List Ent} {e : Ent} {a : List UInt8} : hadM (l ++ [e]) a = (hadM l a || decide (e.sum = a)) := by
 simp [hadM]
theorem scan_chunks {n : Int} {t : List UInt8} : ∀ (l : List (List UInt8)) (pre : List UInt8) (x : Scn) (k : Nat), (∀ d ∈ l, DOkC d) → (l.map sha).Nodup → (∀ d ∈ l, hadM x.l (sha d) = false) → x.good = pre.length → x.whole = false → l.length ≤ k →
  scanPN n (pre ++ (chunksB l ++ t)) k x = scanPN n (pre ++ (chunksB l ++ t)) (k - l.length) ⟨x.l ++ wents n pre.length l, pre.length + (chunksB l).length, false⟩
 | [], pre, x, k, _, _, _, hx, hw, _ => by
  have : (⟨x.l ++ wents n pre.length [], pre.length + (chunksB []).length, false⟩ : Scn) = x := by
   cases x
   simp only at hx hw
   subst hx hw
   simp [wents, chunksB]
  rw [this]
  rfl
 | d :: l, pre, x, k, hl, hnd, hn, hx, hw, hk => by
  have hd := hl d (List.mem_cons_self ..)
  have h1 := step_chunk (n := n) (t := chunksB l ++ t) hd hx hw (hn d (List.mem_cons_self ..))
  rw [List.map_cons, List.nodup_cons] at hnd
  simp only [List.length_cons] at hk
  have e : pre ++ (chunksB (d :: l) ++ t) = pre ++ (chunkB d ++ (chunksB l ++ t)) := by simp [chunksB]
  have e2 : pre ++ (chunkB d ++ (chunksB l ++ t)) = (pre ++ chunkB d) ++ (chunksB l ++ t) := by rw [List.append_assoc]
  rw [e, scanPN_some h1 (by omega), e2]
  have ih := scan_chunks (n := n) (t := t) l (pre ++ chunkB d) ⟨x.l ++ [⟨sha d, n, (pre.length : Nat), d.length⟩], pre.length + (chunkB d).length, false⟩ (k - 1) (fun c hc => hl c (List.mem_cons_of_mem _ hc)) hnd.2
   (fun c hc => by
    simp only
    rw [hadM_snoc, hn c (List.mem_cons_of_mem _ hc), Bool.false_or, decide_eq_false_iff_not]
    intro e
    exact hnd.1 (List.mem_map.2 ⟨c, hc, e.symm⟩)) (by rw [List.length_append]) rfl (by omega)
  rw [ih]
  congr 1
  ·simp only [List.length_cons]; omega
  ·simp only [wents, chunksB, List.flatMap_cons, List.length_append, List.append_assoc, List.singleton_append, Nat.add_assoc]
theorem nextM_head (n : Int) (t : List UInt8) : nextM (headB n ++ t) = (1, four n, (headB n).length, 0) := nextM_seal t (by decide) (by rw [four_length]; omega)
theorem chunksB_ge : ∀ {l : List (List UInt8)}, (∀ d ∈ l, DOkC d) → l.length ≤ (chunksB l).length
 | [], _ => Nat.le_refl _
 | d :: l, h => by
  have h1 := chunkB_ge (h d (List.mem_cons_self ..))
  have h2 := chunksB_ge (fun c hc => h c (List.mem_cons_of_mem _ hc))
  simp only [chunksB, List.flatMap_cons, List.length_append, List.length_cons] at h2 ⊢
  omega
theorem scan_written {n : Int} {l : List (List UInt8)} {t : List UInt8} (hn : rightP n = true) (hl : ∀ d ∈ l, DOkC d) (hnd : (l.map sha).Nodup) (ht : (nextM t).2.2.2 ≠ 0) :
  scanP (headB n ++ (chunksB l ++ t)) n = (⟨wents n (headB n).length l, (headB n).length + (chunksB l).length, false⟩, 0) := by
 unfold scanP
 have hh : headP n (headB n ++ (chunksB l ++ t)) = true := by
  unfold headP
  rw [nextM_head]
  simp
 rw [if_neg (by rw [hn]; decide), if_neg (by rw [hh]; decide), nextM_head]
 simp only
 rw [scan_chunks l (headB n) ⟨[], (headB n).length, false⟩ _ hl hnd (fun _ _ => rfl) rfl rfl (by have := chunksB_ge hl; simp only [List.length_append]; omega)]
 rw [scanPN_none]
 ·rfl
 ·unfold stepP
  simp only
  rw [if_neg (by decide), ← List.length_append, ← List.append_assoc, List.drop_left, if_pos ht]
theorem got_chunk {d : List UInt8} (hd : DOkC d) (t : List UInt8) : gotM d.length (sha d) ((chunkB d ++ t).take (longM d.length)) = (d, 0) := by
 have hl : longM d.length = (chunkB d).length := by
  unfold longM chunkB
  have := hd.2
  rw [seal_length (by decide) (by rw [List.length_replicate]; omega), seal_length (by decide) (by rw [List.length_append, sha_length]; omega), List.length_replicate, List.length_append, sha_length]
 rw [hl, List.take_left]
 have := nextM_chunk hd []
 rw [List.append_nil] at this
 unfold gotM
 rw [this]
 simp only
 rw [if_neg (by simp), if_pos ⟨openB_sha hd, List.take_left' (sha_length d), by rw [List.length_append, sha_length]; omega⟩, List.drop_left' (sha_length d)]
theorem wents_at {n : Int} : ∀ {l : List (List UInt8)} {p : Nat} {e : Ent}, e ∈ wents n p l → ∃ a d c, l = a ++ d :: c ∧ e = ⟨sha d, n, ((p + (chunksB a).length : Nat) : Int), d.length⟩
 | [], _, _, h => by cases h
 | d :: l, p, e, h => by
  rcases List.mem_cons.1 h with rfl | h
  ·exact ⟨[], d, l, rfl, by simp [chunksB]⟩
  ·obtain ⟨a, x, c, rfl, rfl⟩ := wents_at h
   exact ⟨d :: a, x, c, rfl, by simp [chunksB, Nat.add_assoc]⟩
theorem get_written {D : DiskD} {n : Int} {l : List (List UInt8)} {t : List UInt8} {f : FileD} {d : List UInt8} (hf : mget D.files (nameP n) = some f) (hnow : f.now = headB n ++ (chunksB l ++ t)) (hl : ∀ d ∈ l, DOkC d) (hd : sha d ∈ l.map sha) :
  ∃ c, c ∈ l ∧ sha c = sha d ∧ pgetM D n (wents n (headB n).length l) (sha d) = (c, 0) := by
 unfold pgetM
 cases hfi : findM (wents n (headB n).length l) (sha d) with
 | none =>
  exfalso
  rw [← wents_sums n (headB n).length] at hd
  obtain ⟨e, he, hes⟩ := List.mem_map.1 hd
  have := List.find?_eq_none.1 hfi e he
  simp [hes] at this
 | some e =>
  have hm := List.mem_of_find?_eq_some hfi
  have hs := List.find?_some hfi
  simp only [decide_eq_true_eq] at hs
  obtain ⟨a, x, c, rfl, rfl⟩ := wents_at hm
  simp only at hs
  have hx := hl x (by simp)
  rw [hf]
  simp only
  rw [hnow]
  have hdrop : (headB n ++ (chunksB (a ++ x :: c) ++ t)).drop ((headB n).length + (chunksB a).length) = chunkB x ++ (chunksB c ++ t) := by
   have e : headB n ++ (chunksB (a ++ x :: c) ++ t) = (headB n ++ chunksB a) ++ (chunkB x ++ (chunksB c ++ t)) := by simp [chunksB]
   rw [e, ← List.length_append, List.drop_left]
  refine ⟨x, by simp, hs, ?_⟩
  rw [if_neg (by simp [chunksB]; omega), Int.toNat_natCast, Int.toNat_natCast, hdrop, ← hs]
  exact got_chunk hx _
end Go.Proofs.YtnlabkogebnioaaGreatDoor
namespace Go.Proofs.YtnlabkogebnioaaGreatDoor
open Go.RowKit Sha
theorem create_lasts {lim : Int} {k : Key} (hk : nameOk k = true) : (createM (newM lim) k).1 = 0 ∧ LastsAt (createM (newM lim) k).2 k lim [] [] := LastsAt.new hk
theorem begin_lasts {lim n : Int} (hn : rightP n = true) (hl : 20 ≤ lim) : (pbeginM (newM lim) n).1 = 0 ∧ LastsAt (pbeginM (newM lim) n).2 (nameP n) lim [] (headB n) := by
 obtain ⟨h1, h2⟩ := create_lasts (lim := lim) (name_ok hn)
 have hh := headB_len n
 obtain ⟨h3, h4⟩ := h2.append (d := headB n) (by simp; omega)
 unfold pbeginM
 rw [if_neg (by rw [hn]; decide), if_neg (by rw [h1]; decide), if_neg (by rw [h3]; decide)]
 exact ⟨h3, by simpa using h4⟩
theorem LastsAt.sizeOf {D : DiskD} {k : Key} {lim : Int} {s all : List UInt8} (h : LastsAt D k lim s all) : sizeM D k = (((s ++ all).length : Int), 0) := by
 obtain ⟨f, hf, h1, h2, h3, h4⟩ := h.ex
 unfold sizeM
 rw [show mget D.files k = some f by rw [hf]; exact mget_one _ _]
 simp only
 rw [h2]
theorem LastsAt.file {D : DiskD} {k : Key} {lim : Int} {s all : List UInt8} (h : LastsAt D k lim s all) : ∃ f, mget D.files k = some f ∧ f.now = s ++ all := by
 obtain ⟨f, hf, h1, h2, h3, h4⟩ := h.ex
 exact ⟨f, by rw [hf]; exact mget_one _ _, h2⟩
structure WrAt1 (lim : Int) (n : Int) (ds : List (List UInt8)) (D : DiskD) (x : Wri) : Prop where
  d : LastsAt D (nameP n) lim [] (headB n ++ chunksB ds)
  num : x.n = n
  l : x.l = wents n (headB n).length ds
  closed : x.closed = false
  ok : ∀ d ∈ ds, DOkC d
  nd : (ds.map sha).Nodup
theorem chunksB_snoc (ds : List (List UInt8)) (d : List UInt8) : chunksB (ds ++ [d]) = chunksB ds ++ chunkB d := by simp [chunksB]
theorem WrAt1.begin {lim n : Int} (hn : rightP n = true) (hl : 20 ≤ lim) : WrAt1 lim n [] (pbeginM (newM lim) n).2 ⟨n, [], false⟩ :=
 ⟨by simpa [chunksB] using (begin_lasts hn hl).2, rfl, rfl, rfl, (fun d h => by cases h), by simp⟩
section
variable {lim n : Int} {ds : List (List UInt8)} {D : DiskD} {x : Wri} {d : List UInt8}
theorem WrAt1.none (h : WrAt1 lim n ds D x) (hd : sha d ∉ ds.map sha) : findM x.l (sha d) = none := by
 refine List.find?_eq_none.2 fun e he => ?_
 simp only [decide_eq_true_eq]
 intro e2
 refine hd ?_
 rw [← wents_sums n (headB n).length ds, ← h.l]
 exact List.mem_map.2 ⟨e, he, e2⟩
theorem WrAt1.there (h : WrAt1 lim n ds D x) (hd : sha d ∈ ds.map sha) (hok : DOkC d) : ∃ e, findM x.l (sha d) = some e ∧ e.sum = sha d ∧ paddM D x d = ((e, 16), x, D) := by
 rw [← wents_sums n (headB n).length ds, ← h.l] at hd
 obtain ⟨e, he, hes⟩ := List.mem_map.1 hd
 cases hf : findM x.l (sha d) with
 | none =>
  have := List.find?_eq_none.1 hf e he
  simp [hes] at this
 | some e' =>
  have hs := List.find?_some hf
  simp only [decide_eq_true_eq] at hs
  refine ⟨e', rfl, hs, ?_⟩
  unfold paddM
  rw [if_neg (by rintro (e | e); rw [h.closed] at e; cases e; exact hok.1 e), if_neg (by have := hok.2; omega), hf]
theorem WrAt1.bad (h : WrAt1 lim n ds D x) (hok : ¬ DOkC d) : (paddM D x d).1.2 ≠ 0 ∧ (paddM D x d).2 = (x, D) := by
 unfold paddM
 by_cases h1 : d = []
 ·rw [if_pos (.inr h1)]
  exact ⟨by simp, rfl⟩
 ·rw [if_neg (by rintro (e | e); rw [h.closed] at e; cases e; exact h1 e), if_pos (by
   refine Classical.byContradiction fun h2 => hok ⟨h1, by omega⟩)]
  exact ⟨by simp, rfl⟩
theorem WrAt1.add (h : WrAt1 lim n ds D x) (hd : sha d ∉ ds.map sha) (hok : DOkC d) (hr : ((headB n ++ chunksB ds).length : Int) + 1074 ≤ lim) :
  (paddM D x d).1 = (⟨sha d, n, ((headB n).length + (chunksB ds).length : Nat), d.length⟩, 0) ∧ WrAt1 lim n (ds ++ [d]) (paddM D x d).2.2 (paddM D x d).2.1 := by
 have hcl := chunkB_len d (by have := hok.2; omega)
 have hd2 := hok.2
 obtain ⟨h1, h2⟩ := h.d.append (d := chunkB d) (by simp only [List.nil_append]; omega)
 have hsz := h.d.sizeOf
 unfold paddM
 rw [if_neg (by rintro (e | e); rw [h.closed] at e; cases e; exact hok.1 e), if_neg (by omega), h.none hd]
 simp only
 rw [h.num, hsz, if_neg (by simp), if_neg (by rw [h1]; simp)]
 refine ⟨?_, ?_, rfl, ?_, h.closed, ?_, ?_⟩
 ·simp only [List.nil_append, List.length_append]
 ·rw [chunksB_snoc, ← List.append_assoc]
  exact h2
 ·simp only
  rw [h.l, wents_snoc]
  simp only [List.nil_append, List.length_append]
 ·intro c hc
  rcases List.mem_append.1 hc with hc | hc
  ·exact h.ok c hc
  ·rw [List.mem_singleton.1 hc]; exact hok
 ·rw [List.map_append, List.nodup_append]
  exact ⟨h.nd, by simp, fun a ha b hb e => by
   rw [List.map_singleton, List.mem_singleton] at hb
   subst hb
   exact hd (e ▸ ha)⟩
end
def addsM (D : DiskD) (x : Wri) : List (List UInt8) → Wri × DiskD
  | [] => (x, D)
  | d :: l => addsM (paddM D x d).2.2 (paddM D x d).2.1 l
theorem addsM_snoc (d : List UInt8) : ∀ (l : List (List UInt8)) (D : DiskD) (x : Wri), addsM D x (l ++ [d]) = (paddM (addsM D x l).2 (addsM D x l).1 d).2
 | [], D, x => rfl
 | c :: l, D, x => by rw [List.cons_append, addsM, addsM_snoc d l, addsM]
theorem padd_l (D : DiskD) (x : Wri) (d : List UInt8) : (paddM D x d).2.1.n = x.n ∧ ((paddM D x d).1.2 = 0 → (paddM D x d).2.1.l = x.l ++ [(paddM D x d).1.1] ∧ (paddM D x d).1.1.sum = sha d ∧ (paddM D x d).1.1.pack = x.n ∧ (paddM D x d).1.1.len = d.length) ∧ ((paddM D x d).1.2 ≠ 0 → (paddM D x d).2.1 = x) := by
 unfold paddM
 split
 ·exact ⟨rfl, fun h => absurd h (by simp), fun _ => rfl⟩
 split
 ·exact ⟨rfl, fun h => absurd h (by simp), fun _ => rfl⟩
 split
 ·exact ⟨rfl, fun h => absurd h (by simp), fun _ => rfl⟩
 split
 ·rename_i h4
  exact ⟨rfl, fun h => absurd h h4, fun _ => rfl⟩
 split
 ·rename_i h5
  exact ⟨rfl, fun h => absurd h h5, fun _ => rfl⟩
 ·exact ⟨rfl, fun _ => ⟨rfl, rfl, rfl, rfl⟩, fun h => absurd rfl h⟩
theorem adds_written {lim n : Int} : ∀ {l : List (List UInt8)} {ds : List (List UInt8)} {D : DiskD} {x : Wri}, WrAt1 lim n ds D x → ((headB n ++ chunksB ds).length : Int) + 1074 * l.length ≤ lim →
  ∃ ds', WrAt1 lim n ds' (addsM D x l).2 (addsM D x l).1 ∧ (∀ d ∈ ds, d ∈ ds') ∧ (∀ d ∈ l, DOkC d → sha d ∈ ds'.map sha) ∧ (headB n ++ chunksB ds').length ≤ (headB n ++ chunksB ds).length + 1074 * l.length
 | [], ds, D, x, h, _ => ⟨ds, h, fun _ hd => hd, fun d hd => (by cases hd), by simp⟩
 | d :: l, ds, D, x, h, hr => by
  simp only [List.length_cons] at hr
  rw [addsM]
  by_cases hok : DOkC d
  ·by_cases hd : sha d ∈ ds.map sha
   ·obtain ⟨e, _, _, hp⟩ := h.there hd hok
    rw [hp]
    obtain ⟨ds', h1, h2, h3, h4⟩ := adds_written (l := l) h (by omega)
    refine ⟨ds', h1, h2, fun c hc hc2 => ?_, by simp only [List.length_cons]; omega⟩
    rcases List.mem_cons.1 hc with rfl | hc
    ·obtain ⟨q, hq, hqs⟩ := List.mem_map.1 hd
     exact List.mem_map.2 ⟨q, h2 q hq, hqs⟩
    ·exact h3 c hc hc2
   ·obtain ⟨_, hp⟩ := h.add hd hok (by omega)
    have hcl := chunkB_len d (by have := hok.2; omega)
    have hd2 := hok.2
    obtain ⟨ds', h1, h2, h3, h4⟩ := adds_written (l := l) hp (by rw [chunksB_snoc]; simp only [List.length_append] at hr ⊢; omega)
    refine ⟨ds', h1, fun c hc => h2 c (by simp [hc]), fun c hc hc2 => ?_, ?_⟩
    ·rcases List.mem_cons.1 hc with rfl | hc
     ·exact List.mem_map.2 ⟨c, h2 c (by simp), rfl⟩
     ·exact h3 c hc hc2
    ·rw [chunksB_snoc] at h4
     simp only [List.length_append, List.length_cons] at h4 ⊢
     omega
  ·obtain ⟨_, hp⟩ := h.bad hok
   rw [hp]
   obtain ⟨ds', h1, h2, h3, h4⟩ := adds_written (l := l) h (by omega)
   refine ⟨ds', h1, h2, fun c hc hc2 => ?_, by simp only [List.length_cons]; omega⟩
   rcases List.mem_cons.1 hc with rfl | hc
   ·exact absurd hc2 hok
   ·exact h3 c hc hc2
end Go.Proofs.YtnlabkogebnioaaGreatDoor
namespace Go.Proofs.YtnlabkogebnioaaGreatDoor
open Go.RowKit
theorem run_part1 {t : TypeId} {d : TypeDesc} {cs : Array Value} {off : Nat} {v : Value} {w : World} (hu : Tryz.prog.underlying t = some d) (hd : (match d with | .struct _ | .array _ _ => false | _ => true) = true) (hv : cs.toList[off]? = some v) : (part t cs off).run Tryz.prog w = .ok v w := by
 have hc : cs[off]? = some v := by rw [← hv]; simp
 cases d <;> simp at hd <;> simp [part, isAgg, run_underlying hu, hc]
theorem eqFields_cons {P : Program} {d : Nat} {xs ys : Array Value} {f : Field} {fs : List Field} {a b : Value} {r r' : Bool} {w : World} (hn : f.name ≠ "_") (ha : (part f.type xs f.offset).run P w = .ok a w) (hb : (part f.type ys f.offset).run P w = .ok b w) (he : (Op.equalIn d f.type a b).run P w = .ok r w) (hr : r = true → (Op.eqFields d xs ys fs).run P w = .ok r' w) :
  (Op.eqFields d xs ys (f :: fs)).run P w = .ok (r && r') w := by
 unfold Op.eqFields
 rw [if_pos hn]
 simp only [Sem.run_bind, ha, hb, he, Result.andThen_ok, Sem.run_ite]
 cases r with
 | false => simp
 | true => simpa using hr rfl
theorem eqFields_one {P : Program} {d : Nat} {xs ys : Array Value} {f : Field} {a b : Value} {r : Bool} {w : World} (hn : f.name ≠ "_") (ha : (part f.type xs f.offset).run P w = .ok a w) (hb : (part f.type ys f.offset).run P w = .ok b w) (he : (Op.equalIn d f.type a b).run P w = .ok r w) :
  (Op.eqFields d xs ys [f]).run P w = .ok r w := by
 have := eqFields_cons (fs := []) hn ha hb he (fun _ => (by simp [Op.eqFields] : (Op.eqFields d xs ys []).run P w = .ok true w))
 simpa using this
theorem eqSumE (l m : List UInt8) (hl : l.length = 32) (hm : m.length = 32) (w : World) : (Op.equalIn 9999 60 (.agg (l.map bv).toArray) (.agg (m.map bv).toArray)).run Tryz.prog w = .ok (l == m) w := by
 obtain ⟨i0, hi, hz0, hz1, hz2⟩ := info_parts info_u8'
 have := run_equalIn_array (P := Tryz.prog) w 9998 (l.map bv).toArray (m.map bv).toArray Tryz.underlying60 hi
 rw [cells_u8, run_eqItems_bytes 9997 l m w (List.range 32) (fun i h => by simp at h; omega), all_getD l m 32 hl hm] at this
 exact this
end Go.Proofs.YtnlabkogebnioaaGreatDoor
namespace Go.Proofs.YtnlabkogebnioaaGreatDoor
open Go.RowKit
theorem ent_decP (a b : Ent) : (a.sum == b.sum && (a.pack == b.pack && (a.pos == b.pos && a.len == b.len))) = decide (a = b) := by
 obtain ⟨a1, a2, a3, a4⟩ := a
 obtain ⟨b1, b2, b3, b4⟩ := b
 rw [Bool.eq_iff_iff]
 simp
theorem fieldsEntE : Tryz.prog.underlying 66 = some (.struct (Tryz.prog.fieldsOf 66)) := by kernel_rfl
set_option maxRecDepth 30000 in
theorem eqEnt (a b : Ent) (ha : a.sum.length = 32) (hb : b.sum.length = 32) (w : World) : (Op.equalIn 10000 66 (.agg a.cells.toArray) (.agg b.cells.toArray)).run Tryz.prog w = .ok (decide (a = b)) w := by
 refine (run_equalIn_struct w 9999 _ _ _ fieldsEntE (by kernel_rfl)).trans ?_
 have hf := Option.some.inj (fieldsEntE.symm.trans Tryz.underlying66)
 injection hf with hf
 rw [hf]
 have h1 : ∀ c : Ent, c.sum.length = 32 → (part 60 c.cells.toArray 0).run Tryz.prog w = .ok (.agg (c.sum.map bv).toArray) w := fun c hc => by
  simp [part, isAgg, run_underlying Tryz.underlying60]
  exact List.take_left' (by rw [List.length_map, hc])
 have h2 : ∀ c : Ent, c.sum.length = 32 → (part 3 c.cells.toArray 32).run Tryz.prog w = .ok (.int .i64 c.pack) w := fun c hc => run_part1 Tryz.underlying3 rfl (by simp [Ent.cells, hc])
 have h3 : ∀ c : Ent, c.sum.length = 32 → (part 3 c.cells.toArray 33).run Tryz.prog w = .ok (.int .i64 c.pos) w := fun c hc => run_part1 Tryz.underlying3 rfl (by simp [Ent.cells, hc])
 have h4 : ∀ c : Ent, c.sum.length = 32 → (part 3 c.cells.toArray 34).run Tryz.prog w = .ok (.int .i64 c.len) w := fun c hc => run_part1 Tryz.underlying3 rfl (by simp [Ent.cells, hc])
 have e2 : (Op.equalIn 9999 3 (.int .i64 a.pack) (.int .i64 b.pack)).run Tryz.prog w = .ok (a.pack == b.pack) w := run_equalIn_int w 9998 3 .i64 .i64 _ _ Tryz.underlying3
 have e3 : (Op.equalIn 9999 3 (.int .i64 a.pos) (.int .i64 b.pos)).run Tryz.prog w = .ok (a.pos == b.pos) w := run_equalIn_int w 9998 3 .i64 .i64 _ _ Tryz.underlying3
 have e4 : (Op.equalIn 9999 3 (.int .i64 a.len) (.int .i64 b.len)).run Tryz.prog w = .ok (a.len == b.len) w := run_equalIn_int w 9998 3 .i64 .i64 _ _ Tryz.underlying3
 rw [← ent_decP]
 exact eqFields_cons (by decide) (h1 a ha) (h1 b hb) (eqSumE a.sum b.sum ha hb w) (fun _ => eqFields_cons (by decide) (h2 a ha) (h2 b hb) e2 (fun _ => eqFields_cons (by decide) (h3 a ha) (h3 b hb) e3 (fun _ => eqFields_one (by decide) (h4 a ha) (h4 b hb) e4)))
theorem X.eqEnt {l : Env} {x y : Operand} {w : World} {t' ty : TypeId} {a b : Ent} (ha : a.sum.length = 32) (hb : b.sum.length = 32) (hx : ev l x = some (.agg a.cells.toArray)) (hy : ev l y = some (.agg b.cells.toArray)) : X Tryz.prog l (.binOp .eql 66 x y t') ty w (.bool (decide (a = b))) w :=
 X.bin hx hy (fun c d => run_eqGuard_agg w .eql _ c d _ _ (by kernel_rfl)) (by rw [run_eql_struct, Go.Proofs.YtnlabkogebnioaaGreatDoor.eqEnt a b ha hb]; simp [Result.andThen])
theorem ent_sumR {w : World} {g : Nat} {t : TypeId} {e : Ent} (hB : Blk w g t e.cells.toArray) : w.rangeAt g 0 (e.sum.map bv) := fun j v hv => by
 rw [hB.cell, Nat.zero_add, List.getElem?_toArray, Ent.cells, List.getElem?_append_left (List.getElem?_eq_some_iff.1 hv).1]
 exact hv
end Go.Proofs.YtnlabkogebnioaaGreatDoor
namespace Go.Proofs.YtnlabkogebnioaaGreatDoor
open Go.RowKit Sha
def abcB : List UInt8 := [97, 98, 99]
theorem abc_ok : DOkC abcB := ⟨by decide, by decide⟩
theorem name7 : nameP 7 = [112, 97, 99, 107, 45, 48, 48, 48, 48, 48, 55] := by decide
def ent7 : Ent := ⟨sha abcB, 7, ((headB 7).length : Int), 3⟩
theorem ent7_sum : ent7.sum.length = 32 := sha_length _
theorem aw_begin : (pbeginM (newM 5000) 7).1 = 0 ∧ WrAt1 5000 7 [] (pbeginM (newM 5000) 7).2 ⟨7, [], false⟩ := ⟨(begin_lasts rfl (by omega)).1, WrAt1.begin rfl (by omega)⟩
theorem aw_add : (paddM (pbeginM (newM 5000) 7).2 ⟨7, [], false⟩ abcB).1 = (ent7, 0) ∧ WrAt1 5000 7 [abcB] (paddM (pbeginM (newM 5000) 7).2 ⟨7, [], false⟩ abcB).2.2 (paddM (pbeginM (newM 5000) 7).2 ⟨7, [], false⟩ abcB).2.1 := by
 have hl := headB_len 7
 obtain ⟨h1, h2⟩ := aw_begin.2.add (d := abcB) (by simp) abc_ok (by simp [chunksB]; omega)
 have e : (⟨sha abcB, 7, (((headB 7).length + (chunksB []).length : Nat) : Int), (abcB.length : Nat)⟩ : Ent) = ent7 := by
  unfold ent7
  rw [show (chunksB []).length = 0 from rfl, Nat.add_zero, show ((abcB.length : Nat) : Int) = 3 from rfl]
 rw [e] at h1
 rw [List.nil_append] at h2
 refine ⟨h1, ?_⟩
 exact h2
theorem aw_again {D : DiskD} {x : Wri} (h : WrAt1 5000 7 [abcB] D x) : paddM D x abcB = ((ent7, 16), x, D) := by
 obtain ⟨e, h1, h2, h3⟩ := h.there (d := abcB) (by simp) abc_ok
 rw [h.l] at h1
 have : findM (wents 7 (headB 7).length [abcB]) (sha abcB) = some ent7 := by
  have e : wents 7 (headB 7).length [abcB] = [ent7] := by
   unfold ent7
   rfl
  rw [e]
  unfold findM
  exact List.find?_cons_of_pos (decide_eq_true rfl)
 rw [this] at h1
 rw [h3, ← Option.some.inj h1]
theorem head_pos (n : Int) : 0 < (headB n).length := by
 unfold headB
 have h4 : (four n).length = 4 := four_length n
 rw [seal_length (by decide) (by omega), h4]
 omega
end Go.Proofs.YtnlabkogebnioaaGreatDoor
namespace Go.Proofs.YtnlabkogebnioaaGreatDoor
open Go.RowKit Sha
theorem WrAll.lts {B gd gw gx gm : Nat} {w : World} {D : DiskD} {x : Wri} {v : Value} {S : Nat → Prop} (h : WrAll B w gd gw gx gm D x v S) : ∀ k, S k ∨ WrT gw gx gm v k → k < w.heap.size := fun k hk => hk.elim (fun e => (h.wf.own.lo k e).2) (fun e => h.lt k e)
theorem WrAll.lo {B gd gw gx gm : Nat} {w : World} {D : DiskD} {x : Wri} {v : Value} {S : Nat → Prop} (h : WrAll B w gd gw gx gm D x v S) : ∀ k, S k ∨ WrT gw gx gm v k → B ≤ k := fun k hk => hk.elim (fun e => (h.wf.own.lo k e).1) (fun e => (h.wf.ap k e).2)
theorem WrAll.chg {B gd gw gx gm : Nat} {w w' : World} {D : DiskD} {x : Wri} {v : Value} {S T : Nat → Prop} (h : WrAll B w gd gw gx gm D x v S) (hC : Chg T w w') (hn : ∀ k, S k ∨ WrT gw gx gm v k → ¬ T k) : WrAll B w' gd gw gx gm D x v S :=
 ⟨h.blk.chg hC (hn _ (.inr (.inl rfl))), h.scn.chg hC (hn _ (.inr (.inr (.inl rfl)))) (hn _ (.inr (.inr (.inr (.inl rfl))))) (fun _ hk => hn _ (.inr (.inr (.inr (.inr hk))))), h.wf.chg hC (fun k hk => hn k (.inl hk))⟩
theorem WrPost.keep {B gd gw gx gm : Nat} {w0 w w' : World} {D D' : DiskD} {x x' : Wri} {v : Value} {S : Nat → Prop} (h : WrPost B w gd gw gx gm D' x' v S w') (hW : WrAll B w gd gw gx gm D x v S) (hb : Below w0.heap.size w0 w) (hB : w0.heap.size ≤ B) :
  ∃ v' S', WrAll B w' gd gw gx gm D' x' v' S' ∧ Below w0.heap.size w0 w' ∧ (∀ k, S' k → S k ∨ w.heap.size ≤ k) ∧ (∀ k, WrT gw gx gm v' k → WrT gw gx gm v k ∨ w.heap.size ≤ k) ∧ Chg (fun k => S k ∨ WrT gw gx gm v k) w w' ∧ w.heap.size ≤ w'.heap.size := by
 obtain ⟨v', S', h1, h2, h3, h4⟩ := h
 refine ⟨v', S', h1, bchg hb h4 ?_, h2, ?_, h4, h4.size⟩
 ·rintro k (hk | hk)
  ·have := (hW.wf.own.lo k hk).1; omega
  ·have := (hW.wf.ap k hk).2; omega
 ·rintro k (e | e | e | e)
  ·exact .inl (.inl e)
  ·exact .inl (.inr (.inl e))
  ·exact .inl (.inr (.inr (.inl e)))
  ·exact (h3 k e).imp (fun h => .inr (.inr (.inr h))) id
set_option maxRecDepth 10000 in
theorem pawake_any (w : World) (hT : PTabs w.heap.size w) : Calls Tryz.prog 9 #[] w fun e w' => e = .returned (.bool true) ∧ Below w.heap.size w w' := by
 have hz : ent7.cells.toArray.size = 35 := Ent.size ent7_sum
 have hone : ent7.cells.toArray.toList.all (·.oneCell') = true := Ent.cells_one ent7
 refine W_enter (args := []) 69 Tryz.func9 rfl rfl rfl ?_
 have hbw := Below.refl w.heap.size w
 refine W_rs (sa rfl rfl (Wn (tN (W_rs (sc _ Tryz.func16 rfl (by kernel_rfl) rfl rfl ((New_ok 5000 _ (by omega)).mono ?_))))))
 rintro e_ w1 ⟨g, S0, rfl, h0, hS0, hb⟩
 refine cR ?_
 replace hbw := bthen hbw hb
 replace hT := hT.bel hb
 have hz_w1 := hb.size
 clear hb
 have hd : Own w.heap.size w1 g (newM 5000) S0 := ⟨h0, fun k hk => by have := hS0 k hk; have := hbw.size; omega⟩
 clear h0 hS0
 refine sm rfl rfl (st (X.ext rfl rfl) rfl (st (X.ext rfl rfl) rfl (sa rfl rfl (sa rfl rfl (Wn (tN (W_rs (sm rfl rfl (sc _ Tryz.func25 rfl (by kernel_rfl) rfl rfl ((pbegin_any w.heap.size g (newM 5000) S0 7 0 _ hd (Good.new (by omega)) (by omega) hbw.size hT).mono ?_))))))))))
 rintro e_ w2 ⟨p, S1, rfl, hd1, hS1, hX, hpn, hps⟩
 refine cR ?_
 obtain ⟨gw, gx, gm, v, rfl, hW, hWo⟩ := hps aw_begin.1
 have hbwn := bchg hbw hX (fun k hk => (hd.lo k hk).1)
 replace hT := hT.chg hX (fun k hk => (hd.lo k hk).1)
 rw [aw_begin.1]
 clear hps hpn hWo hd1 hd hbw hX
 have hbw := hbwn
 clear hbwn
 have haw := aw_add
 have hg1 := pbegin_good (Good.new (n := 0) (l := 5000) (by omega)) 7
 obtain ⟨D1, hD1⟩ : ∃ D1, (pbeginM (newM 5000) 7).2 = D1 := ⟨_, rfl⟩
 rw [hD1] at hW haw hg1
 refine sm rfl rfl (st (X.ext rfl rfl) rfl (st (X.ext rfl rfl) rfl (sa rfl rfl (sa rfl rfl (Wn (tN (W_seq (W_rs (sm rfl rfl (st (X.neq rfl rfl) rfl ?_))))))))))
 refine sbN rfl (rfl) rfl (gY (g := 20) rfl rfl rfl (sm rfl rfl (gY (g := 20) rfl rfl rfl (st (X.neq rfl rfl) rfl (st (X.pickF rfl rfl) rfl (sbN rfl (rfl) rfl (gY (g := 24) rfl rfl rfl (sm rfl rfl (gY (g := 24) rfl rfl rfl (st (X.wEq rfl) rfl ?_))))))))))
 refine st (X.pickF rfl rfl) rfl (Wn (tN (W_no rfl (rfl) (W_skip (tN (W_rs (sm rfl rfl (sc _ Tryz.func26 rfl (by kernel_rfl) rfl rfl ((padd_any abcB 30 hW hg1 (by omega) hT (by decide) (by simp)).mono ?_)))))))))
 rintro e_ w3 ⟨rfl, hWP⟩
 refine cR ?_
 have hloT : ∀ k, S1 k ∨ WrT gw gx gm v k → w.heap.size ≤ k := fun k hk => hk.elim (fun h => (hW.wf.own.lo k h).1) (fun h => (hW.wf.ap k h).2)
 obtain ⟨v2, S2, hW2, hbwn, hS2, hv2, hX2, hz5⟩ := hWP.keep hW hbw (Nat.le_refl _)
 replace hT := hT.chg hX2 hloT
 clear hWP hW hbw hX2 hloT
 have hW := hW2
 have hbw := hbwn
 clear hW2 hbwn
 have hg2 := padd_good hg1 ⟨7, [], false⟩ abcB
 rw [haw.1]
 obtain ⟨r, hr⟩ : ∃ r, paddM D1 ⟨7, [], false⟩ abcB = r := ⟨_, rfl⟩
 rw [hr] at hW haw hg2
 have hag := aw_again haw.2
 refine sm rfl rfl (st (X.ext rfl rfl) rfl (st (X.ext rfl rfl) rfl ?_))
 have hq5 := hW.lts
 have hw5 := hbw.size
 refine salA inf66 rfl (fun g5 w4 hB5 hg5 hb hl5 => ?_)
 replace hbw := bthen hbw hb
 replace hT := hT.bel hb
 replace hW := hW.bel hb
 have hz_w4 := hb.size
 clear hb
 refine ssBN rfl rfl hB5 (by rw [hz]; exact siz66) (by rw [hz]; rfl) hone (fun w5 hB_ hc_ => ?_)
 replace hB5 := hB_
 replace hW := hW.chg hc_ (fun k hk => by show ¬ k = g5; have := hq5 k hk; omega)
 replace hT := hT.chg hc_ (fun k hk => by have h1 : k = g5 := hk; have := hbw.size; omega)
 replace hbw := bset hbw hc_ (by omega)
 have hz_w5 := hc_.size
 clear hB_ hc_
 refine sa rfl rfl (Wn (tN (W_rs (sm rfl rfl ?_))))
 have hn5 : ¬ (S2 g5 ∨ WrT gw gx gm v2 g5) := fun e => by have := hq5 _ e; omega
 refine sc _ Tryz.func26 rfl (by kernel_rfl) rfl rfl ((padd_any abcB 1130 hW hg2 (by omega) hT (by decide) (by rw [haw.2.l]; simp [wents])).mono ?_)
 rintro e_ w6 ⟨rfl, hWP⟩
 refine cR ?_
 have hloT := hW.lo
 obtain ⟨v3, S3, hW3, hbwn, hS3, hv3, hX2, hz6⟩ := hWP.keep hW hbw (Nat.le_refl _)
 replace hT := hT.chg hX2 hloT
 replace hB5 := hB5.chg hX2 hn5
 clear hWP hW hbw hX2 hloT
 have hbw := hbwn
 clear hW3 hbwn
 rw [hag]
 refine sm rfl rfl (st (X.ext rfl rfl) rfl (st (X.ext rfl rfl) rfl (salA inf66 rfl (fun g7 w7 hB7 hg7 hb hl7 => ?_))))
 replace hbw := bthen hbw hb
 replace hT := hT.bel hb
 replace hB5 := hB5.bel hb
 have hz_w7 := hb.size
 clear hb
 refine ssBN rfl rfl hB7 (by rw [hz]; exact siz66) (by rw [hz]; rfl) hone (fun w8 hB_ hc_ => ?_)
 replace hB7 := hB_
 replace hB5 := hB5.chg hc_ (by show ¬ g5 = g7; omega)
 replace hT := hT.chg hc_ (fun k hk => by have h1 : k = g7 := hk; have := hbw.size; omega)
 replace hbw := bset hbw hc_ (by omega)
 have hz_w8 := hc_.size
 clear hB_ hc_
 refine sa rfl rfl (Wn (tN (W_drsN (fun W_ => Blk W_ g5 66 ent7.cells.toArray ∧ Blk W_ g7 66 ent7.cells.toArray) [0, 1, 2, 3, 4, 5, 6, 7, 8, 9, 10, 11, 12, 13, 14, 15, 16, 17, 18, 19, 20, 21, 22, 23, 24, 25, 26, 27, 28, 29, 30, 31] [false, true, true, true, true, true, true, true, true, true, true, true, true, true, true, true, true, true, true, false, true, true, true, true, true, true, true, true, true, true, true, true] (by kernel_rfl) (by kernel_rfl) (⟨hB5.drew, hB7.drew⟩) ?_)))
 obtain ⟨w9, hw_⟩ : ∃ w9 : World, w9 = World.drew w8 := ⟨_, rfl⟩
 rw [← hw_]
 have hb : Below w8.heap.size w8 w9 := by rw [hw_]; exact bdrew (Below.refl _ _)
 clear hw_
 have hS := hb
 replace hbw := bthen hbw hb
 replace hT := hT.bel hb
 replace hB5 := hB5.bel hb
 replace hB7 := hB7.bel hb
 have hz_w9 := hb.size
 clear hb
 refine oL rfl (fun Q_ hQ_ hP_ => (sc _ Tryz.func21 rfl (by kernel_rfl) rfl rfl ((Name_p 7 _ hT.pow).mono ?_)))
 rintro e_ w10 ⟨rfl, hb⟩
 refine cR ?_
 replace hbw := bthen hbw hb
 replace hT := hT.bel hb
 replace hB5 := hB5.bel hb
 replace hB7 := hB7.bel hb
 have hz_w10 := hb.size
 clear hb
 refine Wn (hQ_ _ _ (⟨hB5, hB7⟩) ?_)
 clear hQ_ hP_ Q_
 rw [name7]
 refine oY rfl (fun W_ hW_ => (X.eqS rfl rfl)) rfl (oY rfl (fun W_ hW_ => (X.mvB (c := true) rfl (rfl))) rfl (oYg (g := 40) rfl rfl rfl rfl (fun W_ hW_ => (X.move rfl)) rfl (oYg (g := 40) rfl rfl rfl rfl (fun W_ hW_ => (X.eql rfl rfl)) rfl (oY rfl (fun W_ hW_ => (X.pickT rfl rfl)) rfl (oY rfl (fun W_ hW_ => (X.mvB (c := true) rfl (rfl))) rfl (oYg (g := 44) rfl rfl rfl rfl (fun W_ hW_ => (X.fa fa66_3 rfl)) rfl (oYg (g := 44) rfl rfl rfl rfl (fun W_ hW_ => (X.ldB rfl hW_.1 Tryz.underlying3 rfl (Ent.cell_ ent7_sum 2 _ rfl))) rfl (oYg (g := 44) rfl rfl rfl rfl (fun W_ hW_ => (X.eql rfl rfl)) rfl (oY rfl (fun W_ hW_ => (X.pickT rfl rfl)) rfl (oY rfl (fun W_ hW_ => (X.mvB (c := true) rfl (rfl))) rfl ?_))))))))))
 refine oYg (g := 49) rfl rfl rfl rfl (fun W_ hW_ => (X.fa fa66_2 rfl)) rfl (oYg (g := 49) rfl rfl rfl rfl (fun W_ hW_ => (X.ldB rfl hW_.1 Tryz.underlying3 rfl (Ent.cell_ ent7_sum 1 _ rfl))) rfl (oYg (g := 49) rfl rfl rfl rfl (fun W_ hW_ => (X.gtr rfl rfl)) rfl (oY rfl (fun W_ hW_ => (X.pickT rfl rfl)) rfl (oY rfl (fun W_ hW_ => (X.mvB (c := true) rfl (decide_eq_true (by show (0 : Int) < ((headB 7).length : Int); have := head_pos 7; omega)))) rfl ?_))))
 refine oYg (g := 54) rfl rfl rfl rfl (fun W_ hW_ => (X.fa fa66_0 rfl)) rfl (oYg (g := 54) rfl rfl rfl rfl (fun W_ hW_ => (X.ldN (cs := ent7.sum.map bv) rfl Tryz.underlying60 rfl (by rw [List.length_map, ent7_sum]; exact siz60) (ent_sumR hW_.1))) rfl ?_)
 refine oL rfl (fun Q_ hQ_ hP_ => (gY (g := 54) rfl rfl rfl (sc _ Tryz.func24 rfl (by kernel_rfl) rfl rfl ((Of_list abcB _ hT.sha (by decide)).mono ?_))))
 rintro e_ w11 ⟨rfl, hb⟩
 refine cR ?_
 replace hbw := bthen hbw hb
 replace hT := hT.bel hb
 replace hB5 := hB5.bel hb
 replace hB7 := hB7.bel hb
 have hz_w11 := hb.size
 clear hb
 refine Wn (hQ_ _ _ (⟨hB5, hB7⟩) ?_)
 clear hQ_ hP_ Q_
 refine oYg (g := 54) rfl rfl rfl rfl (fun W_ hW_ => (X.eqSumF ent7_sum (sha_length _) rfl rfl)) rfl (oY rfl (fun W_ hW_ => (X.pickT rfl rfl)) rfl (oY rfl (fun W_ hW_ => (X.mvB (c := true) rfl ((beq_self_eq_true (sha abcB))))) rfl (oYg (g := 60) rfl rfl rfl rfl (fun W_ hW_ => (X.move rfl)) rfl (oYg (g := 60) rfl rfl rfl rfl (fun W_ hW_ => (X.eql rfl rfl)) rfl (oY rfl (fun W_ hW_ => (X.pickT rfl rfl)) rfl (oY rfl (fun W_ hW_ => (X.mvB (c := true) rfl (rfl))) rfl (oYg (g := 64) rfl rfl rfl rfl (fun W_ hW_ => (X.ldBN rfl hW_.2 Tryz.underlying66 rfl (by rw [hz]; exact siz66))) rfl ?_)))))))
 refine oYg (g := 64) rfl rfl rfl rfl (fun W_ hW_ => (X.ldBN rfl hW_.1 Tryz.underlying66 rfl (by rw [hz]; exact siz66))) rfl ?_
 refine oYg (g := 64) rfl rfl rfl rfl (fun W_ hW_ => (X.eqEnt ent7_sum ent7_sum rfl rfl)) rfl (oY rfl (fun W_ hW_ => (X.pickT rfl rfl)) rfl (oY rfl (fun W_ hW_ => (X.assign rfl)) rfl (oN (nN (W_ret ?_)))))
 exact (rT rfl rfl ⟨by rw [decide_eq_true rfl], hbw⟩).1
end Go.Proofs.YtnlabkogebnioaaGreatDoor
namespace Go.Proofs.YtnlabkogebnioaaGreatDoor
open Go.RowKit Sha
section
variable {D : DiskD} {s all : List UInt8} {k : Key} {lim : Int}
theorem LastsAt.crashL (h : LastsAt D k lim s all) (picks : List Int) : ∃ p : Int, LastsAt (crashD D picks) k lim (s ++ all.take (p % ((all.length + 1 : Nat) : Int)).toNat) [] := by
 refine ⟨picks.head?.getD 0, ?_⟩
 have h1 := h.crash (picks.head?.getD 0)
 obtain ⟨f, hf, _⟩ := h.ex
 have e : crashD D picks = crashD D [picks.head?.getD 0] := by
  unfold crashD
  rw [hf]
  simp [crashAll]
 rw [e]
 exact h1
end
theorem popen_there {D : DiskD} {n : Int} {f : FileD} (hn : rightP n = true) (hf : mget D.files (nameP n) = some f) : popenM D n = scanP f.now n := by
 have e : preadM D (nameP n) = (f.now, 0) := by unfold preadM; rw [hf]
 unfold popenM
 rw [if_neg (by rw [hn]; decide), e]
 simp only
 rw [if_neg (by simp)]
theorem wents_fit {n : Int} (hn : rightP n = true) {l : List (List UInt8)} {p : Nat} (h : p + (chunksB l).length ≤ 1048576) (hl : ∀ d ∈ l, DOkC d) : (wents n p l).all fitE = true := by
 refine List.all_eq_true.2 fun e he => ?_
 obtain ⟨a, d, c, rfl, rfl⟩ := wents_at he
 have hd := (hl d (by simp)).2
 have h2 : (chunksB a).length ≤ (chunksB (a ++ d :: c)).length := by simp [chunksB]
 unfold rightP at hn
 rw [decide_eq_true_eq] at hn
 unfold fitE fitN
 simp only [Bool.and_eq_true, decide_eq_true_eq]
 omega
theorem wents_S32 (n : Int) (p : Nat) (l : List (List UInt8)) : S32 (wents n p l) := fun e he => by
 obtain ⟨a, d, c, _, rfl⟩ := wents_at he
 exact sha_length d
section
variable {n : Int} {ds : List (List UInt8)} {D : DiskD} {x : Wri}
theorem WrAt1.make (h : WrAt1 1048576 n ds D x) (hn : rightP n = true) (hr : (headB n ++ chunksB ds).length ≤ 40000) : makeM x.l = ((makeM x.l).1, 0) ∧ (makeM x.l).1.length = ds.length ∧ S32 x.l ∧ x.l.length = ds.length ∧ ds.length ≤ 40000 := by
 have hge := chunksB_ge h.ok
 rw [List.length_append] at hr
 have h1 : x.l.length = ds.length := by rw [h.l, wents_length]
 have h2 : x.l.all fitE = true := by rw [h.l]; exact wents_fit hn (by omega) h.ok
 have h3 : (x.l.map (·.sum)).Nodup := by rw [h.l, wents_sums]; exact h.nd
 have h4 : makeM x.l = (ordM x.l, 0) := by
  unfold makeM
  rw [if_neg (by omega), if_neg (by rw [h2]; simp), if_pos h3]
 rw [h4]
 exact ⟨rfl, by rw [(ordM_perm x.l).length_eq, h1], by rw [h.l]; exact wents_S32 _ _ _, h1, by omega⟩
theorem chunks_cut : ∀ {ds : List (List UInt8)} (m : Nat), (∀ d ∈ ds, DOkC d) → ∃ j t, j ≤ ds.length ∧ (chunksB ds).take m = chunksB (ds.take j) ++ t ∧ (nextM t).2.2.2 ≠ 0
 | [], m, _ => ⟨0, [], Nat.le_refl _, by simp [chunksB], by
  have := nextM_cut (k := 1) (b := []) (m := 0) (by decide) (by simp) (by rw [seal_length (by decide) (by simp)]; omega)
  rwa [List.take_zero] at this⟩
 | d :: l, m, h => by
  have hd := h d (List.mem_cons_self ..)
  have e : chunksB (d :: l) = chunkB d ++ chunksB l := rfl
  rcases Nat.lt_or_ge m (chunkB d).length with hm | hm
  ·refine ⟨0, (chunkB d).take m, by omega, ?_, nextM_cut (by decide) (by rw [List.length_append, sha_length]; have := hd.2; omega) hm⟩
   rw [e, List.take_append_of_le_length (by omega)]
   simp [chunksB]
  ·obtain ⟨j, t, hj, h1, h2⟩ := chunks_cut (ds := l) (m - (chunkB d).length) (fun c hc => h c (List.mem_cons_of_mem _ hc))
   refine ⟨j + 1, t, by simp; omega, ?_, h2⟩
   rw [e, List.take_append, List.take_of_length_le hm, h1, List.take_succ_cons]
   simp [chunksB, List.append_assoc]
theorem torn_scan (hn : rightP n = true) (hok : ∀ d ∈ ds, DOkC d) (hnd : (ds.map sha).Nodup) (m : Nat) :
  (scanP ((headB n ++ chunksB ds).take m) n).2 = 12 ∨ ∃ j t, j ≤ ds.length ∧ (headB n ++ chunksB ds).take m = headB n ++ (chunksB (ds.take j) ++ t) ∧ scanP ((headB n ++ chunksB ds).take m) n = (⟨wents n (headB n).length (ds.take j), (headB n).length + (chunksB (ds.take j)).length, false⟩, 0) := by
 rcases Nat.lt_or_ge m (headB n).length with hm | hm
 ·left
  have h1 : (nextM ((headB n).take m)).2.2.2 ≠ 0 := nextM_cut (by decide) (by rw [four_length]; omega) hm
  rw [List.take_append_of_le_length (by omega)]
  unfold scanP
  rw [if_neg (by rw [hn]; decide), if_pos]
  unfold headP
  rw [decide_eq_false_iff_not]
  exact fun e => h1 e.1
 ·right
  obtain ⟨j, t, hj, h1, h2⟩ := chunks_cut (ds := ds) (m - (headB n).length) hok
  have e : (headB n ++ chunksB ds).take m = headB n ++ (chunksB (ds.take j) ++ t) := by rw [List.take_append, List.take_of_length_le hm, h1]
  refine ⟨j, t, hj, e, ?_⟩
  rw [e]
  exact scan_written hn (fun d hd => hok d (List.mem_of_mem_take hd)) (hnd.sublist ((List.take_sublist _ _).map _)) h2
theorem torn_get {D' : DiskD} {f : FileD} {j i : Nat} {t d : List UInt8} (hf : mget D'.files (nameP n) = some f) (hfn : f.now = headB n ++ (chunksB (ds.take j) ++ t)) (hok : ∀ d ∈ ds, DOkC d) (hnd : (ds.map sha).Nodup) (hi : ds[i]? = some d) :
  (i < j → (pgetM D' n (wents n (headB n).length (ds.take j)) (sha d)).2 = 0 ∧ sha (pgetM D' n (wents n (headB n).length (ds.take j)) (sha d)).1 = sha d) ∧ (j ≤ i → pgetM D' n (wents n (headB n).length (ds.take j)) (sha d) = ([], 15)) := by
 obtain ⟨hil, hid⟩ := List.getElem?_eq_some_iff.1 hi
 constructor
 ·intro hij
  have hm : sha d ∈ (ds.take j).map sha := List.mem_map.2 ⟨d, List.mem_take_iff_getElem.2 ⟨i, by omega, hid⟩, rfl⟩
  obtain ⟨c, _, hc, hg⟩ := get_written hf hfn (fun d hd => hok d (List.mem_of_mem_take hd)) hm
  rw [hg]
  exact ⟨rfl, hc⟩
 ·intro hij
  unfold pgetM
  have : findM (wents n (headB n).length (ds.take j)) (sha d) = none := by
   refine List.find?_eq_none.2 fun e he => ?_
   simp only [decide_eq_true_eq]
   intro e2
   have hm : sha d ∈ (ds.take j).map sha := by
    rw [← wents_sums n (headB n).length, ← e2]
    exact List.mem_map.2 ⟨e, he, rfl⟩
   rw [List.map_take] at hm
   obtain ⟨q, hq, hqe⟩ := List.mem_take_iff_getElem.1 hm
   have := (List.getElem_inj (h₀ := by omega) (h₁ := by rw [List.length_map]; exact hil) hnd).1 (hqe.trans (by rw [List.getElem_map, hid]))
   omega
  rw [this]
end
end Go.Proofs.YtnlabkogebnioaaGreatDoor
namespace Go.Proofs.YtnlabkogebnioaaGreatDoor
open Go.RowKit Sha
def fewD (d : List UInt8) : Bool := decide (d.length ≤ 1100)
def fewP (l : List (List UInt8)) : Bool := decide (l.length ≤ 30) && l.all fewD
theorem fewP_next {l : List (List UInt8)} {i : Nat} {d : List UInt8} (hd : l[i]? = some d) (hp : (l.take i).all fewD = true) (hf : fewD d = true) : (l.take (i + 1)).all fewD = true := by
 rw [List.take_add_one, hd, List.all_append, hp]
 simp [hf]
theorem fewP_at {l : List (List UInt8)} {i : Nat} {d : List UInt8} (hd : l[i]? = some d) (hf : fewD d = false) : l.all fewD = false := by
 rw [List.all_eq_false]
 exact ⟨d, List.mem_of_getElem? hd, by rw [hf]; simp⟩
theorem few_any (v : Value) (l : List (List UInt8)) (w : World) (hL : Reads w 1 v l.length (l.map str)) : Calls Tryz.prog 15 #[v] w fun e w' => e = .returned (.bool (fewP l)) ∧ Below w.heap.size w w' := by
 obtain ⟨a, c, rfl, hc1, hc2⟩ := hL.shape
 have hnn := hL.nle
 refine W_enter (args := [.slice a l.length c]) 19 Tryz.func15 rfl rfl rfl (W_sub [(0, .slice a l.length c)] ?_ ⟨rfl, trivial⟩)
 have hbw := Below.refl w.heap.size w
 refine W_rs (sa rfl rfl (Wn (tN (W_seq (W_rs (sm rfl rfl (st (X.lenL rfl rfl Tryz.underlying38) rfl (st (X.gtr rfl rfl) rfl (Wn (tN ?_))))))))))
 refine W_if rfl (fun h6 => ?_) (fun h6 => ?_)
 ·first | replace h6 := of_decide_eq_true h6 | replace h6 := of_decide_eq_false (notT h6) | replace h6 := notT h6 | skip
  refine W_rs (sa rfl rfl (Wn (tN (W_ret (tR ((rT rfl rfl ⟨?_, hbw⟩).1))))))
  unfold fewP
  rw [decide_eq_false (by omega), Bool.false_and]
 ·first | replace h6 := of_decide_eq_false h6 | replace h6 := of_decide_eq_true (notF h6) | replace h6 := notF h6 | skip
  refine W_skip (tN (W_seq (W_rs (sa rfl rfl (Wn (tN (W_block (W_lp (fun nw1_ lw1_ w1 => ∃ i : Nat, nw1_ = l.length - i ∧ lw1_ = ([(0, .slice a l.length c), (3, .int .i64 i)] : Env) ∧ (i ≤ l.length) ∧ (Below w.heap.size w w1) ∧ ((l.take i).all fewD = true)) _ ⟨_, ⟨0, rfl, rfl, Nat.zero_le _, hbw, rfl⟩, ⟨rfl, rfl, trivial⟩⟩ ?_))))))))
  clear hbw
  rintro nw1_ lw1_ w1 ⟨i, rfl, rfl, hi, hbw, hp⟩
  have hz_w1 := hbw.size
  refine W_seq (W_rs (sm rfl rfl (sm rfl rfl (st (X.lenL rfl rfl Tryz.underlying38) rfl (st (X.lss rfl rfl) rfl (Wn (tN (W_if rfl (fun h10 => ?_) (fun h10 => ?_)))))))))
  ·first | replace h10 := of_decide_eq_true h10 | replace h10 := of_decide_eq_false (notT h10) | replace h10 := notT h10 | skip
   obtain ⟨x, hx⟩ : ∃ x, l[i]? = some x := ⟨_, List.getElem?_eq_getElem (by omega)⟩
   have hux : (l.map str)[i]? = some (str x) := by rw [List.getElem?_map, hx]; rfl
   obtain ⟨g1, o1, c', hv, hg1⟩ := hL.some_ (by omega)
   injection hv with e1 _ e3
   subst e1 e3
   refine W_skip (tN (W_seq (W_block (W_rs (sm rfl rfl (sm rfl rfl (st (X.idxA rfl rfl Tryz.underlying38 siz9 rfl (by omega)) rfl (st (X.ld rfl Tryz.underlying9 rfl (by rw [Nat.mul_one]; exact (hL.bel hbw).cellAt (by omega) hux)) rfl ?_))))))))
   refine st (X.lenS rfl rfl Tryz.underlying9) rfl (st (X.gtr rfl rfl) rfl (Wn (tN (W_if rfl (fun h18 => ?_) (fun h18 => ?_)))))
   ·first | replace h18 := of_decide_eq_true h18 | replace h18 := of_decide_eq_false (notT h18) | replace h18 := notT h18 | skip
    refine W_rs (sa rfl rfl (Wn (tN (W_ret (bR (tR (tR (bR (tR ((rT rfl rfl ⟨?_, hbw⟩).1))))))))))
    unfold fewP
    rw [fewP_at hx (by unfold fewD; exact decide_eq_false (by omega)), Bool.and_false]
   ·first | replace h18 := of_decide_eq_false h18 | replace h18 := of_decide_eq_true (notF h18) | replace h18 := notF h18 | skip
    refine W_skip (bN (tN (W_reg (sm rfl rfl (st (X.add64 rfl rfl (by omega)) rfl (sa rfl rfl (Wn (tN ⟨_, _, ?_, ⟨i + 1, rfl, rfl, by omega, hbw, fewP_next hx hp (by unfold fewD; exact decide_eq_true (by omega))⟩, ⟨rfl, rfl, trivial⟩⟩))))))))
    omega
  ·first | replace h10 := of_decide_eq_false h10 | replace h10 := of_decide_eq_true (notF h10) | replace h10 := notF h10 | skip
   obtain rfl : i = l.length := by omega
   refine W_exit (tE (tE (bH (tN (W_rs (sa rfl rfl (Wn (tN (W_ret ((rT rfl rfl ⟨?_, hbw⟩).1))))))))))
   unfold fewP
   rw [List.take_length] at hp
   rw [hp, decide_eq_true (by omega), Bool.and_self]
theorem fewP_true {l : List (List UInt8)} (h : fewP l = true) : l.length ≤ 30 ∧ ∀ d ∈ l, d.length ≤ 1100 := by
 unfold fewP at h
 rw [Bool.and_eq_true, decide_eq_true_eq, List.all_eq_true] at h
 refine ⟨h.1, fun d hd => ?_⟩
 have := h.2 d hd
 unfold fewD at this
 simpa using this
def sumsC (l : List (List UInt8)) : List Value := l.flatMap fun a => a.map bv
theorem sumsC_snoc (l : List (List UInt8)) (a : List UInt8) : sumsC (l ++ [a]) = sumsC l ++ a.map bv := by simp [sumsC]
theorem padd_sum32 {D : DiskD} {x : Wri} {d : List UInt8} (h : S32 x.l) : (paddM D x d).1.1.sum.length = 32 ∧ S32 (paddM D x d).2.1.l := by
 unfold paddM
 split
 ·exact ⟨by simp [eZ], h⟩
 split
 ·exact ⟨by simp [eZ], h⟩
 split
 ·rename_i e he
  exact ⟨h e (List.mem_of_find?_eq_some he), h⟩
 split
 ·exact ⟨by simp [eZ], h⟩
 split
 ·exact ⟨by simp [eZ], h⟩
 ·refine ⟨sha_length d, fun e he => ?_⟩
  rcases List.mem_append.1 he with he | he
  ·exact h e he
  ·rw [List.mem_singleton.1 he]; exact sha_length d
theorem padd_len (D : DiskD) (x : Wri) (d : List UInt8) : (paddM D x d).2.1.l.length ≤ x.l.length + 1 := by
 obtain ⟨_, h1, h2⟩ := padd_l D x d
 by_cases h : (paddM D x d).1.2 = 0
 ·rw [(h1 h).1, List.length_append, List.length_singleton]
  exact Nat.le_refl _
 ·rw [h2 h]; omega
theorem addsM_len : ∀ (l : List (List UInt8)) (D : DiskD) (x : Wri), (addsM D x l).1.l.length ≤ x.l.length + l.length ∧ (addsM D x l).1.n = x.n
 | [], _, _ => ⟨Nat.le_refl _, rfl⟩
 | d :: l, D, x => by
  have h1 := padd_len D x d
  have h2 := addsM_len l (paddM D x d).2.2 (paddM D x d).2.1
  rw [addsM]
  refine ⟨by simp only [List.length_cons]; omega, h2.2.trans (padd_l D x d).1⟩
theorem addsM_good : ∀ (l : List (List UInt8)) {D : DiskD} (x : Wri) {n : Nat}, Good n D → Good (n + 1100 * l.length) (addsM D x l).2
 | [], _, _, _, h => h
 | d :: l, D, x, n, h => by
  have h1 := padd_good h x d
  have h2 := addsM_good l (paddM D x d).2.1 h1
  rw [addsM]
  exact h2.mono (by simp only [List.length_cons]; omega)
theorem addsM_take {D : DiskD} {x : Wri} {l : List (List UInt8)} {i : Nat} {d : List UInt8} (hd : l[i]? = some d) : addsM D x (l.take (i + 1)) = (paddM (addsM D x (l.take i)).2 (addsM D x (l.take i)).1 d).2 := by
 rw [List.take_add_one, hd]
 exact addsM_snoc d _ _ _
structure AddSt (B q : Nat) (S0 : Nat → Prop) (w : World) (gd gw gx gm : Nat) (D : DiskD) (x : Wri) (v : Value) (S : Nat → Prop) (u : Value) (sums : List (List UInt8)) : Prop where
  all : WrAll B w gd gw gx gm D x v S
  row : Row w 60 32 u sums.length (sumsC sums)
  ap : ∀ k, u.ownBlock = some k → ¬ (S k ∨ WrT gw gx gm v k) ∧ q ≤ k
  lo : ∀ k, WrT gw gx gm v k → q ≤ k
  sub : ∀ k, S k → S0 k ∨ q ≤ k
section
variable {B q gd gw gx gm : Nat} {w w' : World} {D D' : DiskD} {x x' : Wri} {v u u' : Value} {S S0 T : Nat → Prop} {sums : List (List UInt8)}
theorem AddSt.step (h : AddSt B q S0 w gd gw gx gm D x v S u sums) (hp : WrPost B w gd gw gx gm D' x' v S w') (hq : q ≤ w.heap.size) : ∃ v' S', AddSt B q S0 w' gd gw gx gm D' x' v' S' u sums ∧ Chg (fun k => S k ∨ WrT gw gx gm v k) w w' := by
 obtain ⟨v', S', h1, h2, h3, h4⟩ := hp
 have hlt := rowLt h.row
 have hT : ∀ k, WrT gw gx gm v' k → WrT gw gx gm v k ∨ w.heap.size ≤ k := by
  rintro k (e | e | e | e)
  ·exact .inl (.inl e)
  ·exact .inl (.inr (.inl e))
  ·exact .inl (.inr (.inr (.inl e)))
  ·exact (h3 k e).imp (fun h => .inr (.inr (.inr h))) id
 refine ⟨v', S', ⟨h1, h.row.chg h4 (fun k hk => (h.ap k hk).1), fun k hk => ⟨?_, (h.ap k hk).2⟩, fun k hk => (hT k hk).elim (h.lo k) (fun e => by omega), fun k hk => (h2 k hk).elim (h.sub k) (fun e => .inr (by omega))⟩, h4⟩
 have := hlt k hk
 rintro (e | e)
 ·exact (h2 k e).elim (fun e => (h.ap k hk).1 (.inl e)) (fun e => by omega)
 ·exact (hT k e).elim (fun e => (h.ap k hk).1 (.inr e)) (fun e => by omega)
theorem AddSt.chg (h : AddSt B q S0 w gd gw gx gm D x v S u sums) (hC : Chg T w w') (h1 : ∀ k, S k ∨ WrT gw gx gm v k → ¬ T k) (h2 : ∀ k, u.ownBlock = some k → ¬ T k) : AddSt B q S0 w' gd gw gx gm D x v S u sums :=
 ⟨h.all.chg hC h1, h.row.chg hC h2, h.ap, h.lo, h.sub⟩
theorem AddSt.bel (h : AddSt B q S0 w gd gw gx gm D x v S u sums) (hb : Below w.heap.size w w') : AddSt B q S0 w' gd gw gx gm D x v S u sums :=
 ⟨h.all.bel hb, h.row.bel hb, h.ap, h.lo, h.sub⟩
theorem AddSt.app (h : AddSt B q S0 w gd gw gx gm D x v S u sums) {a : List UInt8} (hR : Row w' 60 32 u' (sums.length + 1) (sumsC sums ++ a.map bv)) (hC : Chg (fun k => u.ownBlock = some k) w w') (hv : u'.ownBlock = u.ownBlock ∨ u'.ownBlock = some w.heap.size) (hq : q ≤ w.heap.size) : AddSt B q S0 w' gd gw gx gm D x v S u' (sums ++ [a]) := by
 have hlt := h.all.lts
 refine ⟨h.all.chg hC (fun k hk e => (h.ap k e).1 hk), ?_, fun k hk => ?_, h.lo, h.sub⟩
 ·rw [List.length_append, List.length_singleton, sumsC_snoc]
  exact hR
 ·rcases hv with hv | hv
  ·exact h.ap k (hv ▸ hk)
  ·rw [hv] at hk
   obtain rfl := Option.some.inj hk
   exact ⟨fun e => by have := hlt _ e; omega, hq⟩
theorem AddSt.lts (h : AddSt B q S0 w gd gw gx gm D x v S u sums) : ∀ k, (S k ∨ WrT gw gx gm v k) ∨ u.ownBlock = some k → k < w.heap.size := fun k hk => hk.elim (h.all.lts k) (rowLt h.row k)
theorem AddSt.los (h : AddSt B q S0 w gd gw gx gm D x v S u sums) : ∀ k, S k ∨ WrT gw gx gm v k → S0 k ∨ q ≤ k := fun k hk => hk.elim (h.sub k) (fun e => .inr (h.lo k e))
end
theorem AddSt.size {B q gd gw gx gm : Nat} {w : World} {D : DiskD} {x : Wri} {v u : Value} {S S0 : Nat → Prop} {sums : List (List UInt8)} (h : AddSt B q S0 w gd gw gx gm D x v S u sums) : S32 x.l := h.all.scn.s32
set_option maxRecDepth 10000 in
theorem added_any (B gd : Nat) (D : DiskD) (S0 : Nat → Prop) (n : Int) (N : Nat) (w : World) (va : Value) (l : List (List UInt8)) (hd : Own B w gd D S0) (hg : Good N D) (hN : N ≤ 1000000) (hBw : B ≤ w.heap.size) (hT : PTabs B w) (hL : Reads w 1 va l.length (l.map str)) (hLS : 0 < l.length → ∀ k, va.ownBlock = some k → ¬ S0 k)
  (hl : l.length ≤ 30) (hlen : ∀ d ∈ l, d.length ≤ 1100) (h0 : (pbeginM D n).1 = 0) (D1 : DiskD) (hD1 : (pbeginM D n).2 = D1) :
  Calls Tryz.prog 17 #[.pointer (some ⟨gd, 0, none⟩), .int .i64 n, va] w fun e w' => ∃ gw gx gm v S u, e = .returned (.tuple #[.pointer (some ⟨gw, 0, none⟩), u, .bool true]) ∧ AddSt B w.heap.size S0 w' gd gw gx gm (addsM D1 ⟨n, [], false⟩ l).2 (addsM D1 ⟨n, [], false⟩ l).1 v S u ((addsM D1 ⟨n, [], false⟩ l).1.l.map (·.sum)) ∧ PTabs B w' ∧ Chg S0 w w' := by
 have hgb : Good (N + 30) D1 := by rw [← hD1]; exact pbegin_good hg n
 obtain ⟨a, c, rfl, hc1, hc2⟩ := hL.shape
 have hnn := hL.nle
 refine W_enter (args := [.pointer (some ⟨gd, 0, none⟩), .int .i64 n, .slice a l.length c]) 75 Tryz.func17 rfl rfl rfl (W_sub [(0, .pointer (some ⟨gd, 0, none⟩)), (1, .int .i64 n), (2, .slice a l.length c)] ?_ ⟨rfl, rfl, rfl, trivial⟩)
 have hcw := Chg.refl (S0) w
 refine W_rs (sa rfl rfl (sa rfl rfl (sa rfl rfl (Wn (tN (W_rs (sm rfl rfl (sm rfl rfl (sc _ Tryz.func25 rfl (by kernel_rfl) rfl rfl ((pbegin_any B gd D S0 n N _ hd hg (by omega) (Nat.le_trans hBw hcw.size) hT).mono ?_))))))))))
 rintro e_ w1 ⟨p, S1, rfl, hd1, hS1, hX, hpn, hps⟩
 refine cR ?_
 obtain ⟨gw, gx, gm, v, rfl, hW, hWo⟩ := hps h0
 replace hT := hT.chg hX (fun k hk => (hd.lo k hk).1)
 replace hcw := hcw.next hX (fun i hi => .inl hi)
 rw [h0]
 rw [hD1] at hW
 have hA : AddSt B w.heap.size S0 _ gd gw gx gm D1 ⟨n, [], false⟩ v S1 (.slice none 0 0) [] := ⟨hW, Row.nil _ _ _, fun k hk => by simp [Value.ownBlock] at hk, fun k hk => by have := hWo k hk; omega, fun k hk => (hS1 k hk).imp id (fun e => by omega)⟩
 clear hps hpn hWo hd1 hW hX
 refine sm rfl rfl (st (X.ext rfl rfl) rfl (st (X.ext rfl rfl) rfl (sa rfl rfl (sa rfl rfl (Wn (tN (W_seq (W_rs (sm rfl rfl (st (X.neq rfl rfl) rfl ?_))))))))))
 refine sbN rfl (rfl) rfl (gY (g := 23) rfl rfl rfl (sm rfl rfl (gY (g := 23) rfl rfl rfl (st (X.wEq rfl) rfl (st (X.pickF rfl rfl) rfl (Wn (tN (W_no rfl (rfl) (W_skip (tN ?_))))))))))
 refine W_rs (sa rfl rfl (Wn (tN (W_seq (W_rs (sa rfl rfl (Wn (tN (W_block (W_lp (fun nw2_ lw2_ w2 => ∃ j : Nat, ∃ v : Value, ∃ S1 : Nat → Prop, ∃ u : Value, nw2_ = l.length - j ∧ lw2_ = ([(1, .int .i64 n), (2, .slice a l.length c), (9, .pointer (some ⟨gw, 0, none⟩)), (11, u), (12, .int .i64 j)] : Env) ∧ (AddSt B w.heap.size S0 w2 gd gw gx gm (addsM D1 ⟨n, [], false⟩ (l.take j)).2 (addsM D1 ⟨n, [], false⟩ (l.take j)).1 v S1 u ((addsM D1 ⟨n, [], false⟩ (l.take j)).1.l.map (·.sum))) ∧ (PTabs B w2) ∧ (j ≤ l.length) ∧ (Chg S0 w w2)) _ ⟨_, ⟨0, v, S1, .slice none 0 0, rfl, rfl, hA, hT, Nat.zero_le _, hcw⟩, ⟨rfl, rfl, rfl, rfl, rfl, trivial⟩⟩ ?_))))))))))
 clear hA hT hcw
 rintro nw2_ lw2_ w2 ⟨j, v, S1, u, rfl, rfl, hA, hT, hj, hcw⟩
 refine W_seq (W_rs (sm rfl rfl (sm rfl rfl (st (X.lenL rfl rfl Tryz.underlying38) rfl (st (X.lss rfl rfl) rfl (Wn (tN (W_if rfl (fun h30 => ?_) (fun h30 => ?_)))))))))
 ·first | replace h30 := of_decide_eq_true h30 | replace h30 := of_decide_eq_false (notT h30) | replace h30 := notT h30 | skip
  obtain ⟨d, hd_⟩ : ∃ d, l[j]? = some d := ⟨_, List.getElem?_eq_getElem (by omega)⟩
  have hux : (l.map str)[j]? = some (str d) := by rw [List.getElem?_map, hd_]; rfl
  obtain ⟨g1, o1, c', hv, hg1⟩ := hL.some_ (by omega)
  injection hv with e1 _ e3
  subst e1 e3
  have hdl := hlen d (List.mem_of_getElem? hd_)
  have hgj := addsM_good (l.take j) ⟨n, [], false⟩ hgb
  have hnl := addsM_len (l.take j) D1 ⟨n, [], false⟩
  have htk : (l.take j).length = j := by rw [List.length_take]; omega
  have hnx := addsM_take (D := D1) (x := ⟨n, [], false⟩) hd_
  rw [htk] at hgj hnl
  obtain ⟨y, hy⟩ : ∃ y, addsM D1 ⟨n, [], false⟩ (l.take j) = y := ⟨_, rfl⟩
  rw [hy] at hA hgj hnl hnx
  refine W_skip (tN (W_seq (W_block (W_rs (sm rfl rfl (sm rfl rfl (sm rfl rfl (st (X.idxA rfl rfl Tryz.underlying38 siz9 rfl (by omega)) rfl (st (X.ld rfl Tryz.underlying9 rfl (by rw [Nat.mul_one]; exact (hL.chgS hcw hLS).cellAt (by omega) hux)) rfl ?_)))))))))
  refine sc _ Tryz.func26 rfl (by kernel_rfl) rfl rfl ((padd_any d (N + 30 + 1100 * j) hA.all hgj (by omega) hT (by omega) (by have := hnl.1; simp at this; omega)).mono ?_)
  rintro e_ w3 ⟨rfl, hWP⟩
  refine cR ?_
  have hA0 := hA
  obtain ⟨v2, S2, hA2, hX⟩ := hA.step hWP (by have := hcw.size; omega)
  have hp32 := padd_sum32 (D := y.2) (d := d) hA.size
  have hpl := padd_l y.2 y.1 d
  replace hT := hT.chg hX hA.all.lo
  replace hcw := hcw.next hX hA.los
  obtain ⟨r, hr⟩ : ∃ r, paddM y.2 y.1 d = r := ⟨_, rfl⟩
  rw [hr] at hA2 hp32 hpl hnx
  rw [hr]
  clear hWP hX hA hA0
  have hA := hA2
  clear hA2
  have hz : r.1.1.cells.toArray.size = 35 := Ent.size hp32.1
  refine sm rfl rfl (st (X.ext rfl rfl) rfl (st (X.ext rfl rfl) rfl ?_))
  have hq13 := hA.lts
  have hw13 := hcw.size
  refine salA inf66 rfl (fun g13 w4 hB13 hg13 hb hl13 => ?_)
  replace hcw := hcw.then_below hb
  replace hT := hT.bel hb
  replace hA := hA.bel hb
  have hz_w4 := hb.size
  clear hb
  refine ssBN rfl rfl hB13 (by rw [hz]; exact siz66) (by rw [hz]; rfl) (Ent.cells_one r.1.1) (fun w5 hB_ hc_ => ?_)
  replace hB13 := hB_
  replace hA := hA.chg hc_ (fun k hk => by show ¬ k = g13; have := hq13 k (.inl hk); omega) (fun k hk => by show ¬ k = g13; have := hq13 k (.inr hk); omega)
  replace hT := hT.chg hc_ (fun k hk => by have h1 : k = g13 := hk; have := hcw.size; omega)
  replace hcw := hcw.next hc_ (fun i hi => .inr (by have h1 : i = g13 := hi; omega))
  have hz_w5 := hc_.size
  clear hB_ hc_
  refine sa rfl rfl (Wn (tN (W_rs (sm rfl rfl (st (X.eql rfl rfl) rfl (Wn (tN (W_if rfl (fun h43 => ?_) (fun h43 => ?_)))))))))
  ·first | replace h43 := of_decide_eq_true h43 | replace h43 := of_decide_eq_false (notT h43) | replace h43 := notT h43 | skip
   obtain ⟨hp1, hp2, hp3, hp4⟩ := hpl.2.1 h43
   refine W_seq (W_drsN (fun W_ => Blk W_ g13 66 r.1.1.cells.toArray ∧ W_.cell? ⟨g1, o1 + j, none⟩ = some (str d)) [0, 1, 2, 3, 4, 5, 6, 7, 8, 9, 10, 11, 12, 13, 14, 15, 16, 17, 18, 19, 20, 21, 22, 23] [true, true, true, true, true, true, false, true, true, true, true, true, true, true, true, true, true, true, true, true, true, true, true, true] (by kernel_rfl) (by kernel_rfl) (⟨hB13.drew, (hL.chgS hcw hLS).cellAt (by omega) hux⟩) ?_)
   obtain ⟨w6, hw_⟩ : ∃ w6 : World, w6 = World.drew w5 := ⟨_, rfl⟩
   rw [← hw_]
   have hb : Below w5.heap.size w5 w6 := by rw [hw_]; exact bdrew (Below.refl _ _)
   clear hw_
   have hS := hb
   replace hcw := hcw.then_below hb
   replace hT := hT.bel hb
   replace hA := hA.bel hb
   replace hB13 := hB13.bel hb
   have hz_w6 := hb.size
   clear hb
   refine oY rfl (fun W_ hW_ => (X.fa fa66_0 rfl)) rfl (oY rfl (fun W_ hW_ => (X.ldN (cs := r.1.1.sum.map bv) rfl Tryz.underlying60 rfl (by rw [List.length_map, hp32.1]; exact siz60) (ent_sumR hW_.1))) rfl ?_)
   refine oY rfl (fun W_ hW_ => (X.move rfl)) rfl (oY rfl (fun W_ hW_ => (X.move rfl)) rfl (oY rfl (fun W_ hW_ => (X.idxA rfl rfl Tryz.underlying38 siz9 rfl (by omega))) rfl (oY rfl (fun W_ hW_ => (X.ld rfl Tryz.underlying9 rfl (by rw [Nat.mul_one]; exact hW_.2))) rfl ?_)))
   refine oL rfl (fun Q_ hQ_ hP_ => (sc _ Tryz.func24 rfl (by kernel_rfl) rfl rfl ((Of_list d _ hT.sha (by omega)).mono ?_)))
   rintro e_ w7 ⟨rfl, hb⟩
   refine cR ?_
   replace hcw := hcw.then_below hb
   replace hT := hT.bel hb
   replace hA := hA.bel hb
   replace hB13 := hB13.bel hb
   have hz_w7 := hb.size
   clear hb
   refine Wn (hQ_ _ _ (⟨hB13, (hL.chgS hcw hLS).cellAt (by omega) hux⟩) ?_)
   clear hQ_ hP_ Q_
   refine oY rfl (fun W_ hW_ => (X.neSumF hp32.1 (sha_length _) rfl rfl)) rfl (oY rfl (fun W_ hW_ => (X.mvB (c := false) rfl ((by rw [hp2]; simp)))) rfl ?_)
   refine oYg (g := 52) rfl rfl rfl rfl (fun W_ hW_ => (X.fa fa66_3 rfl)) rfl (oYg (g := 52) rfl rfl rfl rfl (fun W_ hW_ => (X.ldB rfl hW_.1 Tryz.underlying3 rfl (Ent.cell_ hp32.1 2 _ rfl))) rfl (oYg (g := 52) rfl rfl rfl rfl (fun W_ hW_ => (X.move rfl)) rfl (oYg (g := 52) rfl rfl rfl rfl (fun W_ hW_ => (X.move rfl)) rfl (oYg (g := 52) rfl rfl rfl rfl (fun W_ hW_ => (X.idxA rfl rfl Tryz.underlying38 siz9 rfl (by omega))) rfl (oYg (g := 52) rfl rfl rfl rfl (fun W_ hW_ => (X.ld rfl Tryz.underlying9 rfl (by rw [Nat.mul_one]; exact hW_.2))) rfl ?_)))))
   refine oYg (g := 52) rfl rfl rfl rfl (fun W_ hW_ => (X.lenS rfl rfl Tryz.underlying9)) rfl (oYg (g := 52) rfl rfl rfl rfl (fun W_ hW_ => (X.neq rfl rfl)) rfl (oY rfl (fun W_ hW_ => (X.pickF rfl rfl)) rfl (oY rfl (fun W_ hW_ => (X.mvB (c := false) rfl ((decide_eq_false (by rw [hp4]; simp))))) rfl ?_)))
   refine oYg (g := 62) rfl rfl rfl rfl (fun W_ hW_ => (X.fa fa66_1 rfl)) rfl (oYg (g := 62) rfl rfl rfl rfl (fun W_ hW_ => (X.ldB rfl hW_.1 Tryz.underlying3 rfl (Ent.cell_ hp32.1 0 _ rfl))) rfl (oYg (g := 62) rfl rfl rfl rfl (fun W_ hW_ => (X.move rfl)) rfl (oYg (g := 62) rfl rfl rfl rfl (fun W_ hW_ => (X.neq rfl rfl)) rfl (oY rfl (fun W_ hW_ => (X.pickF rfl rfl)) rfl (oN (nN (W_no rfl ((decide_eq_false (by rw [hp3, hnl.2]; simp))) ?_)))))))
   refine W_skip (tN (W_reg (sm rfl rfl (st (X.fa fa66_0 rfl) rfl (st (X.ldN (cs := r.1.1.sum.map bv) rfl Tryz.underlying60 rfl (by rw [List.length_map, hp32.1]; exact siz60) (ent_sumR hB13)) rfl ?_)))))
   refine sbs1 rfl Tryz.underlying45 inf60 (by show (r.1.1.sum.map bv).toArray.size = 32; simp [hp32.1]) rfl (by decide) (by decide) rfl (fun g71 w8 hR71 hg71 hb => ?_)
   replace hA := hA.bel hb
   replace hT := hT.bel hb
   replace hcw := hcw.then_below hb
   have hz_w8 := hb.size
   clear hb hB13
   refine sapp rfl rfl Tryz.underlying45 inf60 rfl (by decide) hA.row (hR71.reads.src Tryz.underlying45 (by intro u hu; simp [Value.cells] at hu; obtain ⟨q, _, rfl⟩ := hu; rfl)) (by simp only [maxLen, List.length_map]; have := hnl.1; simp at this; omega) (by simp only [List.length_map]; have := hnl.1; simp at this; omega) rfl (fun u2 w9 hR2 hC2 hv2 => ?_)
   have hz_w9 := hC2.size
   have hAn := hA.app (a := r.1.1.sum) (by simpa [Value.cells] using hR2) hC2 hv2 (by have := hcw.size; omega)
   replace hT := hT.chg hC2 (fun k hk => by have := (hA.ap k hk).2; omega)
   replace hcw := hcw.next hC2 (fun i hi => .inr (hA.ap i hi).2)
   have hA2 : AddSt B w.heap.size S0 w9 gd gw gx gm (addsM D1 ⟨n, [], false⟩ (l.take (j + 1))).2 (addsM D1 ⟨n, [], false⟩ (l.take (j + 1))).1 v2 S2 u2 ((addsM D1 ⟨n, [], false⟩ (l.take (j + 1))).1.l.map (·.sum)) := by rw [hnx, hp1, List.map_append]; exact hAn
   clear hA hAn hR2 hC2 hR71
   have hA := hA2
   clear hA2
   refine sa rfl rfl (Wn (bN (tN (W_reg (sm rfl rfl (st (X.add64 rfl rfl (by omega)) rfl (sa rfl rfl (Wn (tN ⟨_, _, ?_, ⟨j + 1, _, _, _, rfl, rfl, hA, hT, by omega, hcw⟩, ⟨rfl, rfl, rfl, rfl, rfl, trivial⟩⟩)))))))))
   omega
  ·first | replace h43 := of_decide_eq_false h43 | replace h43 := of_decide_eq_true (notF h43) | replace h43 := notF h43 | skip
   have hA2 : AddSt B w.heap.size S0 w5 gd gw gx gm (addsM D1 ⟨n, [], false⟩ (l.take (j + 1))).2 (addsM D1 ⟨n, [], false⟩ (l.take (j + 1))).1 v2 S2 u ((addsM D1 ⟨n, [], false⟩ (l.take (j + 1))).1.l.map (·.sum)) := by have e43 := hpl.2.2 h43; rw [hnx, e43]; rw [e43] at hA; exact hA
   clear hA
   have hA := hA2
   clear hA2
   refine W_skip (bN (tN (W_reg (sm rfl rfl (st (X.add64 rfl rfl (by omega)) rfl (sa rfl rfl (Wn (tN ⟨_, _, ?_, ⟨j + 1, _, _, _, rfl, rfl, hA, hT, by omega, hcw⟩, ⟨rfl, rfl, rfl, rfl, rfl, trivial⟩⟩))))))))
   omega
 ·first | replace h30 := of_decide_eq_false h30 | replace h30 := of_decide_eq_true (notF h30) | replace h30 := notF h30 | skip
  obtain rfl : j = l.length := by omega
  rw [List.take_length] at hA
  refine W_exit (tE (tE (bH (tN (W_rs (sm rfl rfl (sm rfl rfl (sa rfl rfl (sa rfl rfl (sa rfl rfl (Wn (tN (W_ret ?_)))))))))))))
  exact (rTTT rfl rfl rfl rfl ⟨gw, gx, gm, v, S1, u, rfl, hA, hT, hcw⟩).1
end Go.Proofs.YtnlabkogebnioaaGreatDoor
namespace Go.Proofs.YtnlabkogebnioaaGreatDoor
open Go.RowKit
theorem Reads.rec_' {α : Type} {f : α → List Value} {k : Nat} {w : World} {g o c n : Nat} {l : List α} (h : Reads w k (.slice (some ⟨g, o, none⟩) n c) n (l.flatMap f)) (hk : ∀ a ∈ l, (f a).length = k) (hn : l.length = n) {j : Nat} {x : α} (hx : l[j]? = some x) : w.rangeAt g (o + j * k) (f x) := by
 subst hn
 exact h.rec_ hk hx
end Go.Proofs.YtnlabkogebnioaaGreatDoor
namespace Go.Proofs.YtnlabkogebnioaaGreatDoor
open Go.RowKit
section
variable {P : Program} {N : Nat} {ds : List Deferred} {Q : Post} {S : World → Prop} {os : List Oper} {is : List Nat} {bs : List Bool} {l : Env} {w : World} {op : Op} {ty : TypeId} {pos : String} {aft : Array Edge} {d i j g : Nat} {b : Bool}
theorem yield_un {ops : Array Oper} {a : Act} (ha : Rep N ds l a) (hj : (ops[j]?).bind (·.dst) = some g) (hg : lk l g = some undef) (hN : Nat.blt g N = true) : yielded ops a.tmps j = none := by
 have hs : g < a.tmps.size := by rw [ha.size]; exact of_decide_eq_true (by simpa [Nat.blt_eq] using hN)
 have hv := ha.val g _ hg
 unfold yielded
 rw [hj]
 simp only [Option.bind_some]
 rw [Array.getElem?_eq_getElem hs]
 simp only [Array.getD_eq_getD_getElem?, Array.getElem?_eq_getElem hs, Option.getD_some] at hv
 rw [hv]
 rfl
theorem oNu {m : Bool} (ho : os[i]? = some ⟨some d, op, ty, pos, aft, some (j, b)⟩) (hj : (os.toArray[j]?).bind (·.dst) = some g) (hg : lk l g = some undef) (hN : Nat.blt g N = true) (hS : S w) (hd : Nat.blt d N = true) (h : WO P N ds os Q S is bs ((d, undef) :: l) w) : WO P N ds os Q S (i :: is) (m :: bs) l w := fun a ha => by
 rw [permute_cons ho]
 have hw : Region.wanted ⟨some d, op, ty, pos, aft, some (j, b)⟩ (yielded os.toArray a.tmps) = false := by simp [Region.wanted, yield_un ha hj hg hN]
 cases m with
 | true => exact wpOrd_no hw (h _ (ha.put hd undef))
 | false => exact wpOrd_alone_no hw hS (h _ (ha.put hd undef))
end
end Go.Proofs.YtnlabkogebnioaaGreatDoor
namespace Go.Proofs.YtnlabkogebnioaaGreatDoor
open Go.RowKit Sha
theorem got_len (len : Int) (a s : List UInt8) : (gotM len a s).1.length ≤ s.length := by
 unfold gotM
 split
 ·simp
 split
 ·have := nextM_body s
  simp only [List.length_drop]
  omega
 ·simp
theorem pget_len {D : DiskD} (hok : DOk D) (n : Int) (l : List Ent) (a : List UInt8) : (pgetM D n l a).1.length ≤ 16777216 := by
 unfold pgetM
 split
 ·simp
 split
 ·simp
 rename_i f hf
 have := (hok.len hf).1
 split
 ·simp
 ·refine Nat.le_trans (got_len _ _ _) ?_
  simp only [List.length_take, List.length_drop]
  omega
theorem sumsRange {w : World} {g o c : Nat} {l : List (List UInt8)} (h : Reads w 32 (.slice (some ⟨g, o, none⟩) l.length c) l.length (sumsC l)) (h32 : ∀ a ∈ l, a.length = 32) {j : Nat} {a : List UInt8} (ha : l[j]? = some a) : w.rangeAt g (o + j * 32) (a.map bv) :=
 Reads.rec_' (f := fun a => a.map bv) h (fun a hm => by rw [List.length_map, h32 a hm]) rfl ha
theorem few_facts {l : List (List UInt8)} {n : Int} (hn : rightP n = true) (hl30 : l.length ≤ 30) :
  ∃ ds, WrAt1 1048576 n ds (addsM (pbeginM (newM 1048576) n).2 ⟨n, [], false⟩ l).2 (addsM (pbeginM (newM 1048576) n).2 ⟨n, [], false⟩ l).1 ∧ (∀ d ∈ l, DOkC d → sha d ∈ ds.map sha) ∧ (headB n ++ chunksB ds).length ≤ 40000 ∧ Good (30 + 1100 * l.length) (addsM (pbeginM (newM 1048576) n).2 ⟨n, [], false⟩ l).2 ∧ ds.length ≤ 30 := by
 have hh := headB_len n
 have h0 : (headB n ++ chunksB []).length = (headB n).length := by simp [chunksB]
 obtain ⟨ds, h1, _, h2, h3⟩ := adds_written (l := l) (WrAt1.begin (lim := 1048576) hn (by omega)) (by rw [h0]; omega)
 have hg := addsM_good l ⟨n, [], false⟩ (pbegin_good (Good.new (n := 0) (l := 1048576) (by omega)) n)
 have hlen := (addsM_len l (pbeginM (newM 1048576) n).2 ⟨n, [], false⟩).1
 refine ⟨ds, h1, h2, by rw [h0] at h3; omega, hg.mono (by omega), ?_⟩
 have := congrArg List.length h1.l
 rw [wents_length] at this
 simp only [List.length_nil] at hlen
 omega
theorem LastsAt.popen {D : DiskD} {n : Int} {s all : List UInt8} {lim : Int} (h : LastsAt D (nameP n) lim s all) (hn : rightP n = true) : popenM D n = scanP (s ++ all) n := by
 obtain ⟨f, hf, hfn⟩ := h.file
 rw [popen_there hn hf, hfn]
theorem make_wents {n : Int} (hn : rightP n = true) {l : List (List UInt8)} {p : Nat} (h : p + (chunksB l).length ≤ 1048576) (hl : ∀ d ∈ l, DOkC d) (hnd : (l.map sha).Nodup) (h40 : l.length ≤ 40000) : (makeM (wents n p l)).1.length = l.length := by
 have h2 : (wents n p l).all fitE = true := wents_fit hn h hl
 have h3 : ((wents n p l).map (·.sum)).Nodup := by rw [wents_sums]; exact hnd
 unfold makeM
 rw [if_neg (by rw [wents_length]; omega), if_neg (by rw [h2]; simp), if_pos h3]
 show (ordM _).length = _
 rw [(ordM_perm _).length_eq, wents_length]
theorem take_chunks_le {ds : List (List UInt8)} (j : Nat) : (chunksB (ds.take j)).length ≤ (chunksB ds).length := by
 conv => rhs; rw [← List.take_append_drop j ds]
 unfold chunksB
 rw [List.flatMap_append, List.length_append]
 omega
set_option maxRecDepth 10000 in
theorem PackTorn_walk (w : World) (v : Value) (l : List (List UInt8)) (hL : Reads w 1 v l.length (l.map str)) (n pick : Int) (hT : PTabs w.heap.size w) :
  Calls Tryz.prog 6 #[v, .int .i64 n, .int .i64 pick] w fun e w' => e = .returned (.bool true) ∧ Below w.heap.size w w' := by
 obtain ⟨a, c, rfl, hc1, hc2⟩ := hL.shape
 have hhl := headB_len n
 refine W_enter (args := [.slice a l.length c, .int .i64 n, .int .i64 pick]) 129 Tryz.func6 rfl rfl rfl (W_sub [(0, .slice a l.length c), (1, .int .i64 n), (2, .int .i64 pick)] ?_ ⟨rfl, rfl, rfl, trivial⟩)
 have hbw := Below.refl w.heap.size w
 refine W_rs (sa rfl rfl (Wn (tN (W_seq (W_rs (sm rfl rfl (sc _ Tryz.func15 rfl (by kernel_rfl) rfl rfl ((few_any _ l _ (hL.bel hbw)).mono ?_))))))))
 rintro e_ w1 ⟨rfl, hb⟩
 refine cR ?_
 replace hbw := bthen hbw hb
 have hz_w1 := hb.size
 clear hb
 refine st (X.not rfl) rfl (sb rfl rfl (fun h21 => ?_) (fun h21 => ?_))
 ·first | replace h21 := of_decide_eq_true h21 | replace h21 := of_decide_eq_false (notT h21) | replace h21 := notT h21 | skip
  refine gN (g := 21) rfl rfl rfl rfl (gN (g := 21) rfl rfl rfl rfl (st (X.pickT rfl rfl) rfl (sm rfl rfl (gN (g := 25) rfl rfl rfl rfl (gN (g := 25) rfl rfl rfl rfl (st (X.pickT rfl rfl) rfl (sm rfl rfl (gN (g := 29) rfl rfl rfl rfl (gN (g := 29) rfl rfl rfl rfl (st (X.pickT rfl rfl) rfl ?_))))))))))
  refine Wn (tN (W_yes rfl (rfl) (W_rs (sc _ Tryz.func9 rfl (by kernel_rfl) rfl rfl ((pawake_any _ ((hT.bel hbw).to hbw.size)).mono ?_)))))
  rintro e_ w2 ⟨rfl, hb⟩
  refine cR ?_
  replace hbw := bthen hbw hb
  have hz_w2 := hb.size
  clear hb
  refine sa rfl rfl (Wn (tN (W_ret (tR ?_))))
  exact (rT rfl rfl ⟨rfl, hbw⟩).1
 ·first | replace h21 := of_decide_eq_false h21 | replace h21 := of_decide_eq_true (notF h21) | replace h21 := notF h21 | skip
  refine gY (g := 21) rfl rfl rfl (sm rfl rfl (gY (g := 21) rfl rfl rfl (st (X.lss rfl rfl) rfl (st (X.pickF rfl rfl) rfl (sb rfl rfl (fun h25 => ?_) (fun h25 => ?_))))))
  ·first | replace h25 := of_decide_eq_true h25 | replace h25 := of_decide_eq_false (notT h25) | replace h25 := notT h25 | skip
   refine gN (g := 25) rfl rfl rfl rfl (gN (g := 25) rfl rfl rfl rfl (st (X.pickT rfl rfl) rfl (sm rfl rfl (gN (g := 29) rfl rfl rfl rfl (gN (g := 29) rfl rfl rfl rfl (st (X.pickT rfl rfl) rfl (Wn (tN (W_yes rfl (rfl) (W_rs ?_))))))))))
   refine sc _ Tryz.func9 rfl (by kernel_rfl) rfl rfl ((pawake_any _ ((hT.bel hbw).to hbw.size)).mono ?_)
   rintro e_ w3 ⟨rfl, hb⟩
   refine cR ?_
   replace hbw := bthen hbw hb
   have hz_w3 := hb.size
   clear hb
   refine sa rfl rfl (Wn (tN (W_ret (tR ?_))))
   exact (rT rfl rfl ⟨rfl, hbw⟩).1
  ·first | replace h25 := of_decide_eq_false h25 | replace h25 := of_decide_eq_true (notF h25) | replace h25 := notF h25 | skip
   refine gY (g := 25) rfl rfl rfl (sm rfl rfl (gY (g := 25) rfl rfl rfl (st (X.gtr rfl rfl) rfl (st (X.pickF rfl rfl) rfl (sb rfl rfl (fun h29 => ?_) (fun h29 => ?_))))))
   ·first | replace h29 := of_decide_eq_true h29 | replace h29 := of_decide_eq_false (notT h29) | replace h29 := notT h29 | skip
    refine gN (g := 29) rfl rfl rfl rfl (gN (g := 29) rfl rfl rfl rfl (st (X.pickT rfl rfl) rfl (Wn (tN (W_yes rfl (rfl) (W_rs (sc _ Tryz.func9 rfl (by kernel_rfl) rfl rfl ((pawake_any _ ((hT.bel hbw).to hbw.size)).mono ?_))))))))
    rintro e_ w4 ⟨rfl, hb⟩
    refine cR ?_
    replace hbw := bthen hbw hb
    have hz_w4 := hb.size
    clear hb
    refine sa rfl rfl (Wn (tN (W_ret (tR ?_))))
    exact (rT rfl rfl ⟨rfl, hbw⟩).1
   ·first | replace h29 := of_decide_eq_false h29 | replace h29 := of_decide_eq_true (notF h29) | replace h29 := notF h29 | skip
    refine gY (g := 29) rfl rfl rfl (sm rfl rfl (gY (g := 29) rfl rfl rfl (st (X.lss rfl rfl) rfl (st (X.pickF rfl rfl) rfl (Wn (tN (W_if rfl (fun h32 => ?_) (fun h32 => ?_))))))))
    ·first | replace h32 := of_decide_eq_true h32 | replace h32 := of_decide_eq_false (notT h32) | replace h32 := notT h32 | skip
     refine W_rs (sc _ Tryz.func9 rfl (by kernel_rfl) rfl rfl ((pawake_any _ ((hT.bel hbw).to hbw.size)).mono ?_))
     rintro e_ w5 ⟨rfl, hb⟩
     refine cR ?_
     replace hbw := bthen hbw hb
     have hz_w5 := hb.size
     clear hb
     refine sa rfl rfl (Wn (tN (W_ret (tR ?_))))
     exact (rT rfl rfl ⟨rfl, hbw⟩).1
    ·first | replace h32 := of_decide_eq_false h32 | replace h32 := of_decide_eq_true (notF h32) | replace h32 := notF h32 | skip
     have hfw : fewP l = true := h21
     obtain ⟨hl30, hl11⟩ := fewP_true hfw
     have hr : rightP n = true := by unfold rightP; rw [decide_eq_true_eq]; omega
     obtain ⟨ds, hW, _, h40, hg, _⟩ := few_facts (l := l) hr hl30
     obtain ⟨hm1, hm2, hm3, hm4, hm5⟩ := hW.make hr h40
     refine W_skip (tN (W_rs (sc _ Tryz.func16 rfl (by kernel_rfl) rfl rfl ((New_ok 1048576 _ (by omega)).mono ?_))))
     rintro e_ w6 ⟨g, S0, rfl, h0, hS0, hb⟩
     refine cR ?_
     replace hbw := bthen hbw hb
     have hz_w6 := hb.size
     clear hb
     have hd : Own w.heap.size w6 g (newM 1048576) S0 := ⟨h0, fun k hk => by have := hS0 k hk; have := hbw.size; omega⟩
     clear h0 hS0
     refine sm rfl rfl (st (X.ext rfl rfl) rfl (st (X.ext rfl rfl) rfl (sa rfl rfl (sa rfl rfl (Wn (tN (W_rs (sm rfl rfl (sm rfl rfl (sm rfl rfl ?_))))))))))
     refine sc _ Tryz.func17 rfl (by kernel_rfl) rfl rfl ((added_any w.heap.size g (newM 1048576) S0 n 0 _ _ l hd (Good.new (by omega)) (by omega) hbw.size (hT.bel hbw) (hL.bel hbw) (fun h0 k hk e => by have := (hd.lo k e).1; have := hL.ownLt h0 hk; omega) hl30 hl11 (begin_lasts hr (by omega)).1 _ rfl).mono ?_)
     rintro e_ w7 ⟨gw, gx, gm, v, S1, u, rfl, hA, hT1, hX⟩
     refine cR ?_
     have hbwn := bchg hbw hX (fun k hk => (hd.lo k hk).1)
     clear hT1 hX hd hbw
     have hbw := hbwn
     clear hbwn
     obtain ⟨y, hy⟩ : ∃ y, addsM (pbeginM (newM 1048576) n).2 ⟨n, [], false⟩ l = y := ⟨_, rfl⟩
     rw [hy] at hA hW hg hm1 hm2 hm3 hm4
     obtain ⟨sums, hsE⟩ : ∃ sums, y.1.l.map (·.sum) = sums := ⟨_, rfl⟩
     rw [hsE] at hA
     obtain ⟨au, cu, rfl, hcu1, hcu2⟩ := hA.row.shape
     have hsl : sums.length = ds.length := by rw [← hsE, List.length_map, hm4]
     refine sm rfl rfl (st (X.ext rfl rfl) rfl (st (X.ext rfl rfl) rfl (st (X.ext rfl rfl) rfl (sa rfl rfl (sa rfl rfl (sa rfl rfl (Wn (tN (W_seq (W_rs ?_))))))))))
     refine sm rfl rfl (st (X.not rfl) rfl (sbN rfl (rfl) rfl (gY (g := 48) rfl rfl rfl (sm rfl rfl (gY (g := 48) rfl rfl rfl (sc _ Tryz.func31 rfl (by kernel_rfl) rfl rfl ((wIndex_any hA.all (by omega)).mono ?_)))))))
     rintro e_ w8 ⟨ui, rfl, hE, hO, hb⟩
     refine cR ?_
     replace hbw := bthen hbw hb
     replace hA := hA.bel hb
     have hz_w8 := hb.size
     clear hb
     refine gY (g := 48) rfl rfl rfl (sc _ Tryz.func30 rfl (by kernel_rfl) rfl rfl ((ILen_any _ _ _ hE).mono ?_))
     rintro e_ w9 ⟨rfl, hb⟩
     refine cR ?_
     replace hbw := bthen hbw hb
     replace hA := hA.bel hb
     have hz_w9 := hb.size
     clear hb
     refine gY (g := 48) rfl rfl rfl (sm rfl rfl (gY (g := 48) rfl rfl rfl (st (X.lenL rfl rfl Tryz.underlying45) rfl (gY (g := 48) rfl rfl rfl (st (X.neq rfl rfl) rfl (st (X.pickF rfl rfl) rfl (Wn (tN (W_no rfl (decide_eq_false (by rw [hm2, hsl]; simp)) ?_)))))))))
     refine W_skip (tN (W_rs (sm rfl rfl (sm rfl rfl ?_))))
     have hlo7 := hA.all.wf.own.lo
     refine sbs1 rfl Tryz.underlying39 inf3 rfl rfl (by decide) (by decide) rfl (fun g58 w10 hR58 hg58 hb => ?_)
     replace hbw := bthen hbw hb
     replace hA := hA.bel hb
     have hz_w10 := hb.size
     clear hb
     have hl58 := hR58.blt (by decide)
     refine sc _ Tryz.func35 rfl (by kernel_rfl) rfl rfl ((Crash_any g y.2 S1 _ [pick] _ hA.all.wf.own.at_ hg.ok (hg.bud (by omega)) (by have := hg.few; omega) hR58.reads (fun _ k hk h1 => by simp [Value.ownBlock] at hk; have := (hlo7 k h1).2; omega)).mono ?_)
     rintro e_ w11 ⟨rfl, hdk, hX⟩
     refine cR ?_
     have hbwn := bchg hbw hX (fun k hk => (hlo7 k hk).1)
     have hRow := hA.row.chg hX (fun k hk e => (hA.ap k hk).1 (.inl e))
     have hok := (crash_good hg [pick]).ok
     clear hA hX hR58 hbw
     have hbw := hbwn
     clear hbwn
     obtain ⟨pk, hLa⟩ := hW.d.crashL [pick]
     obtain ⟨D', hD'⟩ : ∃ D', crashD y.2 [pick] = D' := ⟨_, rfl⟩
     rw [hD'] at hdk hok hLa
     obtain ⟨S2, hdk⟩ : ∃ S2, DiskAt w11 g D' S2 := ⟨_, hdk⟩
     have hop := hLa.popen hr
     rw [List.append_nil, List.nil_append] at hop
     have hts := torn_scan hr hW.ok hW.nd (pk % (((headB n ++ chunksB ds).length + 1 : Nat) : Int)).toNat
     refine Wn (tN (W_rs (sm rfl rfl (sm rfl rfl (sc _ Tryz.func19 rfl (by kernel_rfl) rfl rfl ((popen_any w.heap.size g D' _ n _ hdk hok (hT.bel hbw)).mono ?_))))))
     rintro e_ w12 ⟨p, rfl, hpn, hps, hb⟩
     refine cR ?_
     replace hbw := bthen hbw hb
     replace hRow := hRow.bel hb
     replace hdk := hdk.bel hb
     have hz_w12 := hb.size
     clear hb
     refine sm rfl rfl (st (X.ext rfl rfl) rfl (st (X.ext rfl rfl) rfl (sa rfl rfl (sa rfl rfl (Wn (tN (W_seq (W_rs (sm rfl rfl (st (X.neq rfl rfl) rfl ?_))))))))))
     refine Wn (tN (W_if rfl (fun h67 => ?_) (fun h67 => ?_)))
     ·first | replace h67 := of_decide_eq_true h67 | replace h67 := of_decide_eq_false (notT h67) | replace h67 := notT h67 | skip
      have h12 : (popenM D' n).2 = 12 := by
       rw [hop] at h67 ⊢
       rcases hts with h | ⟨j, t, hj, htk, hsc⟩
       ·exact h
       ·rw [hsc] at h67; exact absurd rfl h67
      obtain rfl := hpn h67
      refine W_rs (sm rfl rfl (st (X.eql rfl rfl) rfl (sbY rfl (decide_eq_true h12) rfl (gY (g := 70) rfl rfl rfl (sm rfl rfl (gY (g := 70) rfl rfl rfl (st (X.kEq rfl) rfl (st (X.pickT rfl rfl) rfl (sbY rfl (rfl) rfl (gY (g := 74) rfl rfl rfl ?_))))))))))
      refine sc _ Tryz.func9 rfl (by kernel_rfl) rfl rfl ((pawake_any _ ((hT.bel hbw).to hbw.size)).mono ?_)
      rintro e_ w13 ⟨rfl, hb⟩
      refine cR ?_
      replace hbw := bthen hbw hb
      replace hRow := hRow.bel hb
      replace hdk := hdk.bel hb
      have hz_w13 := hb.size
      clear hb
      refine st (X.pickT rfl rfl) rfl (sa rfl rfl (Wn (tN (W_ret (tR ?_)))))
      exact (rT rfl rfl ⟨rfl, hbw⟩).1
     ·first | replace h67 := of_decide_eq_false h67 | replace h67 := of_decide_eq_true (notF h67) | replace h67 := notF h67 | skip
      obtain ⟨gp, gx2, gm2, v2, rfl, hP, hPO⟩ := hps (Decidable.of_not_not h67)
      have hts2 : ∃ j t, j ≤ ds.length ∧ (headB n ++ chunksB ds).take (pk % (((headB n ++ chunksB ds).length + 1 : Nat) : Int)).toNat = headB n ++ (chunksB (ds.take j) ++ t) ∧ scanP ((headB n ++ chunksB ds).take (pk % (((headB n ++ chunksB ds).length + 1 : Nat) : Int)).toNat) n = (⟨wents n (headB n).length (ds.take j), (headB n).length + (chunksB (ds.take j)).length, false⟩, 0) := by
       rcases hts with h | h
       ·rw [hop, h] at h67; exact absurd h67 (by simp)
       ·exact h
      clear hts hps hpn hPO
      obtain ⟨j, t, hj, htk, hsc⟩ := hts2
      rw [hop, hsc] at hP
      obtain ⟨xs, hxl, hxw, hP⟩ : ∃ xs : Scn, xs.l = wents n (headB n).length (ds.take j) ∧ xs.whole = false ∧ PakAt w12 g gp gx2 gm2 v2 n xs := ⟨_, rfl, rfl, hP⟩
      have hEO : EOk (wents n (headB n).length (ds.take j)) := by
       have := scanP_eok (s := (headB n ++ chunksB ds).take (pk % (((headB n ++ chunksB ds).length + 1 : Nat) : Int)).toNat) (by rw [List.length_take]; omega) n
       rw [hsc] at this
       exact this
      have hjl : (ds.take j).length = j := by rw [List.length_take]; omega
      have hwl : (wents n (headB n).length (ds.take j)).length = j := by rw [wents_length, hjl]
      have hmj : (makeM (wents n (headB n).length (ds.take j))).1.length = j := by
       rw [make_wents hr (by have := take_chunks_le (ds := ds) j; rw [List.length_append] at h40; omega) (fun d hd => hW.ok d (List.mem_of_mem_take hd)) (hW.nd.sublist ((List.take_sublist _ _).map _)) (by omega), hjl]
      obtain ⟨f, hf, hfn⟩ := hLa.file
      rw [List.append_nil, List.nil_append, htk] at hfn
      clear h67
      refine W_skip (tN (W_rs (sm rfl rfl (sc _ Tryz.func32 rfl (by kernel_rfl) rfl rfl ((kIndex_any hP (by rw [hxl]; omega)).mono ?_)))))
      rintro e_ w14 ⟨ui2, rfl, hE2, hO2, hb⟩
      refine cR ?_
      replace hbw := bthen hbw hb
      replace hRow := hRow.bel hb
      replace hdk := hdk.bel hb
      replace hP := hP.bel hb
      have hz_w14 := hb.size
      clear hb
      refine sc _ Tryz.func30 rfl (by kernel_rfl) rfl rfl ((ILen_any _ _ _ hE2).mono ?_)
      rintro e_ w15 ⟨rfl, hb⟩
      refine cR ?_
      replace hbw := bthen hbw hb
      replace hRow := hRow.bel hb
      replace hdk := hdk.bel hb
      replace hP := hP.bel hb
      have hz_w15 := hb.size
      clear hb
      rw [hxl, hmj]
      refine sa rfl rfl (Wn (tN (W_seq (W_rs (sm rfl rfl (sm rfl rfl (st (X.lenL rfl rfl Tryz.underlying45) rfl (st (X.gtr rfl rfl) rfl (sbN rfl (decide_eq_false (by rw [hsl]; omega)) rfl ?_)))))))))
      refine gY (g := 84) rfl rfl rfl (sm rfl rfl (gY (g := 84) rfl rfl rfl (sc _ Tryz.func33 rfl (by kernel_rfl) rfl rfl ((kWhole_any hP).mono ?_))))
      rintro e_ w16 ⟨rfl, hb⟩
      refine cR ?_
      replace hbw := bthen hbw hb
      replace hRow := hRow.bel hb
      replace hdk := hdk.bel hb
      replace hP := hP.bel hb
      have hz_w16 := hb.size
      clear hb
      rw [hxw]
      refine st (X.pickF rfl rfl) rfl (Wn (tN (W_no rfl (rfl) (W_skip (tN (W_seq (W_rs (sa rfl rfl (Wn (tN ?_))))))))))
      refine W_block (W_lp (fun nw17_ lw17_ w17 => ∃ i : Nat, nw17_ = ds.length - i ∧ lw17_ = ([(10, .slice au sums.length cu), (12, .pointer (some ⟨gp, 0, none⟩)), (14, .int .i64 j), (15, .int .i64 i)] : Env) ∧ (i ≤ ds.length) ∧ (PakAt w17 g gp gx2 gm2 v2 n xs) ∧ (DiskAt w17 g D' S2) ∧ (Row w17 60 32 (.slice au sums.length cu) sums.length (sumsC sums)) ∧ (Below w.heap.size w w17)) _ ⟨_, ⟨0, rfl, rfl, Nat.zero_le _, hP, hdk, hRow, hbw⟩, ⟨rfl, rfl, rfl, rfl, trivial⟩⟩ ?_)
      clear hP hdk hRow hbw
      rintro nw17_ lw17_ w17 ⟨i, rfl, rfl, hi, hP, hdk, hRow, hbw⟩
      have hz_w17 := hbw.size
      refine W_seq (W_rs (sm rfl rfl (sm rfl rfl (st (X.lenL rfl rfl Tryz.underlying45) rfl (st (X.lss rfl rfl) rfl (Wn (tN (W_if rfl (fun h91 => ?_) (fun h91 => ?_)))))))))
      ·first | replace h91 := of_decide_eq_true h91 | replace h91 := of_decide_eq_false (notT h91) | replace h91 := notT h91 | skip
       obtain ⟨d, hds⟩ : ∃ d, ds[i]? = some d := ⟨_, List.getElem?_eq_getElem (by omega)⟩
       have hsm : sums[i]? = some (sha d) := by rw [← hsE, hW.l, wents_sums, List.getElem?_map, hds]; rfl
       have hgt := torn_get (D' := D') hf hfn hW.ok hW.nd hds
       have hRd := hRow.reads
       obtain ⟨gu, ou, cu', huv, hgu⟩ := hRd.some_ (by omega)
       injection huv with e1 _ e3
       subst e1 e3
       have hs32 : ∀ a ∈ sums, a.length = 32 := fun a ha => by rw [← hsE] at ha; obtain ⟨e, he, rfl⟩ := List.mem_map.1 ha; exact hm3 e he
       have hrg := sumsRange hRd hs32 hsm
       clear hRd
       refine W_skip (tN (W_seq (W_block (W_rs (sm rfl rfl (sm rfl rfl (sm rfl rfl (st (X.idxA rfl rfl Tryz.underlying45 siz60 rfl (by omega)) rfl (st (X.ldN (cs := (sha d).map bv) rfl Tryz.underlying60 rfl (by rw [List.length_map, sha_length]; exact siz60) hrg) rfl ?_)))))))))
       refine sc _ Tryz.func23 rfl (by kernel_rfl) rfl rfl ((pget_any (sha d) hP hdk hok (hT.bel hbw) (sha_length d) (by rw [hxl]; exact hEO)).mono ?_)
       rintro e_ w18 ⟨rfl, hb⟩
       refine cR ?_
       replace hbw := bthen hbw hb
       replace hP := hP.bel hb
       replace hdk := hdk.bel hb
       replace hRow := hRow.bel hb
       have hz_w18 := hb.size
       clear hb
       clear hrg
       rw [hxl]
       refine sm rfl rfl (st (X.ext rfl rfl) rfl (st (X.ext rfl rfl) rfl (sa rfl rfl (sa rfl rfl (Wn (tN ?_))))))
       by_cases hsp_ : i < j
       ·have hrg := sumsRange hRow.reads hs32 hsm
        refine W_drsN (fun W_ => W_.rangeAt gu (ou + i * 32) ((sha d).map bv)) [0, 1, 2, 3, 4, 5, 6, 7, 9, 10, 11, 12, 8, 13, 14, 15, 16, 17, 18, 19, 20, 21, 22, 23, 24] [true, true, true, true, true, true, true, true, true, true, true, true, false, true, true, true, true, true, true, true, true, true, true, true, true] (by kernel_rfl) (by kernel_rfl) (sumsRange (hRow.reads.bel (bdrew (Below.refl _ _))) hs32 hsm) ?_
        obtain ⟨w19, hw_⟩ : ∃ w19 : World, w19 = World.drew w18 := ⟨_, rfl⟩
        rw [← hw_]
        have hb : Below w18.heap.size w18 w19 := by rw [hw_]; exact bdrew (Below.refl _ _)
        clear hw_
        have hS := hb
        replace hbw := bthen hbw hb
        replace hP := hP.bel hb
        replace hdk := hdk.bel hb
        replace hRow := hRow.bel hb
        have hz_w19 := hb.size
        clear hb
        refine oY rfl (fun W_ hW_ => (X.move rfl)) rfl (oY rfl (fun W_ hW_ => (X.move rfl)) rfl (oY rfl (fun W_ hW_ => (X.lss rfl rfl)) rfl (oY rfl (fun W_ hW_ => (X.mvB (c := true) rfl (decide_eq_true (by omega)))) rfl (oYg (g := 106) rfl rfl rfl rfl (fun W_ hW_ => (X.move rfl)) rfl (oYg (g := 106) rfl rfl rfl rfl (fun W_ hW_ => (X.neq rfl rfl)) rfl (oYg (g := 106) rfl rfl rfl rfl (fun W_ hW_ => (X.mvB (c := false) rfl (decide_eq_false (by rw [(hgt.1 hsp_).1]; simp)))) rfl ?_))))))
        refine oYg (g := 109) rfl rfl rfl rfl (fun W_ hW_ => (X.move rfl)) rfl (oYg (g := 109) rfl rfl rfl rfl (fun W_ hW_ => (X.move rfl)) rfl (oYg (g := 109) rfl rfl rfl rfl (fun W_ hW_ => (X.move rfl)) rfl (oYg (g := 109) rfl rfl rfl rfl (fun W_ hW_ => (X.idxA rfl rfl Tryz.underlying45 siz60 rfl (by omega))) rfl (oYg (g := 109) rfl rfl rfl rfl (fun W_ hW_ => (X.ldN (cs := (sha d).map bv) rfl Tryz.underlying60 rfl (by rw [List.length_map, sha_length]; exact siz60) hW_)) rfl ?_))))
        refine oL rfl (fun Q_ hQ_ hP_ => (gY (g := 109) rfl rfl rfl (sc _ Tryz.func24 rfl (by kernel_rfl) rfl rfl ((Of_list _ _ (hT.bel hbw).sha (by have := pget_len hok n (wents n (headB n).length (ds.take j)) (sha d); omega)).mono ?_))))
        rintro e_ w20 ⟨rfl, hb⟩
        refine cR ?_
        replace hbw := bthen hbw hb
        replace hP := hP.bel hb
        replace hdk := hdk.bel hb
        replace hRow := hRow.bel hb
        have hz_w20 := hb.size
        clear hb
        refine Wn (hQ_ _ _ (sumsRange hRow.reads hs32 hsm) ?_)
        clear hQ_ hP_ Q_
        refine oYg (g := 109) rfl rfl rfl rfl (fun W_ hW_ => (X.neSumF (sha_length _) (sha_length _) rfl rfl)) rfl (oYg (g := 106) rfl rfl rfl rfl (fun W_ hW_ => (X.pickF rfl rfl)) rfl (oY rfl (fun W_ hW_ => (X.pickT rfl rfl)) rfl (oY rfl (fun W_ hW_ => (X.mvB (c := false) rfl ((by rw [(hgt.1 hsp_).2]; simp)))) rfl ?_)))
        refine oYg (g := 119) rfl rfl rfl rfl (fun W_ hW_ => (X.move rfl)) rfl (oYg (g := 119) rfl rfl rfl rfl (fun W_ hW_ => (X.move rfl)) rfl (oYg (g := 119) rfl rfl rfl rfl (fun W_ hW_ => (X.geq rfl rfl)) rfl (oYg (g := 119) rfl rfl rfl rfl (fun W_ hW_ => (X.mvB (c := false) rfl (decide_eq_false (by omega)))) rfl (oNg (g := 123) rfl rfl rfl rfl (sumsRange hRow.reads hs32 hsm) rfl (oNg (g := 123) rfl rfl rfl rfl (sumsRange hRow.reads hs32 hsm) rfl (oYg (g := 119) rfl rfl rfl rfl (fun W_ hW_ => (X.pickF rfl rfl)) rfl (oY rfl (fun W_ hW_ => (X.pickF rfl rfl)) rfl (oN (nN (W_no rfl (rfl) ?_))))))))))
        refine W_skip (bN (tN (W_reg (sm rfl rfl (st (X.add64 rfl rfl (by omega)) rfl (sa rfl rfl (Wn (tN ⟨_, _, ?_, ⟨i + 1, rfl, rfl, by omega, hP, hdk, hRow, hbw⟩, ⟨rfl, rfl, rfl, rfl, trivial⟩⟩))))))))
        omega
       ·have hrg := sumsRange hRow.reads hs32 hsm
        refine W_drsN (fun W_ => W_.rangeAt gu (ou + i * 32) ((sha d).map bv)) [0, 1, 2, 3, 4, 5, 6, 7, 9, 10, 11, 12, 8, 13, 14, 15, 16, 17, 18, 19, 20, 21, 22, 23, 24] [true, true, true, true, true, true, true, true, true, true, true, true, false, true, true, true, true, true, true, true, true, true, true, true, true] (by kernel_rfl) (by kernel_rfl) (sumsRange (hRow.reads.bel (bdrew (Below.refl _ _))) hs32 hsm) ?_
        obtain ⟨w21, hw_⟩ : ∃ w21 : World, w21 = World.drew w18 := ⟨_, rfl⟩
        rw [← hw_]
        have hb : Below w18.heap.size w18 w21 := by rw [hw_]; exact bdrew (Below.refl _ _)
        clear hw_
        have hS := hb
        replace hbw := bthen hbw hb
        replace hP := hP.bel hb
        replace hdk := hdk.bel hb
        replace hRow := hRow.bel hb
        have hz_w21 := hb.size
        clear hb
        refine oY rfl (fun W_ hW_ => (X.move rfl)) rfl (oY rfl (fun W_ hW_ => (X.move rfl)) rfl (oY rfl (fun W_ hW_ => (X.lss rfl rfl)) rfl (oY rfl (fun W_ hW_ => (X.mvB (c := false) rfl (decide_eq_false (by omega)))) rfl (oNg (g := 106) rfl rfl rfl rfl (sumsRange hRow.reads hs32 hsm) rfl (oNg (g := 106) rfl rfl rfl rfl (sumsRange hRow.reads hs32 hsm) rfl (oNg (g := 106) rfl rfl rfl rfl (sumsRange hRow.reads hs32 hsm) rfl (oNu (g := 109) rfl rfl rfl rfl (sumsRange hRow.reads hs32 hsm) rfl (oNu (g := 109) rfl rfl rfl rfl (sumsRange hRow.reads hs32 hsm) rfl (oNu (g := 109) rfl rfl rfl rfl (sumsRange hRow.reads hs32 hsm) rfl (oNu (g := 109) rfl rfl rfl rfl (sumsRange hRow.reads hs32 hsm) rfl ?_))))))))))
        refine oNu (g := 109) rfl rfl rfl rfl (sumsRange hRow.reads hs32 hsm) rfl (oNu (g := 109) rfl rfl rfl rfl (sumsRange hRow.reads hs32 hsm) rfl (oNu (g := 109) rfl rfl rfl rfl (sumsRange hRow.reads hs32 hsm) rfl (oNg (g := 106) rfl rfl rfl rfl (sumsRange hRow.reads hs32 hsm) rfl (oY rfl (fun W_ hW_ => (X.pickF rfl rfl)) rfl (oY rfl (fun W_ hW_ => (X.mvB (c := false) rfl (rfl))) rfl (oYg (g := 119) rfl rfl rfl rfl (fun W_ hW_ => (X.move rfl)) rfl (oYg (g := 119) rfl rfl rfl rfl (fun W_ hW_ => (X.move rfl)) rfl (oYg (g := 119) rfl rfl rfl rfl (fun W_ hW_ => (X.geq rfl rfl)) rfl (oYg (g := 119) rfl rfl rfl rfl (fun W_ hW_ => (X.mvB (c := true) rfl (decide_eq_true (by omega)))) rfl (oYg (g := 123) rfl rfl rfl rfl (fun W_ hW_ => (X.move rfl)) rfl ?_))))))))))
        refine oYg (g := 123) rfl rfl rfl rfl (fun W_ hW_ => (X.neq rfl rfl)) rfl (oYg (g := 119) rfl rfl rfl rfl (fun W_ hW_ => (X.pickT rfl rfl)) rfl (oY rfl (fun W_ hW_ => (X.pickF rfl rfl)) rfl (oN (nN (W_no rfl (decide_eq_false (by rw [hgt.2 (by omega)]; simp)) ?_)))))
        refine W_skip (bN (tN (W_reg (sm rfl rfl (st (X.add64 rfl rfl (by omega)) rfl (sa rfl rfl (Wn (tN ⟨_, _, ?_, ⟨i + 1, rfl, rfl, by omega, hP, hdk, hRow, hbw⟩, ⟨rfl, rfl, rfl, rfl, trivial⟩⟩))))))))
        omega
      ·first | replace h91 := of_decide_eq_false h91 | replace h91 := of_decide_eq_true (notF h91) | replace h91 := notF h91 | skip
       refine W_exit (tE (tE (bH (tN (W_rs (sc _ Tryz.func9 rfl (by kernel_rfl) rfl rfl ((pawake_any _ ((hT.bel hbw).to hbw.size)).mono ?_)))))))
       rintro e_ w22 ⟨rfl, hb⟩
       refine cR ?_
       replace hbw := bthen hbw hb
       replace hP := hP.bel hb
       replace hdk := hdk.bel hb
       replace hRow := hRow.bel hb
       have hz_w22 := hb.size
       clear hb
       refine sa rfl rfl (Wn (tN (W_ret ?_)))
       exact (rT rfl rfl ⟨rfl, hbw⟩).1
end Go.Proofs.YtnlabkogebnioaaGreatDoor
namespace Go.Proofs.YtnlabkogebnioaaGreatDoor
open Go.ChangeShapes Go.WideShapes Go.ChangeAt Go.RowKit Sha Go.Shelf
def kInts : List Int := [1116352408, 1899447441, 3049323471, 3921009573, 961987163, 1508970993, 2453635748, 2870763221, 3624381080, 310598401, 607225278, 1426881987, 1925078388, 2162078206, 2614888103, 3248222580, 3835390401, 4022224774, 264347078, 604807628, 770255983, 1249150122, 1555081692, 1996064986, 2554220882, 2821834349, 2952996808, 3210313671, 3336571891, 3584528711, 113926993, 338241895, 666307205, 773529912, 1294757372, 1396182291, 1695183700, 1986661051, 2177026350, 2456956037, 2730485921, 2820302411, 3259730800, 3345764771, 3516065817, 3600352804, 4094571909, 275423344, 430227734, 506948616, 659060556, 883997877, 958139571, 1322822218, 1537002063, 1747873779, 1955562222, 2024104815, 2227730452, 2361852424, 2428436474, 2756734187, 3204031479, 3329325298]
def bInts : List Int := [1779033703, 3144134277, 1013904242, 2773480762, 1359893119, 2600822924, 528734635, 1541459225]
def pInts : List Int := [1, 10, 100, 1000, 10000, 100000, 1000000, 10000000, 100000000, 1000000000, 10000000000, 100000000000, 1000000000000, 10000000000000, 100000000000000, 1000000000000000, 10000000000000000, 100000000000000000, 1000000000000000000, 10000000000000000000]
theorem gK : Tryz.prog.globalNamed "armarium/sha.k" = some 1 := by kernel_rfl
theorem gKt : (Tryz.prog.globals[1]?).map (·.type) = some 226 := by kernel_rfl
theorem gB : Tryz.prog.globalNamed "armarium/sha.begin" = some 0 := by kernel_rfl
theorem gBt : (Tryz.prog.globals[0]?).map (·.type) = some 179 := by kernel_rfl
theorem gPt : (Tryz.prog.globals[2]?).map (·.type) = some 286 := by kernel_rfl
theorem tabs_of_laid {W : World} (h : laidMetH Tryz.prog [("math/bits.deBruijn32tab", Rows.laid_math_bits_deBruijn32tab), ("math/bits.deBruijn64tab", Rows.laid_math_bits_deBruijn64tab), ("internal/strconv.uint64pow10", Rows.laid_internal_strconv_uint64pow10), ("unicode/utf8.acceptRanges", Rows.laid_unicode_utf8_acceptRanges), ("armarium/sha.k", Rows.laid_armarium_sha_k), ("armarium/sha.begin", Rows.laid_armarium_sha_begin), ("unicode/utf8.first", Rows.laid_unicode_utf8_first)] W) : PTabs W.heap.size W := by
 have h1 : Lib.TabIs Tryz.prog W "armarium/sha.k" .u32 kInts := Lib.tabIs_of_head (rest := [("armarium/sha.begin", Rows.laid_armarium_sha_begin), ("unicode/utf8.first", Rows.laid_unicode_utf8_first)]) gK gKt Tryz.underlying226 Tryz.underlying145 (by kernel_rfl) (by kernel_rfl) (laidMet.tail (laidMet.tail (laidMet.tail (laidMet.tail h))))
 have h2 : Lib.TabIs Tryz.prog W "armarium/sha.begin" .u32 bInts := Lib.tabIs_of_head (rest := [("unicode/utf8.first", Rows.laid_unicode_utf8_first)]) gB gBt Tryz.underlying179 Tryz.underlying145 (by kernel_rfl) (by kernel_rfl) (laidMet.tail (laidMet.tail (laidMet.tail (laidMet.tail (laidMet.tail h)))))
 have h3 : Lib.TabIs Tryz.prog W "internal/strconv.uint64pow10" .u64 pInts := Lib.tabIs_of_head (rest := [("unicode/utf8.acceptRanges", Rows.laid_unicode_utf8_acceptRanges), ("armarium/sha.k", Rows.laid_armarium_sha_k), ("armarium/sha.begin", Rows.laid_armarium_sha_begin), ("unicode/utf8.first", Rows.laid_unicode_utf8_first)]) gPow gPt Tryz.underlying286 Tryz.underlying165 (by kernel_rfl) (by kernel_rfl) (laidMet.tail (laidMet.tail h))
 have hk : ∀ j, j < 64 → W.cell? ⟨1, j, none⟩ = some (.int .u32 (kTab.getD j 0).toNat) := fun j hj => by
  rw [h1.cell gK j hj]
  have e : ∀ j : Fin 64, kInts.getD j.val 0 = ((kTab.getD j.val 0).toNat : Int) := by decide +kernel
  rw [e ⟨j, hj⟩]
 have hb : ∀ j, W.cell? ⟨0, j, none⟩ = (stCells begin_)[j]? := fun j => by
  have := World.var?_cell gB h2 j
  rw [this]
  rfl
 have hp : PowTab W := by
  have e : pInts = Lib.pow10Tab := by decide +kernel
  rw [e] at h3
  exact h3
 have l1 := World.block_lt_of_cell? W ⟨1, 0, none⟩ (hk 0 (by omega))
 have l2 := World.block_lt_of_cell? W ⟨0, 0, none⟩ ((hb 0).trans rfl)
 have l3 : 2 < W.heap.size := by
  have := h3.cell gPow 0 (by decide)
  exact World.block_lt_of_cell? W ⟨2, 0, none⟩ this
 exact ⟨⟨hk, hb, l1, l2⟩, hp, l1, l2, l3⟩
noncomputable def laidWorld (os : Os) : World := { World.holding Tryz.prog os ⟨#[], #[], []⟩ with heap := ((((((((World.holding Tryz.prog os ⟨#[], #[], []⟩).heap.modify 5 (laying (([0, 1, 28, 2, 29, 14, 24, 3, 30, 22, 20, 15, 25, 17, 4, 8, 31, 27, 13, 23, 21, 19, 16, 7, 26, 12, 18, 6, 11, 5, 10, 9] : List Int).map fun z => Value.int .u8 z).toArray)).modify 6 (laying (([0, 1, 56, 2, 57, 49, 28, 3, 61, 58, 42, 50, 38, 29, 17, 4, 62, 47, 59, 36, 45, 43, 51, 22, 53, 39, 33, 30, 24, 18, 12, 5, 63, 55, 48, 27, 60, 41, 37, 16, 46, 35, 44, 21, 52, 32, 23, 11, 54, 26, 40, 15, 34, 20, 31, 10, 25, 14, 19, 9, 13, 8, 7, 6] : List Int).map fun z => Value.int .u8 z).toArray)).modify 2 (laying (pInts.map fun z => Value.int .u64 z).toArray)).modify 4 (laying ((List.range 16).flatMap fun i => [Value.int .u8 (Lib.accLo i), Value.int .u8 (Lib.accHi i)]).toArray)).modify 1 (laying (kInts.map fun z => Value.int .u32 z).toArray)).modify 0 (laying (bInts.map fun z => Value.int .u32 z).toArray)).modify 3 (laying (Lib.firstTab.map fun z => Value.int .u8 z).toArray)) }
end Go.Proofs.YtnlabkogebnioaaGreatDoor
