/- manifest.Encode. -/
import Derived.Test.YtnagmpnpgekhfaaDoorGen
import Derived.Test.YtnagmpnpgekhfaaDoorDecode
import Derived.Test.YtnagmpnpgekhfaaDoorBuilder
namespace Go.Proofs.YtnagmpnpgekhfaaDoor
open Go.RowKit
def kindByte (c : Col) : UInt8 := if c.null then byteI c.kind + 128 else byteI c.kind
def colBytes (p : Col × List Chk) : List UInt8 := [kindByte p.1, byteI p.1.name.length] ++ (p.1.name ++ four p.2.length) ++ p.2.flatMap chkBytes
def encHead (m : Man) : List UInt8 := (man1 ++ four m.id ++ four m.rows) ++ [byteI m.cols.length]
def encBody (m : Man) : List UInt8 := encHead m ++ (m.cols.zip m.strs).flatMap colBytes
def encode (m : Man) : List UInt8 := encBody m ++ four (Crc.crc (encBody m)).toNat
/- ---------- bounds of what Check lets pass ---------- -/
theorem strsErr_ok : ∀ {ls : List (List Chk)}, strsErr ls = 0 → ∀ l ∈ ls, strErr l = 0
  | [], _, _, h => by cases h
  | l :: r, h, x, hx => by
    unfold strsErr at h
    split at h
    · rename_i h0
      rcases List.mem_cons.1 hx with rfl | hx
      · exact h0
      · exact strsErr_ok h x hx
    · exact absurd h (by assumption)
theorem colsFrom_ok : ∀ {l : List Col} {seen : List (List UInt8)}, colsFrom seen l = true → ∀ c ∈ l, colOk c = true
  | [], _, _, _, h => by cases h
  | c :: r, seen, h, x, hx => by
    unfold colsFrom at h
    simp only [Bool.and_eq_true] at h
    rcases List.mem_cons.1 hx with rfl | hx
    · exact h.1.1
    · exact colsFrom_ok h.2 x hx
structure ManOk (m : Man) : Prop where
  id1 : 1 ≤ m.id
  id2 : m.id ≤ 2147483647
  rows1 : 0 ≤ m.rows
  rows2 : m.rows ≤ 10000
  cols : colsOk m.cols = true
  n1 : 1 ≤ m.cols.length
  n2 : m.cols.length ≤ 32
  len : m.strs.length = m.cols.length
  names : ∀ c ∈ m.cols, colOk c = true
  strs : ∀ l ∈ m.strs, strErr l = 0
theorem manOk {m : Man} (h : manErr colsOk m = 0) : ManOk m := by
  unfold manErr at h
  split at h
  · omega
  · rename_i h1
    split at h
    · omega
    · rename_i h2
      split at h
      · omega
      · rename_i h3
        split at h
        · omega
        · rename_i h4
          have hc : colsOk m.cols = true := by simpa using h3
          have hc' := hc
          unfold colsOk at hc'
          simp only [Bool.and_eq_true, decide_eq_true_eq] at hc'
          exact ⟨by omega, by omega, by omega, by omega, hc, hc'.1.1, hc'.1.2, by omega, colsFrom_ok hc'.2, strsErr_ok h⟩
theorem strErr_len {l : List Chk} (h : strErr l = 0) : l.length ≤ 20000 := by
  unfold strErr at h
  split at h
  · omega
  · omega
theorem colOk_name {c : Col} (h : colOk c = true) : c.name.length ≤ 64 ∧ 1 ≤ c.kind ∧ c.kind ≤ 6 := by
  unfold colOk at h
  simp only [Bool.and_eq_true, decide_eq_true_eq] at h
  exact ⟨h.1.1.2, h.2⟩
theorem flat_le {α : Type} (f : α → List UInt8) (k : Nat) : ∀ (l : List α), (∀ a ∈ l, (f a).length ≤ k) → (l.flatMap f).length ≤ l.length * k
  | [], _ => by simp
  | a :: l, h => by
    have h1 := h a (by simp)
    have h2 := flat_le f k l (fun a ha => h a (by simp [ha]))
    rw [List.flatMap_cons, List.length_append, List.length_cons, Nat.succ_mul]
    omega
theorem chk_le {x : Chk} (h : x.sum.length = 32) : (chkBytes x).length ≤ 36 := by
  unfold chkBytes; rw [List.length_append, four_length]; omega
theorem col_le {p : Col × List Chk} (h1 : p.1.name.length ≤ 64) (h2 : p.2.length ≤ 20000) (h3 : ∀ x ∈ p.2, x.sum.length = 32) : (colBytes p).length ≤ 800000 := by
  unfold colBytes
  have := flat_le chkBytes 36 p.2 (fun x hx => chk_le (h3 x hx))
  simp only [List.length_append, List.length_cons, List.length_nil, four_length]
  omega
theorem bs2 (a b : UInt8) (w : World) : (Instr.buildSlice 58 2 #[(0, .int .u8 a.toNat), (1, .int .u8 b.toNat)]).run Tryd.prog w =
    .ok (.slice (some ⟨w.heap.size, 0, none⟩) 2 2) (w.alloc (.cells #[.int .u8 a.toNat, .int .u8 b.toNat] 5)) := by kernel_rfl
theorem add128 (b : UInt8) : IntKind.u8.wrap ((b.toNat : Int) + 128) = ((b + 128).toNat : Int) := by
  rw [w8, UInt8.toNat_add]
  have : (128 : UInt8).toNat = 128 := rfl
  omega
theorem own_ne {g b o n c : Nat} (h : g ≠ b) : ∀ k, (Value.slice (some ⟨g, o, none⟩) n c).ownBlock = some k → k ≠ b := by
  intro k hk
  have : g = k := by simpa [Value.ownBlock] using hk
  omega
theorem bldName {w : World} {b B : Nat} {l : List UInt8} (h : BldAt w b B l) : ∃ L, l = L ∧ BldAt w b B L := ⟨l, rfl, h⟩
theorem sumReads {w : World} {g : Nat} {t : TypeId} {x : Chk} (hB : Blk w g t x.cells.toArray) (hs : x.sum.length = 32) : Reads w 1 (.slice (some ⟨g, 0, none⟩) 32 32) x.sum.length (x.sum.map bv) := by
  rw [hs]
  refine ⟨by simp [hs], _, 32, rfl, Nat.le_refl _, by simp [maxLen], fun _ => ⟨g, 0, rfl, hB.lt, fun j u hu => ?_⟩⟩
  rw [Nat.zero_add, hB.cell]
  have hj := (List.getElem?_eq_some_iff.1 hu).1
  simp only [Chk.cells, List.getElem?_toArray]
  rw [List.getElem?_append_left hj]
  exact hu
theorem zip_at {α β : Type} {l : List α} {r : List β} {j : Nat} {a : α} {b : β} (ha : l[j]? = some a) (hb : r[j]? = some b) : (l.zip r)[j]? = some (a, b) := by
  rw [List.getElem?_zip_eq_some]; exact ⟨ha, hb⟩
theorem encode_err (m : Man) (vc vs : Value) (w : World) (hc : ColsAt w vc m.cols) (hs : StrsAt w vs m.strs) (hT : UT w) (he : manErr colsOk m ≠ 0) :
    Calls Tryd.prog 12 #[manV m vc vs] w fun e w' => e = .returned (.tuple #[str [], .int .i64 (manErr colsOk m)]) ∧ Below w.heap.size w w' := by
  refine W_enter (args := [.agg #[.int .i64 m.id, .int .i64 m.rows, vc, vs]]) 90 Tryd.func12 rfl rfl rfl ?_
  refine W_sub [(0, .agg #[.int .i64 m.id, .int .i64 m.rows, vc, vs])] ?_ ⟨rfl, trivial⟩
  have hbw := Below.refl w.heap.size w
  refine W_rs ?_
  refine sboxA rfl rfl (fun g1 w1 hB1 hg1 hb hl1 => ?_)
  replace hbw := bthen hbw hb
  have hz_w1 := hb.size
  clear hb
  refine sa rfl rfl ?_
  refine sa rfl rfl ?_
  refine Wn ?_
  refine tN ?_
  refine W_seq ?_
  refine W_rs ?_
  refine st (X.ldBN rfl hB1 Tryd.underlying26 rfl siz26) rfl ?_
  refine sc _ Tryd.func16 rfl (by kernel_rfl) rfl rfl ((Check_any m vc vs _ (hc.bel hbw) (hs.bel hbw) (hT.bel hbw)).mono ?_)
  rintro e_ w2 ⟨rfl, hb⟩
  refine cR ?_
  replace hbw := bthen hbw hb
  replace hB1 := hB1.bel hb
  have hz_w2 := hb.size
  clear hb
  refine sa rfl rfl ?_
  refine Wn ?_
  refine tN ?_
  refine W_rs ?_
  refine sm rfl rfl ?_
  refine st (X.neq rfl rfl) rfl ?_
  refine Wn ?_
  refine tN ?_
  refine W_yes rfl (decide_eq_true he) ?_
  refine W_rs ?_
  refine sm rfl rfl ?_
  refine sa rfl rfl ?_
  refine sa rfl rfl ?_
  refine Wn ?_
  refine tN ?_
  refine W_ret (tR ?_)
  exact (rTT rfl rfl rfl ⟨rfl, hbw⟩).1
set_option maxHeartbeats 1000000 in
theorem encode_ok (m : Man) (vc vs : Value) (w : World) (hc : ColsAt w vc m.cols) (hs : StrsAt w vs m.strs) (hT : UT w) (he : manErr colsOk m = 0) :
    Calls Tryd.prog 12 #[manV m vc vs] w fun e w' => e = .returned (.tuple #[str (encode m), .int .i64 0]) ∧ Below w.heap.size w w' := by
  have ok := manOk he
  obtain ⟨ac, cc, rfl, hcn, hcc⟩ := hc.1.shape
  obtain ⟨us, hR, hu⟩ := hs
  have hs : StrsAt w vs m.strs := ⟨us, hR, hu⟩
  obtain ⟨sa_, cs, rfl, hsn, hsc⟩ := hR.shape
  have ok1 := ok.id1
  have ok2 := ok.id2
  have ok3 := ok.rows1
  have ok4 := ok.rows2
  have ok5 := ok.n1
  have ok6 := ok.n2
  have ok7 := ok.len
  have hhd : (encHead m).length = 13 := by simp [encHead, man1, four]
  refine W_enter (args := [.agg #[.int .i64 m.id, .int .i64 m.rows, .slice ac m.cols.length cc, .slice sa_ m.strs.length cs]]) 90 Tryd.func12 rfl rfl rfl ?_
  refine W_sub [(0, .agg #[.int .i64 m.id, .int .i64 m.rows, .slice ac m.cols.length cc, .slice sa_ m.strs.length cs])] ?_ ⟨rfl, trivial⟩
  have hbw := Below.refl w.heap.size w
  refine W_rs ?_
  refine sboxA rfl rfl (fun g1 w1 hB1 hg1 hb hl1 => ?_)
  replace hbw := bthen hbw hb
  have hz_w1 := hb.size
  clear hb
  refine sa rfl rfl ?_
  refine sa rfl rfl ?_
  refine Wn ?_
  refine tN ?_
  refine W_seq ?_
  refine W_rs ?_
  refine st (X.ldBN rfl hB1 Tryd.underlying26 rfl siz26) rfl ?_
  refine sc _ Tryd.func16 rfl (by kernel_rfl) rfl rfl ((Check_any m _ _ _ (hc.bel hbw) (hs.bel hbw) (hT.bel hbw)).mono ?_)
  rintro e_ w2 ⟨rfl, hb⟩
  refine cR ?_
  replace hbw := bthen hbw hb
  replace hB1 := hB1.bel hb
  have hz_w2 := hb.size
  clear hb
  refine sa rfl rfl ?_
  refine Wn ?_
  refine tN ?_
  refine W_rs ?_
  refine sm rfl rfl ?_
  refine st (X.neq rfl rfl) rfl ?_
  refine Wn ?_
  refine tN ?_
  refine W_no rfl (decide_eq_false (by simp [he])) ?_
  refine W_skip ?_
  refine tN ?_
  refine W_rs ?_
  refine salA inf74 rfl (fun g5 w3 hB5 hg5 hb hl5 => ?_)
  replace hbw := bthen hbw hb
  replace hB1 := hB1.bel hb
  have hz_w3 := hb.size
  clear hb
  have hBd : BldAt w3 g5 w.heap.size [] := BldAt.new hB5 (by omega)
  clear hB5
  refine Wn ?_
  refine tN ?_
  refine W_drsN (fun W_ => Blk W_ g1 26 #[.int .i64 m.id, .int .i64 m.rows, .slice ac m.cols.length cc, .slice sa_ m.strs.length cs]) [0, 1, 4, 5, 2, 3, 6, 7, 8] [true, true, true, true, false, true, false, true, false] (by kernel_rfl) (by kernel_rfl) (hB1.drew) ?_
  obtain ⟨w4, hw_⟩ : ∃ w4 : World, w4 = World.drew w3 := ⟨_, rfl⟩
  rw [← hw_]
  have hb : Below w3.heap.size w3 w4 := by rw [hw_]; exact bdrew (Below.refl _ _)
  clear hw_
  have hS := hb
  have hpend := hb
  replace hbw := bthen hbw hb
  replace hB1 := hB1.bel hb
  have hz_w4 := hb.size
  clear hb
  refine oY rfl (fun W_ hW_ => (X.fa fa26_0 rfl)) rfl ?_
  refine oY rfl (fun W_ hW_ => (X.ldL rfl hW_ Tryd.underlying3 rfl rfl)) rfl ?_
  refine oY rfl (fun W_ hW_ => (X.fa fa26_1 rfl)) rfl ?_
  refine oY rfl (fun W_ hW_ => (X.ldL rfl hW_ Tryd.underlying3 rfl rfl)) rfl ?_
  refine oL rfl (fun Q_ hQ_ hP_ => ?_)
  refine sc _ Tryd.func20 rfl (by kernel_rfl) rfl rfl ((four_any _ _).mono ?_)
  rintro e_ w5 ⟨rfl, hb⟩
  refine cR ?_
  replace hpend := bthen hpend hb
  replace hbw := bthen hbw hb
  replace hB1 := hB1.bel hb
  have hz_w5 := hb.size
  clear hb
  refine Wn (hQ_ _ _ (hB1) ?_)
  clear hQ_ hP_ Q_
  refine oY rfl (fun W_ hW_ => (X.cat (a := man1) rfl rfl (by rw [four_length]; decide))) rfl ?_
  refine oL rfl (fun Q_ hQ_ hP_ => ?_)
  refine sc _ Tryd.func20 rfl (by kernel_rfl) rfl rfl ((four_any _ _).mono ?_)
  rintro e_ w6 ⟨rfl, hb⟩
  refine cR ?_
  replace hpend := bthen hpend hb
  replace hbw := bthen hbw hb
  replace hB1 := hB1.bel hb
  have hz_w6 := hb.size
  clear hb
  refine Wn (hQ_ _ _ (hB1) ?_)
  clear hQ_ hP_ Q_
  refine oY rfl (fun W_ hW_ => (X.cat rfl rfl (by rw [List.length_append, four_length, four_length]; decide))) rfl ?_
  refine oL rfl (fun Q_ hQ_ hP_ => ?_)
  replace hBd := hBd.bel hpend
  clear hpend
  refine sc _ Tryd.func27 rfl (by kernel_rfl) rfl rfl ((WriteString_any g5 w.heap.size [] (man1 ++ four m.id ++ four m.rows) _ hBd hbw.size (by simp [man1, four])).mono ?_)
  rintro e_ w7 ⟨rfl, hW⟩
  refine cR ?_
  obtain ⟨hBd_, hWb_, hWk_, hz_w7⟩ := hW
  replace hbw := hbw.trans hWb_
  replace hB1 := hWk_.blk hB1 (by decide)
  replace hBd := hBd_
  clear hBd_ hWb_ hWk_
  refine Wn (hQ_ _ _ (hB1) ?_)
  clear hQ_ hP_ Q_
  refine oN ?_
  refine nN ?_
  refine W_rs ?_
  refine st (X.fa fa26_2 rfl) rfl ?_
  refine st (X.ldL rfl hB1 Tryd.underlying23 rfl rfl) rfl ?_
  refine st (X.lenL rfl rfl Tryd.underlying23) rfl ?_
  refine st (X.convI rfl Tryd.underlying3 Tryd.underlying5 (wb _)) rfl ?_
  refine sc _ Tryd.func28 rfl (by kernel_rfl) rfl rfl ((WriteByte_any g5 w.heap.size _ _ _ hBd hbw.size (by simp [man1, four])).mono ?_)
  rintro e_ w8 ⟨rfl, hW⟩
  refine cR ?_
  obtain ⟨hBd_, hWb_, hWk_, hz_w8⟩ := hW
  replace hbw := hbw.trans hWb_
  replace hB1 := hWk_.blk hB1 (by decide)
  replace hBd := hBd_
  clear hBd_ hWb_ hWk_
  refine Wn ?_
  refine tN ?_
  refine W_seq ?_
  refine W_rs ?_
  refine st (X.fa fa26_2 rfl) rfl ?_
  refine st (X.ldL rfl hB1 Tryd.underlying23 rfl rfl) rfl ?_
  refine st (X.lenL rfl rfl Tryd.underlying23) rfl ?_
  refine sm rfl rfl ?_
  refine Wn ?_
  refine tN ?_
  refine W_block ?_
  refine W_lp (fun nw9_ lw9_ w9 => ∃ j : Nat, nw9_ = m.cols.length - j ∧ lw9_ = ([(1, .pointer (some ⟨g1, 0, none⟩)), (5, .pointer (some ⟨g5, 0, none⟩)), (32, .slice ac m.cols.length cc), (33, .int .i64 m.cols.length), (34, .int .i64 j)] : Env) ∧ (j ≤ m.cols.length) ∧ (Blk w9 g1 26 #[.int .i64 m.id, .int .i64 m.rows, .slice ac m.cols.length cc, .slice sa_ m.strs.length cs]) ∧ (BldAt w9 g5 w.heap.size (encHead m ++ ((m.cols.zip m.strs).take j).flatMap colBytes)) ∧ (Below w.heap.size w w9)) _ ⟨_, ⟨0, rfl, rfl, by omega, hB1, by simpa [encHead] using hBd, hbw⟩, ⟨rfl, rfl, rfl, rfl, rfl, trivial⟩⟩ ?_
  clear hB1 hbw
  rintro nw9_ lw9_ w9 ⟨j, rfl, rfl, hj, hB1, hBd, hbw⟩
  have hz_w9 := hbw.size
  have hlt_hB1_w9 := hB1.lt
  have hltb := hBd.lt
  refine W_rs ?_
  refine st (X.lss rfl rfl) rfl ?_
  refine Wn ?_
  refine tN ?_
  refine W_seq ?_
  refine W_if rfl (fun h35 => ?_) (fun h35 => ?_)
  · first | replace h35 := of_decide_eq_true h35 | replace h35 := of_decide_eq_false (notT h35) | replace h35 := notT h35 | skip
    obtain ⟨x, hx⟩ : ∃ x, m.cols[j]? = some x := ⟨_, List.getElem?_eq_getElem (by omega)⟩
    obtain ⟨l, hl⟩ : ∃ l, m.strs[j]? = some l := ⟨_, List.getElem?_eq_getElem (by omega)⟩
    obtain ⟨u, hux, hcu⟩ := hu j l hl
    obtain ⟨gc, oc, c', hv, hgc⟩ := (hc.1.bel hbw).some_ (by omega)
    injection hv with e1 _ e3
    subst e1 e3
    obtain ⟨gs, os_, s', hv, hgs⟩ := (hR.bel hbw).some_ (by omega)
    injection hv with e1 _ e3
    subst e1 e3
    have hr := (hc.bel hbw).range hx
    obtain ⟨hxn, hxk1, hxk2⟩ := colOk_name (ok.names x (List.mem_of_getElem? hx))
    have hll := strErr_len (ok.strs l (List.mem_of_getElem? hl))
    obtain ⟨au, cu, rfl, hun, huc⟩ := hcu.1.shape
    have htk0 := take_next' (zip_at hx hl)
    have hpre : (((m.cols.zip m.strs).take j).flatMap colBytes).length ≤ 32 * 800000 := by
      refine Nat.le_trans (flat_le colBytes 800000 _ (fun p hp => ?_)) (Nat.mul_le_mul_right _ (by simp; omega))
      have hp' := List.mem_of_mem_take hp
      have h1 := (List.of_mem_zip hp').1
      have h2 := (List.of_mem_zip hp').2
      obtain ⟨q, hq⟩ := List.getElem?_of_mem h2
      obtain ⟨u', _, hu'⟩ := hu q p.2 hq
      exact col_le (colOk_name (ok.names _ h1)).1 (strErr_len (ok.strs _ h2)) hu'.2
    obtain ⟨PRE, hPRE⟩ : ∃ PRE, ((m.cols.zip m.strs).take j).flatMap colBytes = PRE := ⟨_, rfl⟩
    rw [hPRE] at hBd hpre
    refine W_skip ?_
    refine tN ?_
    refine W_seq ?_
    refine W_block ?_
    refine W_rs ?_
    refine sm rfl rfl ?_
    refine st (X.idxA rfl rfl Tryd.underlying23 siz60 rfl (by omega)) rfl ?_
    refine st (X.ldN (cs := x.cells) rfl Tryd.underlying60 rfl siz60 hr) rfl ?_
    refine salA inf60 rfl (fun g7 w10 hB7 hg7 hb hl7 => ?_)
    have hpend := hb
    replace hbw := bthen hbw hb
    replace hB1 := hB1.bel hb
    have hz_w10 := hb.size
    clear hb
    refine sa rfl rfl ?_
    refine ssBN rfl rfl hB7 siz60 rfl rfl (fun w11 hB_ hc_ => ?_)
    replace hB7 := hB_
    clear hB_
    replace hpend := bset hpend hc_ (by omega)
    replace hB1 := hB1.chg hc_ (by first | (show ¬ _ = _; omega) | (intro k_ hk_; simp [Value.ownBlock] at hk_; subst hk_; show ¬ _ = _; omega))
    replace hbw := bset hbw hc_ (by omega)
    have hz_w11 := hc_.size
    clear hc_
    refine Wn ?_
    refine tN ?_
    refine W_rs ?_
    refine st (X.fa fa60_1 rfl) rfl ?_
    refine st (X.ldL rfl hB7 Tryd.underlying3 rfl rfl) rfl ?_
    refine st (X.convI rfl Tryd.underlying3 Tryd.underlying5 (wb _)) rfl ?_
    refine sa rfl rfl ?_
    refine Wn ?_
    refine tN ?_
    refine W_seq ?_
    refine W_rs ?_
    refine st (X.fa fa60_2 rfl) rfl ?_
    refine st (X.ldL rfl hB7 Tryd.underlying4 rfl rfl) rfl ?_
    refine Wn ?_
    refine tN ?_
    refine W_if rfl (fun h43 => ?_) (fun h43 => ?_)
    · first | replace h43 := of_decide_eq_true h43 | replace h43 := of_decide_eq_false (notT h43) | replace h43 := notT h43 | skip
      have hkb : kindByte x = byteI x.kind + 128 := by unfold kindByte; rw [if_pos h43]
      refine W_reg ?_
      refine sm rfl rfl ?_
      refine st (X.add rfl rfl (add128 _)) rfl ?_
      refine sa rfl rfl ?_
      refine Wn ?_
      refine tN ?_
      refine W_rs ?_
      rw [← hkb]
      refine sm rfl rfl ?_
      refine st (X.fa fa60_0 rfl) rfl ?_
      refine st (X.ldL rfl hB7 Tryd.underlying9 rfl rfl) rfl ?_
      refine st (X.lenS rfl rfl Tryd.underlying9) rfl ?_
      refine st (X.convI rfl Tryd.underlying3 Tryd.underlying5 (wb _)) rfl ?_
      replace hBd := hBd.bel hpend
      clear hpend
      refine sbs 1 rfl (bs2 _ _ _) (by simp [maxLen]) rfl rfl (fun g51 w12 hR51 hg51 hb => ?_)
      replace hBd := hBd.bel hb
      replace hB1 := hB1.bel hb
      replace hB7 := hB7.bel hb
      replace hbw := bthen hbw hb
      have hz_51 := hb.size
      clear hb
      refine sc _ Tryd.func29 rfl (by kernel_rfl) rfl rfl ((Write_any_ g5 w.heap.size (encHead m ++ PRE) [kindByte x, byteI x.name.length] _ _ hBd hR51.reads (own_ne (by omega)) hbw.size (by simp only [List.length_append, List.length_cons, List.length_nil]; omega)).mono ?_)
      rintro e_ w13 ⟨rfl, hW⟩
      refine cR ?_
      obtain ⟨hBd_, hWb_, hWk_, hz_w13⟩ := hW
      replace hbw := hbw.trans hWb_
      replace hB1 := hWk_.blk hB1 (by decide)
      replace hB7 := hWk_.blk hB7 (by decide)
      replace hBd := hBd_
      clear hBd_ hWb_ hWk_
      refine Wn ?_
      refine tN ?_
      refine W_drsN (fun W_ => Blk W_ g7 60 x.cells.toArray ∧ Blk W_ g1 26 #[.int .i64 m.id, .int .i64 m.rows, .slice (some ⟨gc, oc, none⟩) m.cols.length cc, .slice (some ⟨gs, os_, none⟩) m.strs.length cs] ∧ W_.cell? ⟨gs, os_ + j, none⟩ = some (.slice au l.length cu)) [0, 1, 2, 3, 4, 5, 6, 7, 8, 9, 10] [true, true, true, true, true, true, true, true, false, true, false] (by kernel_rfl) (by kernel_rfl) (⟨hB7.drew, hB1.drew, (hR.bel hbw).cellAt (by omega) hux⟩) ?_
      obtain ⟨w14, hw_⟩ : ∃ w14 : World, w14 = World.drew w13 := ⟨_, rfl⟩
      rw [← hw_]
      have hb : Below w13.heap.size w13 w14 := by rw [hw_]; exact bdrew (Below.refl _ _)
      clear hw_
      have hS := hb
      have hpend := hb
      replace hbw := bthen hbw hb
      replace hB1 := hB1.bel hb
      replace hB7 := hB7.bel hb
      have hz_w14 := hb.size
      clear hb
      refine oY rfl (fun W_ hW_ => (X.fa fa60_0 rfl)) rfl ?_
      refine oY rfl (fun W_ hW_ => (X.ldL rfl hW_.1 Tryd.underlying9 rfl rfl)) rfl ?_
      refine oY rfl (fun W_ hW_ => (X.fa fa26_3 rfl)) rfl ?_
      refine oY rfl (fun W_ hW_ => (X.ldL rfl hW_.2.1 Tryd.underlying24 rfl rfl)) rfl ?_
      refine oY rfl (fun W_ hW_ => (X.move rfl)) rfl ?_
      refine oY rfl (fun W_ hW_ => (X.idxA rfl rfl Tryd.underlying24 siz51 rfl (by omega))) rfl ?_
      refine oY rfl (fun W_ hW_ => (X.ld rfl Tryd.underlying51 rfl (by rw [Nat.mul_one]; exact hW_.2.2))) rfl ?_
      refine oY rfl (fun W_ hW_ => (X.lenL rfl rfl Tryd.underlying51)) rfl ?_
      refine oL rfl (fun Q_ hQ_ hP_ => ?_)
      refine sc _ Tryd.func20 rfl (by kernel_rfl) rfl rfl ((four_any _ _).mono ?_)
      rintro e_ w15 ⟨rfl, hb⟩
      refine cR ?_
      replace hpend := bthen hpend hb
      replace hbw := bthen hbw hb
      replace hB1 := hB1.bel hb
      replace hB7 := hB7.bel hb
      have hz_w15 := hb.size
      clear hb
      refine Wn (hQ_ _ _ (⟨hB7, hB1, (hR.bel hbw).cellAt (by omega) hux⟩) ?_)
      clear hQ_ hP_ Q_
      refine oY rfl (fun W_ hW_ => (X.cat rfl rfl (by rw [four_length]; omega))) rfl ?_
      refine oL rfl (fun Q_ hQ_ hP_ => ?_)
      replace hBd := hBd.bel hpend
      clear hpend
      refine sc _ Tryd.func27 rfl (by kernel_rfl) rfl rfl ((WriteString_any g5 w.heap.size _ (x.name ++ four l.length) _ hBd hbw.size (by simp only [List.length_append, List.length_cons, List.length_nil, four_length]; omega)).mono ?_)
      rintro e_ w16 ⟨rfl, hW⟩
      refine cR ?_
      obtain ⟨hBd_, hWb_, hWk_, hz_w16⟩ := hW
      replace hbw := hbw.trans hWb_
      replace hB1 := hWk_.blk hB1 (by decide)
      replace hB7 := hWk_.blk hB7 (by decide)
      replace hBd := hBd_
      clear hBd_ hWb_ hWk_
      refine Wn (hQ_ _ _ (⟨hB7, hB1, (hR.bel hbw).cellAt (by omega) hux⟩) ?_)
      clear hQ_ hP_ Q_
      refine oN ?_
      refine nN ?_
      refine W_rs ?_
      refine st (X.fa fa26_3 rfl) rfl ?_
      refine st (X.ldL rfl hB1 Tryd.underlying24 rfl rfl) rfl ?_
      refine sm rfl rfl ?_
      refine st (X.idxA rfl rfl Tryd.underlying24 siz51 rfl (by omega)) rfl ?_
      refine st (X.ld rfl Tryd.underlying51 rfl (by rw [Nat.mul_one]; exact (hR.bel hbw).cellAt (by omega) hux)) rfl ?_
      refine st (X.lenL rfl rfl Tryd.underlying51) rfl ?_
      refine sm rfl rfl ?_
      refine Wn ?_
      refine tN ?_
      refine W_block ?_
      obtain ⟨L0, hL0, hBd0⟩ := bldName hBd
      have hL0n : L0.length ≤ 26000000 := by rw [← hL0]; simp only [List.length_append, List.length_cons, List.length_nil, four_length]; omega
      refine W_lp (fun nw17_ lw17_ w17 => ∃ i : Nat, nw17_ = l.length - i ∧ lw17_ = ([(1, .pointer (some ⟨g1, 0, none⟩)), (5, .pointer (some ⟨g5, 0, none⟩)), (32, .slice (some ⟨gc, oc, none⟩) m.cols.length cc), (33, .int .i64 m.cols.length), (34, .int .i64 j), (68, .slice au l.length cu), (69, .int .i64 l.length), (70, .int .i64 i)] : Env) ∧ (i ≤ l.length) ∧ (Blk w17 g1 26 #[.int .i64 m.id, .int .i64 m.rows, .slice (some ⟨gc, oc, none⟩) m.cols.length cc, .slice (some ⟨gs, os_, none⟩) m.strs.length cs]) ∧ (BldAt w17 g5 w.heap.size (L0 ++ (l.take i).flatMap chkBytes)) ∧ (Below w.heap.size w w17)) _ ⟨_, ⟨0, rfl, rfl, by omega, hB1, by simpa using hBd0, hbw⟩, ⟨rfl, rfl, rfl, rfl, rfl, rfl, rfl, rfl, trivial⟩⟩ ?_
      clear hB1 hbw
      rintro nw17_ lw17_ w17 ⟨i, rfl, rfl, hi, hB1, hBd, hbw⟩
      have hz_w17 := hbw.size
      have hlt_hB1_w17 := hB1.lt
      have hltb := hBd.lt
      refine W_rs ?_
      refine st (X.lss rfl rfl) rfl ?_
      refine Wn ?_
      refine tN ?_
      refine W_seq ?_
      refine W_if rfl (fun h71 => ?_) (fun h71 => ?_)
      · first | replace h71 := of_decide_eq_true h71 | replace h71 := of_decide_eq_false (notT h71) | replace h71 := notT h71 | skip
        obtain ⟨y, hy⟩ : ∃ y, l[i]? = some y := ⟨_, List.getElem?_eq_getElem (by omega)⟩
        obtain ⟨gu, ou, c', hv, hgu⟩ := (hcu.1.bel hbw).some_ (by omega)
        injection hv with e1 _ e3
        subst e1 e3
        have hys := hcu.2 y (List.mem_of_getElem? hy)
        have hry := (hcu.bel hbw).range hy
        have hpr2 : ((l.take i).flatMap chkBytes).length ≤ 20000 * 36 := by
          refine Nat.le_trans (flat_le chkBytes 36 _ (fun p hp => chk_le (hcu.2 p (List.mem_of_mem_take hp)))) (Nat.mul_le_mul_right _ (by simp; omega))
        refine W_skip ?_
        refine tN ?_
        refine W_seq ?_
        refine W_block ?_
        refine W_rs ?_
        refine st (X.idxA rfl rfl Tryd.underlying51 siz55 rfl (by omega)) rfl ?_
        refine st (X.ldN rfl Tryd.underlying55 rfl (by rw [Chk.cells_length hys]; exact siz55) hry) rfl ?_
        refine salA inf55 rfl (fun g10 w18 hB10 hg10 hb hl10 => ?_)
        have hpend := hb
        replace hbw := bthen hbw hb
        replace hB1 := hB1.bel hb
        have hz_w18 := hb.size
        clear hb
        refine ssBN rfl rfl hB10 (by rw [Chk.size hys]; exact siz55) (by rw [Chk.size hys]; rfl) (Chk.cells_one _) (fun w19 hB_ hc_ => ?_)
        replace hB10 := hB_
        clear hB_
        replace hpend := bset hpend hc_ (by omega)
        replace hB1 := hB1.chg hc_ (by first | (show ¬ _ = _; omega) | (intro k_ hk_; simp [Value.ownBlock] at hk_; subst hk_; show ¬ _ = _; omega))
        replace hbw := bset hbw hc_ (by omega)
        have hz_w19 := hc_.size
        clear hc_
        refine Wn ?_
        refine tN ?_
        refine W_rs ?_
        refine st (X.fa fa55_0 rfl) rfl ?_
        refine st (X.slArr rfl Tryd.underlying53 siz5) rfl ?_
        replace hBd := hBd.bel hpend
        clear hpend
        refine sc _ Tryd.func29 rfl (by kernel_rfl) rfl rfl ((Write_any_ g5 w.heap.size _ y.sum _ _ hBd (sumReads hB10 hys) (own_ne (by omega)) hbw.size (by simp only [List.length_append]; omega)).mono ?_)
        rintro e_ w20 ⟨rfl, hW⟩
        refine cR ?_
        obtain ⟨hBd_, hWb_, hWk_, hz_w20⟩ := hW
        replace hbw := hbw.trans hWb_
        replace hB1 := hWk_.blk hB1 (by decide)
        replace hB10 := hWk_.blk hB10 (by decide)
        replace hBd := hBd_
        clear hBd_ hWb_ hWk_
        refine Wn ?_
        refine tN ?_
        refine W_reg ?_
        refine st (X.fa fa55_1 rfl) rfl ?_
        refine st (X.ldB rfl hB10 Tryd.underlying3 rfl (Chk.cells_len hys)) rfl ?_
        refine sc _ Tryd.func20 rfl (by kernel_rfl) rfl rfl ((four_any _ _).mono ?_)
        rintro e_ w21 ⟨rfl, hb⟩
        refine cR ?_
        have hpend := hb
        replace hbw := bthen hbw hb
        replace hB1 := hB1.bel hb
        replace hB10 := hB10.bel hb
        have hz_w21 := hb.size
        clear hb
        replace hBd := hBd.bel hpend
        clear hpend
        refine sc _ Tryd.func27 rfl (by kernel_rfl) rfl rfl ((WriteString_any g5 w.heap.size _ (four y.len) _ hBd hbw.size (by simp only [List.length_append, four_length]; omega)).mono ?_)
        rintro e_ w22 ⟨rfl, hW⟩
        refine cR ?_
        obtain ⟨hBd_, hWb_, hWk_, hz_w22⟩ := hW
        replace hbw := hbw.trans hWb_
        replace hB1 := hWk_.blk hB1 (by decide)
        replace hB10 := hWk_.blk hB10 (by decide)
        replace hBd := hBd_
        clear hBd_ hWb_ hWk_
        refine Wn ?_
        refine bN ?_
        refine tN ?_
        refine W_reg ?_
        refine st (X.add64 rfl rfl (by omega)) rfl ?_
        refine sm rfl rfl ?_
        refine Wn ?_
        refine tN ⟨_, _, ?_, ⟨i + 1, rfl, rfl, by omega, hB1, by rw [take_next' hy, List.flatMap_append]; simpa [chkBytes] using hBd, hbw⟩, ⟨rfl, rfl, rfl, rfl, rfl, rfl, rfl, rfl, trivial⟩⟩
        omega
      · first | replace h71 := of_decide_eq_false h71 | replace h71 := of_decide_eq_true (notF h71) | replace h71 := notF h71 | skip
        obtain rfl : i = l.length := by omega
        have htk : encHead m ++ ((m.cols.zip m.strs).take (j + 1)).flatMap colBytes = L0 ++ (l.take l.length).flatMap chkBytes := by
          rw [htk0, List.flatMap_append, hPRE, ← hL0, List.take_length]
          simp [colBytes]
        refine W_exit (tE (tE (bH ?_)))
        refine bN ?_
        refine tN ?_
        refine W_reg ?_
        refine st (X.add64 rfl rfl (by omega)) rfl ?_
        refine sm rfl rfl ?_
        refine Wn ?_
        refine tN ⟨_, _, ?_, ⟨j + 1, rfl, rfl, by omega, hB1, by rw [htk]; exact hBd, hbw⟩, ⟨rfl, rfl, rfl, rfl, rfl, trivial⟩⟩
        omega
    · first | replace h43 := of_decide_eq_false h43 | replace h43 := of_decide_eq_true (notF h43) | replace h43 := notF h43 | skip
      have hkb : kindByte x = byteI x.kind := by unfold kindByte; rw [if_neg (by rw [h43]; decide)]
      refine W_skip ?_
      refine tN ?_
      refine W_rs ?_
      rw [← hkb]
      refine sm rfl rfl ?_
      refine st (X.fa fa60_0 rfl) rfl ?_
      refine st (X.ldL rfl hB7 Tryd.underlying9 rfl rfl) rfl ?_
      refine st (X.lenS rfl rfl Tryd.underlying9) rfl ?_
      refine st (X.convI rfl Tryd.underlying3 Tryd.underlying5 (wb _)) rfl ?_
      replace hBd := hBd.bel hpend
      clear hpend
      refine sbs 1 rfl (bs2 _ _ _) (by simp [maxLen]) rfl rfl (fun g51 w23 hR51 hg51 hb => ?_)
      replace hBd := hBd.bel hb
      replace hB1 := hB1.bel hb
      replace hB7 := hB7.bel hb
      replace hbw := bthen hbw hb
      have hz_51 := hb.size
      clear hb
      refine sc _ Tryd.func29 rfl (by kernel_rfl) rfl rfl ((Write_any_ g5 w.heap.size (encHead m ++ PRE) [kindByte x, byteI x.name.length] _ _ hBd hR51.reads (own_ne (by omega)) hbw.size (by simp only [List.length_append, List.length_cons, List.length_nil]; omega)).mono ?_)
      rintro e_ w24 ⟨rfl, hW⟩
      refine cR ?_
      obtain ⟨hBd_, hWb_, hWk_, hz_w24⟩ := hW
      replace hbw := hbw.trans hWb_
      replace hB1 := hWk_.blk hB1 (by decide)
      replace hB7 := hWk_.blk hB7 (by decide)
      replace hBd := hBd_
      clear hBd_ hWb_ hWk_
      refine Wn ?_
      refine tN ?_
      refine W_drsN (fun W_ => Blk W_ g7 60 x.cells.toArray ∧ Blk W_ g1 26 #[.int .i64 m.id, .int .i64 m.rows, .slice (some ⟨gc, oc, none⟩) m.cols.length cc, .slice (some ⟨gs, os_, none⟩) m.strs.length cs] ∧ W_.cell? ⟨gs, os_ + j, none⟩ = some (.slice au l.length cu)) [0, 1, 2, 3, 4, 5, 6, 7, 8, 9, 10] [true, true, true, true, true, true, true, true, false, true, false] (by kernel_rfl) (by kernel_rfl) (⟨hB7.drew, hB1.drew, (hR.bel hbw).cellAt (by omega) hux⟩) ?_
      obtain ⟨w25, hw_⟩ : ∃ w25 : World, w25 = World.drew w24 := ⟨_, rfl⟩
      rw [← hw_]
      have hb : Below w24.heap.size w24 w25 := by rw [hw_]; exact bdrew (Below.refl _ _)
      clear hw_
      have hS := hb
      have hpend := hb
      replace hbw := bthen hbw hb
      replace hB1 := hB1.bel hb
      replace hB7 := hB7.bel hb
      have hz_w25 := hb.size
      clear hb
      refine oY rfl (fun W_ hW_ => (X.fa fa60_0 rfl)) rfl ?_
      refine oY rfl (fun W_ hW_ => (X.ldL rfl hW_.1 Tryd.underlying9 rfl rfl)) rfl ?_
      refine oY rfl (fun W_ hW_ => (X.fa fa26_3 rfl)) rfl ?_
      refine oY rfl (fun W_ hW_ => (X.ldL rfl hW_.2.1 Tryd.underlying24 rfl rfl)) rfl ?_
      refine oY rfl (fun W_ hW_ => (X.move rfl)) rfl ?_
      refine oY rfl (fun W_ hW_ => (X.idxA rfl rfl Tryd.underlying24 siz51 rfl (by omega))) rfl ?_
      refine oY rfl (fun W_ hW_ => (X.ld rfl Tryd.underlying51 rfl (by rw [Nat.mul_one]; exact hW_.2.2))) rfl ?_
      refine oY rfl (fun W_ hW_ => (X.lenL rfl rfl Tryd.underlying51)) rfl ?_
      refine oL rfl (fun Q_ hQ_ hP_ => ?_)
      refine sc _ Tryd.func20 rfl (by kernel_rfl) rfl rfl ((four_any _ _).mono ?_)
      rintro e_ w26 ⟨rfl, hb⟩
      refine cR ?_
      replace hpend := bthen hpend hb
      replace hbw := bthen hbw hb
      replace hB1 := hB1.bel hb
      replace hB7 := hB7.bel hb
      have hz_w26 := hb.size
      clear hb
      refine Wn (hQ_ _ _ (⟨hB7, hB1, (hR.bel hbw).cellAt (by omega) hux⟩) ?_)
      clear hQ_ hP_ Q_
      refine oY rfl (fun W_ hW_ => (X.cat rfl rfl (by rw [four_length]; omega))) rfl ?_
      refine oL rfl (fun Q_ hQ_ hP_ => ?_)
      replace hBd := hBd.bel hpend
      clear hpend
      refine sc _ Tryd.func27 rfl (by kernel_rfl) rfl rfl ((WriteString_any g5 w.heap.size _ (x.name ++ four l.length) _ hBd hbw.size (by simp only [List.length_append, List.length_cons, List.length_nil, four_length]; omega)).mono ?_)
      rintro e_ w27 ⟨rfl, hW⟩
      refine cR ?_
      obtain ⟨hBd_, hWb_, hWk_, hz_w27⟩ := hW
      replace hbw := hbw.trans hWb_
      replace hB1 := hWk_.blk hB1 (by decide)
      replace hB7 := hWk_.blk hB7 (by decide)
      replace hBd := hBd_
      clear hBd_ hWb_ hWk_
      refine Wn (hQ_ _ _ (⟨hB7, hB1, (hR.bel hbw).cellAt (by omega) hux⟩) ?_)
      clear hQ_ hP_ Q_
      refine oN ?_
      refine nN ?_
      refine W_rs ?_
      refine st (X.fa fa26_3 rfl) rfl ?_
      refine st (X.ldL rfl hB1 Tryd.underlying24 rfl rfl) rfl ?_
      refine sm rfl rfl ?_
      refine st (X.idxA rfl rfl Tryd.underlying24 siz51 rfl (by omega)) rfl ?_
      refine st (X.ld rfl Tryd.underlying51 rfl (by rw [Nat.mul_one]; exact (hR.bel hbw).cellAt (by omega) hux)) rfl ?_
      refine st (X.lenL rfl rfl Tryd.underlying51) rfl ?_
      refine sm rfl rfl ?_
      refine Wn ?_
      refine tN ?_
      refine W_block ?_
      obtain ⟨L0, hL0, hBd0⟩ := bldName hBd
      have hL0n : L0.length ≤ 26000000 := by rw [← hL0]; simp only [List.length_append, List.length_cons, List.length_nil, four_length]; omega
      refine W_lp (fun nw28_ lw28_ w28 => ∃ i : Nat, nw28_ = l.length - i ∧ lw28_ = ([(1, .pointer (some ⟨g1, 0, none⟩)), (5, .pointer (some ⟨g5, 0, none⟩)), (32, .slice (some ⟨gc, oc, none⟩) m.cols.length cc), (33, .int .i64 m.cols.length), (34, .int .i64 j), (68, .slice au l.length cu), (69, .int .i64 l.length), (70, .int .i64 i)] : Env) ∧ (i ≤ l.length) ∧ (Blk w28 g1 26 #[.int .i64 m.id, .int .i64 m.rows, .slice (some ⟨gc, oc, none⟩) m.cols.length cc, .slice (some ⟨gs, os_, none⟩) m.strs.length cs]) ∧ (BldAt w28 g5 w.heap.size (L0 ++ (l.take i).flatMap chkBytes)) ∧ (Below w.heap.size w w28)) _ ⟨_, ⟨0, rfl, rfl, by omega, hB1, by simpa using hBd0, hbw⟩, ⟨rfl, rfl, rfl, rfl, rfl, rfl, rfl, rfl, trivial⟩⟩ ?_
      clear hB1 hbw
      rintro nw28_ lw28_ w28 ⟨i, rfl, rfl, hi, hB1, hBd, hbw⟩
      have hz_w28 := hbw.size
      have hlt_hB1_w28 := hB1.lt
      have hltb := hBd.lt
      refine W_rs ?_
      refine st (X.lss rfl rfl) rfl ?_
      refine Wn ?_
      refine tN ?_
      refine W_seq ?_
      refine W_if rfl (fun h71 => ?_) (fun h71 => ?_)
      · first | replace h71 := of_decide_eq_true h71 | replace h71 := of_decide_eq_false (notT h71) | replace h71 := notT h71 | skip
        obtain ⟨y, hy⟩ : ∃ y, l[i]? = some y := ⟨_, List.getElem?_eq_getElem (by omega)⟩
        obtain ⟨gu, ou, c', hv, hgu⟩ := (hcu.1.bel hbw).some_ (by omega)
        injection hv with e1 _ e3
        subst e1 e3
        have hys := hcu.2 y (List.mem_of_getElem? hy)
        have hry := (hcu.bel hbw).range hy
        have hpr2 : ((l.take i).flatMap chkBytes).length ≤ 20000 * 36 := by
          refine Nat.le_trans (flat_le chkBytes 36 _ (fun p hp => chk_le (hcu.2 p (List.mem_of_mem_take hp)))) (Nat.mul_le_mul_right _ (by simp; omega))
        refine W_skip ?_
        refine tN ?_
        refine W_seq ?_
        refine W_block ?_
        refine W_rs ?_
        refine st (X.idxA rfl rfl Tryd.underlying51 siz55 rfl (by omega)) rfl ?_
        refine st (X.ldN rfl Tryd.underlying55 rfl (by rw [Chk.cells_length hys]; exact siz55) hry) rfl ?_
        refine salA inf55 rfl (fun g10 w29 hB10 hg10 hb hl10 => ?_)
        have hpend := hb
        replace hbw := bthen hbw hb
        replace hB1 := hB1.bel hb
        have hz_w29 := hb.size
        clear hb
        refine ssBN rfl rfl hB10 (by rw [Chk.size hys]; exact siz55) (by rw [Chk.size hys]; rfl) (Chk.cells_one _) (fun w30 hB_ hc_ => ?_)
        replace hB10 := hB_
        clear hB_
        replace hpend := bset hpend hc_ (by omega)
        replace hB1 := hB1.chg hc_ (by first | (show ¬ _ = _; omega) | (intro k_ hk_; simp [Value.ownBlock] at hk_; subst hk_; show ¬ _ = _; omega))
        replace hbw := bset hbw hc_ (by omega)
        have hz_w30 := hc_.size
        clear hc_
        refine Wn ?_
        refine tN ?_
        refine W_rs ?_
        refine st (X.fa fa55_0 rfl) rfl ?_
        refine st (X.slArr rfl Tryd.underlying53 siz5) rfl ?_
        replace hBd := hBd.bel hpend
        clear hpend
        refine sc _ Tryd.func29 rfl (by kernel_rfl) rfl rfl ((Write_any_ g5 w.heap.size _ y.sum _ _ hBd (sumReads hB10 hys) (own_ne (by omega)) hbw.size (by simp only [List.length_append]; omega)).mono ?_)
        rintro e_ w31 ⟨rfl, hW⟩
        refine cR ?_
        obtain ⟨hBd_, hWb_, hWk_, hz_w31⟩ := hW
        replace hbw := hbw.trans hWb_
        replace hB1 := hWk_.blk hB1 (by decide)
        replace hB10 := hWk_.blk hB10 (by decide)
        replace hBd := hBd_
        clear hBd_ hWb_ hWk_
        refine Wn ?_
        refine tN ?_
        refine W_reg ?_
        refine st (X.fa fa55_1 rfl) rfl ?_
        refine st (X.ldB rfl hB10 Tryd.underlying3 rfl (Chk.cells_len hys)) rfl ?_
        refine sc _ Tryd.func20 rfl (by kernel_rfl) rfl rfl ((four_any _ _).mono ?_)
        rintro e_ w32 ⟨rfl, hb⟩
        refine cR ?_
        have hpend := hb
        replace hbw := bthen hbw hb
        replace hB1 := hB1.bel hb
        replace hB10 := hB10.bel hb
        have hz_w32 := hb.size
        clear hb
        replace hBd := hBd.bel hpend
        clear hpend
        refine sc _ Tryd.func27 rfl (by kernel_rfl) rfl rfl ((WriteString_any g5 w.heap.size _ (four y.len) _ hBd hbw.size (by simp only [List.length_append, four_length]; omega)).mono ?_)
        rintro e_ w33 ⟨rfl, hW⟩
        refine cR ?_
        obtain ⟨hBd_, hWb_, hWk_, hz_w33⟩ := hW
        replace hbw := hbw.trans hWb_
        replace hB1 := hWk_.blk hB1 (by decide)
        replace hB10 := hWk_.blk hB10 (by decide)
        replace hBd := hBd_
        clear hBd_ hWb_ hWk_
        refine Wn ?_
        refine bN ?_
        refine tN ?_
        refine W_reg ?_
        refine st (X.add64 rfl rfl (by omega)) rfl ?_
        refine sm rfl rfl ?_
        refine Wn ?_
        refine tN ⟨_, _, ?_, ⟨i + 1, rfl, rfl, by omega, hB1, by rw [take_next' hy, List.flatMap_append]; simpa [chkBytes] using hBd, hbw⟩, ⟨rfl, rfl, rfl, rfl, rfl, rfl, rfl, rfl, trivial⟩⟩
        omega
      · first | replace h71 := of_decide_eq_false h71 | replace h71 := of_decide_eq_true (notF h71) | replace h71 := notF h71 | skip
        obtain rfl : i = l.length := by omega
        have htk : encHead m ++ ((m.cols.zip m.strs).take (j + 1)).flatMap colBytes = L0 ++ (l.take l.length).flatMap chkBytes := by
          rw [htk0, List.flatMap_append, hPRE, ← hL0, List.take_length]
          simp [colBytes]
        refine W_exit (tE (tE (bH ?_)))
        refine bN ?_
        refine tN ?_
        refine W_reg ?_
        refine st (X.add64 rfl rfl (by omega)) rfl ?_
        refine sm rfl rfl ?_
        refine Wn ?_
        refine tN ⟨_, _, ?_, ⟨j + 1, rfl, rfl, by omega, hB1, by rw [htk]; exact hBd, hbw⟩, ⟨rfl, rfl, rfl, rfl, rfl, trivial⟩⟩
        omega
  · first | replace h35 := of_decide_eq_false h35 | replace h35 := of_decide_eq_true (notF h35) | replace h35 := notF h35 | skip
    obtain rfl : j = m.cols.length := by omega
    have hfull : encHead m ++ ((m.cols.zip m.strs).take m.cols.length).flatMap colBytes = encBody m := by
      unfold encBody; rw [List.take_of_length_le (by simp; omega)]
    rw [hfull] at hBd
    have hbl : (encBody m).length ≤ 30000000 := by
      unfold encBody; rw [List.length_append, hhd]
      have := flat_le colBytes 800000 (m.cols.zip m.strs) (fun p hp => by
        have h1 := (List.of_mem_zip hp).1
        have h2 := (List.of_mem_zip hp).2
        obtain ⟨q, hq⟩ := List.getElem?_of_mem h2
        obtain ⟨u', _, hu'⟩ := hu q p.2 hq
        exact col_le (colOk_name (ok.names _ h1)).1 (strErr_len (ok.strs _ h2)) hu'.2)
      have h2 : (m.cols.zip m.strs).length ≤ 32 := by simp; omega
      have h3 := Nat.mul_le_mul_right 800000 h2
      omega
    have hb0 : 0 < (encBody m).length := by unfold encBody; rw [List.length_append, hhd]; omega
    refine W_exit (tE (tE (bH ?_)))
    refine tN ?_
    refine W_rs ?_
    refine sc _ Tryd.func30 rfl (by kernel_rfl) rfl rfl ((String_any g5 w.heap.size _ _ hBd hb0 hbw.size).mono ?_)
    rintro e_ w34 ⟨rfl, hbS, _, _⟩
    refine cR ?_
    replace hbw := hbw.trans hbS
    refine sa rfl rfl ?_
    refine Wn ?_
    refine tN ?_
    refine W_rs ?_
    refine sm rfl rfl ?_
    refine sm rfl rfl ?_
    refine sc _ Tryd.func21 rfl (by kernel_rfl) rfl rfl ((Crc_any (encBody m) _ (by omega)).mono ?_)
    rintro e_ w35 ⟨rfl, hb⟩
    refine cR ?_
    replace hbw := bthen hbw hb
    have hz_w35 := hb.size
    clear hb
    refine st (X.convI rfl Tryd.underlying62 Tryd.underlying3 (w64 (by have := lt_u32 (Crc.crc (encBody m)); omega))) rfl ?_
    refine sc _ Tryd.func20 rfl (by kernel_rfl) rfl rfl ((four_any _ _).mono ?_)
    rintro e_ w36 ⟨rfl, hb⟩
    refine cR ?_
    replace hbw := bthen hbw hb
    have hz_w36 := hb.size
    clear hb
    refine st (X.cat rfl rfl (by rw [four_length]; omega)) rfl ?_
    refine sa rfl rfl ?_
    refine sa rfl rfl ?_
    refine Wn ?_
    refine tN ?_
    refine W_ret ?_
    exact (rTT rfl rfl rfl ⟨rfl, hbw⟩).1
end Go.Proofs.YtnagmpnpgekhfaaDoor
