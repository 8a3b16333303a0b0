/- refs: counts. -/
import Derived.Test.YtnagmpnpgekhfaaRefs3
namespace Go.Proofs.Ytnagmpnpgekhfaa
open Go.RowKit
/-- counts in memory: x, or any list with its sums -/
structure CountsAt (w : World) (g b : Nat) (x : List Chk) : Prop where
  blk : Blk w g 111 #[.map (some b)]
  map : ∃ m, MapAt w b encSum encInt m ∧ ∀ a : Sum32, mget m a = if tot a.1 x = 0 then none else some (tot a.1 x)
theorem CountsAt.bel {w w' : World} {g b : Nat} {x : List Chk} (h : CountsAt w g b x) (hb : Below w.heap.size w w') : CountsAt w' g b x := by
  obtain ⟨m, h1, h2⟩ := h.map
  exact ⟨h.blk.bel hb, m, h1.bel hb, h2⟩
theorem CountsAt.lt {w : World} {g b : Nat} {x : List Chk} (h : CountsAt w g b x) : g < w.heap.size ∧ b < w.heap.size := by
  obtain ⟨m, h1, h2⟩ := h.map
  exact ⟨h.blk.lt, h1.lt⟩
/-- another one's map changes -/
theorem CountsAt.chg {w w' : World} {g b : Nat} {x : List Chk} {S : Nat → Prop} (h : CountsAt w g b x) (hc : Chg S w w') (h1 : ¬ S g) (h2 : ¬ S b) : CountsAt w' g b x := by
  obtain ⟨m, hm, he⟩ := h.map
  exact ⟨(hc.block g h.blk.lt h1).trans h.blk, m, hm.chg hc h2, he⟩
theorem CountsAt.congr {w : World} {g b : Nat} {x y : List Chk} (h : CountsAt w g b x) (he : ∀ a, tot a x = tot a y) : CountsAt w g b y := by
  obtain ⟨m, h1, h2⟩ := h.map
  exact ⟨h.blk, m, h1, fun a => by rw [h2, he]⟩
theorem cnt_getD {m : List (Sum32 × Int)} {x : List Chk} (h : ∀ a : Sum32, mget m a = if tot a.1 x = 0 then none else some (tot a.1 x)) (a : Sum32) : (mget m a).getD 0 = tot a.1 x := by
  rw [h]
  split
  · rename_i h0; rw [h0]; rfl
  · rfl
theorem cnt_keys {m : List (Sum32 × Int)} {x : List Chk} (h : ∀ a : Sum32, mget m a = if tot a.1 x = 0 then none else some (tot a.1 x)) (hs : ∀ c ∈ x, c.sum.length = 32) (hn : (m.map (·.1)).Nodup) : m.length = (netM x).length := by
  have hmem : ∀ a : Key, a ∈ (m.map (·.1)).map (·.1) ↔ a ∈ keysOf (netM x) := fun a => by
    rw [net_mem, List.mem_map]
    constructor
    · rintro ⟨k, hk, rfl⟩ h0
      have h1 := h k
      rw [if_pos h0] at h1
      exact mget_none.1 h1 hk
    · intro h0
      have hin : a ∈ x.map (·.sum) := Classical.byContradiction fun hn => h0 (tot_none hn)
      obtain ⟨c, hc, rfl⟩ := List.mem_map.1 hin
      refine ⟨⟨c.sum, hs c hc⟩, ?_, rfl⟩
      refine Classical.byContradiction fun hn => ?_
      have h1 := mget_none.2 hn
      rw [h, if_neg h0] at h1
      cases h1
  have n1 : ((m.map (·.1)).map (·.1)).Nodup := by
    rw [List.nodup_iff_pairwise_ne, List.pairwise_map]
    rw [List.nodup_iff_pairwise_ne] at hn
    exact hn.imp (fun h e => h (Subtype.ext e))
  have n2 : (keysOf (netM x)).Nodup := by
    unfold keysOf
    rw [List.nodup_iff_pairwise_ne, List.pairwise_map]
    exact (isNet x).srt.imp (fun h e => by rw [e] at h; exact klt_irrefl _ h)
  have := ((List.perm_ext_iff_of_nodup n1 n2).2 hmem).length_eq
  simpa [keysOf] using this
theorem cnt_len {m : List (Sum32 × Int)} {x : List Chk} (h : ∀ a : Sum32, mget m a = if tot a.1 x = 0 then none else some (tot a.1 x)) (hs : ∀ c ∈ x, c.sum.length = 32) (hn : (m.map (·.1)).Nodup) : m.length ≤ x.length := by
  rw [cnt_keys h hs hn]
  exact netM_length x
theorem bcnt (b : Nat) (w : World) : (Instr.build 111 #[(0, .map (some b))]).run Try.prog w = .ok (.agg #[.map (some b)]) w := by kernel_rfl
theorem New_any (w : World) : Calls Try.prog 25 #[] w fun e w' => ∃ g b, e = .returned (.pointer (some ⟨g, 0, none⟩)) ∧ CountsAt w' g b [] ∧ w.heap.size ≤ g ∧ w.heap.size ≤ b ∧ g ≠ b ∧ Below w.heap.size w w' := by
  refine W_enter (args := []) 4 Try.func25 rfl rfl rfl ?_
  have hbw := Below.refl w.heap.size w
  refine W_rs ?_
  refine sa rfl rfl ?_
  refine Wn ?_
  refine tN ?_
  refine W_rs ?_
  refine smm (κ := Sum32) (enc := encSum) (encv := encInt) rfl (fun b w1 hM hbg hb hbl => ?_)
  replace hbw := bthen hbw hb
  clear hb
  refine st (X.bld rfl (bcnt _ _)) rfl ?_
  refine sboxA rfl rfl (fun g3 w2 hB3 hg3 hb hl3 => ?_)
  have hpend := hb
  replace hbw := bthen hbw hb
  have hz_w2 := hb.size
  clear hb
  refine sa rfl rfl ?_
  refine Wn ?_
  refine tN ?_
  replace hM := hM.bel hpend
  clear hpend
  refine W_ret ?_
  have hM' := hM
  exact (rT rfl rfl ⟨g3, b, rfl, ⟨hB3, [], hM', fun a => rfl⟩, by omega, by omega, by omega, hbw⟩).1
/-- a pointer is no nil -/
theorem eqNilP (w : World) (a : Addr) : (binOp .eql 37 (.pointer (some a)) (.pointer none)).run Try.prog w = .ok (.bool false) w := by kernel_rfl
theorem eqNilN (w : World) : (binOp .eql 37 (.pointer none) (.pointer none)).run Try.prog w = .ok (.bool true) w := by kernel_rfl
theorem guard_ptr {P : Program} {w : World} {t : TypeId} {o : BinOp} {p q : Option Addr} (c d : Operand) : (eqGuard o t c d (.pointer p) (.pointer q)).run P w = .ok () w := by
  unfold eqGuard
  cases o <;> simp
theorem X.nilP {l : Env} {x : Operand} {w : World} {t' ty : TypeId} {a : Addr} (hx : ev l x = some (.pointer (some a))) : X Try.prog l (.binOp .eql 37 x (.const (.pointer none)) t') ty w (.bool false) w :=
  X.bin hx rfl guard_ptr (eqNilP w a)
theorem X.nilN {l : Env} {x : Operand} {w : World} {t' ty : TypeId} (hx : ev l x = some (.pointer none)) : X Try.prog l (.binOp .eql 37 x (.const (.pointer none)) t') ty w (.bool true) w :=
  X.bin hx rfl guard_ptr (eqNilN w)
theorem All_any (g b : Nat) (x : List Chk) (w : World) (h : CountsAt w g b x) (hs : ∀ c ∈ x, c.sum.length = 32) (hx : x.length ≤ 1000000) :
    Calls Try.prog 28 #[.pointer (some ⟨g, 0, none⟩)] w fun e w' => ∃ v, e = .returned v ∧ Row w' 57 33 v (netM x).length ((netM x).flatMap Chk.cells) ∧ (∀ k, v.ownBlock = some k → w.heap.size ≤ k) ∧ Below w.heap.size w w' := by
  have hB := h.blk
  obtain ⟨m, hM, hm⟩ := h.map
  refine W_enter (args := [.pointer (some ⟨g, 0, none⟩)]) 10 Try.func28 rfl rfl rfl ?_
  refine W_sub [(0, .pointer (some ⟨g, 0, none⟩))] ?_ ⟨rfl, trivial⟩
  have hbw := Below.refl w.heap.size w
  refine W_rs ?_
  refine sa rfl rfl ?_
  refine Wn ?_
  refine tN ?_
  refine W_seq ?_
  refine W_rs ?_
  refine sm rfl rfl ?_
  refine st (X.nilP rfl) rfl ?_
  refine Wn ?_
  refine tN ?_
  refine W_no rfl (rfl) ?_
  refine W_skip ?_
  refine tN ?_
  refine W_rs ?_
  refine sm rfl rfl ?_
  refine st (X.nilChk rfl) rfl ?_
  refine st (X.fa fa111_0 rfl) rfl ?_
  refine st (X.ldL rfl hB Try.underlying108 rfl rfl) rfl ?_
  refine sc _ Try.func66 rfl (by kernel_rfl) rfl rfl ((rising_any b m _ (hM.bel hbw) (Nat.le_trans (cnt_len hm hs hM.nodup) hx)).mono ?_)
  rintro e_ w1 ⟨v, xs, rfl, hp, hsr, hR, hO, hb⟩
  refine cR ?_
  replace hbw := bthen hbw hb
  have hz_w1 := hb.size
  clear hb
  refine sa rfl rfl ?_
  refine Wn ?_
  refine tN ?_
  refine W_ret ?_
  refine (rT rfl rfl ⟨v, rfl, ?_, hO, hbw⟩).1
  rw [← rise_net hp hsr (cnt_getD hm) hs]
  exact hR
theorem All_nil (w : World) : Calls Try.prog 28 #[.pointer none] w fun e w' => e = .returned (.slice none 0 0) ∧ Below w.heap.size w w' := by
  refine W_enter (args := [.pointer none]) 10 Try.func28 rfl rfl rfl ?_
  refine W_sub [(0, .pointer none)] ?_ ⟨rfl, trivial⟩
  have hbw := Below.refl w.heap.size w
  refine W_rs ?_
  refine sa rfl rfl ?_
  refine Wn ?_
  refine tN ?_
  refine W_seq ?_
  refine W_rs ?_
  refine sm rfl rfl ?_
  refine st (X.nilN rfl) rfl ?_
  refine Wn ?_
  refine tN ?_
  refine W_yes rfl (rfl) ?_
  refine W_rs ?_
  refine sa rfl rfl ?_
  refine Wn ?_
  refine tN ?_
  refine W_ret (tR ?_)
  exact (rT rfl rfl ⟨rfl, hbw⟩).1
theorem Len_any (g b : Nat) (x : List Chk) (w : World) (h : CountsAt w g b x) (hs : ∀ c ∈ x, c.sum.length = 32) :
    Calls Try.prog 29 #[.pointer (some ⟨g, 0, none⟩)] w fun e w' => e = .returned (.int .i64 (netM x).length) ∧ Below w.heap.size w w' := by
  have hB := h.blk
  obtain ⟨m, hM, hm⟩ := h.map
  refine W_enter (args := [.pointer (some ⟨g, 0, none⟩)]) 10 Try.func29 rfl rfl rfl ?_
  refine W_sub [(0, .pointer (some ⟨g, 0, none⟩))] ?_ ⟨rfl, trivial⟩
  have hbw := Below.refl w.heap.size w
  refine W_rs ?_
  refine sa rfl rfl ?_
  refine Wn ?_
  refine tN ?_
  refine W_seq ?_
  refine W_rs ?_
  refine sm rfl rfl ?_
  refine st (X.nilP rfl) rfl ?_
  refine Wn ?_
  refine tN ?_
  refine W_no rfl (rfl) ?_
  refine W_skip ?_
  refine tN ?_
  refine W_rs ?_
  refine sm rfl rfl ?_
  refine st (X.nilChk rfl) rfl ?_
  refine st (X.fa fa111_0 rfl) rfl ?_
  refine st (X.ldL rfl hB Try.underlying108 rfl rfl) rfl ?_
  refine st (X.lenM rfl rfl Try.underlying108 hM) rfl ?_
  refine sa rfl rfl ?_
  refine Wn ?_
  refine tN ?_
  refine W_ret ?_
  exact (rT rfl rfl ⟨by rw [cnt_keys hm hs hM.nodup], hbw⟩).1
theorem Len_nil (w : World) : Calls Try.prog 29 #[.pointer none] w fun e w' => e = .returned (.int .i64 0) ∧ Below w.heap.size w w' := by
  refine W_enter (args := [.pointer none]) 10 Try.func29 rfl rfl rfl ?_
  refine W_sub [(0, .pointer none)] ?_ ⟨rfl, trivial⟩
  have hbw := Below.refl w.heap.size w
  refine W_rs ?_
  refine sa rfl rfl ?_
  refine Wn ?_
  refine tN ?_
  refine W_seq ?_
  refine W_rs ?_
  refine sm rfl rfl ?_
  refine st (X.nilN rfl) rfl ?_
  refine Wn ?_
  refine tN ?_
  refine W_yes rfl (rfl) ?_
  refine W_rs ?_
  refine sa rfl rfl ?_
  refine Wn ?_
  refine tN ?_
  refine W_ret (tR ?_)
  exact (rT rfl rfl ⟨rfl, hbw⟩).1
set_option maxRecDepth 10000 in
theorem Get_any (g b : Nat) (x : List Chk) (k : Sum32) (w : World) (h : CountsAt w g b x) :
    Calls Try.prog 35 #[.pointer (some ⟨g, 0, none⟩), encSum k] w fun e w' => e = .returned (.int .i64 (tot k.1 x)) ∧ Below w.heap.size w w' := by
  have hB := h.blk
  have hgl := hB.lt
  obtain ⟨m, hM, hm⟩ := h.map
  refine W_enter (args := [.pointer (some ⟨g, 0, none⟩), .agg (k.1.map bv).toArray]) 13 Try.func35 rfl rfl rfl ?_
  refine W_sub [(0, .pointer (some ⟨g, 0, none⟩)), (1, .agg (k.1.map bv).toArray)] ?_ ⟨rfl, rfl, trivial⟩
  have hbw := Below.refl w.heap.size w
  refine W_rs ?_
  refine sboxA rfl rfl (fun g3 w1 hB3 hg3 hb hl3 => ?_)
  replace hbw := bthen hbw hb
  have hz_w1 := hb.size
  clear hb
  refine sa rfl rfl ?_
  refine Wn ?_
  refine tN ?_
  refine W_seq ?_
  refine W_rs ?_
  refine sm rfl rfl ?_
  refine st (X.nilP rfl) rfl ?_
  refine Wn ?_
  refine tN ?_
  refine W_no rfl (rfl) ?_
  refine W_skip ?_
  refine tN ?_
  refine W_drsN (fun W_ => ∃ gx, gx = g3 ∧ Blk W_ gx 36 (k.1.map bv).toArray ∧ Blk W_ g 111 #[.map (some b)]) [0, 1, 2, 3, 4, 5, 6] [true, true, true, true, true, false, true] (by kernel_rfl) (by kernel_rfl) (⟨_, rfl, hB3.drew, (hB.bel hbw).drew⟩) ?_
  obtain ⟨w2, hw_⟩ : ∃ w2 : World, w2 = World.drew w1 := ⟨_, rfl⟩
  rw [← hw_]
  have hb : Below w1.heap.size w1 w2 := by rw [hw_]; exact bdrew (Below.refl _ _)
  clear hw_
  have hS := hb
  replace hbw := bthen hbw hb
  replace hB3 := hB3.bel hb
  have hz_w2 := hb.size
  clear hb
  refine oY rfl (fun W_ hW_ => (X.move rfl)) rfl ?_
  refine oY rfl (fun W_ hW_ => (X.nilChk rfl)) rfl ?_
  refine oY rfl (fun W_ hW_ => (X.fa fa111_0 rfl)) rfl ?_
  refine oY rfl (fun W_ hW_ => (X.ldL rfl (by obtain ⟨gx, rfl, h1, h2⟩ := hW_; exact h2) Try.underlying108 rfl rfl)) rfl ?_
  refine oY rfl (fun W_ hW_ => (X.ldBN rfl (by obtain ⟨gx, rfl, h1, h2⟩ := hW_; exact h1) Try.underlying36 rfl (by rw [encSum_size k]; exact siz36))) rfl ?_
  refine oL rfl (fun Q_ hQ_ hP_ => ?_)
  refine st (X.lookIv (z := tot k.1 x) keySum rfl k rfl Try.underlying108 (zint _) (hM.bel hbw) (cnt_getD hm k)) rfl ?_
  refine Wn (hQ_ _ _ (⟨_, rfl, hB3, hB.bel hbw⟩) ?_)
  clear hQ_ hP_ Q_
  refine oY rfl (fun W_ hW_ => (X.assign rfl)) rfl ?_
  refine oN ?_
  refine nN ?_
  refine W_ret ?_
  exact (rT rfl rfl ⟨rfl, hbw⟩).1
theorem Get_nil (k : Sum32) (w : World) : Calls Try.prog 35 #[.pointer none, encSum k] w fun e w' => e = .returned (.int .i64 0) ∧ Below w.heap.size w w' := by
  refine W_enter (args := [.pointer none, .agg (k.1.map bv).toArray]) 13 Try.func35 rfl rfl rfl ?_
  refine W_sub [(0, .pointer none), (1, .agg (k.1.map bv).toArray)] ?_ ⟨rfl, rfl, trivial⟩
  have hbw := Below.refl w.heap.size w
  refine W_rs ?_
  refine sboxA rfl rfl (fun g3 w1 hB3 hg3 hb hl3 => ?_)
  replace hbw := bthen hbw hb
  have hz_w1 := hb.size
  clear hb
  refine sa rfl rfl ?_
  refine Wn ?_
  refine tN ?_
  refine W_seq ?_
  refine W_rs ?_
  refine sm rfl rfl ?_
  refine st (X.nilN rfl) rfl ?_
  refine Wn ?_
  refine tN ?_
  refine W_yes rfl (rfl) ?_
  refine W_rs ?_
  refine sa rfl rfl ?_
  refine Wn ?_
  refine tN ?_
  refine W_ret (tR ?_)
  exact (rT rfl rfl ⟨rfl, hbw⟩).1
theorem Encode_cnt (g b : Nat) (x : List Chk) (w : World) (h : CountsAt w g b x) (hs : ∀ c ∈ x, c.sum.length = 32) (hx : x.length ≤ 100000) :
    Calls Try.prog 32 #[.pointer (some ⟨g, 0, none⟩)] w fun e w' => e = .returned (str (packedM (netM x))) ∧ Below w.heap.size w w' := by
  refine W_enter (args := [.pointer (some ⟨g, 0, none⟩)]) 6 Try.func32 rfl rfl rfl ?_
  refine W_sub [(0, .pointer (some ⟨g, 0, none⟩))] ?_ ⟨rfl, trivial⟩
  have hbw := Below.refl w.heap.size w
  refine W_rs ?_
  refine sa rfl rfl ?_
  refine Wn ?_
  refine tN ?_
  refine W_rs ?_
  refine sm rfl rfl ?_
  refine sc _ Try.func28 rfl (by kernel_rfl) rfl rfl ((All_any g b x _ (h.bel hbw) hs (by omega)).mono ?_)
  rintro e_ w1 ⟨v, rfl, hR, hO, hb⟩
  refine cR ?_
  replace hbw := bthen hbw hb
  have hz_w1 := hb.size
  clear hb
  refine sc _ Try.func63 rfl (by kernel_rfl) rfl rfl ((packed_any v (netM x) _ ⟨hR.reads, netM_sum32 hs⟩ (by have := netM_length x; omega)).mono ?_)
  rintro e_ w2 ⟨rfl, hb⟩
  refine cR ?_
  replace hbw := bthen hbw hb
  have hz_w2 := hb.size
  clear hb
  refine sa rfl rfl ?_
  refine Wn ?_
  refine tN ?_
  refine W_ret ?_
  exact (rT rfl rfl ⟨rfl, hbw⟩).1
theorem Encode_nil (w : World) : Calls Try.prog 32 #[.pointer none] w fun e w' => e = .returned (str (packedM [])) ∧ Below w.heap.size w w' := by
  refine W_enter (args := [.pointer none]) 6 Try.func32 rfl rfl rfl ?_
  refine W_sub [(0, .pointer none)] ?_ ⟨rfl, trivial⟩
  have hbw := Below.refl w.heap.size w
  refine W_rs ?_
  refine sa rfl rfl ?_
  refine Wn ?_
  refine tN ?_
  refine W_rs ?_
  refine sm rfl rfl ?_
  refine sc _ Try.func28 rfl (by kernel_rfl) rfl rfl ((All_nil _).mono ?_)
  rintro e_ w1 ⟨rfl, hb⟩
  refine cR ?_
  replace hbw := bthen hbw hb
  have hz_w1 := hb.size
  clear hb
  refine sc _ Try.func63 rfl (by kernel_rfl) rfl rfl ((packed_any _ [] _ ⟨(Row.nil _ 0 33).reads, fun c hc => by cases hc⟩ (by simp)).mono ?_)
  rintro e_ w2 ⟨rfl, hb⟩
  refine cR ?_
  replace hbw := bthen hbw hb
  have hz_w2 := hb.size
  clear hb
  refine sa rfl rfl ?_
  refine Wn ?_
  refine tN ?_
  refine W_ret ?_
  exact (rT rfl rfl ⟨rfl, hbw⟩).1
def sumLen (l : List Chk) : Int := (l.map (·.len)).sum
theorem sumLen_take {l : List Chk} {j : Nat} {x : Chk} (h : l[j]? = some x) : sumLen (l.take (j + 1)) = sumLen (l.take j) + x.len := by
  unfold sumLen
  rw [take_next' h, List.map_append, List.sum_append]
  simp
theorem sumLen_bound {l : List Chk} (h : ∀ c ∈ l, 0 ≤ c.len ∧ c.len ≤ 4294967296) : 0 ≤ sumLen l ∧ sumLen l ≤ 4294967296 * l.length := by
  induction l with
  | nil => simp [sumLen]
  | cons c l ih =>
    have h1 := h c (by simp)
    have h2 := ih (fun d hd => h d (by simp [hd]))
    have e : sumLen (c :: l) = c.len + sumLen l := by simp [sumLen]
    rw [e, List.length_cons]
    omega
theorem Total_of (p : Option Addr) (l : List Chk) (w : World) (hA : Calls Try.prog 28 #[.pointer p] w fun e w' => ∃ v, e = .returned v ∧ ChksAt w' v l ∧ Below w.heap.size w w') (hl : ∀ c ∈ l, 0 ≤ c.len ∧ c.len ≤ 4294967296) (hll : l.length ≤ 1000000) :
    Calls Try.prog 30 #[.pointer p] w fun e w' => e = .returned (.int .i64 (sumLen l)) ∧ Below w.heap.size w w' := by
  refine W_enter (args := [.pointer p]) 19 Try.func30 rfl rfl rfl ?_
  refine W_sub [(0, .pointer p)] ?_ ⟨rfl, trivial⟩
  have hbw := Below.refl w.heap.size w
  refine W_rs ?_
  refine sa rfl rfl ?_
  refine Wn ?_
  refine tN ?_
  refine W_rs ?_
  refine sa rfl rfl ?_
  refine Wn ?_
  refine tN ?_
  refine W_seq ?_
  refine W_rs ?_
  refine sm rfl rfl ?_
  refine sc _ Try.func28 rfl (by kernel_rfl) rfl rfl ((hA).mono ?_)
  rintro e_ w1 ⟨v, rfl, hR, hb⟩
  refine cR ?_
  replace hbw := bthen hbw hb
  have hz_w1 := hb.size
  clear hb
  obtain ⟨a, cp, rfl, hn, hcp⟩ := hR.1.shape
  obtain ⟨wk, hwk⟩ : ∃ W_ : World, W_ = w1 := ⟨_, rfl⟩
  have hbk : Since wk w1 := by rw [hwk]; exact ⟨Below.refl _ _⟩
  rw [← hwk] at hR
  clear hwk
  refine st (X.lenL rfl rfl Try.underlying22) rfl ?_
  refine sm rfl rfl ?_
  refine Wn ?_
  refine tN ?_
  refine W_block ?_
  refine W_lp (fun nw2_ lw2_ w2 => ∃ j : Nat, nw2_ = l.length - j ∧ lw2_ = ([(3, .int .i64 (sumLen (l.take j))), (7, .slice a l.length cp), (8, .int .i64 l.length), (9, .int .i64 j)] : Env) ∧ (j ≤ l.length) ∧ (Since wk w2) ∧ (Below w.heap.size w w2)) _ ⟨_, ⟨0, rfl, rfl, by omega, hbk, hbw⟩, ⟨rfl, rfl, rfl, rfl, trivial⟩⟩ ?_
  clear hbk hbw
  rintro nw2_ lw2_ w2 ⟨j, rfl, rfl, hj, hbk, hbw⟩
  have hz_w2 := hbw.size
  refine W_rs ?_
  refine st (X.lss rfl rfl) rfl ?_
  refine Wn ?_
  refine tN ?_
  refine W_seq ?_
  refine W_if rfl (fun h10 => ?_) (fun h10 => ?_)
  · first | replace h10 := of_decide_eq_true h10 | replace h10 := of_decide_eq_false (notT h10) | replace h10 := notT h10 | skip
    obtain ⟨x, hx⟩ : ∃ x, l[j]? = some x := ⟨_, List.getElem?_eq_getElem (by omega)⟩
    obtain ⟨g1, o1, c', hv, hg1⟩ := (hR.1.bel hbk.b).some_ (by omega)
    injection hv with e1 _ e3
    subst e1 e3
    have hxs := hR.2 x (List.mem_of_getElem? hx)
    have hxl := hl x (List.mem_of_getElem? hx)
    have hsb := sumLen_bound (l := l.take j) (fun c hc => hl c (List.mem_of_mem_take hc))
    rw [List.length_take] at hsb
    obtain ⟨sv, hsv⟩ : ∃ sv, sumLen (l.take j) = sv := ⟨_, rfl⟩
    rw [hsv] at hsb
    refine W_skip ?_
    refine tN ?_
    refine W_seq ?_
    refine W_block ?_
    refine W_rs ?_
    refine st (X.idxA rfl rfl Try.underlying22 siz57 rfl (by omega)) rfl ?_
    refine st (X.ldN (cs := x.cells) rfl Try.underlying57 rfl (by rw [Chk.cells_length hxs]; exact siz57) ((hR.bel hbk.b).range hx)) rfl ?_
    refine salA inf57 rfl (fun g5 w3 hB5 hg5 hb hl5 => ?_)
    have hpend := hb
    replace hbw := bthen hbw hb
    have hz_w3 := hb.size
    clear hb
    refine ssBN rfl rfl hB5 (by rw [Chk.size hxs]; exact siz57) (by rw [Chk.size hxs]; rfl) (Chk.cells_one x) (fun w4 hB_ hc_ => ?_)
    replace hB5 := hB_
    clear hB_
    replace hpend := bset hpend hc_ (by omega)
    replace hbw := bset hbw hc_ (by omega)
    have hz_w4 := hc_.size
    clear hc_
    refine Wn ?_
    refine tN ?_
    refine W_reg ?_
    refine sm rfl rfl ?_
    refine st (X.fa fa57_1 rfl) rfl ?_
    refine st (X.ldB rfl hB5 Try.underlying3 rfl (Chk.cells_len hxs)) rfl ?_
    refine st (X.add64 rfl rfl (by rw [hsv]; omega)) rfl ?_
    refine sa rfl rfl ?_
    refine Wn ?_
    refine bN ?_
    refine tN ?_
    refine W_reg ?_
    refine st (X.add64 rfl rfl (by omega)) rfl ?_
    refine sm rfl rfl ?_
    refine Wn ?_
    replace hbk := hbk.bel hpend
    clear hpend
    refine tN ⟨_, _, ?_, ⟨j + 1, rfl, rfl, by omega, hbk, hbw⟩, ⟨by rw [sumLen_take hx]; rfl, rfl, rfl, rfl, trivial⟩⟩
    omega
  · first | replace h10 := of_decide_eq_false h10 | replace h10 := of_decide_eq_true (notF h10) | replace h10 := notF h10 | skip
    obtain rfl : j = l.length := by omega
    refine W_exit (tE (tE (bH ?_)))
    refine tN ?_
    refine W_rs ?_
    refine sm rfl rfl ?_
    refine sa rfl rfl ?_
    refine Wn ?_
    refine tN ?_
    refine W_ret ?_
    refine (rT rfl rfl ⟨?_, hbw⟩).1
    rw [List.take_length]
theorem Total_any (g b : Nat) (x : List Chk) (w : World) (h : CountsAt w g b x) (hs : ∀ c ∈ x, c.sum.length = 32) (hx : x.length ≤ 1000000) (hp : ∀ c ∈ netM x, 0 ≤ c.len ∧ c.len ≤ 4294967296) :
    Calls Try.prog 30 #[.pointer (some ⟨g, 0, none⟩)] w fun e w' => e = .returned (.int .i64 (sumLen (netM x))) ∧ Below w.heap.size w w' :=
  Total_of _ (netM x) w ((All_any g b x w h hs hx).mono fun e w' ⟨v, he, hR, _, hb⟩ => ⟨v, he, ⟨hR.reads, netM_sum32 hs⟩, hb⟩) hp (by have := netM_length x; omega)
theorem Total_nil (w : World) : Calls Try.prog 30 #[.pointer none] w fun e w' => e = .returned (.int .i64 0) ∧ Below w.heap.size w w' :=
  Total_of none [] w ((All_nil w).mono fun e w' ⟨he, hb⟩ => ⟨_, he, ⟨(Row.nil _ 0 33).reads, fun c hc => by cases hc⟩, hb⟩) (fun c hc => by cases hc) (by simp)
end Go.Proofs.Ytnagmpnpgekhfaa
