/- disk: Copy; what nil disks answer. -/
import Derived.Test.YtnijmegalgoipaaDoorDiskJ
namespace Go.Proofs.YtnijmegalgoipaaDoor
open Go.RowKit
section
variable {κ ν : Type} [DecidableEq κ] {w : World} {r b : Nat} {enc : κ → Value} {encv : ν → Value} {m : List (κ × ν)} {pre : List κ} {P : Program}
/-- a step of the iterator, told at once -/
theorem IterAt.next1 (h : IterAt w r b enc encv m pre) (ty : TypeId) : ∃ (c : Bool) (arr : Array Value) (w' : World), (Instr.next (.pointer (some ⟨r, 0, none⟩)) false ty).run P w = .ok (.tuple arr) w' ∧ arr.toList[0]? = some (.bool c) ∧ Chg (fun q => q = r) w w' ∧
    (c = false → pre.Perm (m.map (·.1)) ∧ w' = w) ∧ (c = true → ∃ k v, k ∉ pre ∧ (k, v) ∈ m ∧ (Instr.entry (.pointer (some ⟨r, 0, none⟩))).run P w' = .ok (.tuple #[enc k, encv v]) w' ∧ IterAt w' r b enc encv m (pre ++ [k])) := by
  rcases h.next (P := P) ty with ⟨hp, hr⟩ | ⟨k, v, w2, hk, hkv, hr, hent, hI2, hC⟩
  · exact ⟨false, _, w, hr, rfl, Chg.refl _ _, (fun _ => ⟨hp, rfl⟩), (fun h => by cases h)⟩
  · exact ⟨true, _, w2, hr, rfl, hC, (fun h => by cases h), (fun _ => ⟨k, v, hk, hkv, hent, hI2⟩)⟩
end
theorem IterAt.chg {κ ν : Type} [DecidableEq κ] {w w' : World} {r b : Nat} {enc : κ → Value} {encv : ν → Value} {m : List (κ × ν)} {pre : List κ} {T : Nat → Prop} (h : IterAt w r b enc encv m pre) (hC : Chg T w w') (h1 : ¬ T r) (h2 : ¬ T b) : IterAt w' r b enc encv m pre := by
  obtain ⟨ts, clock, seen, a1, a2, a3, a4, a5, a6⟩ := h.obj
  exact ⟨h.nodup, h.mem, h.pnod, ts, clock, seen, a1, a2, a3, (hC.block _ (Array.getElem?_eq_some_iff.1 a4).1 h2).trans a4, (hC.block _ (Array.getElem?_eq_some_iff.1 a5).1 h1).trans a5, a6⟩
theorem DiskIn.apartI {w w' : World} {g b gi bb : Nat} {D : DiskD} {rs : List (Key × FRec)} {S : Nat → Prop} {ν : Type} {encv : ν → Value} {m : List (Key × ν)} {pre : List Key} (h : DiskIn w g b D rs S) (hI : IterAt w gi bb str encv m pre) (hC : Chg (fun q => q = gi) w w') : DiskIn w' g b D rs S := by
  obtain ⟨ts, clock, seen, h1, h2, h3, h4, h5, h6⟩ := hI.obj
  obtain ⟨ts', clock', _, _, _, h7⟩ := h.map.obj
  have hB : w.heap[g]? = some (.cells (diskCells b D) 88 (0, 0)) := h.blk
  refine ⟨h.blk.chg hC (fun e => ?_), h.map.chg hC (fun e => ?_), h.files, fun n r hr => (h.at_ n r hr).chg hC (fun k hk e => ?_), h.apart, h.inS, h.inR⟩
  · rw [e, h5] at hB; cases hB
  · rw [e, h5] at h7; cases h7
  · obtain ⟨cs', t', fz, e', ht⟩ := (h.at_ n r hr).cells hk
    rw [e, h5] at e'
    cases e'
theorem DiskIn.tight {w : World} {g b : Nat} {D : DiskD} {rs : List (Key × FRec)} {S : Nat → Prop} (h : DiskIn w g b D rs S) : DiskIn w g b D rs (fun k => S k ∧ k < w.heap.size) :=
  ⟨h.blk, h.map, h.files, h.at_, h.apart, ⟨⟨h.inS.1, h.blk.lt⟩, h.inS.2, h.map.lt⟩, fun n r k hr hk => ⟨h.inR n r k hr hk, (h.at_ n r hr).lt hk⟩⟩
theorem bdiskC (b : Nat) (l u r f : Int) (s : Bool) (w : World) : (Instr.build 88 #[(0, .map (some b)), (1, .int .i64 l), (2, .int .i64 u), (3, .int .i64 r), (4, .bool s), (5, .int .i64 f)]).run Tryd.prog w = .ok (.agg #[.map (some b), .int .i64 l, .int .i64 u, .int .i64 r, .bool s, .int .i64 f]) w := by kernel_rfl
theorem bfile3 (a1 a2 a3 : Option Addr) (n1 n2 n3 c1 c2 c3 : Nat) (w : World) : (Instr.build 95 #[(0, .slice a1 n1 c1), (1, .slice a2 n2 c2), (2, .slice a3 n3 c3)]).run Tryd.prog w = .ok (.agg #[.slice a1 n1 c1, .slice a2 n2 c2, .slice a3 n3 c3]) w := by kernel_rfl
theorem Rot_nil (n : Key) (i : Int) (c : UInt8) (w : World) : Calls Tryd.prog 64 #[.pointer none, str n, .int .i64 i, .int .u8 c.toNat] w fun e w' => e = .returned (.int .i64 2) ∧ Below w.heap.size w w' := by
  refine W_enter (args := [.pointer none, str n, .int .i64 i, .int .u8 c.toNat]) 42 Tryd.func64 rfl rfl rfl ?_
  refine W_sub [(0, .pointer none), (1, str n), (2, .int .i64 i), (3, .int .u8 c.toNat)] ?_ ⟨rfl, rfl, rfl, rfl, trivial⟩
  have hbw := Below.refl w.heap.size w
  refine W_rs ?_
  refine sa rfl rfl ?_
  refine Wn ?_
  refine tN ?_
  refine W_rs ?_
  refine sm rfl rfl ?_
  refine sm rfl rfl ?_
  refine sc _ Tryd.func57 rfl (by kernel_rfl) rfl rfl ((find_nil n _).mono ?_)
  rintro e_ w1 ⟨rfl, hb⟩
  refine cR ?_
  replace hbw := bthen hbw hb
  have hz_w1 := hb.size
  clear hb
  refine sm rfl rfl ?_
  refine st (X.ext rfl rfl) rfl ?_
  refine st (X.ext rfl rfl) rfl ?_
  refine sa rfl rfl ?_
  refine sa rfl rfl ?_
  refine Wn ?_
  refine tN ?_
  refine W_seq ?_
  refine W_block ?_
  refine W_rs ?_
  refine sm rfl rfl ?_
  refine st (X.neq rfl rfl) rfl ?_
  refine sa rfl rfl ?_
  refine Wn ?_
  refine tN ?_
  refine W_yes rfl (rfl) ?_
  refine W_rs ?_
  refine sm rfl rfl ?_
  refine sa rfl rfl ?_
  refine Wn ?_
  refine tN ?_
  refine W_ret (bR (tR ?_))
  exact (rT rfl rfl ⟨rfl, hbw⟩).1
theorem Crash_nil (v : Value) (w : World) : Calls Tryd.prog 28 #[.pointer none, v] w fun e w' => e = .returned (.tuple #[]) ∧ Below w.heap.size w w' := by
  refine W_enter (args := [.pointer none, v]) 56 Tryd.func28 rfl rfl rfl ?_
  refine W_sub [(0, .pointer none), (1, v)] ?_ ⟨rfl, rfl, trivial⟩
  have hbw := Below.refl w.heap.size w
  refine W_seq ?_
  refine W_rs ?_
  refine sm rfl rfl ?_
  refine st (X.dEq rfl) rfl ?_
  refine Wn ?_
  refine tN ?_
  refine W_yes rfl (rfl) ?_
  refine W_ret (tR ?_)
  exact (r0 rfl ⟨rfl, hbw⟩).1
theorem Copy_nil (w : World) : Calls Tryd.prog 42 #[.pointer none] w fun e w' => e = .returned (.pointer none) ∧ Below w.heap.size w w' := by
  refine W_enter (args := [.pointer none]) 64 Tryd.func42 rfl rfl rfl ?_
  refine W_sub [(0, .pointer none)] ?_ ⟨rfl, trivial⟩
  have hbw := Below.refl w.heap.size w
  refine W_rs ?_
  refine sa rfl rfl ?_
  refine Wn ?_
  refine tN ?_
  refine W_seq ?_
  refine W_rs ?_
  refine sm rfl rfl ?_
  refine st (X.dEq rfl) rfl ?_
  refine Wn ?_
  refine tN ?_
  refine W_yes rfl (rfl) ?_
  refine W_rs ?_
  refine sa rfl rfl ?_
  refine Wn ?_
  refine tN ?_
  refine W_ret (tR ?_)
  exact (rT rfl rfl ⟨rfl, hbw⟩).1
set_option maxRecDepth 10000 in
theorem Copy_any (g : Nat) (D : DiskD) (S : Nat → Prop) (w : World) (h : DiskAt w g D S) (hok : DOk D) (hbud : DBud D) :
    Calls Tryd.prog 42 #[.pointer (some ⟨g, 0, none⟩)] w fun e w' => ∃ g' S', e = .returned (.pointer (some ⟨g', 0, none⟩)) ∧ DiskAt w' g' D S' ∧ (∀ k, S' k → w.heap.size ≤ k ∧ k < w'.heap.size) ∧ Below w.heap.size w w' := by
  obtain ⟨b, rs, h⟩ := h
  have hlt := h.blk.lt
  have hB : Blk w g 88 #[.map (some b), .int .i64 D.limit, .int .i64 D.used, .int .i64 D.refused, .bool D.stops, .int .i64 D.left] := h.blk
  refine W_enter (args := [.pointer (some ⟨g, 0, none⟩)]) 64 Tryd.func42 rfl rfl rfl ?_
  refine W_sub [(0, .pointer (some ⟨g, 0, none⟩))] ?_ ⟨rfl, trivial⟩
  have hbw := Below.refl w.heap.size w
  refine W_rs ?_
  refine sa rfl rfl ?_
  refine Wn ?_
  refine tN ?_
  refine W_seq ?_
  refine W_rs ?_
  refine sm rfl rfl ?_
  refine st (X.dEq rfl) rfl ?_
  refine Wn ?_
  refine tN ?_
  refine W_no rfl (rfl) ?_
  refine W_skip ?_
  refine tN ?_
  refine W_drsN (fun W_ => Blk W_ g 88 #[.map (some b), .int .i64 D.limit, .int .i64 D.used, .int .i64 D.refused, .bool D.stops, .int .i64 D.left]) [1, 2, 3, 4, 5, 6, 7, 8, 9, 10, 11, 12, 13, 14, 15, 16, 17, 18, 19, 20, 0, 21, 22, 23] [true, true, true, true, true, true, true, true, true, true, true, true, true, true, true, true, true, true, true, true, false, true, false, true] (by kernel_rfl) (by kernel_rfl) (hB.drew) ?_
  obtain ⟨w1, hw_⟩ : ∃ w1 : World, w1 = World.drew w := ⟨_, rfl⟩
  rw [← hw_]
  have hb : Below w.heap.size w w1 := by rw [hw_]; exact bdrew (Below.refl _ _)
  clear hw_
  have hS := hb
  replace hbw := bthen hbw hb
  replace hB := hB.bel hb
  have hz_w1 := hb.size
  clear hb
  refine oY rfl (fun W_ hW_ => (X.move rfl)) rfl ?_
  refine oY rfl (fun W_ hW_ => (X.nilChk rfl)) rfl ?_
  refine oY rfl (fun W_ hW_ => (X.fa fa88_1 rfl)) rfl ?_
  refine oY rfl (fun W_ hW_ => (X.ldL rfl hW_ Tryd.underlying3 rfl rfl)) rfl ?_
  refine oY rfl (fun W_ hW_ => (X.move rfl)) rfl ?_
  refine oY rfl (fun W_ hW_ => (X.nilChk rfl)) rfl ?_
  refine oY rfl (fun W_ hW_ => (X.fa fa88_2 rfl)) rfl ?_
  refine oY rfl (fun W_ hW_ => (X.ldL rfl hW_ Tryd.underlying3 rfl rfl)) rfl ?_
  refine oY rfl (fun W_ hW_ => (X.move rfl)) rfl ?_
  refine oY rfl (fun W_ hW_ => (X.nilChk rfl)) rfl ?_
  refine oY rfl (fun W_ hW_ => (X.fa fa88_3 rfl)) rfl ?_
  refine oY rfl (fun W_ hW_ => (X.ldL rfl hW_ Tryd.underlying3 rfl rfl)) rfl ?_
  refine oY rfl (fun W_ hW_ => (X.move rfl)) rfl ?_
  refine oY rfl (fun W_ hW_ => (X.nilChk rfl)) rfl ?_
  refine oY rfl (fun W_ hW_ => (X.fa fa88_4 rfl)) rfl ?_
  refine oY rfl (fun W_ hW_ => (X.ldL rfl hW_ Tryd.underlying4 rfl rfl)) rfl ?_
  refine oY rfl (fun W_ hW_ => (X.move rfl)) rfl ?_
  refine oY rfl (fun W_ hW_ => (X.nilChk rfl)) rfl ?_
  refine oY rfl (fun W_ hW_ => (X.fa fa88_5 rfl)) rfl ?_
  refine oY rfl (fun W_ hW_ => (X.ldL rfl hW_ Tryd.underlying3 rfl rfl)) rfl ?_
  refine oL rfl (fun Q_ hQ_ hP_ => ?_)
  refine smm (κ := Key) (enc := str) (encv := encPtr) rfl (fun b2 w2 hM2 hb2g hb hb2l => ?_)
  replace hbw := bthen hbw hb
  replace hB := hB.bel hb
  have hz3 := hb.size
  clear hb
  refine Wn (hQ_ _ _ (hB) ?_)
  clear hQ_ hP_ Q_
  refine oY rfl (fun W_ hW_ => (X.bld rfl (bdiskC _ _ _ _ _ _ _))) rfl ?_
  refine oL rfl (fun Q_ hQ_ hP_ => ?_)
  refine sboxA rfl rfl (fun g30 w3 hB30 hg30 hb hl30 => ?_)
  replace hbw := bthen hbw hb
  replace hB := hB.bel hb
  replace hM2 := hM2.bel hb
  have hz_w3 := hb.size
  clear hb
  refine Wn (hQ_ _ _ (hB) ?_)
  clear hQ_ hP_ Q_
  refine oY rfl (fun W_ hW_ => (X.assign rfl)) rfl ?_
  refine oN ?_
  refine nN ?_
  refine W_seq ?_
  refine W_rs ?_
  refine sm rfl rfl ?_
  refine st (X.nilChk rfl) rfl ?_
  refine st (X.fa fa88_0 rfl) rfl ?_
  refine st (X.ldL rfl hB Tryd.underlying86 rfl rfl) rfl ?_
  have hD0 : DiskIn w3 g30 b2 { D with files := [] } [] (fun k => w.heap.size ≤ k) := ⟨hB30, hM2, fun n => rfl, fun n r hr => (by cases hr), fun n m r s k hr => (by cases hr), ⟨by omega, by omega⟩, fun n r k hr => (by cases hr)⟩
  obtain ⟨gi, hgi⟩ : ∃ gi, w3.heap.size = gi := ⟨_, rfl⟩
  obtain ⟨w4, hr1, hI1, hb1⟩ := (h.map.bel hbw).iter (P := Tryd.prog) 86 Tryd.underlying86
  rw [hgi] at hr1 hI1
  refine st (w' := w4) (v := .pointer (some ⟨gi, 0, none⟩)) (fun ρ hρ => by unfold execOp; simp only [hρ (.tmp 34) _ rfl, Sem.run_bind, hr1, Result.andThen_ok, Sem.run_pure]) rfl ?_
  replace hbw := bthen hbw hb1
  replace hB := hB.bel hb1
  replace hB30 := hB30.bel hb1
  replace hM2 := hM2.bel hb1
  replace hD0 := hD0.bel hb1
  have hgig : w.heap.size ≤ gi := by have := hbw.size; omega
  have hz4 := hb1.size
  clear hb1 hr1
  refine Wn ?_
  refine tN ?_
  refine W_block ?_
  refine W_lp (fun nw5_ lw5_ w5 => ∃ pre : List Key, ∃ rs2 : List (Key × FRec), nw5_ = rs.length - pre.length ∧ lw5_ = ([(3, .pointer (some ⟨g30, 0, none⟩)), (35, .pointer (some ⟨gi, 0, none⟩))] : Env) ∧ (Below w.heap.size w w5) ∧ (IterAt w5 gi b str encPtr (rs.map fun p => (p.1, p.2.blk)) pre) ∧ (DiskIn w5 g30 b2 { D with files := rs2.map fun p => (p.1, p.2.f) } rs2 (fun k => w.heap.size ≤ k)) ∧ (∀ q, (mget rs2 q).map FRec.f = if q ∈ pre then (mget rs q).map FRec.f else none) ∧ (gi ≠ g30 ∧ gi ≠ b2)) _ ⟨_, ⟨[], [], rfl, rfl, hbw, hI1, hD0, (fun q => by simp [mget]), ⟨by omega, by omega⟩⟩, ⟨rfl, rfl, trivial⟩⟩ ?_
  clear hbw
  rintro nw5_ lw5_ w5 ⟨pre, rs2, rfl, rfl, hbw, hI, hD2, hfl, hgb⟩
  have hz_w5 := hbw.size
  refine W_rs ?_
  obtain ⟨c, arr, w6, hr5, ha0, hC5, hcF, hcT⟩ := hI.next1 (P := Tryd.prog) 0
  refine st (w' := w6) (v := .tuple arr) (fun ρ hρ => by unfold execOp; simp only [hρ (.tmp 35) _ rfl, Sem.run_bind, hr5, Result.andThen_ok, Sem.run_pure]) rfl ?_
  have hD5 := hD2.apartI hI hC5
  replace hbw := bset hbw hC5 hgig
  have hz5 := hC5.size
  clear hr5 hD2
  have hD2 := hD5
  clear hD5
  refine st (X.ext rfl ha0) rfl ?_
  refine Wn ?_
  refine tN ?_
  refine W_seq ?_
  refine W_if rfl (fun h37 => ?_) (fun h37 => ?_)
  · first | replace h37 := of_decide_eq_true h37 | replace h37 := of_decide_eq_false (notT h37) | replace h37 := notT h37 | skip
    obtain ⟨k, vb, hkp, hkm, hent, hI2⟩ := hcT h37
    obtain ⟨r, hr, rfl⟩ : ∃ r, mget rs k = some r ∧ r.blk = vb := by
      obtain ⟨p, hp, he⟩ := List.mem_map.1 hkm
      injection he with e1 e2
      exact ⟨p.2, by rw [← e1]; exact mget_of_mem h.keys hp, e2⟩
    have hFA := (h.at_ k r hr).bel hbw
    have hfo : mget D.files k = some r.f := by rw [h.files, hr]; rfl
    obtain ⟨hl1, hl2, _⟩ := hok.len hfo
    have hl3 := (hbud.pend k _ hfo).2
    have hb2l2 := hD2.map.lt
    have hgl2 := hD2.blk.lt
    have hrl := (h.at_ k r hr).blk.lt
    have hbl := h.map.lt
    have hF : Blk w6 r.blk 95 #[r.vl, r.vn, r.vp] := hFA.blk
    have hB2 : Blk w6 g30 88 #[.map (some b2), .int .i64 D.limit, .int .i64 D.used, .int .i64 D.refused, .bool D.stops, .int .i64 D.left] := hD2.blk
    have hM2 := hD2.map
    have hnk : k ∉ rs2.map (·.1) := by
      have := hfl k
      rw [if_neg hkp] at this
      cases hg : mget rs2 k with
      | none => exact mget_none.1 hg
      | some x => rw [hg] at this; cases this
    refine W_skip ?_
    refine tN ?_
    refine W_block ?_
    refine W_rs ?_
    refine st (w' := w6) (v := .tuple #[str k, encPtr r.blk]) (fun ρ hρ => by unfold execOp; simp only [hρ (.tmp 35) _ rfl, Sem.run_bind, hent, Result.andThen_ok, Sem.run_pure]) rfl ?_
    obtain ⟨w7, hw7⟩ : ∃ w7, w6 = w7 := ⟨_, rfl⟩
    have hCc : Chg (fun q => q = g30 ∨ q = b2) w7 w6 := hw7 ▸ Chg.refl _ _
    have hsz7 : w7.heap.size = w6.heap.size := by rw [hw7]
    rw [hw7] at hD2
    refine st (X.ext rfl rfl) rfl ?_
    refine st (X.ext rfl rfl) rfl ?_
    refine sa rfl rfl ?_
    refine sa rfl rfl ?_
    refine Wn ?_
    refine tN ?_
    refine W_drN (fun W_ => Blk W_ g30 88 #[.map (some b2), .int .i64 D.limit, .int .i64 D.used, .int .i64 D.refused, .bool D.stops, .int .i64 D.left] ∧ Blk W_ r.blk 95 #[r.vl, r.vn, r.vp]) [0, 1, 2, 3, 4, 5, 6, 7, 8, 10, 11, 12, 13, 15, 16, 17, 18, 9, 14, 19, 20, 21, 22] [true, true, true, true, true, true, true, true, true, true, true, true, true, true, true, true, true, false, false, false, true, false, false] (by kernel_rfl) (by kernel_rfl) (⟨hB2.drew, hF.drew⟩) ?_
    obtain ⟨w7, hw_⟩ : ∃ w7 : World, w7 = World.drew w6 := ⟨_, rfl⟩
    rw [← hw_]
    have hb : Below w6.heap.size w6 w7 := by rw [hw_]; exact bdrew (Below.refl _ _)
    clear hw_
    have hS := hb
    replace hbw := bthen hbw hb
    replace hCc := hCc.bel hb
    replace hF := hF.bel hb
    replace hB2 := hB2.bel hb
    replace hM2 := hM2.bel hb
    replace hFA := hFA.bel hb
    replace hI2 := hI2.bel hb
    have hz_w7 := hb.size
    clear hb
    refine oY rfl (fun W_ hW_ => (X.move rfl)) rfl ?_
    refine oY rfl (fun W_ hW_ => (X.nilChk rfl)) rfl ?_
    refine oY rfl (fun W_ hW_ => (X.fa fa88_0 rfl)) rfl ?_
    refine oY rfl (fun W_ hW_ => (X.ldL rfl hW_.1 Tryd.underlying86 rfl rfl)) rfl ?_
    refine oY rfl (fun W_ hW_ => (X.move rfl)) rfl ?_
    refine oY rfl (fun W_ hW_ => (X.move rfl)) rfl ?_
    refine oY rfl (fun W_ hW_ => (X.nilChk rfl)) rfl ?_
    refine oY rfl (fun W_ hW_ => (X.fa fa95_0 rfl)) rfl ?_
    refine oY rfl (fun W_ hW_ => (X.ldL rfl hW_.2 Tryd.underlying92 rfl rfl)) rfl ?_
    refine oY rfl (fun W_ hW_ => (X.move rfl)) rfl ?_
    refine oY rfl (fun W_ hW_ => (X.nilChk rfl)) rfl ?_
    refine oY rfl (fun W_ hW_ => (X.fa fa95_1 rfl)) rfl ?_
    refine oY rfl (fun W_ hW_ => (X.ldL rfl hW_.2 Tryd.underlying92 rfl rfl)) rfl ?_
    refine oY rfl (fun W_ hW_ => (X.move rfl)) rfl ?_
    refine oY rfl (fun W_ hW_ => (X.nilChk rfl)) rfl ?_
    refine oY rfl (fun W_ hW_ => (X.fa fa95_2 rfl)) rfl ?_
    refine oY rfl (fun W_ hW_ => (X.ldL rfl hW_.2 Tryd.underlying93 rfl rfl)) rfl ?_
    refine oL rfl (fun Q_ hQ_ hP_ => ?_)
    refine sc _ Tryd.func66 rfl (by kernel_rfl) rfl rfl ((CloneB_any r.vl r.f.last _ hFA.last (by omega)).mono ?_)
    rintro e_ w8 ⟨v1, rfl, hV1, hO1, hb⟩
    refine cR ?_
    replace hbw := bthen hbw hb
    replace hCc := hCc.bel hb
    replace hF := hF.bel hb
    replace hB2 := hB2.bel hb
    replace hM2 := hM2.bel hb
    replace hFA := hFA.bel hb
    replace hI2 := hI2.bel hb
    have hz_w8 := hb.size
    clear hb
    refine Wn (hQ_ _ _ (⟨hB2, hF⟩) ?_)
    clear hQ_ hP_ Q_
    have hL1 : ∀ q, v1.ownBlock = some q → q < w8.heap.size := fun q hq => hV1.lt q hq
    refine oL rfl (fun Q_ hQ_ hP_ => ?_)
    refine sc _ Tryd.func66 rfl (by kernel_rfl) rfl rfl ((CloneB_any r.vn r.f.now _ hFA.now (by omega)).mono ?_)
    rintro e_ w9 ⟨v2, rfl, hV2, hO2, hb⟩
    refine cR ?_
    replace hbw := bthen hbw hb
    replace hCc := hCc.bel hb
    replace hF := hF.bel hb
    replace hB2 := hB2.bel hb
    replace hM2 := hM2.bel hb
    replace hFA := hFA.bel hb
    replace hI2 := hI2.bel hb
    replace hV1 := hV1.bel hb
    have hz_w9 := hb.size
    clear hb
    refine Wn (hQ_ _ _ (⟨hB2, hF⟩) ?_)
    clear hQ_ hP_ Q_
    refine oL rfl (fun Q_ hQ_ hP_ => ?_)
    refine sc _ Tryd.func67 rfl (by kernel_rfl) rfl rfl ((CloneW_any r.vp r.f.pend _ hFA.pend hl3).mono ?_)
    rintro e_ w10 ⟨v3, rfl, hV3, hO3, hb⟩
    refine cR ?_
    replace hbw := bthen hbw hb
    replace hCc := hCc.bel hb
    replace hF := hF.bel hb
    replace hB2 := hB2.bel hb
    replace hM2 := hM2.bel hb
    replace hFA := hFA.bel hb
    replace hI2 := hI2.bel hb
    replace hV1 := hV1.bel hb
    replace hV2 := hV2.bel hb
    have hz_w10 := hb.size
    clear hb
    refine Wn (hQ_ _ _ (⟨hB2, hF⟩) ?_)
    clear hQ_ hP_ Q_
    obtain ⟨a1, c1, hv1, _⟩ := hV1.shape
    obtain ⟨a2, c2, hv2, _⟩ := hV2.shape
    obtain ⟨a3, c3, hv3, _⟩ := hV3.shape
    have hap12 : ∀ q, v1.ownBlock = some q → v2.ownBlock ≠ some q := fun q h1 h2 => by
      have := hL1 q h1
      have := hO2 q h2
      omega
    subst hv1 hv2 hv3
    refine oY rfl (fun W_ hW_ => (X.bld rfl (bfile3 _ _ _ _ _ _ _ _ _ _))) rfl ?_
    refine oL rfl (fun Q_ hQ_ hP_ => ?_)
    refine sboxA rfl rfl (fun g62 w11 hB62 hg62 hb hl62 => ?_)
    replace hbw := bthen hbw hb
    replace hCc := hCc.bel hb
    replace hF := hF.bel hb
    replace hB2 := hB2.bel hb
    replace hM2 := hM2.bel hb
    replace hI2 := hI2.bel hb
    replace hV1 := hV1.bel hb
    replace hV2 := hV2.bel hb
    replace hV3 := hV3.bel hb
    have hz21 := hb.size
    clear hb
    refine Wn (hQ_ _ _ (⟨hB2, hF⟩) ?_)
    clear hQ_ hP_ Q_
    refine oL rfl (fun Q_ hQ_ hP_ => ?_)
    refine smu (keyStr Tryd.underlying9) rfl k g62 rfl rfl Tryd.underlying86 hM2 (fun w12 hM3 hC3 => ?_)
    have hcx := hCc.next hC3 (fun i hi => .inl (.inr hi))
    have hg2 : g30 ≠ b2 := hD2.gb
    have hB3 := hB2.chg hC3 (by omega)
    have hF3 := hF.chg hC3 (by omega)
    have hI3 := hI2.chg hC3 (fun e => hgb.2 e) (by omega)
    have hz22 := hC3.size
    have hD3 : DiskIn w12 g30 b2 { D with files := (mput rs2 k ⟨g62, .slice a1 r.f.last.length c1, .slice a2 r.f.now.length c2, .slice a3 r.f.pend.length c3, r.f⟩).map fun p => (p.1, p.2.f) } (mput rs2 k ⟨g62, .slice a1 r.f.last.length c1, .slice a2 r.f.now.length c2, .slice a3 r.f.pend.length c3, r.f⟩) (fun k => w.heap.size ≤ k) := by
      refine (hD2.add (D' := { D with files := (mput rs2 k ⟨g62, .slice a1 r.f.last.length c1, .slice a2 r.f.now.length c2, .slice a3 r.f.pend.length c3, r.f⟩).map fun p => (p.1, p.2.f) }) (r' := ⟨g62, .slice a1 r.f.last.length c1, .slice a2 r.f.now.length c2, .slice a3 r.f.pend.length c3, r.f⟩) hcx hB3 hM3 (fun q => ?_) ⟨hB62.chg hC3 (by omega), hV1.chg hC3 (fun q hq e => ?_), hV2.chg hC3 (fun q hq e => ?_), hV3.chg hC3 (fun q hq e => ?_), hap12⟩ (fun q hq => ?_)).mono (Ext.from (by omega))
      · show mget (List.map _ (mput rs2 k _)) q = _
        rw [mput_map FRec.f]
        exact mget_mput _ _ _ _
      · have := hO1 q hq; omega
      · have := hO2 q hq; omega
      · have := hO3 q hq; omega
      · rcases hq with hq | hq | hq | hq
        · have hq : q = g62 := hq
          omega
        · have := hO1 q hq; omega
        · have := hO2 q hq; omega
        · have := hO3 q hq; omega
    have hfl3 : ∀ q, (mget (mput rs2 k ⟨g62, .slice a1 r.f.last.length c1, .slice a2 r.f.now.length c2, .slice a3 r.f.pend.length c3, r.f⟩) q).map FRec.f = if q ∈ pre ++ [k] then (mget rs q).map FRec.f else none := fun q => by
      rw [mget_mput]
      by_cases hq : q = k
      · subst hq
        rw [if_pos rfl, if_pos (by simp), hr]
        rfl
      · rw [if_neg hq, hfl q]
        by_cases hqp : q ∈ pre
        · rw [if_pos hqp, if_pos (by simp [hqp])]
        · rw [if_neg hqp, if_neg (by simp [hqp, hq])]
    have hbw3 := bset hbw hC3 (by omega)
    clear hB2 hF hI hI2 hD2 hfl hM2 hbw
    have hB2 := hB3
    have hF := hF3
    have hI := hI3
    have hD2 := hD3
    have hfl := hfl3
    have hbw := hbw3
    refine Wn (hQ_ _ _ (⟨hB2, hF⟩) ?_)
    clear hQ_ hP_ Q_
    refine oN ?_
    refine nN ?_
    refine bN ?_
    refine tN ⟨_, _, ?_, ⟨pre ++ [k], mput rs2 k ⟨g62, .slice a1 r.f.last.length c1, .slice a2 r.f.now.length c2, .slice a3 r.f.pend.length c3, r.f⟩, rfl, rfl, hbw, hI, hD3, hfl3, hgb⟩, ⟨rfl, rfl, trivial⟩⟩
    have hmo := hI.more; rw [List.length_map] at hmo; rw [List.length_append, List.length_singleton]; omega
  · first | replace h37 := of_decide_eq_false h37 | replace h37 := of_decide_eq_true (notF h37) | replace h37 := notF h37 | skip
    obtain ⟨hperm, hww⟩ := hcF h37
    have hfin : ∀ n, mget D.files n = (mget rs2 n).map FRec.f := fun n => by
      rw [hfl n]
      split
      · exact h.files n
      · rename_i hn
        have h1 : n ∉ (rs.map fun p => (p.1, p.2.blk)).map (·.1) := fun e => hn (hperm.mem_iff.2 e)
        rw [List.map_map] at h1
        rw [h.files, mget_none.2 h1]
        rfl
    refine W_exit (tE (tE (bH ?_)))
    refine tN ?_
    refine W_rs ?_
    refine sm rfl rfl ?_
    refine sa rfl rfl ?_
    refine Wn ?_
    refine tN ?_
    refine W_ret ?_
    exact (rT rfl rfl ⟨g30, _, rfl, ⟨b2, rs2, DiskIn.tight ⟨hD2.blk, hD2.map, hfin, hD2.at_, hD2.apart, hD2.inS, hD2.inR⟩⟩, fun k hk => hk, hbw⟩).1
end Go.Proofs.YtnijmegalgoipaaDoor
