/- law01: awake, the chapter's example. -/
import Derived.Test.YtnijmegalgoipaaGreatDoorDisk2
namespace Go.Proofs.YtnijmegalgoipaaGreatDoor
open Go.RowKit
/-- a disk whose blocks are not below B -/
structure Own (B : Nat) (w : World) (g : Nat) (D : DiskD) (S : Nat → Prop) : Prop where
  at_ : DiskAt w g D S
  lo : ∀ k, S k → B ≤ k ∧ k < w.heap.size
section
variable {B g c : Nat} {w w' w'' : World} {D D' E : DiskD} {S T : Nat → Prop}
theorem Own.bel (h : Own B w g D S) (hb : Below w.heap.size w w') : Own B w' g D S := ⟨h.at_.bel hb, fun k hk => by have := h.lo k hk; have := hb.size; omega⟩
theorem Own.step (h : Own B w g D S) (hD : DiskAt w' g D' (Ext S w w')) (hC : Chg S w w') (hB : B ≤ w.heap.size) : Own B w' g D' (Ext S w w') :=
  ⟨hD, fun k hk => by
    have := hC.size
    rcases hk with hk | hk
    · have := h.lo k hk; omega
    · omega⟩
theorem Own.same (h : Own B w g D S) (hD : DiskAt w' g D' S) (hC : Chg S w w') : Own B w' g D' S := ⟨hD, fun k hk => by have := hC.size; have := h.lo k hk; omega⟩
theorem Own.other (h : Own B w c E T) (hC : Chg S w w') (hd : ∀ k, S k → ¬ T k) : Own B w' c E T := ⟨h.at_.chg hC (fun k hk e => hd k e hk), fun k hk => by have := h.lo k hk; have := hC.size; omega⟩
theorem Own.ext (h : Own B w c E T) (hd : ∀ k, S k → ¬ T k) : ∀ k, Ext S w w' k → ¬ T k := Ext.apart hd (fun k hk => (h.lo k hk).2)
theorem bchg {w0 : World} (hb : Below w0.heap.size w0 w) (hc : Chg S w w') (hs : ∀ k, S k → w0.heap.size ≤ k) : Below w0.heap.size w0 w' :=
  ⟨hc.os.trans hb.os, hc.tape.trans hb.tape, hc.output.trans hb.output, Nat.le_trans hb.size hc.size, fun k hk => (hc.block k (Nat.lt_of_lt_of_le hk hb.size) (fun e => by have := hs k e; omega)).trans (hb.block k hk)⟩
theorem Read_is {n : Key} {i k e : Int} {s : List UInt8} (h : DiskAt w g D S) (hok : DOk D) (hr : readM D n i k = (s, e)) : Calls Tryz.prog 45 #[.pointer (some ⟨g, 0, none⟩), str n, .int .i64 i, .int .i64 k] w fun e_ w' => e_ = .returned (.tuple #[str s, .int .i64 e]) ∧ Below w.heap.size w w' := by
  have := Read_any g D S n i k w h hok
  rw [hr] at this
  exact this
end
/- ---------- the example's disks ---------- -/
def aw1 : DiskD := (createM (newM 100) [97]).2
def aw2 : DiskD := (appendM aw1 [97] [120, 121]).2
def aw3 : DiskD := (syncM aw2 [97]).2
def aw4 : DiskD := (appendM aw3 [97] [112, 113, 114]).2
def aw5 : DiskD := (writeM aw4 [97] 0 [107]).2
theorem aw0_good : Good 0 (newM 100) := Good.new (by omega)
theorem aw1_good : Good 1 aw1 := create_good aw0_good _
theorem aw2_good : Good 4 aw2 := append_good aw1_good [97] [120, 121]
theorem aw3_good : Good 4 aw3 := sync_good aw2_good _
theorem aw4_good : Good 8 aw4 := (append_good aw3_good [97] [112, 113, 114])
theorem aw5_good : Good 10 aw5 := write_good aw4_good [97] 0 [107]
theorem aw6_good (k : Int) : Good 10 (crashD aw5 [k]) := crash_good aw5_good _
theorem aw_read4 : readM (crashD aw5 [4]) [97] 0 9 = ([107, 121, 112, 113, 114], 0) := by kernel_rfl
theorem aw_read2 : readM (crashD aw5 [2]) [97] 0 9 = ([120, 121, 112, 113], 0) := by kernel_rfl
set_option maxRecDepth 10000 in
theorem awake_any (w : World) : Calls Tryz.prog 12 #[] w fun e w' => e = .returned (.bool true) ∧ Below w.heap.size w w' := by
  refine W_enter (args := []) 60 Tryz.func12 rfl rfl rfl ?_
  have hbw := Below.refl w.heap.size w
  refine W_rs ?_
  refine sa rfl rfl ?_
  refine Wn ?_
  refine tN ?_
  refine W_rs ?_
  refine sc _ Tryz.func9 rfl (by kernel_rfl) rfl rfl ((New_ok 100 _ (by omega)).mono ?_)
  rintro e_ w1 ⟨g, S0, rfl, h0, hS0, hb⟩
  refine cR ?_
  replace hbw := bthen hbw hb
  have hz_w1 := hb.size
  clear hb
  have hd : Own w.heap.size w1 g (newM 100) S0 := ⟨h0, fun k hk => by have := hS0 k hk; have := hbw.size; omega⟩
  clear h0 hS0
  refine sm rfl rfl ?_
  refine st (X.ext rfl rfl) rfl ?_
  refine st (X.ext rfl rfl) rfl ?_
  refine sa rfl rfl ?_
  refine sa rfl rfl ?_
  refine Wn ?_
  refine tN ?_
  refine W_seq ?_
  refine W_rs ?_
  refine sm rfl rfl ?_
  refine st (X.neq rfl rfl) rfl ?_
  refine sbN rfl (rfl) rfl ?_
  refine gY (g := 14) rfl rfl rfl ?_
  refine sm rfl rfl ?_
  refine gY (g := 14) rfl rfl rfl ?_
  refine st (X.dEq rfl) rfl ?_
  refine st (X.pickF rfl rfl) rfl ?_
  refine Wn ?_
  refine tN ?_
  refine W_no rfl (rfl) ?_
  refine W_skip ?_
  refine tN ?_
  refine W_rs ?_
  refine sm rfl rfl ?_
  refine sc _ Tryz.func41 rfl (by kernel_rfl) rfl rfl ((Create_any g (newM 100) _ [97] _ hd.at_ aw0_good.ok).mono ?_)
  rintro e_ w2 ⟨rfl, h1, hX⟩
  refine cR ?_
  have hdn := hd.step h1 hX hbw.size
  have hbwn := bchg hbw hX (fun k hk => (hd.lo k hk).1)
  clear hd hbw h1 hX
  have hd := hdn
  have hbw := hbwn
  clear hdn hbwn
  refine Wn ?_
  refine tN ?_
  refine W_rs ?_
  refine sm rfl rfl ?_
  refine sc _ Tryz.func42 rfl (by kernel_rfl) rfl rfl ((Append_any g aw1 _ [97] [120, 121] _ hd.at_ aw1_good.ok (aw1_good.bud (by omega)) (by decide)).mono ?_)
  rintro e_ w3 ⟨rfl, h1, hX⟩
  refine cR ?_
  have hdn := hd.step h1 hX hbw.size
  have hbwn := bchg hbw hX (fun k hk => (hd.lo k hk).1)
  clear hd hbw h1 hX
  have hd := hdn
  have hbw := hbwn
  clear hdn hbwn
  refine Wn ?_
  refine tN ?_
  refine W_rs ?_
  refine sm rfl rfl ?_
  refine sc _ Tryz.func43 rfl (by kernel_rfl) rfl rfl ((Sync_any g aw2 _ [97] _ hd.at_ aw2_good.ok).mono ?_)
  rintro e_ w4 ⟨rfl, h1, hX⟩
  refine cR ?_
  have hdn := hd.step h1 hX hbw.size
  have hbwn := bchg hbw hX (fun k hk => (hd.lo k hk).1)
  clear hd hbw h1 hX
  have hd := hdn
  have hbw := hbwn
  clear hdn hbwn
  refine Wn ?_
  refine tN ?_
  refine W_rs ?_
  refine sm rfl rfl ?_
  refine sc _ Tryz.func42 rfl (by kernel_rfl) rfl rfl ((Append_any g aw3 _ [97] [112, 113, 114] _ hd.at_ aw3_good.ok (aw3_good.bud (by omega)) (by decide)).mono ?_)
  rintro e_ w5 ⟨rfl, h1, hX⟩
  refine cR ?_
  have hdn := hd.step h1 hX hbw.size
  have hbwn := bchg hbw hX (fun k hk => (hd.lo k hk).1)
  clear hd hbw h1 hX
  have hd := hdn
  have hbw := hbwn
  clear hdn hbwn
  refine Wn ?_
  refine tN ?_
  refine W_rs ?_
  refine sm rfl rfl ?_
  refine sc _ Tryz.func44 rfl (by kernel_rfl) rfl rfl ((Write_any g aw4 _ [97] 0 [107] _ hd.at_ aw4_good.ok (aw4_good.bud (by omega)) (by decide)).mono ?_)
  rintro e_ w6 ⟨rfl, h1, hX⟩
  refine cR ?_
  have hdn := hd.step h1 hX hbw.size
  have hbwn := bchg hbw hX (fun k hk => (hd.lo k hk).1)
  clear hd hbw h1 hX
  have hd := hdn
  have hbw := hbwn
  clear hdn hbwn
  refine Wn ?_
  refine tN ?_
  refine W_rs ?_
  refine sm rfl rfl ?_
  obtain ⟨S5, hd5⟩ : ∃ S5, Own w.heap.size w6 g aw5 S5 := ⟨_, hd⟩
  clear hd
  have hd := hd5
  clear hd5
  have hlo5 := hd.lo
  have hz6 := hbw.size
  refine sc _ Tryz.func16 rfl (by kernel_rfl) rfl rfl ((Copy_any g aw5 _ _ hd.at_ aw5_good.ok (aw5_good.bud (by omega))).mono ?_)
  rintro e_ w7 ⟨c, Sc, rfl, h1, hSc, hb⟩
  refine cR ?_
  replace hbw := bthen hbw hb
  replace hd := hd.bel hb
  have hz_w7 := hb.size
  clear hb
  have hc : Own w.heap.size w7 c aw5 Sc := ⟨h1, fun k hk => by have := hSc k hk; omega⟩
  have hdc : ∀ k, S5 k → ¬ Sc k := fun k h1 h2 => by have := hlo5 k h1; have := hSc k h2; omega
  clear h1 hSc hlo5
  refine sa rfl rfl ?_
  refine Wn ?_
  refine tN ?_
  refine W_rs ?_
  refine sm rfl rfl ?_
  have hloD := hd.lo
  refine sbs1 rfl Tryz.underlying34 inf3 rfl rfl (by decide) (by decide) rfl (fun g31 w8 hR31 hg31 hb => ?_)
  replace hbw := bthen hbw hb
  replace hd := hd.bel hb
  replace hc := hc.bel hb
  have hz_w8 := hb.size
  clear hb
  have hl31 := hR31.blt (by decide)
  have hlo6 : ∀ k, (Value.slice (some ⟨g31, 0, none⟩) 1 1).ownBlock = some k → ¬ S5 k := fun k hk h1 => by
    simp [Value.ownBlock] at hk
    have := hloD k h1
    omega
  refine sc _ Tryz.func23 rfl (by kernel_rfl) rfl rfl ((Crash_any g aw5 S5 _ [4] _ hd.at_ aw5_good.ok (aw5_good.bud (by omega)) (by have := aw5_good.few; omega) hR31.reads (fun _ => hlo6)).mono ?_)
  rintro e_ w9 ⟨rfl, h1, hX⟩
  refine cR ?_
  have hdn := hd.step h1 hX hbw.size
  have hcn := hc.other hX hdc
  have hdcn := hc.ext (w' := w9) hdc
  have hbwn := bchg hbw hX (fun k hk => (hd.lo k hk).1)
  clear hd hc hdc hbw h1 hX hlo6
  have hd := hdn
  have hc := hcn
  have hdc := hdcn
  have hbw := hbwn
  clear hdn hcn hdcn hbwn
  refine Wn ?_
  refine tN ?_
  refine W_rs ?_
  refine sm rfl rfl ?_
  have hloC := hc.lo
  refine sbs1 rfl Tryz.underlying34 inf3 rfl rfl (by decide) (by decide) rfl (fun g34 w10 hR34 hg34 hb => ?_)
  replace hbw := bthen hbw hb
  replace hd := hd.bel hb
  replace hc := hc.bel hb
  have hz_w10 := hb.size
  clear hb
  have hl34 := hR34.blt (by decide)
  have hlo6 : ∀ k, (Value.slice (some ⟨g34, 0, none⟩) 1 1).ownBlock = some k → ¬ Sc k := fun k hk h1 => by
    simp [Value.ownBlock] at hk
    have := hloC k h1
    omega
  refine sc _ Tryz.func23 rfl (by kernel_rfl) rfl rfl ((Crash_any c aw5 Sc _ [2] _ hc.at_ aw5_good.ok (aw5_good.bud (by omega)) (by have := aw5_good.few; omega) hR34.reads (fun _ => hlo6)).mono ?_)
  rintro e_ w11 ⟨rfl, h1, hX⟩
  refine cR ?_
  have hcn := hc.step h1 hX hbw.size
  have hdn := hd.other hX (fun k h1 h2 => hdc k h2 h1)
  have hbwn := bchg hbw hX (fun k hk => (hc.lo k hk).1)
  clear hd hc hdc hbw h1 hX hlo6
  have hd := hdn
  have hc := hcn
  have hbw := hbwn
  clear hdn hcn hbwn
  refine Wn ?_
  refine tN ?_
  refine W_rs ?_
  refine sm rfl rfl ?_
  refine sc _ Tryz.func45 rfl (by kernel_rfl) rfl rfl ((Read_is hd.at_ (aw6_good 4).ok aw_read4).mono ?_)
  rintro e_ w12 ⟨rfl, hb⟩
  refine cR ?_
  replace hbw := bthen hbw hb
  replace hd := hd.bel hb
  replace hc := hc.bel hb
  have hz_w12 := hb.size
  clear hb
  refine sm rfl rfl ?_
  refine st (X.ext rfl rfl) rfl ?_
  refine st (X.ext rfl rfl) rfl ?_
  refine sa rfl rfl ?_
  refine sa rfl rfl ?_
  refine Wn ?_
  refine tN ?_
  refine W_rs ?_
  refine sm rfl rfl ?_
  refine sc _ Tryz.func45 rfl (by kernel_rfl) rfl rfl ((Read_is hc.at_ (aw6_good 2).ok aw_read2).mono ?_)
  rintro e_ w13 ⟨rfl, hb⟩
  refine cR ?_
  replace hbw := bthen hbw hb
  replace hd := hd.bel hb
  replace hc := hc.bel hb
  have hz_w13 := hb.size
  clear hb
  refine sm rfl rfl ?_
  refine st (X.ext rfl rfl) rfl ?_
  refine st (X.ext rfl rfl) rfl ?_
  refine sa rfl rfl ?_
  refine sa rfl rfl ?_
  refine Wn ?_
  refine tN ?_
  refine W_rs ?_
  refine sm rfl rfl ?_
  refine st (X.eqS rfl rfl) rfl ?_
  refine sbY rfl (rfl) rfl ?_
  refine gY (g := 48) rfl rfl rfl ?_
  refine sm rfl rfl ?_
  refine gY (g := 48) rfl rfl rfl ?_
  refine st (X.eql rfl rfl) rfl ?_
  refine st (X.pickT rfl rfl) rfl ?_
  refine sbY rfl (rfl) rfl ?_
  refine gY (g := 52) rfl rfl rfl ?_
  refine sm rfl rfl ?_
  refine gY (g := 52) rfl rfl rfl ?_
  refine st (X.eqS rfl rfl) rfl ?_
  refine st (X.pickT rfl rfl) rfl ?_
  refine sbY rfl (rfl) rfl ?_
  refine gY (g := 56) rfl rfl rfl ?_
  refine sm rfl rfl ?_
  refine gY (g := 56) rfl rfl rfl ?_
  refine st (X.eql rfl rfl) rfl ?_
  refine st (X.pickT rfl rfl) rfl ?_
  refine sa rfl rfl ?_
  refine Wn ?_
  refine tN ?_
  refine W_ret ?_
  exact (rT rfl rfl ⟨rfl, hbw⟩).1
end Go.Proofs.YtnijmegalgoipaaGreatDoor
