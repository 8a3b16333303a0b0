/- law16: awake. -/
import Derived.Test.YtnijmegalgoipaaGreatDoorJrn
namespace Go.Proofs.YtnijmegalgoipaaGreatDoor
open Go.RowKit
def aj1 : DiskD := (createM (newM 5000) jName).2
def ajJ : JrM := ⟨⟨[], [], 1, 0, 0, []⟩, false⟩
theorem aj_open : openJ (newM 5000) = ((some ajJ, 0), aj1) := by kernel_rfl
theorem aj_int : (intentJ aj1 ajJ [97]).1 = (1, 0) ∧ (intentJ aj1 ajJ [97]).2.2 = ⟨⟨[], [], 2, 0, 1, [97]⟩, false⟩ := by constructor <;> kernel_rfl
def aj2 : DiskD := (intentJ aj1 ajJ [97]).2.1
def ajK : JrM := ⟨⟨[], [], 2, 0, 1, [97]⟩, false⟩
theorem aj_com : (commitJ aj2 ajK 1).1 = 0 ∧ (commitJ aj2 ajK 1).2.2 = ⟨⟨[], [[97]], 2, 0, 0, []⟩, false⟩ := by constructor <;> kernel_rfl
def aj3 : DiskD := (commitJ aj2 ajK 1).2.1
def ajL : JrM := ⟨⟨[], [[97]], 2, 0, 0, []⟩, false⟩
theorem aj1_good : Good 1 aj1 := create_good (Good.new (by omega)) _
theorem aj2_good : Good 16 aj2 := (intentJ_good aj1_good ajJ [97]).mono (by decide)
theorem JAll.below {w0 w w' : World} {gd gj : Nat} {D : DiskD} {J : JrM} {v : Value} {S : Nat → Prop} (h : JAll w0.heap.size w gd gj D J v S) (hb : Below w0.heap.size w0 w) (hC : Chg (fun k => S k ∨ k = gj ∨ v.ownBlock = some k) w w') : Below w0.heap.size w0 w' :=
  bchg hb hC (fun k hk => by
    rcases hk with hk | rfl | hk
    · exact (h.jf.own.lo k hk).1
    · exact h.jf.gB
    · exact (h.jf.v k hk).2)
set_option maxRecDepth 10000 in
theorem awake16_any (w : World) : Calls Tryz.prog 17 #[] w fun e w' => e = .returned (.bool true) ∧ Below w.heap.size w w' := by
  refine W_enter (args := []) 64 Tryz.func17 rfl rfl rfl ?_
  have hbw := Below.refl w.heap.size w
  refine W_rs ?_
  refine sa rfl rfl ?_
  refine Wn ?_
  refine tN ?_
  refine W_rs ?_
  refine sc _ Tryz.func9 rfl (by kernel_rfl) rfl rfl ((New_ok 5000 _ (by omega)).mono ?_)
  rintro e_ w1 ⟨gd, S0, rfl, h0, hS0, hb⟩
  refine cR ?_
  replace hbw := bthen hbw hb
  have hz_w1 := hb.size
  clear hb
  have hd : Own w.heap.size w1 gd (newM 5000) S0 := ⟨h0, fun k hk => by have := hS0 k hk; have := hbw.size; omega⟩
  clear h0 hS0
  refine sm rfl rfl ?_
  refine st (X.ext rfl rfl) rfl ?_
  refine st (X.ext rfl rfl) rfl ?_
  refine sa rfl rfl ?_
  refine sa rfl rfl ?_
  refine Wn ?_
  refine tN ?_
  refine W_rs ?_
  refine sm rfl rfl ?_
  have hO := Open_any w.heap.size gd (newM 5000) S0 0 w1 hd hbw.size (Good.new (by omega)) (by omega)
  rw [aj_open] at hO
  refine sc _ Tryz.func18 rfl (by kernel_rfl) rfl rfl ((hO).mono ?_)
  rintro e_ w2 ⟨S1, hd1, hS1, hX, gj, v1, rfl, hj, hgj, hv1⟩
  refine cR ?_
  replace hbw := bchg hbw hX (fun k hk => (hd.lo k hk).1)
  clear hd hd1 hX hO
  refine sm rfl rfl ?_
  refine st (X.ext rfl rfl) rfl ?_
  refine st (X.ext rfl rfl) rfl ?_
  refine sa rfl rfl ?_
  refine sa rfl rfl ?_
  refine Wn ?_
  refine tN ?_
  refine W_seq ?_
  refine W_rs ?_
  refine sm rfl rfl ?_
  refine st (X.neq rfl rfl) rfl ?_
  refine sbN rfl (rfl) rfl ?_
  refine gY (g := 20) rfl rfl rfl ?_
  refine sm rfl rfl ?_
  refine gY (g := 20) rfl rfl rfl ?_
  refine st (X.neq rfl rfl) rfl ?_
  refine st (X.pickF rfl rfl) rfl ?_
  refine sbN rfl (rfl) rfl ?_
  refine gY (g := 24) rfl rfl rfl ?_
  refine sm rfl rfl ?_
  refine gY (g := 24) rfl rfl rfl ?_
  refine st (X.jEq rfl) rfl ?_
  refine st (X.pickF rfl rfl) rfl ?_
  refine Wn ?_
  refine tN ?_
  refine W_no rfl (rfl) ?_
  refine W_skip ?_
  refine tN ?_
  refine W_rs ?_
  refine sm rfl rfl ?_
  have hI := Intent_any w.heap.size gd gj aj1 ajJ v1 S1 w2 hj [97] 1 aj1_good (by omega) (by decide) (by decide)
  rw [aj_int.1, aj_int.2] at hI
  simp only at hI
  refine sc _ Tryz.func19 rfl (by kernel_rfl) rfl rfl ((hI).mono ?_)
  rintro e_ w3 ⟨rfl, v2, S2, hj2, hS2, hv2, hX⟩
  refine cR ?_
  replace hbw := hj.below hbw hX
  clear hj hX hI
  have hj : JAll w.heap.size w3 gd gj aj2 ajK v2 S2 := hj2
  clear hj2
  refine sm rfl rfl ?_
  refine st (X.ext rfl rfl) rfl ?_
  refine st (X.ext rfl rfl) rfl ?_
  refine sa rfl rfl ?_
  refine sa rfl rfl ?_
  refine Wn ?_
  refine tN ?_
  refine W_rs ?_
  refine sm rfl rfl ?_
  refine sm rfl rfl ?_
  have hI := Commit_any w.heap.size gd gj aj2 ajK v2 S2 w3 hj 1 16 aj2_good (by omega) (by decide)
  rw [aj_com.1, aj_com.2] at hI
  refine sc _ Tryz.func20 rfl (by kernel_rfl) rfl rfl ((hI).mono ?_)
  rintro e_ w4 ⟨rfl, v3, S3, hj3, hS3, hv3, hX⟩
  refine cR ?_
  replace hbw := hj.below hbw hX
  clear hj hX hI
  have hj : JAll w.heap.size w4 gd gj aj3 ajL v3 S3 := hj3
  clear hj3
  refine sa rfl rfl ?_
  refine Wn ?_
  refine tN ?_
  refine W_rs ?_
  refine sm rfl rfl ?_
  refine sc _ Tryz.func26 rfl (by kernel_rfl) rfl rfl ((Done_any w.heap.size gd gj aj3 ajL v3 S3 _ hj (by decide)).mono ?_)
  rintro e_ w5 ⟨v4, rfl, hR, hO4, hb⟩
  refine cR ?_
  replace hbw := bthen hbw hb
  replace hj := hj.bel hb
  have hz_w5 := hb.size
  clear hb
  obtain ⟨g4, o4, c4, hv4_, _⟩ := hR.reads.some_ (show 0 < ajL.x.done.length by decide)
  subst hv4_
  refine sa rfl rfl ?_
  refine Wn ?_
  refine tN ?_
  refine W_rs ?_
  refine sm rfl rfl ?_
  refine st (X.eql rfl rfl) rfl ?_
  refine sbY rfl (rfl) rfl ?_
  refine gY (g := 40) rfl rfl rfl ?_
  refine sm rfl rfl ?_
  refine gY (g := 40) rfl rfl rfl ?_
  refine st (X.eql rfl rfl) rfl ?_
  refine st (X.pickT rfl rfl) rfl ?_
  refine sbY rfl (rfl) rfl ?_
  refine gY (g := 44) rfl rfl rfl ?_
  refine sm rfl rfl ?_
  refine gY (g := 44) rfl rfl rfl ?_
  refine st (X.eql rfl rfl) rfl ?_
  refine st (X.pickT rfl rfl) rfl ?_
  refine sbY rfl (rfl) rfl ?_
  refine gY (g := 48) rfl rfl rfl ?_
  refine sm rfl rfl ?_
  refine gY (g := 48) rfl rfl rfl ?_
  refine st (X.lenL rfl rfl Tryz.underlying42) rfl ?_
  refine gY (g := 48) rfl rfl rfl ?_
  refine st (X.eql rfl rfl) rfl ?_
  refine st (X.pickT rfl rfl) rfl ?_
  refine sbY rfl (rfl) rfl ?_
  refine gY (g := 53) rfl rfl rfl ?_
  refine sm rfl rfl ?_
  refine gY (g := 53) rfl rfl rfl ?_
  refine st (X.idxA (j := 0) rfl rfl Tryz.underlying42 siz9 rfl (by decide)) rfl ?_
  refine gY (g := 53) rfl rfl rfl ?_
  refine st (X.ld rfl Tryz.underlying9 rfl (by rw [Nat.zero_mul]; exact hR.reads.cellAt (by decide) (j := 0) rfl)) rfl ?_
  refine gY (g := 53) rfl rfl rfl ?_
  refine st (X.eqS rfl rfl) rfl ?_
  refine st (X.pickT rfl rfl) rfl ?_
  refine sbY rfl (rfl) rfl ?_
  refine gY (g := 59) rfl rfl rfl ?_
  refine sm rfl rfl ?_
  refine gY (g := 59) rfl rfl rfl ?_
  refine sc _ Tryz.func27 rfl (by kernel_rfl) rfl rfl ((Next_j w.heap.size gd gj aj3 ajL v3 S3 _ hj).mono ?_)
  rintro e_ w_ ⟨rfl, rfl⟩
  refine cR ?_
  refine gY (g := 59) rfl rfl rfl ?_
  refine st (X.eql rfl rfl) rfl ?_
  refine st (X.pickT rfl rfl) rfl ?_
  refine sa rfl rfl ?_
  refine Wn ?_
  refine tN ?_
  refine W_ret ?_
  exact (rT rfl rfl ⟨rfl, hbw⟩).1
end Go.Proofs.YtnijmegalgoipaaGreatDoor
