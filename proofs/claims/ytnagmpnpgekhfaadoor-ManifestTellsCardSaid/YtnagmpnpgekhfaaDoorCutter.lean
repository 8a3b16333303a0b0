/- manifest's cutter: text, one, number. -/
import Derived.Test.YtnagmpnpgekhfaaDoorManCheck
import Derived.Test.YtnagmpnpgekhfaaDoorGen
import Derived.Test.YtnagmpnpgekhfaaDoorWords2
namespace Go.Proofs.YtnagmpnpgekhfaaDoor
open Go.RowKit
/-- what is thrown where bytes are missing -/
def missing : List PanicEntry := [{ v := .iface 95 (.agg #[]), recovered := false }]
theorem mk_missing (w : World) : (Instr.build 95 #[]).run Tryd.prog w = .ok (.agg #[]) w := by kernel_rfl
theorem mi_missing (w : World) : (Instr.makeInterface 95 (.agg #[])).run Tryd.prog w = .ok (.iface 95 (.agg #[])) w := by kernel_rfl
theorem text_ok (g n : Nat) (s : List UInt8) (w : World) (hB : Blk w g 99 #[str s]) (hn : n ≤ s.length) :
    Calls Tryd.prog 52 #[.pointer (some ⟨g, 0, none⟩), .int .i64 n] w fun e w' => e = .returned (str (s.take n)) ∧ Blk w' g 99 #[str (s.drop n)] ∧ Chg (fun k => k = g) w w' := by
  refine W_enter (args := [.pointer (some ⟨g, 0, none⟩), .int .i64 n]) 31 Tryd.func52 rfl rfl rfl ?_
  refine W_sub [(0, .pointer (some ⟨g, 0, none⟩)), (1, .int .i64 n)] ?_ ⟨rfl, rfl, trivial⟩
  refine W_rs ?_
  refine sa rfl rfl ?_
  refine Wn ?_
  refine tN ?_
  refine W_seq ?_
  refine W_rs ?_
  refine sm rfl rfl ?_
  refine sm rfl rfl ?_
  refine st (X.nilChk rfl) rfl ?_
  refine st (X.fa fa99_0 rfl) rfl ?_
  refine st (X.ldL rfl hB Tryd.underlying9 rfl rfl) rfl ?_
  refine st (X.lenS rfl rfl Tryd.underlying9) rfl ?_
  refine st (X.gtr rfl rfl) rfl ?_
  refine Wn ?_
  refine tN ?_
  refine W_no rfl (decide_eq_false (by omega)) ?_
  refine W_skip ?_
  refine tN ?_
  refine W_rs ?_
  refine sm rfl rfl ?_
  refine st (X.nilChk rfl) rfl ?_
  refine st (X.fa fa99_0 rfl) rfl ?_
  refine st (X.ldL rfl hB Tryd.underlying9 rfl rfl) rfl ?_
  refine sm rfl rfl ?_
  refine st (X.toS rfl rfl Tryd.underlying9 rfl (by omega)) rfl ?_
  refine sa rfl rfl ?_
  refine Wn ?_
  refine tN ?_
  refine W_rs ?_
  refine sm rfl rfl ?_
  refine sm rfl rfl ?_
  refine st (X.nilChk rfl) rfl ?_
  refine st (X.fa fa99_0 rfl) rfl ?_
  refine st (X.ldL rfl hB Tryd.underlying9 rfl rfl) rfl ?_
  refine sm rfl rfl ?_
  refine st (X.fromS rfl rfl Tryd.underlying9 rfl (by omega)) rfl ?_
  refine st (X.nilChk rfl) rfl ?_
  refine st (X.fa fa99_0 rfl) rfl ?_
  refine ssB rfl rfl hB siz9 rfl (by simp) (fun w1 hB_ hc_ => ?_)
  refine Wn ?_
  refine tN ?_
  refine W_rs ?_
  refine sm rfl rfl ?_
  refine sa rfl rfl ?_
  refine Wn ?_
  refine tN ?_
  refine W_ret ?_
  exact (rT rfl rfl ⟨rfl, hB_, hc_⟩).1
theorem text_no (g : Nat) (n : Int) (s : List UInt8) (w : World) (hB : Blk w g 99 #[str s]) (hn : (s.length : Int) < n) :
    Calls Tryd.prog 52 #[.pointer (some ⟨g, 0, none⟩), .int .i64 n] w fun e w' => e = .panicked missing ∧ w = w' := by
  refine W_enter (args := [.pointer (some ⟨g, 0, none⟩), .int .i64 n]) 31 Tryd.func52 rfl rfl rfl ?_
  refine W_sub [(0, .pointer (some ⟨g, 0, none⟩)), (1, .int .i64 n)] ?_ ⟨rfl, rfl, trivial⟩
  refine W_rs ?_
  refine sa rfl rfl ?_
  refine Wn ?_
  refine tN ?_
  refine W_seq ?_
  refine W_rs ?_
  refine sm rfl rfl ?_
  refine sm rfl rfl ?_
  refine st (X.nilChk rfl) rfl ?_
  refine st (X.fa fa99_0 rfl) rfl ?_
  refine st (X.ldL rfl hB Tryd.underlying9 rfl rfl) rfl ?_
  refine st (X.lenS rfl rfl Tryd.underlying9) rfl ?_
  refine st (X.gtr rfl rfl) rfl ?_
  refine Wn ?_
  refine tN ?_
  refine W_yes rfl (decide_eq_true (by omega)) ?_
  refine W_reg ?_
  refine st (X.bld rfl (mk_missing _)) rfl ?_
  refine st (X.mkI rfl (mi_missing _)) rfl ?_
  refine sp rfl ?_
  refine (tP ?_)
  exact ⟨rfl, rfl⟩
theorem one_ok (g : Nat) (b : UInt8) (s : List UInt8) (w : World) (hB : Blk w g 99 #[str (b :: s)]) :
    Calls Tryd.prog 42 #[.pointer (some ⟨g, 0, none⟩)] w fun e w' => e = .returned (.int .i64 b.toNat) ∧ Blk w' g 99 #[str s] ∧ Chg (fun k => k = g) w w' := by
  refine W_enter (args := [.pointer (some ⟨g, 0, none⟩)]) 7 Tryd.func42 rfl rfl rfl ?_
  refine W_sub [(0, .pointer (some ⟨g, 0, none⟩))] ?_ ⟨rfl, trivial⟩
  refine W_rs ?_
  refine sa rfl rfl ?_
  refine Wn ?_
  refine tN ?_
  refine W_rs ?_
  refine sm rfl rfl ?_
  refine sc _ Tryd.func52 rfl (by kernel_rfl) rfl rfl ((text_ok g 1 (b :: s) _ hB (by simp)).mono ?_)
  rintro e_ w_ ⟨rfl, hB1, hC1⟩
  refine cR ?_
  refine st (X.idxS (q := 0) (s := [b]) rfl rfl Tryd.underlying9 rfl (by simp)) rfl ?_
  refine st (X.convI rfl Tryd.underlying5 Tryd.underlying3 (w64 (by have := lt_u8 b; simp; omega))) rfl ?_
  refine sa rfl rfl ?_
  refine Wn ?_
  refine tN ?_
  refine W_ret ?_
  exact (rT rfl rfl ⟨rfl, hB1, hC1⟩).1
theorem one_no (g : Nat) (w : World) (hB : Blk w g 99 #[str []]) :
    Calls Tryd.prog 42 #[.pointer (some ⟨g, 0, none⟩)] w fun e w' => e = .panicked missing ∧ w = w' := by
  refine W_enter (args := [.pointer (some ⟨g, 0, none⟩)]) 7 Tryd.func42 rfl rfl rfl ?_
  refine W_sub [(0, .pointer (some ⟨g, 0, none⟩))] ?_ ⟨rfl, trivial⟩
  refine W_rs ?_
  refine sa rfl rfl ?_
  refine Wn ?_
  refine tN ?_
  refine W_rs ?_
  refine sm rfl rfl ?_
  refine sc _ Tryd.func52 rfl (by kernel_rfl) rfl rfl ((text_no g 1 [] _ hB (by simp)).mono ?_)
  rintro e_ w_ ⟨rfl, rfl⟩
  refine cP (tP ?_)
  exact ⟨rfl, rfl⟩
theorem number_ok (g : Nat) (a b c d : UInt8) (s : List UInt8) (w : World) (hB : Blk w g 99 #[str (a :: b :: c :: d :: s)]) :
    Calls Tryd.prog 41 #[.pointer (some ⟨g, 0, none⟩)] w fun e w' => e = .returned (.int .i64 (num4 a b c d : Nat)) ∧ Blk w' g 99 #[str s] ∧ Chg (fun k => k = g) w w' := by
  have ha := lt_u8 a
  have hb' := lt_u8 b
  have hc' := lt_u8 c
  have hd' := lt_u8 d
  have o1 := or_add a.toNat b.toNat 8 (by omega) (by omega)
  have o2 := or_add (a.toNat + b.toNat * 256) c.toNat 16 (by omega) (by omega)
  have o3 := or_add (a.toNat + b.toNat * 256 + c.toNat * 65536) d.toNat 24 (by omega) (by omega)
  refine W_enter (args := [.pointer (some ⟨g, 0, none⟩)]) 24 Tryd.func41 rfl rfl rfl ?_
  refine W_sub [(0, .pointer (some ⟨g, 0, none⟩))] ?_ ⟨rfl, trivial⟩
  refine W_rs ?_
  refine sa rfl rfl ?_
  refine Wn ?_
  refine tN ?_
  refine W_rs ?_
  refine sm rfl rfl ?_
  refine sc _ Tryd.func52 rfl (by kernel_rfl) rfl rfl ((text_ok g 4 (a :: b :: c :: d :: s) _ hB (by simp)).mono ?_)
  rintro e_ w1 ⟨rfl, hB1, hC1⟩
  refine cR ?_
  refine sa rfl rfl ?_
  refine Wn ?_
  refine tN ?_
  refine W_drsN (fun W_ => Below w1.heap.size w1 W_) [0, 1, 2, 3, 4, 5, 6, 7, 8, 9, 10, 11, 12, 13, 14, 15, 16, 17, 18] [true, true, true, true, true, true, true, true, true, true, true, true, true, true, true, true, true, true, true] (by kernel_rfl) (by kernel_rfl) (bdrew (Below.refl _ _)) ?_
  obtain ⟨w2, hw_⟩ : ∃ w2 : World, w2 = World.drew w1 := ⟨_, rfl⟩
  rw [← hw_]
  have hb : Below w1.heap.size w1 w2 := by rw [hw_]; exact bdrew (Below.refl _ _)
  clear hw_
  have hS := hb
  have hz_w2 := hb.size
  clear hb
  refine oY rfl (fun W_ hW_ => (X.move rfl)) rfl ?_
  refine oY rfl (fun W_ hW_ => (X.idxS (q := 0) (s := [a, b, c, d]) rfl rfl Tryd.underlying9 rfl (by simp))) rfl ?_
  refine oY rfl (fun W_ hW_ => (X.convI (z := (a.toNat : Int)) rfl Tryd.underlying5 Tryd.underlying3 (w64 (by simp; omega)))) rfl ?_
  refine oY rfl (fun W_ hW_ => (X.move rfl)) rfl ?_
  refine oY rfl (fun W_ hW_ => (X.idxS (q := 1) (s := [a, b, c, d]) rfl rfl Tryd.underlying9 rfl (by simp))) rfl ?_
  refine oY rfl (fun W_ hW_ => (X.convI (z := (b.toNat : Int)) rfl Tryd.underlying5 Tryd.underlying3 (w64 (by simp; omega)))) rfl ?_
  refine oY rfl (fun W_ hW_ => (X.shl (q := 256) rfl rfl (by decide) (by decide) rfl rfl (w64 (by omega)))) rfl ?_
  refine oY rfl (fun W_ hW_ => (X.bits (by simp) rfl rfl o1)) rfl ?_
  refine oY rfl (fun W_ hW_ => (X.move rfl)) rfl ?_
  refine oY rfl (fun W_ hW_ => (X.idxS (q := 2) (s := [a, b, c, d]) rfl rfl Tryd.underlying9 rfl (by simp))) rfl ?_
  refine oY rfl (fun W_ hW_ => (X.convI (z := (c.toNat : Int)) rfl Tryd.underlying5 Tryd.underlying3 (w64 (by simp; omega)))) rfl ?_
  refine oY rfl (fun W_ hW_ => (X.shl (q := 65536) rfl rfl (by decide) (by decide) rfl rfl (w64 (by omega)))) rfl ?_
  refine oY rfl (fun W_ hW_ => (X.bits (by simp) rfl rfl o2)) rfl ?_
  refine oY rfl (fun W_ hW_ => (X.move rfl)) rfl ?_
  refine oY rfl (fun W_ hW_ => (X.idxS (q := 3) (s := [a, b, c, d]) rfl rfl Tryd.underlying9 rfl (by simp))) rfl ?_
  refine oY rfl (fun W_ hW_ => (X.convI (z := (d.toNat : Int)) rfl Tryd.underlying5 Tryd.underlying3 (w64 (by simp; omega)))) rfl ?_
  refine oY rfl (fun W_ hW_ => (X.shl (q := 16777216) rfl rfl (by decide) (by decide) rfl rfl (w64 (by omega)))) rfl ?_
  refine oY rfl (fun W_ hW_ => (X.bits (by simp) rfl rfl o3)) rfl ?_
  refine oY rfl (fun W_ hW_ => (X.assign rfl)) rfl ?_
  refine oN ?_
  refine nN ?_
  refine W_ret ?_
  refine (rT rfl rfl ⟨?_, hB1.bel hS, hC1.then_below hS⟩).1
  congr 3; unfold num4; omega
theorem number_no (g : Nat) (s : List UInt8) (w : World) (hB : Blk w g 99 #[str s]) (hs : s.length < 4) :
    Calls Tryd.prog 41 #[.pointer (some ⟨g, 0, none⟩)] w fun e w' => e = .panicked missing ∧ w = w' := by
  refine W_enter (args := [.pointer (some ⟨g, 0, none⟩)]) 24 Tryd.func41 rfl rfl rfl ?_
  refine W_sub [(0, .pointer (some ⟨g, 0, none⟩))] ?_ ⟨rfl, trivial⟩
  refine W_rs ?_
  refine sa rfl rfl ?_
  refine Wn ?_
  refine tN ?_
  refine W_rs ?_
  refine sm rfl rfl ?_
  refine sc _ Tryd.func52 rfl (by kernel_rfl) rfl rfl ((text_no g 4 s _ hB (by omega)).mono ?_)
  rintro e_ w_ ⟨rfl, rfl⟩
  refine cP (tP ?_)
  exact ⟨rfl, rfl⟩
end Go.Proofs.YtnagmpnpgekhfaaDoor
