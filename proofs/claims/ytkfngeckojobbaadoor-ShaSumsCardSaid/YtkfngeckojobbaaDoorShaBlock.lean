/- What sha's right and block compute: the walks of two functions. -/
import Derived.Test.YtkfngeckojobbaaDoorChecked
import Derived.Test.YtkfngeckojobbaaDoorMem
import Derived.Test.YtkfngeckojobbaaDoorWords
import Derived.Test.YtkfngeckojobbaaDoorShaPlain
import Derived.WalkKit
import Derived.Lib.Hide
import Derived.WalkLawsBesides
import Derived.WalkSpells
import Derived.BigQuiet
import Derived.Deep.QuietTactic
namespace Go.Proofs.YtkfngeckojobbaaDoor
open Go.RowKit Sha

theorem right_any (x : UInt32) (n : Int) (w : World) (h0 : 1 ≤ n) (h1 : n ≤ 31) :
    Calls Tryd.prog 31 #[.int .u32 x.toNat, .int .u64 n] w fun e w' => e = .returned (.int .u32 (rotr x (UInt32.ofNat n.toNat)).toNat) ∧ w = w' := by
  have hx := lt_u32 x
  have hx0 : (0 : Int) ≤ x.toNat := by omega
  go_enter Tryd.func31, Tryd.ntmps31
  go_wp2
  go_ret
  obtain ⟨m, rfl⟩ := Int.eq_ofNat_of_zero_le (by omega : 0 ≤ n)
  refine ⟨?_, rfl⟩
  have e1 : (32 - (m : Int)).toNat = 32 - m := by omega
  have key : bits BinOp.or IntKind.u32 ((x.toNat : Int) / 2 ^ m) ((x.toNat : Int) * 2 ^ (32 - m) % 4294967296) = ((rotr x (UInt32.ofNat m)).toNat : Int) := by
    rw [shr_u32 x m (by omega), shl_u32 x (32 - m) (by omega), or_u32]
    show ((x >>> UInt32.ofNat m ||| x <<< UInt32.ofNat (32 - m)).toNat : Int) = ((x >>> UInt32.ofNat m ||| x <<< (32 - UInt32.ofNat m)).toNat : Int)
    congr 4
    apply UInt32.toNat.inj
    rw [UInt32.toNat_sub_of_le, UInt32.toNat_ofNat_of_lt' (by simp [UInt32.size]; omega), UInt32.toNat_ofNat_of_lt' (by simp [UInt32.size]; omega)]
    · rfl
    · rw [UInt32.le_iff_toNat_le, UInt32.toNat_ofNat_of_lt' (by simp [UInt32.size]; omega)]; simp; omega
  simp only [Int.toNat_natCast, e1]
  rw [← key]
  rfl

theorem getD_snoc (l : List UInt32) (x : UInt32) (j t : Nat) (h : l.length = t) : (if j = t then x else l.getD j 0) = (l ++ [x]).getD j 0 := by
  subst h
  by_cases hj : j = l.length
  · subst hj; simp
  · rw [if_neg hj]
    rcases Nat.lt_or_ge j l.length with h1 | h1
    · simp [List.getD, List.getElem?_append_left h1]
    · simp [List.getD, List.getElem?_eq_none h1, List.getElem?_eq_none (l := l ++ [x]) (i := j) (by simp; omega)]
theorem be_eq (x0 x1 x2 x3 : UInt8) : bits BinOp.or IntKind.u32
                      (bits BinOp.or IntKind.u32
                        (bits BinOp.or IntKind.u32 ((x0.toNat : Int) % 4294967296 * 16777216 % 4294967296)
                          ((x1.toNat : Int) % 4294967296 * 65536 % 4294967296))
                        ((x2.toNat : Int) % 4294967296 * 256 % 4294967296))
                      ((x3.toNat : Int) % 4294967296) = ((be x0 x1 x2 x3).toNat : Int) := by
  have a := shl_u32 x0.toUInt32 24 (by omega)
  have b := shl_u32 x1.toUInt32 16 (by omega)
  have c := shl_u32 x2.toUInt32 8 (by omega)
  simp only [u8_to_u32] at *
  rw [show (16777216 : Int) = 2 ^ 24 from rfl, show (65536 : Int) = 2 ^ 16 from rfl, show (256 : Int) = 2 ^ 8 from rfl, a, b, c, or_u32, or_u32, or_u32]
  rfl
theorem s0_eq (y : UInt32) : bits BinOp.xor IntKind.u32 (bits BinOp.xor IntKind.u32 ((rotr y 7).toNat : Int) ((rotr y 18).toNat : Int)) ((y.toNat : Int) / 8) = ((s0 y).toNat : Int) := by
  rw [show (8 : Int) = 2 ^ 3 from rfl, shr_u32 y 3 (by omega), xor_u32, xor_u32]; rfl
theorem s1_eq (y : UInt32) : bits BinOp.xor IntKind.u32 (bits BinOp.xor IntKind.u32 ((rotr y 17).toNat : Int) ((rotr y 19).toNat : Int)) ((y.toNat : Int) / 1024) = ((s1 y).toNat : Int) := by
  rw [show (1024 : Int) = 2 ^ 10 from rfl, shr_u32 y 10 (by omega), xor_u32, xor_u32]; rfl
theorem ext_eq (y2 y7 y15 y16 : UInt32) : (bits BinOp.xor IntKind.u32 (bits BinOp.xor IntKind.u32 ((rotr y2 17).toNat : Int) ((rotr y2 19).toNat : Int)) ((y2.toNat : Int) / 1024) + (y7.toNat : Int)
      + bits BinOp.xor IntKind.u32 (bits BinOp.xor IntKind.u32 ((rotr y15 7).toNat : Int) ((rotr y15 18).toNat : Int)) ((y15.toNat : Int) / 8) + (y16.toNat : Int)) % 4294967296 = ((s1 y2 + y7 + s0 y15 + y16).toNat : Int) := by
  rw [s0_eq, s1_eq]
  simp only [UInt32.toNat_add]
  omega
theorem not_u32 (x : UInt32) : bits BinOp.xor IntKind.u32 IntKind.u32.max (x.toNat : Int) = ((~~~x).toNat : Int) := by
  have h : IntKind.u32.max = ((4294967295 : UInt32).toNat : Int) := by decide
  rw [h, xor_u32]
  congr 2
theorem t1_eq (x : St) (kk ww : UInt32) : ∃ n : Nat, (x.h.toNat : Int) + bits BinOp.xor IntKind.u32 (bits BinOp.xor IntKind.u32 ((rotr x.e 6).toNat : Int) ((rotr x.e 11).toNat : Int)) ((rotr x.e 25).toNat : Int)
     + bits BinOp.xor IntKind.u32 (bits BinOp.and IntKind.u32 (x.e.toNat : Int) (x.f.toNat : Int)) (bits BinOp.and IntKind.u32 (bits BinOp.xor IntKind.u32 IntKind.u32.max (x.e.toNat : Int)) (x.g.toNat : Int))
     + (kk.toNat : Int) + (ww.toNat : Int) = (n : Int) ∧ n % 4294967296 = (t1 x kk ww).toNat := by
  refine ⟨x.h.toNat + (rotr x.e 6 ^^^ rotr x.e 11 ^^^ rotr x.e 25).toNat + ((x.e &&& x.f) ^^^ (~~~x.e &&& x.g)).toNat + kk.toNat + ww.toNat, ?_, ?_⟩
  · simp only [not_u32, xor_u32, and_u32]; omega
  · simp only [t1, UInt32.toNat_add]; omega
theorem t2_eq (x : St) : ∃ n : Nat, bits BinOp.xor IntKind.u32 (bits BinOp.xor IntKind.u32 ((rotr x.a 2).toNat : Int) ((rotr x.a 13).toNat : Int)) ((rotr x.a 22).toNat : Int)
     + bits BinOp.xor IntKind.u32 (bits BinOp.xor IntKind.u32 (bits BinOp.and IntKind.u32 (x.a.toNat : Int) (x.b.toNat : Int)) (bits BinOp.and IntKind.u32 (x.a.toNat : Int) (x.c.toNat : Int))) (bits BinOp.and IntKind.u32 (x.b.toNat : Int) (x.c.toNat : Int))
      = (n : Int) ∧ n % 4294967296 = (t2 x).toNat := by
  refine ⟨(rotr x.a 2 ^^^ rotr x.a 13 ^^^ rotr x.a 22).toNat + ((x.a &&& x.b) ^^^ (x.a &&& x.c) ^^^ (x.b &&& x.c)).toNat, ?_, ?_⟩
  · simp only [xor_u32, and_u32, Int.natCast_add]
  · simp only [t2, UInt32.toNat_add]
theorem wordsTo_length (s : List UInt8) (t : Nat) : (wordsTo s t).length = t := by
  induction t with
  | zero => rfl
  | succ t ih => simp [wordsTo, ih]
theorem extTo_length (l : List UInt32) (t : Nat) : (extTo l t).length = l.length + t := by
  induction t with
  | zero => rfl
  | succ t ih => simp [extTo, ih]; omega

def stCells (v : St) : Array Value := #[.int .u32 v.a.toNat, .int .u32 v.b.toNat, .int .u32 v.c.toNat, .int .u32 v.d.toNat, .int .u32 v.e.toNat, .int .u32 v.f.toNat, .int .u32 v.g.toNat, .int .u32 v.h.toNat]
theorem quiet_add_left {P : Program} {f : FuncId} {args : Array Value} {w : World} {a n : Nat} {v : Value}
    (h : Calls P f args (w.drewN (a + n)) fun e w' => e = .returned v ∧ w.drewN (a + n) = w') :
    Calls P f args (w.drewN (a + n)) fun e w'' => e = .returned v ∧ ∃ m, w'' = w.drewN (a + m) :=
  h.mono fun _ _ ⟨he, hm⟩ => ⟨he, n, hm.symm⟩
theorem quiet_left {P : Program} {f : FuncId} {args : Array Value} {w : World} {n : Nat} {v : Value}
    (h : Calls P f args (w.drewN n) fun e w' => e = .returned v ∧ w.drewN n = w') : Calls P f args (w.drewN n) fun e w'' => e = .returned v ∧ ∃ m, w'' = w.drewN m :=
  h.mono fun _ _ ⟨he, hm⟩ => ⟨he, n, hm.symm⟩
/-- the cells of a hash, t of its words with the other's added -/
def hashF (v x : St) (rv nv : Value) (t j : Nat) : Value :=
  if j < 8 then .int .u32 (if j < t then v.words.getD j 0 + x.words.getD j 0 else v.words.getD j 0).toNat else if j = 8 then rv else nv
def hashCells (v : St) (rv nv : Value) : Array Value := #[.int .u32 v.a.toNat, .int .u32 v.b.toNat, .int .u32 v.c.toNat, .int .u32 v.d.toNat, .int .u32 v.e.toNat, .int .u32 v.f.toNat, .int .u32 v.g.toNat, .int .u32 v.h.toNat, rv, nv]
theorem hash_of_row {w : World} {b : Nat} {v x : St} {rv nv : Value} (h : w.rowIs b 52 10 (hashF v x rv nv 8)) : Blk w b 52 (hashCells (addSt v x) rv nv) := by
  obtain ⟨c, hc, hn, hi⟩ := h
  unfold Blk
  rw [hc]
  congr 2
  apply Array.ext_getElem?
  intro i
  by_cases h10 : i < 10
  · rw [hi i h10]
    match i, h10 with
    | 0, _ | 1, _ | 2, _ | 3, _ | 4, _ | 5, _ | 6, _ | 7, _ | 8, _ | 9, _ => rfl
  · rw [Array.getElem?_eq_none (by omega), Array.getElem?_eq_none (by simp [hashCells]; omega)]
theorem index_st (x : St) (j : Nat) (W : World) (hj : j < 8) : (Instr.index 50 (.agg #[Value.int IntKind.u32 ↑x.a.toNat, Value.int IntKind.u32 ↑x.b.toNat, Value.int IntKind.u32 ↑x.c.toNat, Value.int IntKind.u32 ↑x.d.toNat, Value.int IntKind.u32 ↑x.e.toNat, Value.int IntKind.u32 ↑x.f.toNat, Value.int IntKind.u32 ↑x.g.toNat, Value.int IntKind.u32 ↑x.h.toNat]) (.int .i64 (j : Int))).run Tryd.prog W = .ok (.int .u32 (x.words.getD j 0).toNat) W := by
  have h : j = 0 ∨ j = 1 ∨ j = 2 ∨ j = 3 ∨ j = 4 ∨ j = 5 ∨ j = 6 ∨ j = 7 := by omega
  clear hj
  rcases h with rfl | rfl | rfl | rfl | rfl | rfl | rfl | rfl <;> (show _ = _; kernel_rfl)
theorem copy_st (w : World) (g : Nat) (x : St) (h : Blk w g 50 (stCells x)) : ∃ w3 : World,
    (∀ k, (Builtin.copy_ #[63, 63] 3 #[.slice (some ⟨g, 1, none⟩) 7 7, .slice (some ⟨g, 0, none⟩) 7 8]).run Tryd.prog (w.drewN k) = .ok (.int .i64 7) (w3.drewN k)) ∧
    Blk w3 g 50 #[.int .u32 x.a.toNat, .int .u32 x.a.toNat, .int .u32 x.b.toNat, .int .u32 x.c.toNat, .int .u32 x.d.toNat, .int .u32 x.e.toNat, .int .u32 x.f.toNat, .int .u32 x.g.toNat] ∧ Chg (fun k => k = g) w w3 := by
  obtain ⟨i, hi, _, h1, _⟩ := info_parts (show (Tryd.prog.info? 49).map (fun i => (i.zero, i.size, i.bytes)) = some (some (.int .u32 0), 1, 4) by kernel_rfl)
  refine ⟨w.setRow g #[.int .u32 x.a.toNat, .int .u32 x.a.toNat, .int .u32 x.b.toNat, .int .u32 x.c.toNat, .int .u32 x.d.toNat, .int .u32 x.e.toNat, .int .u32 x.f.toNat, .int .u32 x.g.toNat], fun k => ?_, setRow_heap _ _ _ _ _ _ h, (Chg.refl (fun k => k = g) w).setRow (.inl rfl) _⟩
  exact run_copy_within (P := Tryd.prog) (w.drewN k) (h.drewN k) 63 3 49 i Tryd.underlying63 hi h1 1 0 7 7 7 8 (by omega) (by simp [stCells]) (by simp [stCells]) (fun u hu => by simp [stCells] at hu; rcases hu with h | h | h | h | h | h | h | h <;> (subst h; rfl))
set_option maxHeartbeats 1000000 in
set_option maxRecDepth 100000 in
theorem block_any (b g off cap : Nat) (v : St) (rv nv : Value) (s : List UInt8) (w : World) (hb : Blk w b 52 (hashCells v rv nv))
   (hg : g < w.heap.size) (_hcap : 64 ≤ cap) (_hcap2 : cap ≤ 9223372036854775807)
   (hs : ∀ j, j < 64 → w.cell? ⟨g, off + j, none⟩ = some (.int .u8 (s.getD j 0).toNat))
   (hk : ∀ j, j < 64 → w.cell? ⟨1, j, none⟩ = some (.int .u32 (kTab.getD j 0).toNat)) (hk1 : 1 < w.heap.size) :
    Calls Tryd.prog 24 #[.pointer (some ⟨b, 0, none⟩), .slice (some ⟨g, off, none⟩) 64 cap] w fun e w' => e = .returned (.tuple #[]) ∧ Blk w' b 52 (hashCells (block v s) rv nv) ∧ Chg (fun k => k = b) w w' := by
  have Hs := Lib.hid hs; clear hs
  have Hk := Lib.hid hk; clear hk
  have Hb := Lib.hid hb; clear hb
  go_enter Tryd.func24, Tryd.ntmps24
  go_wp2
  go_loopw [19] (fun i wr => ∃ t : Nat, t ≤ 16 ∧ i = .int .i64 t ∧ wr.rowIs w.heap.size 61 64 (fun j => .int .u32 ((wordsTo s t).getD j 0).toNat) ∧ Chg (fun _ => False) w wr) (fun i _ => 16 - (intOf i).toNat)
  case atStart =>
    refine ⟨0, by omega, rfl, ?_, (Chg.refl _ _).alloc _⟩
    exact World.rowIs_alloc _ _ _ _ (fun i hi => by
      simp only [List.size_toArray, List.length_cons, List.length_nil] at hi
      have : ∀ i, i < 64 → (List.replicate 64 (Value.int IntKind.u32 0)).toArray[i]? = some (Value.int IntKind.u32 0) := fun i hi => by rw [List.getElem?_toArray, List.getElem?_replicate, if_pos hi]
      exact this i hi)
  case round =>
    obtain ⟨t, ht, rfl, hr, hc⟩ := hrel
    by_cases hlt : t < 16
    · have hcell : ∀ j, j < 64 → wr.cell? ⟨g, off + j, none⟩ = some (.int .u8 (s.getD j 0).toNat) := fun j hj => (hc.cell (p := ⟨g, off + j, none⟩) hg (fun f => f)).trans (Hs.out j hj)
      have c0 := hcell (4 * t) (by omega)
      have c1 := hcell (4 * t + 1) (by omega)
      have c2 := hcell (4 * t + 2) (by omega)
      have c3 := hcell (4 * t + 3) (by omega)
      clear hcell
      have d0 := hr.cell (i := t) (by omega)
      have d1 := hr.frozen (i := t)
      have Hr := Lib.hid hr; clear hr
      have Hw : Hid (wordsTo s (t + 1) = wordsTo s t ++ [be (s.getD (4*t) 0) (s.getD (4*t+1) 0) (s.getD (4*t+2) 0) (s.getD (4*t+3) 0)]) := rfl
      generalize s.getD (4*t) 0 = x0 at *
      generalize s.getD (4*t+1) 0 = x1 at *
      generalize s.getD (4*t+2) 0 = x2 at *
      generalize s.getD (4*t+3) 0 = x3 at *
      go_wp2
      go_region
      go_wp2
      go_roundw
      case rel =>
        refine ⟨t + 1, by omega, by go_num, ?_, (hc.setCell (.inr (Nat.le_refl _)) _).drew⟩
        rw [be_eq]
        refine ((Hr.out.set t _).drew).congr (fun j hj => ?_)
        rw [Hw.out, ← getD_snoc _ _ j t (wordsTo_length s t)]
        split <;> rfl
      case measure => simp [intOf]; omega
    · have Hr : Hid (wr.rowIs w.heap.size 61 64 (fun j => .int .u32 ((wordsTo s 16).getD j 0).toNat)) := by
        obtain rfl : t = 16 := by omega
        exact hr
      clear hr
      have hdec : decide ((t : Int) < 16) = false := by simp; omega
      obtain ⟨w1, rfl⟩ : ∃ w1 : World, w1 = wr := ⟨_, rfl⟩
      go_wp2
      go_loopw [6] (fun i wr => ∃ t : Nat, 16 ≤ t ∧ t ≤ 64 ∧ i = .int .i64 t ∧ wr.rowIs w.heap.size 61 64 (fun j => .int .u32 ((extTo (wordsTo s 16) (t - 16)).getD j 0).toNat) ∧ Chg (fun _ => False) w wr) (fun i _ => 64 - (intOf i).toNat)
      case atStart => exact ⟨16, by omega, by omega, rfl, Hr.out, hc⟩
      case round =>
        obtain ⟨t, ht0, ht, rfl, hr, hc'⟩ := hrel
        by_cases hlt : t < 64
        · have c0 := hr.cell (i := t - 15) (by omega)
          have c1 := hr.cell (i := t - 2) (by omega)
          have c2 := hr.cell (i := t - 7) (by omega)
          have c3 := hr.cell (i := t - 16) (by omega)
          have d0 := hr.cell (i := t) (by omega)
          have d1 := hr.frozen (i := t)
          have Hr := Lib.hid hr; clear hr
          have He : Hid (extTo (wordsTo s 16) (t + 1 - 16) = extTo (wordsTo s 16) (t - 16) ++ [s1 ((extTo (wordsTo s 16) (t - 16)).getD (t - 2) 0) + (extTo (wordsTo s 16) (t - 16)).getD (t - 7) 0 + s0 ((extTo (wordsTo s 16) (t - 16)).getD (t - 15) 0) + (extTo (wordsTo s 16) (t - 16)).getD (t - 16) 0]) := by
            show extTo (wordsTo s 16) (t + 1 - 16) = _
            rw [show t + 1 - 16 = (t - 16) + 1 from by omega, extTo, ext, show 16 + (t - 16) = t from by omega]
          have Hl : Hid ((extTo (wordsTo s 16) (t - 16)).length = t) := by
            show (extTo (wordsTo s 16) (t - 16)).length = t
            rw [extTo_length, wordsTo_length]; omega
          generalize (extTo (wordsTo s 16) (t - 16)).getD (t - 15) 0 = y15 at *
          generalize (extTo (wordsTo s 16) (t - 16)).getD (t - 2) 0 = y2 at *
          generalize (extTo (wordsTo s 16) (t - 16)).getD (t - 7) 0 = y7 at *
          generalize (extTo (wordsTo s 16) (t - 16)).getD (t - 16) 0 = y16 at *
          go_wp2_with (go_at_call 31; refine (right_any _ _ _ (by omega) (by omega)).mono ?_; rintro e w' ⟨rfl, rfl⟩)
          go_region
          go_wp2_with (go_at_call 31; refine (right_any _ _ _ (by omega) (by omega)).mono ?_; rintro e w' ⟨rfl, rfl⟩)
          go_region
          go_wp2
          go_roundw
          case rel =>
            refine ⟨t + 1, by omega, by omega, by go_num, ?_, by
               exact (hc'.setCell (.inr (Nat.le_refl _)) _).drewN 2⟩
            refine ((Hr.out.set t _).drew).congr (fun j hj => ?_)
            rw [ext_eq, He.out, ← getD_snoc _ _ j t Hl.out]
            split <;> rfl
          case measure => simp [intOf]; omega
        · have hrow : Hid (wr.rowIs w.heap.size 61 64 (fun j => .int .u32 ((sched s).getD j 0).toNat)) := by
            obtain rfl : t = 64 := by omega
            exact hr
          clear hr
          have hbr : Blk wr b 52 _ := Hb.out.chg hc' (fun f => f)
          have hcb := hbr.cell
          unfold hashCells at hcb
          have hdec : decide ((t : Int) < 64) = false := by simp; omega
          obtain ⟨w2, rfl⟩ : ∃ w2 : World, w2 = wr := ⟨_, rfl⟩
          have hsz : w.heap.size < w2.heap.size := hrow.out.lt
          go_wp2
          clear hcb
          have Hbr := Lib.hid hbr; clear hbr
          go_loopw [105] (fun i wr => ∃ t : Nat, t ≤ 64 ∧ i = .int .i64 t ∧ Blk wr w2.heap.size 50 (stCells (roundsTo (sched s) v t)) ∧ Chg (fun _ => False) w2 wr) (fun i _ => 64 - (intOf i).toNat)
          case atStart => exact ⟨0, by omega, rfl, Blk.new _ _ _, (Chg.refl _ _).alloc _⟩
          case round =>
            obtain ⟨t, ht, rfl, hv, hc''⟩ := hrel
            by_cases hlt : t < 64
            · have hkc : wr.cell? ⟨1, t, none⟩ = some (.int .u32 (kTab.getD t 0).toNat) := (hc''.cell (p := ⟨1, t, none⟩) (by show 1 < _; omega) (fun f => f)).trans ((hc'.cell (p := ⟨1, t, none⟩) hk1 (fun f => f)).trans (Hk.out t hlt))
              have hwc : wr.cell? ⟨w.heap.size, t, none⟩ = some (.int .u32 ((sched s).getD t 0).toNat) := (hc''.cell (p := ⟨w.heap.size, t, none⟩) (by simpa using hsz) (fun f => f)).trans (hrow.out.cell hlt)
              have Hn : Hid (roundsTo (sched s) v (t + 1) = round (roundsTo (sched s) v t) (kTab.getD t 0) ((sched s).getD t 0)) := rfl
              generalize kTab.getD t 0 = kk at *
              generalize (sched s).getD t 0 = ww at *
              generalize roundsTo (sched s) v t = x at *
              have hcv := hv.cell
              have hfv := hv.frozen
              have Hv := Lib.hid hv; clear hv
              unfold stCells at hcv
              go_wp2
              go_quiet (fail)
              go_wp2
              go_quiet ((go_at_call 31; exact quiet_add_left (right_any _ _ _ (by omega) (by omega))))
              go_wp2
              go_quiet ((go_at_call 31; exact quiet_add_left (right_any _ _ _ (by omega) (by omega))))
              go_wp2
              obtain ⟨w3, hcp, hB3, hC3⟩ := copy_st wr w2.heap.size x Hv.out
              have hcv3 := hB3.cell
              have hfv3 := hB3.frozen
              clear hcv hfv
              go_region
              clear hcp
              go_wp2
              go_roundw
              case rel =>
                refine ⟨t + 1, by omega, by go_num, ?_, ?_⟩
                · obtain ⟨n1, e1, m1⟩ := t1_eq x kk ww
                  obtain ⟨n2, e2, m2⟩ := t2_eq x
                  rw [e1, e2, Hn.out]
                  have f1 : ((n1 : Int) + n2) % 4294967296 = ((t1 x kk ww + t2 x).toNat : Int) := by rw [UInt32.toNat_add]; omega
                  have f2 : ((x.d.toNat : Int) + n1) % 4294967296 = ((x.d + t1 x kk ww).toNat : Int) := by rw [UInt32.toNat_add]; omega
                  rw [f1, f2]
                  exact ((hB3.drewN _).set_ 0 _).set_ 4 _
                · have hz := hc''.trans hC3 (fun i hi h => by omega)
                  exact ((hz.drewN _).setCell (.inr (Nat.le_refl _)) _).setCell (.inr (Nat.le_refl _)) _
              case measure => simp [intOf]; omega
            · have hrow3 : Hid (Blk wr w2.heap.size 50 (stCells (roundsTo (sched s) v 64))) := by
                obtain rfl : t = 64 := by omega
                exact hv
              clear hv
              have hdec : decide ((t : Int) < 64) = false := by simp; omega
              have hcv := hrow3.out.cell
              have Hx : Hid (block v s = addSt v (roundsTo (sched s) v 64)) := rfl
              generalize roundsTo (sched s) v 64 = x at *
              unfold stCells at hcv
              obtain ⟨w4, rfl⟩ : ∃ w4 : World, w4 = wr := ⟨_, rfl⟩
              go_wp2
              clear hcv
              have hidx := fun (j : Nat) (W : World) (hj : j < 8) => index_st x j W hj
              have Hidx := Lib.hid hidx; clear hidx
              go_loopw [180] (fun i wr => ∃ t : Nat, t ≤ 8 ∧ i = .int .i64 t ∧ wr.rowIs b 52 10 (hashF v x rv nv t) ∧ Chg (fun k => k = b) w wr) (fun i _ => 8 - (intOf i).toNat)
              case atStart =>
                refine ⟨0, by omega, rfl, ?_, ?_⟩
                · exact ⟨_, Hbr.out.chg hc'' (fun f => f), rfl, fun i hi => by
                    match i, hi with
                    | 0, _ | 1, _ | 2, _ | 3, _ | 4, _ | 5, _ | 6, _ | 7, _ | 8, _ | 9, _ => rfl⟩
                · exact (hc'.trans hc'' (fun _ _ f => f)).mono (fun _ _ f => f.elim)
              case round =>
                obtain ⟨t, ht, rfl, hr, hcb⟩ := hrel
                by_cases hlt : t < 8
                · have hidx := fun W => Hidx.out t W hlt
                  have c0 := hr.cell (i := t) (by omega)
                  have c1 := hr.frozen (i := t)
                  have Hr := Lib.hid hr; clear hr
                  have Hf : Hid (hashF v x rv nv t t = .int .u32 ((v.words.getD t 0).toNat : Int)) := by
                    show hashF v x rv nv t t = _
                    simp [hashF, hlt]
                  rw [Hf.out] at c0
                  generalize hvv : v.words.getD t 0 = vv at *
                  have Hvv := Lib.hid hvv; clear hvv
                  generalize hxx : x.words.getD t 0 = xx at *
                  have Hxx := Lib.hid hxx; clear hxx
                  go_wp2
                  clear hidx
                  go_region
                  go_wp2
                  go_roundw
                  case rel =>
                    refine ⟨t + 1, by omega, by go_num, ?_, (hcb.setCell (.inl rfl) _).drew⟩
                    refine ((Hr.out.set t _).drew).congr (fun j hj => ?_)
                    by_cases hjt : j = t
                    · subst hjt
                      rw [if_pos rfl, add_u32]
                      simp only [hashF, hlt, if_true, Nat.lt_succ_self, Hvv.out, Hxx.out]
                    · rw [if_neg hjt]
                      unfold hashF
                      by_cases h8 : j < 8
                      · rw [if_pos h8, if_pos h8]
                        by_cases hjl : j < t
                        · rw [if_pos hjl, if_pos (by omega)]
                        · rw [if_neg hjl, if_neg (by omega)]
                      · rw [if_neg h8, if_neg h8]
                  case measure => simp [intOf]; omega
                · have Hr : Hid (Blk wr b 52 (hashCells (block v s) rv nv)) := by
                    obtain rfl : t = 8 := by omega
                    rw [Hx.out]
                    exact hash_of_row hr
                  clear hr
                  go_wp2
                  go_end0
                  exact ⟨rfl, Hr.out, hcb⟩
end Go.Proofs.YtkfngeckojobbaaDoor
