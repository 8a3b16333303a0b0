/- maps.Clone at the counts' map; refs: Copy. -/
import Derived.Test.YtnagmpnpgekhfaaRefsDiff0
import Derived.Laws.Externs
import Derived.MapKept
namespace Go.Proofs.Ytnagmpnpgekhfaa
open Go.RowKit
theorem run_clone {P : Program} {w : World} {r : Nat} {es : Array MapEntry} {clock : Nat} (t : TypeId) (hb : w.heap[r]? = some (.map es clock)) :
    (Extern.MapsClone.clone #[.iface t (.map (some r))]).run P w = .ok (.iface t (.map (some w.heap.size))) (w.alloc (.map es clock)) := by
  have e : Extern.MapsClone.clone #[.iface t (.map (some r))] = (getObj r >>= fun o => match o with
      | .map entries clock => (newObj (.map entries clock) >>= fun n => pure (.iface t (.map (some n))))
      | _ => stuck "maps.clone: a map expected") := rfl
  rw [e]
  simp [MapKept.run_getObj_map hb, Result.andThen, go_sem]
section
variable {κ ν : Type} [DecidableEq κ] {P : Program} {N : Nat} {ds : List Deferred} {ops : Array Oper} {Q : Post} {rest : List Oper} {l : Env} {w : World} {enc : κ → Value} {encv : ν → Value} {m : List (κ × ν)} {b d : Nat} {f : FuncId} {x : Operand} {t ty : TypeId} {ats : Array TypeId} {fn : Func} {pos : String} {aft : Array Edge}
theorem sclone (hf : P.funcs[f]? = some fn) (hname : (fn.name == "runtime.NumGoroutine") = false) (hb : fn.body.isNone = true) (hn : Extern.findNext fn = none) (he : Extern.find fn = some Extern.MapsClone.clone)
    (hx : ev l x = some (.iface t (.map (some b)))) (hd : Nat.blt d N = true) (hM : MapAt w b enc encv m)
    (h : ∀ b' w', MapAt w' b' enc encv m → w.heap.size ≤ b' → Below w.heap.size w w' → b' < w'.heap.size → WL P N ds ops Q rest ((d, .iface t (.map (some b'))) :: l) w') :
    WL P N ds ops Q (⟨some d, .call { callee := .value (.func f), args := #[x], argTypes := ats }, ty, pos, aft, none⟩ :: rest) l w := by
  obtain ⟨ts, clock, h1, h2, h3, h4⟩ := hM.obj
  have h := h _ (w.alloc (.map _ clock)) ⟨hM.nodup, ts, clock, h1, h2, h3, (MapKept.heap_alloc w _).1⟩ (Nat.le_refl _) ((Below.refl _ _).alloc (Nat.le_refl _) _) (by simp)
  intro a ha
  refine wpList_plain rfl fun K hK => ?_
  unfold Oper.wp
  have : (execOp a.eval ⟨some d, .call { callee := .value (.func f), args := #[x], argTypes := ats }, ty, pos, aft, none⟩).run P w = .ok (.value (.iface t (.map (some w.heap.size)))) (w.alloc (.map ((m.zip ts).map fun p => (⟨enc p.1.1, encv p.1.2, p.2⟩ : MapEntry)).toArray clock)) := by
    have hx0 := ha.knows _ _ hx
    have hf0 : a.eval (.func f) = .func (.func f) #[] #[] := rfl
    unfold execOp
    simp only [resolve, invoke]
    simp [Deferred.ofValue, hf0, hx0, run_callFunc_extern hf hname hb hn he, run_clone t h4, Result.andThen]
  rw [this]
  exact hK _ _ (h _ (ha.put hd _))
end
theorem eqMapNil (w : World) (b : Nat) : (binOp .eql 108 (.map (some b)) (.map none)).run Try.prog w = .ok (.bool false) w := by kernel_rfl
theorem X.mapNil {l : Env} {x : Operand} {w : World} {t' ty : TypeId} {b : Nat} (hx : ev l x = some (.map (some b))) : X Try.prog l (.binOp .eql 108 x (.const (.map none)) t') ty w (.bool false) w :=
  X.bin hx rfl (fun _ _ => by unfold eqGuard; simp) (eqMapNil w b)
theorem mi_map (w : World) (b : Nat) : (Instr.makeInterface 108 (.map (some b))).run Try.prog w = .ok (.iface 108 (.map (some b))) w := by kernel_rfl
theorem ta_map (w : World) (b : Nat) : (Instr.typeAssert (.iface 108 (.map (some b))) 20 108 false).run Try.prog w = .ok (.map (some b)) w := by kernel_rfl
theorem X.tass {P : Program} {l : Env} {x : Operand} {w : World} {t t' ty : TypeId} {o : Bool} {v r : Value} (hx : ev l x = some v) (hr : (Instr.typeAssert v t t' o).run P w = .ok r w) : X P l (.typeAssert x t t' o) ty w r w := fun ρ hρ => by
  unfold execOp
  simp only [hρ _ _ hx, Sem.run_bind, hr, Result.andThen_ok, Sem.run_pure]
theorem Clone_any (b : Nat) (m : List (Sum32 × Int)) (w : World) (hM : MapAt w b encSum encInt m) : Calls Try.prog 68 #[.map (some b)] w fun e w' => ∃ b', e = .returned (.map (some b')) ∧ MapAt w' b' encSum encInt m ∧ w.heap.size ≤ b' ∧ Below w.heap.size w w' := by
  refine W_enter (args := [.map (some b)]) 9 Try.func68 rfl rfl rfl ?_
  refine W_sub [(0, .map (some b))] ?_ ⟨rfl, trivial⟩
  have hbw := Below.refl w.heap.size w
  refine W_rs ?_
  refine sa rfl rfl ?_
  refine Wn ?_
  refine tN ?_
  refine W_seq ?_
  refine W_rs ?_
  refine sm rfl rfl ?_
  refine st (X.mapNil rfl) rfl ?_
  refine Wn ?_
  refine tN ?_
  refine W_no rfl (rfl) ?_
  refine W_skip ?_
  refine tN ?_
  refine W_rs ?_
  refine sm rfl rfl ?_
  refine st (X.mkI rfl (mi_map _ _)) rfl ?_
  refine sclone Try.func92 (by kernel_rfl) (by kernel_rfl) (by kernel_rfl) (by kernel_rfl) rfl rfl (hM.bel hbw) (fun b' w1 hM' hbg hb hbl => ?_)
  replace hbw := bthen hbw hb
  have hbg' : w.heap.size ≤ b' := by omega
  clear hb
  refine st (X.tass rfl (ta_map _ _)) rfl ?_
  refine sa rfl rfl ?_
  refine Wn ?_
  refine tN ?_
  refine W_ret ?_
  exact (rT rfl rfl ⟨b', rfl, hM', hbg', hbw⟩).1
theorem Copy_any (g b : Nat) (x : List Chk) (w : World) (h : CountsAt w g b x) : Calls Try.prog 39 #[.pointer (some ⟨g, 0, none⟩)] w fun e w' => ∃ g' b', e = .returned (.pointer (some ⟨g', 0, none⟩)) ∧ CountsAt w' g' b' x ∧ w.heap.size ≤ g' ∧ w.heap.size ≤ b' ∧ g' ≠ b' ∧ Below w.heap.size w w' := by
  have hB := h.blk
  obtain ⟨m, hM, hm⟩ := h.map
  refine W_enter (args := [.pointer (some ⟨g, 0, none⟩)]) 12 Try.func39 rfl rfl rfl ?_
  refine W_sub [(0, .pointer (some ⟨g, 0, none⟩))] ?_ ⟨rfl, trivial⟩
  have hbw := Below.refl w.heap.size w
  refine W_rs ?_
  refine sa rfl rfl ?_
  refine Wn ?_
  refine tN ?_
  refine W_seq ?_
  refine W_rs ?_
  refine sm rfl rfl ?_
  refine st (X.nilP rfl) rfl ?_
  refine Wn ?_
  refine tN ?_
  refine W_no rfl (rfl) ?_
  refine W_skip ?_
  refine tN ?_
  refine W_rs ?_
  refine sm rfl rfl ?_
  refine st (X.nilChk rfl) rfl ?_
  refine st (X.fa fa111_0 rfl) rfl ?_
  refine st (X.ldL rfl hB Try.underlying108 rfl rfl) rfl ?_
  refine sc _ Try.func68 rfl (by kernel_rfl) rfl rfl ((Clone_any b m _ (hM.bel hbw)).mono ?_)
  rintro e_ w1 ⟨b', rfl, hM', hbg, hb⟩
  refine cR ?_
  replace hbw := bthen hbw hb
  have hz_w1 := hb.size
  clear hb
  have hbl := hM'.lt
  have hbg' : w.heap.size ≤ b' := by omega
  refine st (X.bld rfl (bcnt _ _)) rfl ?_
  refine sboxA rfl rfl (fun g11 w2 hB11 hg11 hb hl11 => ?_)
  have hpend := hb
  replace hbw := bthen hbw hb
  have hz_w2 := hb.size
  clear hb
  refine sa rfl rfl ?_
  refine Wn ?_
  refine tN ?_
  replace hM' := hM'.bel hpend
  clear hpend
  refine W_ret ?_
  have hM2 := hM'
  exact (rT rfl rfl ⟨g11, b', rfl, ⟨hB11, m, hM2, hm⟩, by omega, hbg', by omega, hbw⟩).1
end Go.Proofs.Ytnagmpnpgekhfaa
