/- The chunk cutter: walks of New, Close, Waits. -/
import Derived.Test.YtljaekmdeojceaaCdcWrite
namespace Go.Proofs.Ytljaekmdeojceaa
open Go.RowKit Cdc
def gearCells : List Value := gearList ++ [.int .u64 0, .int .i64 0]
def cutCells : List Value := gearCells ++ [.slice none 0 0]
theorem build_gear (w : World) : (Instr.build 40 #[(0, .agg gearList.toArray)]).run Try.prog w = .ok (.agg gearCells.toArray) w := by kernel_rfl
theorem build_cutter (w : World) : (Instr.build 45 #[(0, .agg gearCells.toArray)]).run Try.prog w = .ok (.agg cutCells.toArray) w := by kernel_rfl
theorem box_cutter (w : World) : (Instr.box 45 (.agg cutCells.toArray)).run Try.prog w = .ok (.pointer (some ⟨w.heap.size, 0, none⟩)) (w.alloc (.cells cutCells.toArray 45)) := by kernel_rfl
/-- a composite literal, told by its run -/
theorem wpList_build_of {P : Program} {ops : Array Oper} {rest : List Oper} {o : Oper} {a : Act} {w : World} {Q : Exit → Act → World → Prop} (hgd : o.guard = none) (ty : TypeId) (x : Operand) (ho : o.op = .build ty #[(0, x)]) (u v : Value) (hx : a.eval x = u)
    (hr : ∀ w, (Instr.build ty #[(0, u)]).run P w = .ok v w)
    (h : wpList P ops Q rest (a.put o.dst v) w) : wpList P ops Q (o :: rest) a w := by
  refine wpList_plain hgd fun _ hK => ?_
  unfold Oper.wp execOp
  have e : (#[(0, x)] : Array (Nat × Operand)).map (fun p => (p.1, a.eval p.2)) = #[(0, u)] := by simp [hx]
  simp only [ho, e, Sem.run_bind, hr, Result.andThen_ok, Sem.run_pure]
  exact hK _ _ h
/-- a new variable with a value, told by its run -/
theorem wpList_box_of {P : Program} {ops : Array Oper} {rest : List Oper} {o : Oper} {a : Act} {w : World} {Q : Exit → Act → World → Prop} (hgd : o.guard = none) (ty : TypeId) (x : Operand) (ho : o.op = .box ty x) (cs : Array Value) (hx : a.eval x = .agg cs)
    (hr : ∀ w, (Instr.box ty (.agg cs)).run P w = .ok (.pointer (some ⟨w.heap.size, 0, none⟩)) (w.alloc (.cells cs ty)))
    (h : wpList P ops Q rest (a.put o.dst (.pointer (some ⟨w.heap.size, 0, none⟩))) (w.alloc (.cells cs ty))) : wpList P ops Q (o :: rest) a w := by
  refine wpList_plain hgd fun _ hK => ?_
  unfold Oper.wp execOp
  simp only [ho, hx, Sem.run_bind, hr, Result.andThen_ok, Sem.run_pure]
  exact hK _ _ h
theorem gearCells_length : gearCells.length = 258 := by unfold gearCells; rw [List.length_append, gearList_length]; rfl
theorem geared_list (l : List Value) : Geared (gearCells ++ l).toArray 0 0 := by
  have hg (i : Nat) (h : i < 256) : gearList[i]? = some (u64v (gear i)) := by
    have := gearList_at i h
    rwa [List.getElem?_toArray] at this
  refine ⟨fun j hj => ?_, ?_, ?_⟩
  · rw [List.getElem?_toArray, List.getElem?_append_left (by rw [gearCells_length]; omega), gearCells, List.getElem?_append_left (by rw [gearList_length]; omega), hg j hj]
  · rw [List.getElem?_toArray, List.getElem?_append_left (by rw [gearCells_length]; omega), gearCells, List.getElem?_append_right (by rw [gearList_length]; omega), gearList_length]
    rfl
  · rw [List.getElem?_toArray, List.getElem?_append_left (by rw [gearCells_length]; omega), gearCells, List.getElem?_append_right (by rw [gearList_length]; omega), gearList_length]
    rfl
theorem cutCells_size : cutCells.toArray.size = 259 := by
  show cutCells.length = 259
  unfold cutCells
  rw [List.length_append, gearCells_length]; rfl
theorem cutCells_258 : cutCells.toArray[258]? = some (.slice none 0 0) := by
  unfold cutCells
  rw [List.getElem?_toArray, List.getElem?_append_right (by rw [gearCells_length]; omega), gearCells_length]
  rfl
/-- a new cutter -/
theorem cutAt_new (w : World) (S : Nat → Prop) (hS : S w.heap.size) : CutAt (w.alloc (.cells cutCells.toArray 45)) S w.heap.size [] :=
  ⟨cutCells.toArray, .slice none 0 0, Blk.new w _ _, cutCells_size, geared_list _, cutCells_258, Row.nil _ _ _, hS, fun k hk => by simp [Value.ownBlock] at hk⟩
def NewIs (w : World) (e : Ending) (w' : World) : Prop := ∃ b, e = .returned (.pointer (some ⟨b, 0, none⟩)) ∧ w.heap.size ≤ b ∧ CutAt w' (fun k => w.heap.size ≤ k) b [] ∧ Below w.heap.size w w'
set_option maxRecDepth 100000 in
theorem New_any (w : World) : Calls Try.prog 15 #[] w (NewIs w) := by
  go_enter Try.func15, Try.ntmps15
  go_wp2_with (first
    | (go_at_call 21; (with_reducible refine (Gear_any _).mono ?_); rintro e w1 ⟨rfl, hb1⟩)
    | (refine wpList_build_of rfl 40 (.tmp 1) rfl (.agg gearList.toArray) (.agg gearCells.toArray) rfl build_gear ?_)
    | (refine wpList_build_of rfl 45 (.tmp 2) rfl (.agg gearCells.toArray) (.agg cutCells.toArray) rfl build_cutter ?_)
    | (refine wpList_box_of rfl 45 (.tmp 3) rfl cutCells.toArray rfl box_cutter ?_))
  go_ret
  exact ⟨w1.heap.size, rfl, hb1.size, cutAt_new w1 _ hb1.size, (((Chg.of_below hb1 (fun _ => False)).alloc _).belowAll)⟩
end Go.Proofs.Ytljaekmdeojceaa
