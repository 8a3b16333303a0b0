/- Facts on the types of this seat, each by computation. -/
import Derived.Test.YtnagmpnpgekhfaaProg
import Derived.Test.YtnagmpnpgekhfaaOps2
namespace Go.Proofs.Ytnagmpnpgekhfaa
theorem inf1 : (Try.prog.info? 1).map (fun i => (i.zero, i.size, i.bytes)) = some (some (.nilFunc), 1, 8) := by kernel_rfl
theorem siz1 : (Try.prog.info? 1).map (·.size) = some 1 := by kernel_rfl
theorem inf2 : (Try.prog.info? 2).map (fun i => (i.zero, i.size, i.bytes)) = some (some (.int .i64 0), 1, 8) := by kernel_rfl
theorem siz2 : (Try.prog.info? 2).map (·.size) = some 1 := by kernel_rfl
theorem inf3 : (Try.prog.info? 3).map (fun i => (i.zero, i.size, i.bytes)) = some (some (.int .i64 0), 1, 8) := by kernel_rfl
theorem siz3 : (Try.prog.info? 3).map (·.size) = some 1 := by kernel_rfl
theorem inf4 : (Try.prog.info? 4).map (fun i => (i.zero, i.size, i.bytes)) = some (some (.bool false), 1, 1) := by kernel_rfl
theorem siz4 : (Try.prog.info? 4).map (·.size) = some 1 := by kernel_rfl
theorem inf5 : (Try.prog.info? 5).map (fun i => (i.zero, i.size, i.bytes)) = some (some (.int .u8 0), 1, 1) := by kernel_rfl
theorem siz5 : (Try.prog.info? 5).map (·.size) = some 1 := by kernel_rfl
theorem inf9 : (Try.prog.info? 9).map (fun i => (i.zero, i.size, i.bytes)) = some (some (str []), 1, 16) := by kernel_rfl
theorem siz9 : (Try.prog.info? 9).map (·.size) = some 1 := by kernel_rfl
theorem inf20 : (Try.prog.info? 20).map (fun i => (i.zero, i.size, i.bytes)) = some (some (.nilIface), 1, 16) := by kernel_rfl
theorem siz20 : (Try.prog.info? 20).map (·.size) = some 1 := by kernel_rfl
theorem inf21 : (Try.prog.info? 21).map (fun i => (i.zero, i.size, i.bytes)) = some (some (.int .i32 0), 1, 4) := by kernel_rfl
theorem siz21 : (Try.prog.info? 21).map (·.size) = some 1 := by kernel_rfl
theorem inf22 : (Try.prog.info? 22).map (fun i => (i.zero, i.size, i.bytes)) = some (some (.slice none 0 0), 1, 24) := by kernel_rfl
theorem siz22 : (Try.prog.info? 22).map (·.size) = some 1 := by kernel_rfl
theorem inf29 : (Try.prog.info? 29).map (fun i => (i.zero, i.size, i.bytes)) = some (some (.slice none 0 0), 1, 24) := by kernel_rfl
theorem siz29 : (Try.prog.info? 29).map (·.size) = some 1 := by kernel_rfl
theorem inf34 : (Try.prog.info? 34).map (fun i => (i.zero, i.size, i.bytes)) = some (some (.slice none 0 0), 1, 24) := by kernel_rfl
theorem siz34 : (Try.prog.info? 34).map (·.size) = some 1 := by kernel_rfl
theorem inf36 : (Try.prog.info? 36).map (fun i => (i.zero, i.size, i.bytes)) = some (some (.agg (List.replicate 32 (.int .u8 0) : List Value).toArray), 32, 32) := by kernel_rfl
theorem siz36 : (Try.prog.info? 36).map (·.size) = some 32 := by kernel_rfl
theorem inf37 : (Try.prog.info? 37).map (fun i => (i.zero, i.size, i.bytes)) = some (some (.pointer none), 1, 8) := by kernel_rfl
theorem siz37 : (Try.prog.info? 37).map (·.size) = some 1 := by kernel_rfl
theorem inf39 : (Try.prog.info? 39).map (fun i => (i.zero, i.size, i.bytes)) = some (some (.slice none 0 0), 1, 24) := by kernel_rfl
theorem siz39 : (Try.prog.info? 39).map (·.size) = some 1 := by kernel_rfl
theorem inf42 : (Try.prog.info? 42).map (fun i => (i.zero, i.size, i.bytes)) = some (some (.slice none 0 0), 1, 24) := by kernel_rfl
theorem siz42 : (Try.prog.info? 42).map (·.size) = some 1 := by kernel_rfl
theorem inf57 : (Try.prog.info? 57).map (fun i => (i.zero, i.size, i.bytes)) = some (some (.agg (List.replicate 32 (.int .u8 0) ++ [.int .i64 0] : List Value).toArray), 33, 40) := by kernel_rfl
theorem siz57 : (Try.prog.info? 57).map (·.size) = some 33 := by kernel_rfl
theorem fa57_0 {w : World} (g o : Nat) : (Instr.fieldAt 57 (.pointer (some ⟨g, o, none⟩)) 0).run Try.prog w = .ok (.pointer (some ⟨g, o + 0, none⟩)) w := by kernel_rfl
theorem fa57_1 {w : World} (g o : Nat) : (Instr.fieldAt 57 (.pointer (some ⟨g, o, none⟩)) 1).run Try.prog w = .ok (.pointer (some ⟨g, o + 32, none⟩)) w := by kernel_rfl
theorem inf69 : (Try.prog.info? 69).map (fun i => (i.zero, i.size, i.bytes)) = some (some (.slice none 0 0), 1, 24) := by kernel_rfl
theorem siz69 : (Try.prog.info? 69).map (·.size) = some 1 := by kernel_rfl
theorem inf71 : (Try.prog.info? 71).map (fun i => (i.zero, i.size, i.bytes)) = some (some (.agg #[.slice none 0 0]), 1, 24) := by kernel_rfl
theorem siz71 : (Try.prog.info? 71).map (·.size) = some 1 := by kernel_rfl
theorem fa71_0 {w : World} (g o : Nat) : (Instr.fieldAt 71 (.pointer (some ⟨g, o, none⟩)) 0).run Try.prog w = .ok (.pointer (some ⟨g, o + 0, none⟩)) w := by kernel_rfl
theorem inf74 : (Try.prog.info? 74).map (fun i => (i.zero, i.size, i.bytes)) = some (some (.slice none 0 0), 1, 24) := by kernel_rfl
theorem siz74 : (Try.prog.info? 74).map (·.size) = some 1 := by kernel_rfl
theorem inf81 : (Try.prog.info? 81).map (fun i => (i.zero, i.size, i.bytes)) = some (some (.slice none 0 0), 1, 24) := by kernel_rfl
theorem siz81 : (Try.prog.info? 81).map (·.size) = some 1 := by kernel_rfl
theorem inf90 : (Try.prog.info? 90).map (fun i => (i.zero, i.size, i.bytes)) = some (some (.agg (List.replicate 32 (.int .u8 0) ++ [.int .i64 0, .int .i64 0, .int .i64 0] : List Value).toArray), 35, 56) := by kernel_rfl
theorem siz90 : (Try.prog.info? 90).map (·.size) = some 35 := by kernel_rfl
theorem fa90_0 {w : World} (g o : Nat) : (Instr.fieldAt 90 (.pointer (some ⟨g, o, none⟩)) 0).run Try.prog w = .ok (.pointer (some ⟨g, o + 0, none⟩)) w := by kernel_rfl
theorem fa90_1 {w : World} (g o : Nat) : (Instr.fieldAt 90 (.pointer (some ⟨g, o, none⟩)) 1).run Try.prog w = .ok (.pointer (some ⟨g, o + 32, none⟩)) w := by kernel_rfl
theorem fa90_2 {w : World} (g o : Nat) : (Instr.fieldAt 90 (.pointer (some ⟨g, o, none⟩)) 2).run Try.prog w = .ok (.pointer (some ⟨g, o + 33, none⟩)) w := by kernel_rfl
theorem fa90_3 {w : World} (g o : Nat) : (Instr.fieldAt 90 (.pointer (some ⟨g, o, none⟩)) 3).run Try.prog w = .ok (.pointer (some ⟨g, o + 34, none⟩)) w := by kernel_rfl
theorem inf94 : (Try.prog.info? 94).map (fun i => (i.zero, i.size, i.bytes)) = some (some (.agg #[str [], .int .i64 0, .int .i64 0, .int .i64 0]), 4, 40) := by kernel_rfl
theorem siz94 : (Try.prog.info? 94).map (·.size) = some 4 := by kernel_rfl
theorem fa94_0 {w : World} (g o : Nat) : (Instr.fieldAt 94 (.pointer (some ⟨g, o, none⟩)) 0).run Try.prog w = .ok (.pointer (some ⟨g, o + 0, none⟩)) w := by kernel_rfl
theorem fa94_1 {w : World} (g o : Nat) : (Instr.fieldAt 94 (.pointer (some ⟨g, o, none⟩)) 1).run Try.prog w = .ok (.pointer (some ⟨g, o + 1, none⟩)) w := by kernel_rfl
theorem fa94_2 {w : World} (g o : Nat) : (Instr.fieldAt 94 (.pointer (some ⟨g, o, none⟩)) 2).run Try.prog w = .ok (.pointer (some ⟨g, o + 2, none⟩)) w := by kernel_rfl
theorem fa94_3 {w : World} (g o : Nat) : (Instr.fieldAt 94 (.pointer (some ⟨g, o, none⟩)) 3).run Try.prog w = .ok (.pointer (some ⟨g, o + 3, none⟩)) w := by kernel_rfl
theorem inf107 : (Try.prog.info? 107).map (fun i => (i.zero, i.size, i.bytes)) = some (some (.agg #[str [], .int .i64 0]), 2, 24) := by kernel_rfl
theorem siz107 : (Try.prog.info? 107).map (·.size) = some 2 := by kernel_rfl
theorem fa107_0 {w : World} (g o : Nat) : (Instr.fieldAt 107 (.pointer (some ⟨g, o, none⟩)) 0).run Try.prog w = .ok (.pointer (some ⟨g, o + 0, none⟩)) w := by kernel_rfl
theorem fa107_1 {w : World} (g o : Nat) : (Instr.fieldAt 107 (.pointer (some ⟨g, o, none⟩)) 1).run Try.prog w = .ok (.pointer (some ⟨g, o + 1, none⟩)) w := by kernel_rfl
theorem inf108 : (Try.prog.info? 108).map (fun i => (i.zero, i.size, i.bytes)) = some (some (.map none), 1, 8) := by kernel_rfl
theorem siz108 : (Try.prog.info? 108).map (·.size) = some 1 := by kernel_rfl
theorem inf111 : (Try.prog.info? 111).map (fun i => (i.zero, i.size, i.bytes)) = some (some (.agg #[.map none]), 1, 8) := by kernel_rfl
theorem siz111 : (Try.prog.info? 111).map (·.size) = some 1 := by kernel_rfl
theorem fa111_0 {w : World} (g o : Nat) : (Instr.fieldAt 111 (.pointer (some ⟨g, o, none⟩)) 0).run Try.prog w = .ok (.pointer (some ⟨g, o + 0, none⟩)) w := by kernel_rfl
theorem inf114 : (Try.prog.info? 114).map (fun i => (i.zero, i.size, i.bytes)) = some (some (.int .u32 0), 1, 4) := by kernel_rfl
theorem siz114 : (Try.prog.info? 114).map (·.size) = some 1 := by kernel_rfl
theorem inf116 : (Try.prog.info? 116).map (fun i => (i.zero, i.size, i.bytes)) = some (some (.nilFunc), 1, 8) := by kernel_rfl
theorem siz116 : (Try.prog.info? 116).map (·.size) = some 1 := by kernel_rfl
theorem inf118 : (Try.prog.info? 118).map (fun i => (i.zero, i.size, i.bytes)) = some (some (.nilFunc), 1, 8) := by kernel_rfl
theorem siz118 : (Try.prog.info? 118).map (·.size) = some 1 := by kernel_rfl
theorem inf122 : (Try.prog.info? 122).map (fun i => (i.zero, i.size, i.bytes)) = some (some (.nilFunc), 1, 8) := by kernel_rfl
theorem siz122 : (Try.prog.info? 122).map (·.size) = some 1 := by kernel_rfl
theorem inf124 : (Try.prog.info? 124).map (fun i => (i.zero, i.size, i.bytes)) = some (some (.agg (List.replicate 256 (.int .i64 0) : List Value).toArray), 256, 2048) := by kernel_rfl
theorem siz124 : (Try.prog.info? 124).map (·.size) = some 256 := by kernel_rfl
theorem inf127 : (Try.prog.info? 127).map (fun i => (i.zero, i.size, i.bytes)) = some (some (.agg #[.int .i64 0, .int .i64 0, .int .i64 0]), 3, 24) := by kernel_rfl
theorem siz127 : (Try.prog.info? 127).map (·.size) = some 3 := by kernel_rfl
theorem inf134 : (Try.prog.info? 134).map (fun i => (i.zero, i.size, i.bytes)) = some (some (.nilFunc), 1, 8) := by kernel_rfl
theorem siz134 : (Try.prog.info? 134).map (·.size) = some 1 := by kernel_rfl
theorem inf137 : (Try.prog.info? 137).map (fun i => (i.zero, i.size, i.bytes)) = some (some (.int .u64 0), 1, 8) := by kernel_rfl
theorem siz137 : (Try.prog.info? 137).map (·.size) = some 1 := by kernel_rfl
theorem inf140 : (Try.prog.info? 140).map (fun i => (i.zero, i.size, i.bytes)) = some (some (.slice none 0 0), 1, 24) := by kernel_rfl
theorem siz140 : (Try.prog.info? 140).map (·.size) = some 1 := by kernel_rfl
theorem inf144 : (Try.prog.info? 144).map (fun i => (i.zero, i.size, i.bytes)) = some (some (.slice none 0 0), 1, 24) := by kernel_rfl
theorem siz144 : (Try.prog.info? 144).map (·.size) = some 1 := by kernel_rfl
theorem inf159 : (Try.prog.info? 159).map (fun i => (i.zero, i.size, i.bytes)) = some (some (.int .u64 0), 1, 8) := by kernel_rfl
theorem siz159 : (Try.prog.info? 159).map (·.size) = some 1 := by kernel_rfl
theorem inf161 : (Try.prog.info? 161).map (fun i => (i.zero, i.size, i.bytes)) = some (some (.agg (List.replicate 256 (.int .u32 0) : List Value).toArray), 256, 1024) := by kernel_rfl
theorem siz161 : (Try.prog.info? 161).map (·.size) = some 256 := by kernel_rfl
theorem inf165 : (Try.prog.info? 165).map (fun i => (i.zero, i.size, i.bytes)) = some (some (.int .u64 0), 1, 8) := by kernel_rfl
theorem siz165 : (Try.prog.info? 165).map (·.size) = some 1 := by kernel_rfl
theorem inf169 : (Try.prog.info? 169).map (fun i => (i.zero, i.size, i.bytes)) = some (some (.pointer none), 1, 8) := by kernel_rfl
theorem siz169 : (Try.prog.info? 169).map (·.size) = some 1 := by kernel_rfl
end Go.Proofs.Ytnagmpnpgekhfaa
