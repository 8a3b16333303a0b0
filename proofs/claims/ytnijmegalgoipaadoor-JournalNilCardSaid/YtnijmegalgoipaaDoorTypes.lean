/- Facts on the types of this seat, each by computation. -/
import Derived.Test.YtnijmegalgoipaaDoorProg
import Derived.Test.YtnijmegalgoipaaDoorOps2
namespace Go.Proofs.YtnijmegalgoipaaDoor
theorem inf1 : (Tryd.prog.info? 1).map (fun i => (i.zero, i.size, i.bytes)) = some (some (.nilFunc), 1, 8) := by kernel_rfl
theorem siz1 : (Tryd.prog.info? 1).map (·.size) = some 1 := by kernel_rfl
theorem inf2 : (Tryd.prog.info? 2).map (fun i => (i.zero, i.size, i.bytes)) = some (some (.int .i64 0), 1, 8) := by kernel_rfl
theorem siz2 : (Tryd.prog.info? 2).map (·.size) = some 1 := by kernel_rfl
theorem inf3 : (Tryd.prog.info? 3).map (fun i => (i.zero, i.size, i.bytes)) = some (some (.int .i64 0), 1, 8) := by kernel_rfl
theorem siz3 : (Tryd.prog.info? 3).map (·.size) = some 1 := by kernel_rfl
theorem inf4 : (Tryd.prog.info? 4).map (fun i => (i.zero, i.size, i.bytes)) = some (some (.bool false), 1, 1) := by kernel_rfl
theorem siz4 : (Tryd.prog.info? 4).map (·.size) = some 1 := by kernel_rfl
theorem inf5 : (Tryd.prog.info? 5).map (fun i => (i.zero, i.size, i.bytes)) = some (some (.int .u8 0), 1, 1) := by kernel_rfl
theorem siz5 : (Tryd.prog.info? 5).map (·.size) = some 1 := by kernel_rfl
theorem inf9 : (Tryd.prog.info? 9).map (fun i => (i.zero, i.size, i.bytes)) = some (some (str []), 1, 16) := by kernel_rfl
theorem siz9 : (Tryd.prog.info? 9).map (·.size) = some 1 := by kernel_rfl
theorem inf21 : (Tryd.prog.info? 21).map (fun i => (i.zero, i.size, i.bytes)) = some (some (.int .i32 0), 1, 4) := by kernel_rfl
theorem siz21 : (Tryd.prog.info? 21).map (·.size) = some 1 := by kernel_rfl
theorem inf23 : (Tryd.prog.info? 23).map (fun i => (i.zero, i.size, i.bytes)) = some (some (.slice none 0 0), 1, 24) := by kernel_rfl
theorem siz23 : (Tryd.prog.info? 23).map (·.size) = some 1 := by kernel_rfl
theorem inf25 : (Tryd.prog.info? 25).map (fun i => (i.zero, i.size, i.bytes)) = some (some (.agg #[str [], .slice none 0 0, .int .i64 0, .int .i64 0]), 4, 56) := by kernel_rfl
theorem siz25 : (Tryd.prog.info? 25).map (·.size) = some 4 := by kernel_rfl
theorem fa25_0 {w : World} (g o : Nat) : (Instr.fieldAt 25 (.pointer (some ⟨g, o, none⟩)) 0).run Tryd.prog w = .ok (.pointer (some ⟨g, o + 0, none⟩)) w := by kernel_rfl
theorem fa25_1 {w : World} (g o : Nat) : (Instr.fieldAt 25 (.pointer (some ⟨g, o, none⟩)) 1).run Tryd.prog w = .ok (.pointer (some ⟨g, o + 1, none⟩)) w := by kernel_rfl
theorem fa25_2 {w : World} (g o : Nat) : (Instr.fieldAt 25 (.pointer (some ⟨g, o, none⟩)) 2).run Tryd.prog w = .ok (.pointer (some ⟨g, o + 2, none⟩)) w := by kernel_rfl
theorem fa25_3 {w : World} (g o : Nat) : (Instr.fieldAt 25 (.pointer (some ⟨g, o, none⟩)) 3).run Tryd.prog w = .ok (.pointer (some ⟨g, o + 3, none⟩)) w := by kernel_rfl
theorem inf27 : (Tryd.prog.info? 27).map (fun i => (i.zero, i.size, i.bytes)) = some (some (.agg #[str [], .slice none 0 0, .int .i64 0, .int .i64 0]), 4, 56) := by kernel_rfl
theorem siz27 : (Tryd.prog.info? 27).map (·.size) = some 4 := by kernel_rfl
theorem fa27_0 {w : World} (g o : Nat) : (Instr.fieldAt 27 (.pointer (some ⟨g, o, none⟩)) 0).run Tryd.prog w = .ok (.pointer (some ⟨g, o + 0, none⟩)) w := by kernel_rfl
theorem fa27_1 {w : World} (g o : Nat) : (Instr.fieldAt 27 (.pointer (some ⟨g, o, none⟩)) 1).run Tryd.prog w = .ok (.pointer (some ⟨g, o + 1, none⟩)) w := by kernel_rfl
theorem fa27_2 {w : World} (g o : Nat) : (Instr.fieldAt 27 (.pointer (some ⟨g, o, none⟩)) 2).run Tryd.prog w = .ok (.pointer (some ⟨g, o + 2, none⟩)) w := by kernel_rfl
theorem fa27_3 {w : World} (g o : Nat) : (Instr.fieldAt 27 (.pointer (some ⟨g, o, none⟩)) 3).run Tryd.prog w = .ok (.pointer (some ⟨g, o + 3, none⟩)) w := by kernel_rfl
theorem inf31 : (Tryd.prog.info? 31).map (fun i => (i.zero, i.size, i.bytes)) = some (some (.pointer none), 1, 8) := by kernel_rfl
theorem siz31 : (Tryd.prog.info? 31).map (·.size) = some 1 := by kernel_rfl
theorem inf32 : (Tryd.prog.info? 32).map (fun i => (i.zero, i.size, i.bytes)) = some (some (.int .i64 0), 1, 8) := by kernel_rfl
theorem siz32 : (Tryd.prog.info? 32).map (·.size) = some 1 := by kernel_rfl
theorem inf43 : (Tryd.prog.info? 43).map (fun i => (i.zero, i.size, i.bytes)) = some (some (.pointer none), 1, 8) := by kernel_rfl
theorem siz43 : (Tryd.prog.info? 43).map (·.size) = some 1 := by kernel_rfl
theorem inf52 : (Tryd.prog.info? 52).map (fun i => (i.zero, i.size, i.bytes)) = some (some (.agg #[str [], str [], .int .i64 0]), 3, 40) := by kernel_rfl
theorem siz52 : (Tryd.prog.info? 52).map (·.size) = some 3 := by kernel_rfl
theorem fa52_0 {w : World} (g o : Nat) : (Instr.fieldAt 52 (.pointer (some ⟨g, o, none⟩)) 0).run Tryd.prog w = .ok (.pointer (some ⟨g, o + 0, none⟩)) w := by kernel_rfl
theorem fa52_1 {w : World} (g o : Nat) : (Instr.fieldAt 52 (.pointer (some ⟨g, o, none⟩)) 1).run Tryd.prog w = .ok (.pointer (some ⟨g, o + 1, none⟩)) w := by kernel_rfl
theorem fa52_2 {w : World} (g o : Nat) : (Instr.fieldAt 52 (.pointer (some ⟨g, o, none⟩)) 2).run Tryd.prog w = .ok (.pointer (some ⟨g, o + 2, none⟩)) w := by kernel_rfl
theorem inf54 : (Tryd.prog.info? 54).map (fun i => (i.zero, i.size, i.bytes)) = some (some (.slice none 0 0), 1, 24) := by kernel_rfl
theorem siz54 : (Tryd.prog.info? 54).map (·.size) = some 1 := by kernel_rfl
theorem inf56 : (Tryd.prog.info? 56).map (fun i => (i.zero, i.size, i.bytes)) = some (some (.slice none 0 0), 1, 24) := by kernel_rfl
theorem siz56 : (Tryd.prog.info? 56).map (·.size) = some 1 := by kernel_rfl
theorem inf58 : (Tryd.prog.info? 58).map (fun i => (i.zero, i.size, i.bytes)) = some (some (.agg #[.int .i64 0, str [], str [], .int .i64 0, .int .i64 0, str [], .slice none 0 0]), 7, 96) := by kernel_rfl
theorem siz58 : (Tryd.prog.info? 58).map (·.size) = some 7 := by kernel_rfl
theorem fa58_0 {w : World} (g o : Nat) : (Instr.fieldAt 58 (.pointer (some ⟨g, o, none⟩)) 0).run Tryd.prog w = .ok (.pointer (some ⟨g, o + 0, none⟩)) w := by kernel_rfl
theorem fa58_1 {w : World} (g o : Nat) : (Instr.fieldAt 58 (.pointer (some ⟨g, o, none⟩)) 1).run Tryd.prog w = .ok (.pointer (some ⟨g, o + 1, none⟩)) w := by kernel_rfl
theorem fa58_2 {w : World} (g o : Nat) : (Instr.fieldAt 58 (.pointer (some ⟨g, o, none⟩)) 2).run Tryd.prog w = .ok (.pointer (some ⟨g, o + 2, none⟩)) w := by kernel_rfl
theorem fa58_3 {w : World} (g o : Nat) : (Instr.fieldAt 58 (.pointer (some ⟨g, o, none⟩)) 3).run Tryd.prog w = .ok (.pointer (some ⟨g, o + 3, none⟩)) w := by kernel_rfl
theorem fa58_4 {w : World} (g o : Nat) : (Instr.fieldAt 58 (.pointer (some ⟨g, o, none⟩)) 4).run Tryd.prog w = .ok (.pointer (some ⟨g, o + 4, none⟩)) w := by kernel_rfl
theorem fa58_5 {w : World} (g o : Nat) : (Instr.fieldAt 58 (.pointer (some ⟨g, o, none⟩)) 5).run Tryd.prog w = .ok (.pointer (some ⟨g, o + 5, none⟩)) w := by kernel_rfl
theorem fa58_6 {w : World} (g o : Nat) : (Instr.fieldAt 58 (.pointer (some ⟨g, o, none⟩)) 6).run Tryd.prog w = .ok (.pointer (some ⟨g, o + 6, none⟩)) w := by kernel_rfl
theorem inf68 : (Tryd.prog.info? 68).map (fun i => (i.zero, i.size, i.bytes)) = some (some (.pointer none), 1, 8) := by kernel_rfl
theorem siz68 : (Tryd.prog.info? 68).map (·.size) = some 1 := by kernel_rfl
theorem inf70 : (Tryd.prog.info? 70).map (fun i => (i.zero, i.size, i.bytes)) = some (some (.agg #[str [], .slice none 0 0, .int .i64 0, .int .i64 0, .bool false, .int .i64 0, str []]), 7, 88) := by kernel_rfl
theorem siz70 : (Tryd.prog.info? 70).map (·.size) = some 7 := by kernel_rfl
theorem fa70_0 {w : World} (g o : Nat) : (Instr.fieldAt 70 (.pointer (some ⟨g, o, none⟩)) 0).run Tryd.prog w = .ok (.pointer (some ⟨g, o + 0, none⟩)) w := by kernel_rfl
theorem fa70_1 {w : World} (g o : Nat) : (Instr.fieldAt 70 (.pointer (some ⟨g, o, none⟩)) 1).run Tryd.prog w = .ok (.pointer (some ⟨g, o + 4, none⟩)) w := by kernel_rfl
theorem fa70_2 {w : World} (g o : Nat) : (Instr.fieldAt 70 (.pointer (some ⟨g, o, none⟩)) 2).run Tryd.prog w = .ok (.pointer (some ⟨g, o + 5, none⟩)) w := by kernel_rfl
theorem fa70_3 {w : World} (g o : Nat) : (Instr.fieldAt 70 (.pointer (some ⟨g, o, none⟩)) 3).run Tryd.prog w = .ok (.pointer (some ⟨g, o + 6, none⟩)) w := by kernel_rfl
theorem inf71 : (Tryd.prog.info? 71).map (fun i => (i.zero, i.size, i.bytes)) = some (some (.nilFunc), 1, 8) := by kernel_rfl
theorem siz71 : (Tryd.prog.info? 71).map (·.size) = some 1 := by kernel_rfl
theorem inf72 : (Tryd.prog.info? 72).map (fun i => (i.zero, i.size, i.bytes)) = some (some (.agg #[.nilFunc, .nilFunc, .nilFunc, .nilFunc, .nilFunc, .nilFunc, .nilFunc]), 7, 56) := by kernel_rfl
theorem siz72 : (Tryd.prog.info? 72).map (·.size) = some 7 := by kernel_rfl
theorem inf80 : (Tryd.prog.info? 80).map (fun i => (i.zero, i.size, i.bytes)) = some (some (.agg #[.pointer none, str [], .slice none 0 0, .int .i64 0, .int .i64 0, .int .i64 0, str [], .bool false]), 8, 96) := by kernel_rfl
theorem siz80 : (Tryd.prog.info? 80).map (·.size) = some 8 := by kernel_rfl
theorem fa80_0 {w : World} (g o : Nat) : (Instr.fieldAt 80 (.pointer (some ⟨g, o, none⟩)) 0).run Tryd.prog w = .ok (.pointer (some ⟨g, o + 0, none⟩)) w := by kernel_rfl
theorem fa80_1 {w : World} (g o : Nat) : (Instr.fieldAt 80 (.pointer (some ⟨g, o, none⟩)) 1).run Tryd.prog w = .ok (.pointer (some ⟨g, o + 1, none⟩)) w := by kernel_rfl
theorem fa80_2 {w : World} (g o : Nat) : (Instr.fieldAt 80 (.pointer (some ⟨g, o, none⟩)) 2).run Tryd.prog w = .ok (.pointer (some ⟨g, o + 5, none⟩)) w := by kernel_rfl
theorem fa80_3 {w : World} (g o : Nat) : (Instr.fieldAt 80 (.pointer (some ⟨g, o, none⟩)) 3).run Tryd.prog w = .ok (.pointer (some ⟨g, o + 6, none⟩)) w := by kernel_rfl
theorem fa80_4 {w : World} (g o : Nat) : (Instr.fieldAt 80 (.pointer (some ⟨g, o, none⟩)) 4).run Tryd.prog w = .ok (.pointer (some ⟨g, o + 7, none⟩)) w := by kernel_rfl
theorem inf86 : (Tryd.prog.info? 86).map (fun i => (i.zero, i.size, i.bytes)) = some (some (.map none), 1, 8) := by kernel_rfl
theorem siz86 : (Tryd.prog.info? 86).map (·.size) = some 1 := by kernel_rfl
theorem inf88 : (Tryd.prog.info? 88).map (fun i => (i.zero, i.size, i.bytes)) = some (some (.agg #[.map none, .int .i64 0, .int .i64 0, .int .i64 0, .bool false, .int .i64 0]), 6, 48) := by kernel_rfl
theorem siz88 : (Tryd.prog.info? 88).map (·.size) = some 6 := by kernel_rfl
theorem fa88_0 {w : World} (g o : Nat) : (Instr.fieldAt 88 (.pointer (some ⟨g, o, none⟩)) 0).run Tryd.prog w = .ok (.pointer (some ⟨g, o + 0, none⟩)) w := by kernel_rfl
theorem fa88_1 {w : World} (g o : Nat) : (Instr.fieldAt 88 (.pointer (some ⟨g, o, none⟩)) 1).run Tryd.prog w = .ok (.pointer (some ⟨g, o + 1, none⟩)) w := by kernel_rfl
theorem fa88_2 {w : World} (g o : Nat) : (Instr.fieldAt 88 (.pointer (some ⟨g, o, none⟩)) 2).run Tryd.prog w = .ok (.pointer (some ⟨g, o + 2, none⟩)) w := by kernel_rfl
theorem fa88_3 {w : World} (g o : Nat) : (Instr.fieldAt 88 (.pointer (some ⟨g, o, none⟩)) 3).run Tryd.prog w = .ok (.pointer (some ⟨g, o + 3, none⟩)) w := by kernel_rfl
theorem fa88_4 {w : World} (g o : Nat) : (Instr.fieldAt 88 (.pointer (some ⟨g, o, none⟩)) 4).run Tryd.prog w = .ok (.pointer (some ⟨g, o + 4, none⟩)) w := by kernel_rfl
theorem fa88_5 {w : World} (g o : Nat) : (Instr.fieldAt 88 (.pointer (some ⟨g, o, none⟩)) 5).run Tryd.prog w = .ok (.pointer (some ⟨g, o + 5, none⟩)) w := by kernel_rfl
theorem inf91 : (Tryd.prog.info? 91).map (fun i => (i.zero, i.size, i.bytes)) = some (some (.pointer none), 1, 8) := by kernel_rfl
theorem siz91 : (Tryd.prog.info? 91).map (·.size) = some 1 := by kernel_rfl
theorem inf92 : (Tryd.prog.info? 92).map (fun i => (i.zero, i.size, i.bytes)) = some (some (.slice none 0 0), 1, 24) := by kernel_rfl
theorem siz92 : (Tryd.prog.info? 92).map (·.size) = some 1 := by kernel_rfl
theorem inf93 : (Tryd.prog.info? 93).map (fun i => (i.zero, i.size, i.bytes)) = some (some (.slice none 0 0), 1, 24) := by kernel_rfl
theorem siz93 : (Tryd.prog.info? 93).map (·.size) = some 1 := by kernel_rfl
theorem inf95 : (Tryd.prog.info? 95).map (fun i => (i.zero, i.size, i.bytes)) = some (some (.agg #[.slice none 0 0, .slice none 0 0, .slice none 0 0]), 3, 72) := by kernel_rfl
theorem siz95 : (Tryd.prog.info? 95).map (·.size) = some 3 := by kernel_rfl
theorem fa95_0 {w : World} (g o : Nat) : (Instr.fieldAt 95 (.pointer (some ⟨g, o, none⟩)) 0).run Tryd.prog w = .ok (.pointer (some ⟨g, o + 0, none⟩)) w := by kernel_rfl
theorem fa95_1 {w : World} (g o : Nat) : (Instr.fieldAt 95 (.pointer (some ⟨g, o, none⟩)) 1).run Tryd.prog w = .ok (.pointer (some ⟨g, o + 1, none⟩)) w := by kernel_rfl
theorem fa95_2 {w : World} (g o : Nat) : (Instr.fieldAt 95 (.pointer (some ⟨g, o, none⟩)) 2).run Tryd.prog w = .ok (.pointer (some ⟨g, o + 2, none⟩)) w := by kernel_rfl
theorem inf102 : (Tryd.prog.info? 102).map (fun i => (i.zero, i.size, i.bytes)) = some (some (.nilFunc), 1, 8) := by kernel_rfl
theorem siz102 : (Tryd.prog.info? 102).map (·.size) = some 1 := by kernel_rfl
theorem inf109 : (Tryd.prog.info? 109).map (fun i => (i.zero, i.size, i.bytes)) = some (some (.agg #[.int .i64 0, str []]), 2, 24) := by kernel_rfl
theorem siz109 : (Tryd.prog.info? 109).map (·.size) = some 2 := by kernel_rfl
theorem fa109_0 {w : World} (g o : Nat) : (Instr.fieldAt 109 (.pointer (some ⟨g, o, none⟩)) 0).run Tryd.prog w = .ok (.pointer (some ⟨g, o + 0, none⟩)) w := by kernel_rfl
theorem fa109_1 {w : World} (g o : Nat) : (Instr.fieldAt 109 (.pointer (some ⟨g, o, none⟩)) 1).run Tryd.prog w = .ok (.pointer (some ⟨g, o + 1, none⟩)) w := by kernel_rfl
theorem inf111 : (Tryd.prog.info? 111).map (fun i => (i.zero, i.size, i.bytes)) = some (some (.pointer none), 1, 8) := by kernel_rfl
theorem siz111 : (Tryd.prog.info? 111).map (·.size) = some 1 := by kernel_rfl
theorem inf114 : (Tryd.prog.info? 114).map (fun i => (i.zero, i.size, i.bytes)) = some (some (.int .u32 0), 1, 4) := by kernel_rfl
theorem siz114 : (Tryd.prog.info? 114).map (·.size) = some 1 := by kernel_rfl
theorem inf117 : (Tryd.prog.info? 117).map (fun i => (i.zero, i.size, i.bytes)) = some (some (.int .u64 0), 1, 8) := by kernel_rfl
theorem siz117 : (Tryd.prog.info? 117).map (·.size) = some 1 := by kernel_rfl
theorem inf120 : (Tryd.prog.info? 120).map (fun i => (i.zero, i.size, i.bytes)) = some (some (.int .u64 0), 1, 8) := by kernel_rfl
theorem siz120 : (Tryd.prog.info? 120).map (·.size) = some 1 := by kernel_rfl
theorem inf122 : (Tryd.prog.info? 122).map (fun i => (i.zero, i.size, i.bytes)) = some (some (.agg #[.slice none 0 0]), 1, 24) := by kernel_rfl
theorem siz122 : (Tryd.prog.info? 122).map (·.size) = some 1 := by kernel_rfl
theorem fa122_0 {w : World} (g o : Nat) : (Instr.fieldAt 122 (.pointer (some ⟨g, o, none⟩)) 0).run Tryd.prog w = .ok (.pointer (some ⟨g, o + 0, none⟩)) w := by kernel_rfl
theorem inf130 : (Tryd.prog.info? 130).map (fun i => (i.zero, i.size, i.bytes)) = some (some (.agg #[str [], .int .i64 0, .int .i64 0]), 3, 32) := by kernel_rfl
theorem siz130 : (Tryd.prog.info? 130).map (·.size) = some 3 := by kernel_rfl
theorem fa130_0 {w : World} (g o : Nat) : (Instr.fieldAt 130 (.pointer (some ⟨g, o, none⟩)) 0).run Tryd.prog w = .ok (.pointer (some ⟨g, o + 0, none⟩)) w := by kernel_rfl
theorem fa130_1 {w : World} (g o : Nat) : (Instr.fieldAt 130 (.pointer (some ⟨g, o, none⟩)) 1).run Tryd.prog w = .ok (.pointer (some ⟨g, o + 1, none⟩)) w := by kernel_rfl
theorem fa130_2 {w : World} (g o : Nat) : (Instr.fieldAt 130 (.pointer (some ⟨g, o, none⟩)) 2).run Tryd.prog w = .ok (.pointer (some ⟨g, o + 2, none⟩)) w := by kernel_rfl
theorem inf137 : (Tryd.prog.info? 137).map (fun i => (i.zero, i.size, i.bytes)) = some (some (.pointer none), 1, 8) := by kernel_rfl
theorem siz137 : (Tryd.prog.info? 137).map (·.size) = some 1 := by kernel_rfl
theorem inf143 : (Tryd.prog.info? 143).map (fun i => (i.zero, i.size, i.bytes)) = some (some (.agg (List.replicate 256 (.bool false) : List Value).toArray), 256, 256) := by kernel_rfl
theorem siz143 : (Tryd.prog.info? 143).map (·.size) = some 256 := by kernel_rfl
theorem inf147 : (Tryd.prog.info? 147).map (fun i => (i.zero, i.size, i.bytes)) = some (some (.pointer none), 1, 8) := by kernel_rfl
theorem siz147 : (Tryd.prog.info? 147).map (·.size) = some 1 := by kernel_rfl
theorem inf151 : (Tryd.prog.info? 151).map (fun i => (i.zero, i.size, i.bytes)) = some (some (.agg (List.replicate 256 (.int .u32 0) : List Value).toArray), 256, 1024) := by kernel_rfl
theorem siz151 : (Tryd.prog.info? 151).map (·.size) = some 256 := by kernel_rfl
theorem inf170 : (Tryd.prog.info? 170).map (fun i => (i.zero, i.size, i.bytes)) = some (some (.int .u64 0), 1, 8) := by kernel_rfl
theorem siz170 : (Tryd.prog.info? 170).map (·.size) = some 1 := by kernel_rfl
theorem inf173 : (Tryd.prog.info? 173).map (fun i => (i.zero, i.size, i.bytes)) = some (some (.pointer none), 1, 8) := by kernel_rfl
theorem siz173 : (Tryd.prog.info? 173).map (·.size) = some 1 := by kernel_rfl
theorem inf176 : (Tryd.prog.info? 176).map (fun i => (i.zero, i.size, i.bytes)) = some (some (.agg (List.replicate 256 (.int .u8 0) : List Value).toArray), 256, 256) := by kernel_rfl
theorem siz176 : (Tryd.prog.info? 176).map (·.size) = some 256 := by kernel_rfl
theorem inf178 : (Tryd.prog.info? 178).map (fun i => (i.zero, i.size, i.bytes)) = some (some (.agg #[.int .u8 0, .int .u8 0]), 2, 2) := by kernel_rfl
theorem siz178 : (Tryd.prog.info? 178).map (·.size) = some 2 := by kernel_rfl
theorem fa178_0 {w : World} (g o : Nat) : (Instr.fieldAt 178 (.pointer (some ⟨g, o, none⟩)) 0).run Tryd.prog w = .ok (.pointer (some ⟨g, o + 0, none⟩)) w := by kernel_rfl
theorem fa178_1 {w : World} (g o : Nat) : (Instr.fieldAt 178 (.pointer (some ⟨g, o, none⟩)) 1).run Tryd.prog w = .ok (.pointer (some ⟨g, o + 1, none⟩)) w := by kernel_rfl
theorem inf179 : (Tryd.prog.info? 179).map (fun i => (i.zero, i.size, i.bytes)) = some (some (.agg (List.replicate 32 (.int .u8 0) : List Value).toArray), 32, 32) := by kernel_rfl
theorem siz179 : (Tryd.prog.info? 179).map (·.size) = some 32 := by kernel_rfl
end Go.Proofs.YtnijmegalgoipaaDoor
