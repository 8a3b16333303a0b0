/- Facts on the types of this seat, each by computation. -/
import Derived.Test.YtnijmegalgoipaaGreatDoorProg
import Derived.Test.YtnijmegalgoipaaGreatDoorOps2
namespace Go.Proofs.YtnijmegalgoipaaGreatDoor
theorem inf1 : (Tryz.prog.info? 1).map (fun i => (i.zero, i.size, i.bytes)) = some (some (.nilFunc), 1, 8) := by kernel_rfl
theorem siz1 : (Tryz.prog.info? 1).map (·.size) = some 1 := by kernel_rfl
theorem inf3 : (Tryz.prog.info? 3).map (fun i => (i.zero, i.size, i.bytes)) = some (some (.int .i64 0), 1, 8) := by kernel_rfl
theorem siz3 : (Tryz.prog.info? 3).map (·.size) = some 1 := by kernel_rfl
theorem inf4 : (Tryz.prog.info? 4).map (fun i => (i.zero, i.size, i.bytes)) = some (some (.bool false), 1, 1) := by kernel_rfl
theorem siz4 : (Tryz.prog.info? 4).map (·.size) = some 1 := by kernel_rfl
theorem inf5 : (Tryz.prog.info? 5).map (fun i => (i.zero, i.size, i.bytes)) = some (some (.int .u8 0), 1, 1) := by kernel_rfl
theorem siz5 : (Tryz.prog.info? 5).map (·.size) = some 1 := by kernel_rfl
theorem inf9 : (Tryz.prog.info? 9).map (fun i => (i.zero, i.size, i.bytes)) = some (some (str []), 1, 16) := by kernel_rfl
theorem siz9 : (Tryz.prog.info? 9).map (·.size) = some 1 := by kernel_rfl
theorem inf21 : (Tryz.prog.info? 21).map (fun i => (i.zero, i.size, i.bytes)) = some (some (.int .i32 0), 1, 4) := by kernel_rfl
theorem siz21 : (Tryz.prog.info? 21).map (·.size) = some 1 := by kernel_rfl
theorem inf22 : (Tryz.prog.info? 22).map (fun i => (i.zero, i.size, i.bytes)) = some (some (.slice none 0 0), 1, 24) := by kernel_rfl
theorem siz22 : (Tryz.prog.info? 22).map (·.size) = some 1 := by kernel_rfl
theorem inf23 : (Tryz.prog.info? 23).map (fun i => (i.zero, i.size, i.bytes)) = some (some (.pointer none), 1, 8) := by kernel_rfl
theorem siz23 : (Tryz.prog.info? 23).map (·.size) = some 1 := by kernel_rfl
theorem inf24 : (Tryz.prog.info? 24).map (fun i => (i.zero, i.size, i.bytes)) = some (some (.int .i64 0), 1, 8) := by kernel_rfl
theorem siz24 : (Tryz.prog.info? 24).map (·.size) = some 1 := by kernel_rfl
theorem inf27 : (Tryz.prog.info? 27).map (fun i => (i.zero, i.size, i.bytes)) = some (some (.pointer none), 1, 8) := by kernel_rfl
theorem siz27 : (Tryz.prog.info? 27).map (·.size) = some 1 := by kernel_rfl
theorem inf34 : (Tryz.prog.info? 34).map (fun i => (i.zero, i.size, i.bytes)) = some (some (.slice none 0 0), 1, 24) := by kernel_rfl
theorem siz34 : (Tryz.prog.info? 34).map (·.size) = some 1 := by kernel_rfl
theorem inf36 : (Tryz.prog.info? 36).map (fun i => (i.zero, i.size, i.bytes)) = some (some (.agg #[.int .i64 0, str [], str [], .int .i64 0, .int .i64 0, str [], .slice none 0 0]), 7, 96) := by kernel_rfl
theorem siz36 : (Tryz.prog.info? 36).map (·.size) = some 7 := by kernel_rfl
theorem fa36_0 {w : World} (g o : Nat) : (Instr.fieldAt 36 (.pointer (some ⟨g, o, none⟩)) 0).run Tryz.prog w = .ok (.pointer (some ⟨g, o + 0, none⟩)) w := by kernel_rfl
theorem fa36_1 {w : World} (g o : Nat) : (Instr.fieldAt 36 (.pointer (some ⟨g, o, none⟩)) 1).run Tryz.prog w = .ok (.pointer (some ⟨g, o + 1, none⟩)) w := by kernel_rfl
theorem fa36_2 {w : World} (g o : Nat) : (Instr.fieldAt 36 (.pointer (some ⟨g, o, none⟩)) 2).run Tryz.prog w = .ok (.pointer (some ⟨g, o + 2, none⟩)) w := by kernel_rfl
theorem fa36_3 {w : World} (g o : Nat) : (Instr.fieldAt 36 (.pointer (some ⟨g, o, none⟩)) 3).run Tryz.prog w = .ok (.pointer (some ⟨g, o + 3, none⟩)) w := by kernel_rfl
theorem fa36_4 {w : World} (g o : Nat) : (Instr.fieldAt 36 (.pointer (some ⟨g, o, none⟩)) 4).run Tryz.prog w = .ok (.pointer (some ⟨g, o + 4, none⟩)) w := by kernel_rfl
theorem fa36_5 {w : World} (g o : Nat) : (Instr.fieldAt 36 (.pointer (some ⟨g, o, none⟩)) 5).run Tryz.prog w = .ok (.pointer (some ⟨g, o + 5, none⟩)) w := by kernel_rfl
theorem fa36_6 {w : World} (g o : Nat) : (Instr.fieldAt 36 (.pointer (some ⟨g, o, none⟩)) 6).run Tryz.prog w = .ok (.pointer (some ⟨g, o + 6, none⟩)) w := by kernel_rfl
theorem inf42 : (Tryz.prog.info? 42).map (fun i => (i.zero, i.size, i.bytes)) = some (some (.slice none 0 0), 1, 24) := by kernel_rfl
theorem siz42 : (Tryz.prog.info? 42).map (·.size) = some 1 := by kernel_rfl
theorem inf43 : (Tryz.prog.info? 43).map (fun i => (i.zero, i.size, i.bytes)) = some (some (.pointer none), 1, 8) := by kernel_rfl
theorem siz43 : (Tryz.prog.info? 43).map (·.size) = some 1 := by kernel_rfl
theorem inf56 : (Tryz.prog.info? 56).map (fun i => (i.zero, i.size, i.bytes)) = some (some (.slice none 0 0), 1, 24) := by kernel_rfl
theorem siz56 : (Tryz.prog.info? 56).map (·.size) = some 1 := by kernel_rfl
theorem inf59 : (Tryz.prog.info? 59).map (fun i => (i.zero, i.size, i.bytes)) = some (some (.slice none 0 0), 1, 24) := by kernel_rfl
theorem siz59 : (Tryz.prog.info? 59).map (·.size) = some 1 := by kernel_rfl
theorem inf60 : (Tryz.prog.info? 60).map (fun i => (i.zero, i.size, i.bytes)) = some (some (.agg #[.int .i64 0, .int .i64 0]), 2, 16) := by kernel_rfl
theorem siz60 : (Tryz.prog.info? 60).map (·.size) = some 2 := by kernel_rfl
theorem inf64 : (Tryz.prog.info? 64).map (fun i => (i.zero, i.size, i.bytes)) = some (some (.agg #[str [], .slice none 0 0, str [], .bool false, str [], .bool false]), 6, 88) := by kernel_rfl
theorem siz64 : (Tryz.prog.info? 64).map (·.size) = some 6 := by kernel_rfl
theorem fa64_0 {w : World} (g o : Nat) : (Instr.fieldAt 64 (.pointer (some ⟨g, o, none⟩)) 0).run Tryz.prog w = .ok (.pointer (some ⟨g, o + 0, none⟩)) w := by kernel_rfl
theorem fa64_1 {w : World} (g o : Nat) : (Instr.fieldAt 64 (.pointer (some ⟨g, o, none⟩)) 1).run Tryz.prog w = .ok (.pointer (some ⟨g, o + 1, none⟩)) w := by kernel_rfl
theorem fa64_2 {w : World} (g o : Nat) : (Instr.fieldAt 64 (.pointer (some ⟨g, o, none⟩)) 2).run Tryz.prog w = .ok (.pointer (some ⟨g, o + 2, none⟩)) w := by kernel_rfl
theorem fa64_3 {w : World} (g o : Nat) : (Instr.fieldAt 64 (.pointer (some ⟨g, o, none⟩)) 3).run Tryz.prog w = .ok (.pointer (some ⟨g, o + 3, none⟩)) w := by kernel_rfl
theorem fa64_4 {w : World} (g o : Nat) : (Instr.fieldAt 64 (.pointer (some ⟨g, o, none⟩)) 4).run Tryz.prog w = .ok (.pointer (some ⟨g, o + 4, none⟩)) w := by kernel_rfl
theorem fa64_5 {w : World} (g o : Nat) : (Instr.fieldAt 64 (.pointer (some ⟨g, o, none⟩)) 5).run Tryz.prog w = .ok (.pointer (some ⟨g, o + 5, none⟩)) w := by kernel_rfl
theorem inf68 : (Tryz.prog.info? 68).map (fun i => (i.zero, i.size, i.bytes)) = some (some (.pointer none), 1, 8) := by kernel_rfl
theorem siz68 : (Tryz.prog.info? 68).map (·.size) = some 1 := by kernel_rfl
theorem inf73 : (Tryz.prog.info? 73).map (fun i => (i.zero, i.size, i.bytes)) = some (some (.agg #[.int .i64 0, .int .i64 0, str [], .slice none 0 0]), 4, 56) := by kernel_rfl
theorem siz73 : (Tryz.prog.info? 73).map (·.size) = some 4 := by kernel_rfl
theorem fa73_0 {w : World} (g o : Nat) : (Instr.fieldAt 73 (.pointer (some ⟨g, o, none⟩)) 0).run Tryz.prog w = .ok (.pointer (some ⟨g, o + 0, none⟩)) w := by kernel_rfl
theorem fa73_1 {w : World} (g o : Nat) : (Instr.fieldAt 73 (.pointer (some ⟨g, o, none⟩)) 1).run Tryz.prog w = .ok (.pointer (some ⟨g, o + 1, none⟩)) w := by kernel_rfl
theorem fa73_2 {w : World} (g o : Nat) : (Instr.fieldAt 73 (.pointer (some ⟨g, o, none⟩)) 2).run Tryz.prog w = .ok (.pointer (some ⟨g, o + 2, none⟩)) w := by kernel_rfl
theorem fa73_3 {w : World} (g o : Nat) : (Instr.fieldAt 73 (.pointer (some ⟨g, o, none⟩)) 3).run Tryz.prog w = .ok (.pointer (some ⟨g, o + 3, none⟩)) w := by kernel_rfl
theorem inf78 : (Tryz.prog.info? 78).map (fun i => (i.zero, i.size, i.bytes)) = some (some (.map none), 1, 8) := by kernel_rfl
theorem siz78 : (Tryz.prog.info? 78).map (·.size) = some 1 := by kernel_rfl
theorem inf80 : (Tryz.prog.info? 80).map (fun i => (i.zero, i.size, i.bytes)) = some (some (.agg #[.map none, .int .i64 0, .int .i64 0, .int .i64 0, .bool false, .int .i64 0]), 6, 48) := by kernel_rfl
theorem siz80 : (Tryz.prog.info? 80).map (·.size) = some 6 := by kernel_rfl
theorem fa80_0 {w : World} (g o : Nat) : (Instr.fieldAt 80 (.pointer (some ⟨g, o, none⟩)) 0).run Tryz.prog w = .ok (.pointer (some ⟨g, o + 0, none⟩)) w := by kernel_rfl
theorem fa80_1 {w : World} (g o : Nat) : (Instr.fieldAt 80 (.pointer (some ⟨g, o, none⟩)) 1).run Tryz.prog w = .ok (.pointer (some ⟨g, o + 1, none⟩)) w := by kernel_rfl
theorem fa80_2 {w : World} (g o : Nat) : (Instr.fieldAt 80 (.pointer (some ⟨g, o, none⟩)) 2).run Tryz.prog w = .ok (.pointer (some ⟨g, o + 2, none⟩)) w := by kernel_rfl
theorem fa80_3 {w : World} (g o : Nat) : (Instr.fieldAt 80 (.pointer (some ⟨g, o, none⟩)) 3).run Tryz.prog w = .ok (.pointer (some ⟨g, o + 3, none⟩)) w := by kernel_rfl
theorem fa80_4 {w : World} (g o : Nat) : (Instr.fieldAt 80 (.pointer (some ⟨g, o, none⟩)) 4).run Tryz.prog w = .ok (.pointer (some ⟨g, o + 4, none⟩)) w := by kernel_rfl
theorem fa80_5 {w : World} (g o : Nat) : (Instr.fieldAt 80 (.pointer (some ⟨g, o, none⟩)) 5).run Tryz.prog w = .ok (.pointer (some ⟨g, o + 5, none⟩)) w := by kernel_rfl
theorem inf81 : (Tryz.prog.info? 81).map (fun i => (i.zero, i.size, i.bytes)) = some (some (.slice none 0 0), 1, 24) := by kernel_rfl
theorem siz81 : (Tryz.prog.info? 81).map (·.size) = some 1 := by kernel_rfl
theorem inf83 : (Tryz.prog.info? 83).map (fun i => (i.zero, i.size, i.bytes)) = some (some (.agg #[.slice none 0 0, .int .i64 0, .int .i64 0, .bool false, .int .i64 0]), 5, 56) := by kernel_rfl
theorem siz83 : (Tryz.prog.info? 83).map (·.size) = some 5 := by kernel_rfl
theorem fa83_0 {w : World} (g o : Nat) : (Instr.fieldAt 83 (.pointer (some ⟨g, o, none⟩)) 0).run Tryz.prog w = .ok (.pointer (some ⟨g, o + 0, none⟩)) w := by kernel_rfl
theorem fa83_1 {w : World} (g o : Nat) : (Instr.fieldAt 83 (.pointer (some ⟨g, o, none⟩)) 1).run Tryz.prog w = .ok (.pointer (some ⟨g, o + 1, none⟩)) w := by kernel_rfl
theorem fa83_2 {w : World} (g o : Nat) : (Instr.fieldAt 83 (.pointer (some ⟨g, o, none⟩)) 2).run Tryz.prog w = .ok (.pointer (some ⟨g, o + 2, none⟩)) w := by kernel_rfl
theorem fa83_3 {w : World} (g o : Nat) : (Instr.fieldAt 83 (.pointer (some ⟨g, o, none⟩)) 3).run Tryz.prog w = .ok (.pointer (some ⟨g, o + 3, none⟩)) w := by kernel_rfl
theorem fa83_4 {w : World} (g o : Nat) : (Instr.fieldAt 83 (.pointer (some ⟨g, o, none⟩)) 4).run Tryz.prog w = .ok (.pointer (some ⟨g, o + 4, none⟩)) w := by kernel_rfl
theorem inf90 : (Tryz.prog.info? 90).map (fun i => (i.zero, i.size, i.bytes)) = some (some (.slice none 0 0), 1, 24) := by kernel_rfl
theorem siz90 : (Tryz.prog.info? 90).map (·.size) = some 1 := by kernel_rfl
theorem inf92 : (Tryz.prog.info? 92).map (fun i => (i.zero, i.size, i.bytes)) = some (some (.agg #[str [], str [], .slice none 0 0]), 3, 56) := by kernel_rfl
theorem siz92 : (Tryz.prog.info? 92).map (·.size) = some 3 := by kernel_rfl
theorem fa92_0 {w : World} (g o : Nat) : (Instr.fieldAt 92 (.pointer (some ⟨g, o, none⟩)) 0).run Tryz.prog w = .ok (.pointer (some ⟨g, o + 0, none⟩)) w := by kernel_rfl
theorem fa92_1 {w : World} (g o : Nat) : (Instr.fieldAt 92 (.pointer (some ⟨g, o, none⟩)) 1).run Tryz.prog w = .ok (.pointer (some ⟨g, o + 1, none⟩)) w := by kernel_rfl
theorem fa92_2 {w : World} (g o : Nat) : (Instr.fieldAt 92 (.pointer (some ⟨g, o, none⟩)) 2).run Tryz.prog w = .ok (.pointer (some ⟨g, o + 2, none⟩)) w := by kernel_rfl
theorem inf93 : (Tryz.prog.info? 93).map (fun i => (i.zero, i.size, i.bytes)) = some (some (.pointer none), 1, 8) := by kernel_rfl
theorem siz93 : (Tryz.prog.info? 93).map (·.size) = some 1 := by kernel_rfl
theorem inf94 : (Tryz.prog.info? 94).map (fun i => (i.zero, i.size, i.bytes)) = some (some (.slice none 0 0), 1, 24) := by kernel_rfl
theorem siz94 : (Tryz.prog.info? 94).map (·.size) = some 1 := by kernel_rfl
theorem inf96 : (Tryz.prog.info? 96).map (fun i => (i.zero, i.size, i.bytes)) = some (some (.slice none 0 0), 1, 24) := by kernel_rfl
theorem siz96 : (Tryz.prog.info? 96).map (·.size) = some 1 := by kernel_rfl
theorem inf98 : (Tryz.prog.info? 98).map (fun i => (i.zero, i.size, i.bytes)) = some (some (.agg #[.slice none 0 0, .slice none 0 0, .slice none 0 0]), 3, 72) := by kernel_rfl
theorem siz98 : (Tryz.prog.info? 98).map (·.size) = some 3 := by kernel_rfl
theorem fa98_0 {w : World} (g o : Nat) : (Instr.fieldAt 98 (.pointer (some ⟨g, o, none⟩)) 0).run Tryz.prog w = .ok (.pointer (some ⟨g, o + 0, none⟩)) w := by kernel_rfl
theorem fa98_1 {w : World} (g o : Nat) : (Instr.fieldAt 98 (.pointer (some ⟨g, o, none⟩)) 1).run Tryz.prog w = .ok (.pointer (some ⟨g, o + 1, none⟩)) w := by kernel_rfl
theorem fa98_2 {w : World} (g o : Nat) : (Instr.fieldAt 98 (.pointer (some ⟨g, o, none⟩)) 2).run Tryz.prog w = .ok (.pointer (some ⟨g, o + 2, none⟩)) w := by kernel_rfl
theorem inf101 : (Tryz.prog.info? 101).map (fun i => (i.zero, i.size, i.bytes)) = some (some (.agg #[.int .i64 0, str []]), 2, 24) := by kernel_rfl
theorem siz101 : (Tryz.prog.info? 101).map (·.size) = some 2 := by kernel_rfl
theorem fa101_0 {w : World} (g o : Nat) : (Instr.fieldAt 101 (.pointer (some ⟨g, o, none⟩)) 0).run Tryz.prog w = .ok (.pointer (some ⟨g, o + 0, none⟩)) w := by kernel_rfl
theorem fa101_1 {w : World} (g o : Nat) : (Instr.fieldAt 101 (.pointer (some ⟨g, o, none⟩)) 1).run Tryz.prog w = .ok (.pointer (some ⟨g, o + 1, none⟩)) w := by kernel_rfl
theorem inf103 : (Tryz.prog.info? 103).map (fun i => (i.zero, i.size, i.bytes)) = some (some (.agg #[str [], .slice none 0 0, .int .i64 0, .int .i64 0]), 4, 56) := by kernel_rfl
theorem siz103 : (Tryz.prog.info? 103).map (·.size) = some 4 := by kernel_rfl
theorem fa103_0 {w : World} (g o : Nat) : (Instr.fieldAt 103 (.pointer (some ⟨g, o, none⟩)) 0).run Tryz.prog w = .ok (.pointer (some ⟨g, o + 0, none⟩)) w := by kernel_rfl
theorem fa103_1 {w : World} (g o : Nat) : (Instr.fieldAt 103 (.pointer (some ⟨g, o, none⟩)) 1).run Tryz.prog w = .ok (.pointer (some ⟨g, o + 1, none⟩)) w := by kernel_rfl
theorem fa103_2 {w : World} (g o : Nat) : (Instr.fieldAt 103 (.pointer (some ⟨g, o, none⟩)) 2).run Tryz.prog w = .ok (.pointer (some ⟨g, o + 2, none⟩)) w := by kernel_rfl
theorem fa103_3 {w : World} (g o : Nat) : (Instr.fieldAt 103 (.pointer (some ⟨g, o, none⟩)) 3).run Tryz.prog w = .ok (.pointer (some ⟨g, o + 3, none⟩)) w := by kernel_rfl
theorem inf106 : (Tryz.prog.info? 106).map (fun i => (i.zero, i.size, i.bytes)) = some (some (.agg #[.pointer none, str [], .slice none 0 0, .int .i64 0, .int .i64 0, .int .i64 0, str [], .bool false]), 8, 96) := by kernel_rfl
theorem siz106 : (Tryz.prog.info? 106).map (·.size) = some 8 := by kernel_rfl
theorem fa106_0 {w : World} (g o : Nat) : (Instr.fieldAt 106 (.pointer (some ⟨g, o, none⟩)) 0).run Tryz.prog w = .ok (.pointer (some ⟨g, o + 0, none⟩)) w := by kernel_rfl
theorem fa106_1 {w : World} (g o : Nat) : (Instr.fieldAt 106 (.pointer (some ⟨g, o, none⟩)) 1).run Tryz.prog w = .ok (.pointer (some ⟨g, o + 1, none⟩)) w := by kernel_rfl
theorem fa106_2 {w : World} (g o : Nat) : (Instr.fieldAt 106 (.pointer (some ⟨g, o, none⟩)) 2).run Tryz.prog w = .ok (.pointer (some ⟨g, o + 5, none⟩)) w := by kernel_rfl
theorem fa106_3 {w : World} (g o : Nat) : (Instr.fieldAt 106 (.pointer (some ⟨g, o, none⟩)) 3).run Tryz.prog w = .ok (.pointer (some ⟨g, o + 6, none⟩)) w := by kernel_rfl
theorem fa106_4 {w : World} (g o : Nat) : (Instr.fieldAt 106 (.pointer (some ⟨g, o, none⟩)) 4).run Tryz.prog w = .ok (.pointer (some ⟨g, o + 7, none⟩)) w := by kernel_rfl
theorem inf114 : (Tryz.prog.info? 114).map (fun i => (i.zero, i.size, i.bytes)) = some (some (.agg #[.slice none 0 0]), 1, 24) := by kernel_rfl
theorem siz114 : (Tryz.prog.info? 114).map (·.size) = some 1 := by kernel_rfl
theorem fa114_0 {w : World} (g o : Nat) : (Instr.fieldAt 114 (.pointer (some ⟨g, o, none⟩)) 0).run Tryz.prog w = .ok (.pointer (some ⟨g, o + 0, none⟩)) w := by kernel_rfl
theorem inf118 : (Tryz.prog.info? 118).map (fun i => (i.zero, i.size, i.bytes)) = some (some (.int .u32 0), 1, 4) := by kernel_rfl
theorem siz118 : (Tryz.prog.info? 118).map (·.size) = some 1 := by kernel_rfl
theorem inf123 : (Tryz.prog.info? 123).map (fun i => (i.zero, i.size, i.bytes)) = some (some (.nilFunc), 1, 8) := by kernel_rfl
theorem siz123 : (Tryz.prog.info? 123).map (·.size) = some 1 := by kernel_rfl
theorem inf126 : (Tryz.prog.info? 126).map (fun i => (i.zero, i.size, i.bytes)) = some (some (.agg #[str [], .slice none 0 0, .int .i64 0, .int .i64 0]), 4, 56) := by kernel_rfl
theorem siz126 : (Tryz.prog.info? 126).map (·.size) = some 4 := by kernel_rfl
theorem fa126_0 {w : World} (g o : Nat) : (Instr.fieldAt 126 (.pointer (some ⟨g, o, none⟩)) 0).run Tryz.prog w = .ok (.pointer (some ⟨g, o + 0, none⟩)) w := by kernel_rfl
theorem fa126_1 {w : World} (g o : Nat) : (Instr.fieldAt 126 (.pointer (some ⟨g, o, none⟩)) 1).run Tryz.prog w = .ok (.pointer (some ⟨g, o + 1, none⟩)) w := by kernel_rfl
theorem fa126_2 {w : World} (g o : Nat) : (Instr.fieldAt 126 (.pointer (some ⟨g, o, none⟩)) 2).run Tryz.prog w = .ok (.pointer (some ⟨g, o + 2, none⟩)) w := by kernel_rfl
theorem fa126_3 {w : World} (g o : Nat) : (Instr.fieldAt 126 (.pointer (some ⟨g, o, none⟩)) 3).run Tryz.prog w = .ok (.pointer (some ⟨g, o + 3, none⟩)) w := by kernel_rfl
theorem inf129 : (Tryz.prog.info? 129).map (fun i => (i.zero, i.size, i.bytes)) = some (some (.agg #[str [], .slice none 0 0, .int .i64 0, .int .i64 0, .int .i64 0, str []]), 6, 80) := by kernel_rfl
theorem siz129 : (Tryz.prog.info? 129).map (·.size) = some 6 := by kernel_rfl
theorem fa129_0 {w : World} (g o : Nat) : (Instr.fieldAt 129 (.pointer (some ⟨g, o, none⟩)) 0).run Tryz.prog w = .ok (.pointer (some ⟨g, o + 0, none⟩)) w := by kernel_rfl
theorem fa129_1 {w : World} (g o : Nat) : (Instr.fieldAt 129 (.pointer (some ⟨g, o, none⟩)) 1).run Tryz.prog w = .ok (.pointer (some ⟨g, o + 4, none⟩)) w := by kernel_rfl
theorem fa129_2 {w : World} (g o : Nat) : (Instr.fieldAt 129 (.pointer (some ⟨g, o, none⟩)) 2).run Tryz.prog w = .ok (.pointer (some ⟨g, o + 5, none⟩)) w := by kernel_rfl
theorem inf132 : (Tryz.prog.info? 132).map (fun i => (i.zero, i.size, i.bytes)) = some (some (.agg #[.int .i64 0, str []]), 2, 24) := by kernel_rfl
theorem siz132 : (Tryz.prog.info? 132).map (·.size) = some 2 := by kernel_rfl
theorem fa132_0 {w : World} (g o : Nat) : (Instr.fieldAt 132 (.pointer (some ⟨g, o, none⟩)) 0).run Tryz.prog w = .ok (.pointer (some ⟨g, o + 0, none⟩)) w := by kernel_rfl
theorem fa132_1 {w : World} (g o : Nat) : (Instr.fieldAt 132 (.pointer (some ⟨g, o, none⟩)) 1).run Tryz.prog w = .ok (.pointer (some ⟨g, o + 1, none⟩)) w := by kernel_rfl
theorem inf142 : (Tryz.prog.info? 142).map (fun i => (i.zero, i.size, i.bytes)) = some (some (.pointer none), 1, 8) := by kernel_rfl
theorem siz142 : (Tryz.prog.info? 142).map (·.size) = some 1 := by kernel_rfl
theorem inf144 : (Tryz.prog.info? 144).map (fun i => (i.zero, i.size, i.bytes)) = some (some (.agg #[str [], .slice none 0 0, .int .i64 0, .int .i64 0, .bool false, .int .i64 0, str []]), 7, 88) := by kernel_rfl
theorem siz144 : (Tryz.prog.info? 144).map (·.size) = some 7 := by kernel_rfl
theorem fa144_0 {w : World} (g o : Nat) : (Instr.fieldAt 144 (.pointer (some ⟨g, o, none⟩)) 0).run Tryz.prog w = .ok (.pointer (some ⟨g, o + 0, none⟩)) w := by kernel_rfl
theorem fa144_1 {w : World} (g o : Nat) : (Instr.fieldAt 144 (.pointer (some ⟨g, o, none⟩)) 1).run Tryz.prog w = .ok (.pointer (some ⟨g, o + 4, none⟩)) w := by kernel_rfl
theorem fa144_2 {w : World} (g o : Nat) : (Instr.fieldAt 144 (.pointer (some ⟨g, o, none⟩)) 2).run Tryz.prog w = .ok (.pointer (some ⟨g, o + 5, none⟩)) w := by kernel_rfl
theorem fa144_3 {w : World} (g o : Nat) : (Instr.fieldAt 144 (.pointer (some ⟨g, o, none⟩)) 3).run Tryz.prog w = .ok (.pointer (some ⟨g, o + 6, none⟩)) w := by kernel_rfl
theorem inf145 : (Tryz.prog.info? 145).map (fun i => (i.zero, i.size, i.bytes)) = some (some (.nilFunc), 1, 8) := by kernel_rfl
theorem siz145 : (Tryz.prog.info? 145).map (·.size) = some 1 := by kernel_rfl
theorem inf146 : (Tryz.prog.info? 146).map (fun i => (i.zero, i.size, i.bytes)) = some (some (.agg #[.nilFunc, .nilFunc, .nilFunc, .nilFunc, .nilFunc, .nilFunc, .nilFunc]), 7, 56) := by kernel_rfl
theorem siz146 : (Tryz.prog.info? 146).map (·.size) = some 7 := by kernel_rfl
theorem inf152 : (Tryz.prog.info? 152).map (fun i => (i.zero, i.size, i.bytes)) = some (some (.int .u64 0), 1, 8) := by kernel_rfl
theorem siz152 : (Tryz.prog.info? 152).map (·.size) = some 1 := by kernel_rfl
theorem inf154 : (Tryz.prog.info? 154).map (fun i => (i.zero, i.size, i.bytes)) = some (some (.pointer none), 1, 8) := by kernel_rfl
theorem siz154 : (Tryz.prog.info? 154).map (·.size) = some 1 := by kernel_rfl
theorem inf157 : (Tryz.prog.info? 157).map (fun i => (i.zero, i.size, i.bytes)) = some (some (.int .u64 0), 1, 8) := by kernel_rfl
theorem siz157 : (Tryz.prog.info? 157).map (·.size) = some 1 := by kernel_rfl
theorem inf165 : (Tryz.prog.info? 165).map (fun i => (i.zero, i.size, i.bytes)) = some (some (.pointer none), 1, 8) := by kernel_rfl
theorem siz165 : (Tryz.prog.info? 165).map (·.size) = some 1 := by kernel_rfl
theorem inf169 : (Tryz.prog.info? 169).map (fun i => (i.zero, i.size, i.bytes)) = some (some (.agg (List.replicate 256 (.int .u32 0) : List Value).toArray), 256, 1024) := by kernel_rfl
theorem siz169 : (Tryz.prog.info? 169).map (·.size) = some 256 := by kernel_rfl
theorem inf179 : (Tryz.prog.info? 179).map (fun i => (i.zero, i.size, i.bytes)) = some (some (.agg (List.replicate 256 (.bool false) : List Value).toArray), 256, 256) := by kernel_rfl
theorem siz179 : (Tryz.prog.info? 179).map (·.size) = some 256 := by kernel_rfl
theorem inf183 : (Tryz.prog.info? 183).map (fun i => (i.zero, i.size, i.bytes)) = some (some (.pointer none), 1, 8) := by kernel_rfl
theorem siz183 : (Tryz.prog.info? 183).map (·.size) = some 1 := by kernel_rfl
theorem inf185 : (Tryz.prog.info? 185).map (fun i => (i.zero, i.size, i.bytes)) = some (some (.agg #[str [], .int .i64 0, .int .i64 0]), 3, 32) := by kernel_rfl
theorem siz185 : (Tryz.prog.info? 185).map (·.size) = some 3 := by kernel_rfl
theorem fa185_0 {w : World} (g o : Nat) : (Instr.fieldAt 185 (.pointer (some ⟨g, o, none⟩)) 0).run Tryz.prog w = .ok (.pointer (some ⟨g, o + 0, none⟩)) w := by kernel_rfl
theorem fa185_1 {w : World} (g o : Nat) : (Instr.fieldAt 185 (.pointer (some ⟨g, o, none⟩)) 1).run Tryz.prog w = .ok (.pointer (some ⟨g, o + 1, none⟩)) w := by kernel_rfl
theorem fa185_2 {w : World} (g o : Nat) : (Instr.fieldAt 185 (.pointer (some ⟨g, o, none⟩)) 2).run Tryz.prog w = .ok (.pointer (some ⟨g, o + 2, none⟩)) w := by kernel_rfl
theorem inf207 : (Tryz.prog.info? 207).map (fun i => (i.zero, i.size, i.bytes)) = some (some (.int .u64 0), 1, 8) := by kernel_rfl
theorem siz207 : (Tryz.prog.info? 207).map (·.size) = some 1 := by kernel_rfl
theorem inf210 : (Tryz.prog.info? 210).map (fun i => (i.zero, i.size, i.bytes)) = some (some (.pointer none), 1, 8) := by kernel_rfl
theorem siz210 : (Tryz.prog.info? 210).map (·.size) = some 1 := by kernel_rfl
theorem inf216 : (Tryz.prog.info? 216).map (fun i => (i.zero, i.size, i.bytes)) = some (some (.agg (List.replicate 256 (.int .u8 0) : List Value).toArray), 256, 256) := by kernel_rfl
theorem siz216 : (Tryz.prog.info? 216).map (·.size) = some 256 := by kernel_rfl
theorem inf218 : (Tryz.prog.info? 218).map (fun i => (i.zero, i.size, i.bytes)) = some (some (.agg #[.int .u8 0, .int .u8 0]), 2, 2) := by kernel_rfl
theorem siz218 : (Tryz.prog.info? 218).map (·.size) = some 2 := by kernel_rfl
theorem fa218_0 {w : World} (g o : Nat) : (Instr.fieldAt 218 (.pointer (some ⟨g, o, none⟩)) 0).run Tryz.prog w = .ok (.pointer (some ⟨g, o + 0, none⟩)) w := by kernel_rfl
theorem fa218_1 {w : World} (g o : Nat) : (Instr.fieldAt 218 (.pointer (some ⟨g, o, none⟩)) 1).run Tryz.prog w = .ok (.pointer (some ⟨g, o + 1, none⟩)) w := by kernel_rfl
theorem inf219 : (Tryz.prog.info? 219).map (fun i => (i.zero, i.size, i.bytes)) = some (some (.agg (List.replicate 32 (.int .u8 0) : List Value).toArray), 32, 32) := by kernel_rfl
theorem siz219 : (Tryz.prog.info? 219).map (·.size) = some 32 := by kernel_rfl
end Go.Proofs.YtnijmegalgoipaaGreatDoor
