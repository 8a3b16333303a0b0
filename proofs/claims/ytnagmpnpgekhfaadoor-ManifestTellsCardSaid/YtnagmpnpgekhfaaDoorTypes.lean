/- Facts on the types of this seat, each by computation. -/
import Derived.Test.YtnagmpnpgekhfaaDoorProg
import Derived.Test.YtnagmpnpgekhfaaDoorOps2
namespace Go.Proofs.YtnagmpnpgekhfaaDoor
theorem inf1 : (Tryd.prog.info? 1).map (fun i => (i.zero, i.size, i.bytes)) = some (some (.nilFunc), 1, 8) := by kernel_rfl
theorem siz1 : (Tryd.prog.info? 1).map (·.size) = some 1 := by kernel_rfl
theorem inf2 : (Tryd.prog.info? 2).map (fun i => (i.zero, i.size, i.bytes)) = some (some (.int .i64 0), 1, 8) := by kernel_rfl
theorem siz2 : (Tryd.prog.info? 2).map (·.size) = some 1 := by kernel_rfl
theorem inf3 : (Tryd.prog.info? 3).map (fun i => (i.zero, i.size, i.bytes)) = some (some (.int .i64 0), 1, 8) := by kernel_rfl
theorem siz3 : (Tryd.prog.info? 3).map (·.size) = some 1 := by kernel_rfl
theorem inf4 : (Tryd.prog.info? 4).map (fun i => (i.zero, i.size, i.bytes)) = some (some (.bool false), 1, 1) := by kernel_rfl
theorem siz4 : (Tryd.prog.info? 4).map (·.size) = some 1 := by kernel_rfl
theorem inf5 : (Tryd.prog.info? 5).map (fun i => (i.zero, i.size, i.bytes)) = some (some (.int .u8 0), 1, 1) := by kernel_rfl
theorem siz5 : (Tryd.prog.info? 5).map (·.size) = some 1 := by kernel_rfl
theorem inf9 : (Tryd.prog.info? 9).map (fun i => (i.zero, i.size, i.bytes)) = some (some (str []), 1, 16) := by kernel_rfl
theorem siz9 : (Tryd.prog.info? 9).map (·.size) = some 1 := by kernel_rfl
theorem inf12 : (Tryd.prog.info? 12).map (fun i => (i.zero, i.size, i.bytes)) = some (some (.int .u64 0), 1, 8) := by kernel_rfl
theorem siz12 : (Tryd.prog.info? 12).map (·.size) = some 1 := by kernel_rfl
theorem inf23 : (Tryd.prog.info? 23).map (fun i => (i.zero, i.size, i.bytes)) = some (some (.slice none 0 0), 1, 24) := by kernel_rfl
theorem siz23 : (Tryd.prog.info? 23).map (·.size) = some 1 := by kernel_rfl
theorem inf24 : (Tryd.prog.info? 24).map (fun i => (i.zero, i.size, i.bytes)) = some (some (.slice none 0 0), 1, 24) := by kernel_rfl
theorem siz24 : (Tryd.prog.info? 24).map (·.size) = some 1 := by kernel_rfl
theorem inf26 : (Tryd.prog.info? 26).map (fun i => (i.zero, i.size, i.bytes)) = some (some (.agg #[.int .i64 0, .int .i64 0, .slice none 0 0, .slice none 0 0]), 4, 64) := by kernel_rfl
theorem siz26 : (Tryd.prog.info? 26).map (·.size) = some 4 := by kernel_rfl
theorem fa26_0 {w : World} (g o : Nat) : (Instr.fieldAt 26 (.pointer (some ⟨g, o, none⟩)) 0).run Tryd.prog w = .ok (.pointer (some ⟨g, o + 0, none⟩)) w := by kernel_rfl
theorem fa26_1 {w : World} (g o : Nat) : (Instr.fieldAt 26 (.pointer (some ⟨g, o, none⟩)) 1).run Tryd.prog w = .ok (.pointer (some ⟨g, o + 1, none⟩)) w := by kernel_rfl
theorem fa26_2 {w : World} (g o : Nat) : (Instr.fieldAt 26 (.pointer (some ⟨g, o, none⟩)) 2).run Tryd.prog w = .ok (.pointer (some ⟨g, o + 2, none⟩)) w := by kernel_rfl
theorem fa26_3 {w : World} (g o : Nat) : (Instr.fieldAt 26 (.pointer (some ⟨g, o, none⟩)) 3).run Tryd.prog w = .ok (.pointer (some ⟨g, o + 3, none⟩)) w := by kernel_rfl
theorem inf30 : (Tryd.prog.info? 30).map (fun i => (i.zero, i.size, i.bytes)) = some (some (.slice none 0 0), 1, 24) := by kernel_rfl
theorem siz30 : (Tryd.prog.info? 30).map (·.size) = some 1 := by kernel_rfl
theorem inf32 : (Tryd.prog.info? 32).map (fun i => (i.zero, i.size, i.bytes)) = some (some (.agg #[.int .i64 0, .int .i64 0, .slice none 0 0, .slice none 0 0]), 4, 64) := by kernel_rfl
theorem siz32 : (Tryd.prog.info? 32).map (·.size) = some 4 := by kernel_rfl
theorem fa32_0 {w : World} (g o : Nat) : (Instr.fieldAt 32 (.pointer (some ⟨g, o, none⟩)) 0).run Tryd.prog w = .ok (.pointer (some ⟨g, o + 0, none⟩)) w := by kernel_rfl
theorem fa32_1 {w : World} (g o : Nat) : (Instr.fieldAt 32 (.pointer (some ⟨g, o, none⟩)) 1).run Tryd.prog w = .ok (.pointer (some ⟨g, o + 1, none⟩)) w := by kernel_rfl
theorem fa32_2 {w : World} (g o : Nat) : (Instr.fieldAt 32 (.pointer (some ⟨g, o, none⟩)) 2).run Tryd.prog w = .ok (.pointer (some ⟨g, o + 2, none⟩)) w := by kernel_rfl
theorem fa32_3 {w : World} (g o : Nat) : (Instr.fieldAt 32 (.pointer (some ⟨g, o, none⟩)) 3).run Tryd.prog w = .ok (.pointer (some ⟨g, o + 3, none⟩)) w := by kernel_rfl
theorem inf42 : (Tryd.prog.info? 42).map (fun i => (i.zero, i.size, i.bytes)) = some (some (.slice none 0 0), 1, 24) := by kernel_rfl
theorem siz42 : (Tryd.prog.info? 42).map (·.size) = some 1 := by kernel_rfl
theorem inf47 : (Tryd.prog.info? 47).map (fun i => (i.zero, i.size, i.bytes)) = some (some (.slice none 0 0), 1, 24) := by kernel_rfl
theorem siz47 : (Tryd.prog.info? 47).map (·.size) = some 1 := by kernel_rfl
theorem inf49 : (Tryd.prog.info? 49).map (fun i => (i.zero, i.size, i.bytes)) = some (some (.slice none 0 0), 1, 24) := by kernel_rfl
theorem siz49 : (Tryd.prog.info? 49).map (·.size) = some 1 := by kernel_rfl
theorem inf51 : (Tryd.prog.info? 51).map (fun i => (i.zero, i.size, i.bytes)) = some (some (.slice none 0 0), 1, 24) := by kernel_rfl
theorem siz51 : (Tryd.prog.info? 51).map (·.size) = some 1 := by kernel_rfl
theorem inf53 : (Tryd.prog.info? 53).map (fun i => (i.zero, i.size, i.bytes)) = some (some (.agg (List.replicate 32 (.int .u8 0) : List Value).toArray), 32, 32) := by kernel_rfl
theorem siz53 : (Tryd.prog.info? 53).map (·.size) = some 32 := by kernel_rfl
theorem inf55 : (Tryd.prog.info? 55).map (fun i => (i.zero, i.size, i.bytes)) = some (some (.agg (List.replicate 32 (.int .u8 0) ++ [.int .i64 0] : List Value).toArray), 33, 40) := by kernel_rfl
theorem siz55 : (Tryd.prog.info? 55).map (·.size) = some 33 := by kernel_rfl
theorem fa55_0 {w : World} (g o : Nat) : (Instr.fieldAt 55 (.pointer (some ⟨g, o, none⟩)) 0).run Tryd.prog w = .ok (.pointer (some ⟨g, o + 0, none⟩)) w := by kernel_rfl
theorem fa55_1 {w : World} (g o : Nat) : (Instr.fieldAt 55 (.pointer (some ⟨g, o, none⟩)) 1).run Tryd.prog w = .ok (.pointer (some ⟨g, o + 32, none⟩)) w := by kernel_rfl
theorem inf57 : (Tryd.prog.info? 57).map (fun i => (i.zero, i.size, i.bytes)) = some (some (.agg (List.replicate 32 (.int .u8 0) ++ [.int .i64 0] : List Value).toArray), 33, 40) := by kernel_rfl
theorem siz57 : (Tryd.prog.info? 57).map (·.size) = some 33 := by kernel_rfl
theorem fa57_0 {w : World} (g o : Nat) : (Instr.fieldAt 57 (.pointer (some ⟨g, o, none⟩)) 0).run Tryd.prog w = .ok (.pointer (some ⟨g, o + 0, none⟩)) w := by kernel_rfl
theorem fa57_1 {w : World} (g o : Nat) : (Instr.fieldAt 57 (.pointer (some ⟨g, o, none⟩)) 1).run Tryd.prog w = .ok (.pointer (some ⟨g, o + 32, none⟩)) w := by kernel_rfl
theorem inf58 : (Tryd.prog.info? 58).map (fun i => (i.zero, i.size, i.bytes)) = some (some (.slice none 0 0), 1, 24) := by kernel_rfl
theorem siz58 : (Tryd.prog.info? 58).map (·.size) = some 1 := by kernel_rfl
theorem inf60 : (Tryd.prog.info? 60).map (fun i => (i.zero, i.size, i.bytes)) = some (some (.agg #[str [], .int .i64 0, .bool false]), 3, 32) := by kernel_rfl
theorem siz60 : (Tryd.prog.info? 60).map (·.size) = some 3 := by kernel_rfl
theorem fa60_0 {w : World} (g o : Nat) : (Instr.fieldAt 60 (.pointer (some ⟨g, o, none⟩)) 0).run Tryd.prog w = .ok (.pointer (some ⟨g, o + 0, none⟩)) w := by kernel_rfl
theorem fa60_1 {w : World} (g o : Nat) : (Instr.fieldAt 60 (.pointer (some ⟨g, o, none⟩)) 1).run Tryd.prog w = .ok (.pointer (some ⟨g, o + 1, none⟩)) w := by kernel_rfl
theorem fa60_2 {w : World} (g o : Nat) : (Instr.fieldAt 60 (.pointer (some ⟨g, o, none⟩)) 2).run Tryd.prog w = .ok (.pointer (some ⟨g, o + 2, none⟩)) w := by kernel_rfl
theorem inf62 : (Tryd.prog.info? 62).map (fun i => (i.zero, i.size, i.bytes)) = some (some (.int .u32 0), 1, 4) := by kernel_rfl
theorem siz62 : (Tryd.prog.info? 62).map (·.size) = some 1 := by kernel_rfl
theorem inf67 : (Tryd.prog.info? 67).map (fun i => (i.zero, i.size, i.bytes)) = some (some (.slice none 0 0), 1, 24) := by kernel_rfl
theorem siz67 : (Tryd.prog.info? 67).map (·.size) = some 1 := by kernel_rfl
theorem inf69 : (Tryd.prog.info? 69).map (fun i => (i.zero, i.size, i.bytes)) = some (some (.agg #[str [], .int .i64 0]), 2, 24) := by kernel_rfl
theorem siz69 : (Tryd.prog.info? 69).map (·.size) = some 2 := by kernel_rfl
theorem fa69_0 {w : World} (g o : Nat) : (Instr.fieldAt 69 (.pointer (some ⟨g, o, none⟩)) 0).run Tryd.prog w = .ok (.pointer (some ⟨g, o + 0, none⟩)) w := by kernel_rfl
theorem fa69_1 {w : World} (g o : Nat) : (Instr.fieldAt 69 (.pointer (some ⟨g, o, none⟩)) 1).run Tryd.prog w = .ok (.pointer (some ⟨g, o + 1, none⟩)) w := by kernel_rfl
theorem inf72 : (Tryd.prog.info? 72).map (fun i => (i.zero, i.size, i.bytes)) = some (some (.pointer none), 1, 8) := by kernel_rfl
theorem siz72 : (Tryd.prog.info? 72).map (·.size) = some 1 := by kernel_rfl
theorem inf74 : (Tryd.prog.info? 74).map (fun i => (i.zero, i.size, i.bytes)) = some (some (.agg #[.pointer none, .slice none 0 0]), 2, 32) := by kernel_rfl
theorem siz74 : (Tryd.prog.info? 74).map (·.size) = some 2 := by kernel_rfl
theorem fa74_0 {w : World} (g o : Nat) : (Instr.fieldAt 74 (.pointer (some ⟨g, o, none⟩)) 0).run Tryd.prog w = .ok (.pointer (some ⟨g, o + 0, none⟩)) w := by kernel_rfl
theorem fa74_1 {w : World} (g o : Nat) : (Instr.fieldAt 74 (.pointer (some ⟨g, o, none⟩)) 1).run Tryd.prog w = .ok (.pointer (some ⟨g, o + 1, none⟩)) w := by kernel_rfl
theorem inf90 : (Tryd.prog.info? 90).map (fun i => (i.zero, i.size, i.bytes)) = some (some (.agg #[str [], .int .i64 0]), 2, 24) := by kernel_rfl
theorem siz90 : (Tryd.prog.info? 90).map (·.size) = some 2 := by kernel_rfl
theorem fa90_0 {w : World} (g o : Nat) : (Instr.fieldAt 90 (.pointer (some ⟨g, o, none⟩)) 0).run Tryd.prog w = .ok (.pointer (some ⟨g, o + 0, none⟩)) w := by kernel_rfl
theorem fa90_1 {w : World} (g o : Nat) : (Instr.fieldAt 90 (.pointer (some ⟨g, o, none⟩)) 1).run Tryd.prog w = .ok (.pointer (some ⟨g, o + 1, none⟩)) w := by kernel_rfl
theorem inf92 : (Tryd.prog.info? 92).map (fun i => (i.zero, i.size, i.bytes)) = some (some (.int .u64 0), 1, 8) := by kernel_rfl
theorem siz92 : (Tryd.prog.info? 92).map (·.size) = some 1 := by kernel_rfl
theorem inf95 : (Tryd.prog.info? 95).map (fun i => (i.zero, i.size, i.bytes)) = some (some (.agg #[]), 0, 0) := by kernel_rfl
theorem siz95 : (Tryd.prog.info? 95).map (·.size) = some 0 := by kernel_rfl
theorem inf97 : (Tryd.prog.info? 97).map (fun i => (i.zero, i.size, i.bytes)) = some (some (.pointer none), 1, 8) := by kernel_rfl
theorem siz97 : (Tryd.prog.info? 97).map (·.size) = some 1 := by kernel_rfl
theorem inf99 : (Tryd.prog.info? 99).map (fun i => (i.zero, i.size, i.bytes)) = some (some (.agg #[str []]), 1, 16) := by kernel_rfl
theorem siz99 : (Tryd.prog.info? 99).map (·.size) = some 1 := by kernel_rfl
theorem fa99_0 {w : World} (g o : Nat) : (Instr.fieldAt 99 (.pointer (some ⟨g, o, none⟩)) 0).run Tryd.prog w = .ok (.pointer (some ⟨g, o + 0, none⟩)) w := by kernel_rfl
theorem inf104 : (Tryd.prog.info? 104).map (fun i => (i.zero, i.size, i.bytes)) = some (some (.pointer none), 1, 8) := by kernel_rfl
theorem siz104 : (Tryd.prog.info? 104).map (·.size) = some 1 := by kernel_rfl
theorem inf108 : (Tryd.prog.info? 108).map (fun i => (i.zero, i.size, i.bytes)) = some (some (.map none), 1, 8) := by kernel_rfl
theorem siz108 : (Tryd.prog.info? 108).map (·.size) = some 1 := by kernel_rfl
theorem inf110 : (Tryd.prog.info? 110).map (fun i => (i.zero, i.size, i.bytes)) = some (some (.agg (List.replicate 256 (.int .u32 0) : List Value).toArray), 256, 1024) := by kernel_rfl
theorem siz110 : (Tryd.prog.info? 110).map (·.size) = some 256 := by kernel_rfl
theorem inf115 : (Tryd.prog.info? 115).map (fun i => (i.zero, i.size, i.bytes)) = some (some (.agg (List.replicate 256 (.int .u8 0) : List Value).toArray), 256, 256) := by kernel_rfl
theorem siz115 : (Tryd.prog.info? 115).map (·.size) = some 256 := by kernel_rfl
theorem inf117 : (Tryd.prog.info? 117).map (fun i => (i.zero, i.size, i.bytes)) = some (some (.agg #[.int .u8 0, .int .u8 0]), 2, 2) := by kernel_rfl
theorem siz117 : (Tryd.prog.info? 117).map (·.size) = some 2 := by kernel_rfl
theorem fa117_0 {w : World} (g o : Nat) : (Instr.fieldAt 117 (.pointer (some ⟨g, o, none⟩)) 0).run Tryd.prog w = .ok (.pointer (some ⟨g, o + 0, none⟩)) w := by kernel_rfl
theorem fa117_1 {w : World} (g o : Nat) : (Instr.fieldAt 117 (.pointer (some ⟨g, o, none⟩)) 1).run Tryd.prog w = .ok (.pointer (some ⟨g, o + 1, none⟩)) w := by kernel_rfl
theorem inf118 : (Tryd.prog.info? 118).map (fun i => (i.zero, i.size, i.bytes)) = some (some (.agg (List.replicate 32 (.int .u8 0) : List Value).toArray), 32, 32) := by kernel_rfl
theorem siz118 : (Tryd.prog.info? 118).map (·.size) = some 32 := by kernel_rfl
theorem inf119 : (Tryd.prog.info? 119).map (fun i => (i.zero, i.size, i.bytes)) = some (some (.slice none 0 0), 1, 24) := by kernel_rfl
theorem siz119 : (Tryd.prog.info? 119).map (·.size) = some 1 := by kernel_rfl
theorem inf122 : (Tryd.prog.info? 122).map (fun i => (i.zero, i.size, i.bytes)) = some (some (.nilFunc), 1, 8) := by kernel_rfl
theorem siz122 : (Tryd.prog.info? 122).map (·.size) = some 1 := by kernel_rfl
theorem inf124 : (Tryd.prog.info? 124).map (fun i => (i.zero, i.size, i.bytes)) = some (some (.nilFunc), 1, 8) := by kernel_rfl
theorem siz124 : (Tryd.prog.info? 124).map (·.size) = some 1 := by kernel_rfl
theorem inf126 : (Tryd.prog.info? 126).map (fun i => (i.zero, i.size, i.bytes)) = some (some (.int .u64 0), 1, 8) := by kernel_rfl
theorem siz126 : (Tryd.prog.info? 126).map (·.size) = some 1 := by kernel_rfl
theorem inf145 : (Tryd.prog.info? 145).map (fun i => (i.zero, i.size, i.bytes)) = some (some (.int .u64 0), 1, 8) := by kernel_rfl
theorem siz145 : (Tryd.prog.info? 145).map (·.size) = some 1 := by kernel_rfl
theorem inf149 : (Tryd.prog.info? 149).map (fun i => (i.zero, i.size, i.bytes)) = some (some (.pointer none), 1, 8) := by kernel_rfl
theorem siz149 : (Tryd.prog.info? 149).map (·.size) = some 1 := by kernel_rfl
end Go.Proofs.YtnagmpnpgekhfaaDoor
