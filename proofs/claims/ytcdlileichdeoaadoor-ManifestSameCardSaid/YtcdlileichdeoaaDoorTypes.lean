/- Facts on the types of this seat, each by computation. -/
import Derived.Test.YtcdlileichdeoaaDoorProg
import Derived.Test.YtcdlileichdeoaaDoorOps2
namespace Go.Proofs.YtcdlileichdeoaaDoor
theorem inf1 : (Tryd.prog.info? 1).map (fun i => (i.zero, i.size, i.bytes)) = some (some (.nilFunc), 1, 8) := by kernel_rfl
theorem siz1 : (Tryd.prog.info? 1).map (·.size) = some 1 := by kernel_rfl
theorem inf2 : (Tryd.prog.info? 2).map (fun i => (i.zero, i.size, i.bytes)) = some (some (.int .i64 0), 1, 8) := by kernel_rfl
theorem siz2 : (Tryd.prog.info? 2).map (·.size) = some 1 := by kernel_rfl
theorem inf3 : (Tryd.prog.info? 3).map (fun i => (i.zero, i.size, i.bytes)) = some (some (.int .i64 0), 1, 8) := by kernel_rfl
theorem siz3 : (Tryd.prog.info? 3).map (·.size) = some 1 := by kernel_rfl
theorem inf4 : (Tryd.prog.info? 4).map (fun i => (i.zero, i.size, i.bytes)) = some (some (.bool false), 1, 1) := by kernel_rfl
theorem siz4 : (Tryd.prog.info? 4).map (·.size) = some 1 := by kernel_rfl
theorem inf5 : (Tryd.prog.info? 5).map (fun i => (i.zero, i.size, i.bytes)) = some (some (.int .u8 0), 1, 1) := by kernel_rfl
theorem siz5 : (Tryd.prog.info? 5).map (·.size) = some 1 := by kernel_rfl
theorem inf9 : (Tryd.prog.info? 9).map (fun i => (i.zero, i.size, i.bytes)) = some (some (str []), 1, 16) := by kernel_rfl
theorem siz9 : (Tryd.prog.info? 9).map (·.size) = some 1 := by kernel_rfl
theorem inf12 : (Tryd.prog.info? 12).map (fun i => (i.zero, i.size, i.bytes)) = some (some (.int .u64 0), 1, 8) := by kernel_rfl
theorem siz12 : (Tryd.prog.info? 12).map (·.size) = some 1 := by kernel_rfl
theorem inf23 : (Tryd.prog.info? 23).map (fun i => (i.zero, i.size, i.bytes)) = some (some (.slice none 0 0), 1, 24) := by kernel_rfl
theorem siz23 : (Tryd.prog.info? 23).map (·.size) = some 1 := by kernel_rfl
theorem inf24 : (Tryd.prog.info? 24).map (fun i => (i.zero, i.size, i.bytes)) = some (some (.slice none 0 0), 1, 24) := by kernel_rfl
theorem siz24 : (Tryd.prog.info? 24).map (·.size) = some 1 := by kernel_rfl
theorem inf26 : (Tryd.prog.info? 26).map (fun i => (i.zero, i.size, i.bytes)) = some (some (.agg #[.int .i64 0, .int .i64 0, .slice none 0 0, .slice none 0 0]), 4, 64) := by kernel_rfl
theorem siz26 : (Tryd.prog.info? 26).map (·.size) = some 4 := by kernel_rfl
theorem fa26_0 {w : World} (g o : Nat) : (Instr.fieldAt 26 (.pointer (some ⟨g, o, none⟩)) 0).run Tryd.prog w = .ok (.pointer (some ⟨g, o + 0, none⟩)) w := by kernel_rfl
theorem fa26_1 {w : World} (g o : Nat) : (Instr.fieldAt 26 (.pointer (some ⟨g, o, none⟩)) 1).run Tryd.prog w = .ok (.pointer (some ⟨g, o + 1, none⟩)) w := by kernel_rfl
theorem fa26_2 {w : World} (g o : Nat) : (Instr.fieldAt 26 (.pointer (some ⟨g, o, none⟩)) 2).run Tryd.prog w = .ok (.pointer (some ⟨g, o + 2, none⟩)) w := by kernel_rfl
theorem fa26_3 {w : World} (g o : Nat) : (Instr.fieldAt 26 (.pointer (some ⟨g, o, none⟩)) 3).run Tryd.prog w = .ok (.pointer (some ⟨g, o + 3, none⟩)) w := by kernel_rfl
theorem inf30 : (Tryd.prog.info? 30).map (fun i => (i.zero, i.size, i.bytes)) = some (some (.slice none 0 0), 1, 24) := by kernel_rfl
theorem siz30 : (Tryd.prog.info? 30).map (·.size) = some 1 := by kernel_rfl
theorem inf32 : (Tryd.prog.info? 32).map (fun i => (i.zero, i.size, i.bytes)) = some (some (.agg #[.int .i64 0, .int .i64 0, .slice none 0 0, .slice none 0 0]), 4, 64) := by kernel_rfl
theorem siz32 : (Tryd.prog.info? 32).map (·.size) = some 4 := by kernel_rfl
theorem fa32_0 {w : World} (g o : Nat) : (Instr.fieldAt 32 (.pointer (some ⟨g, o, none⟩)) 0).run Tryd.prog w = .ok (.pointer (some ⟨g, o + 0, none⟩)) w := by kernel_rfl
theorem fa32_1 {w : World} (g o : Nat) : (Instr.fieldAt 32 (.pointer (some ⟨g, o, none⟩)) 1).run Tryd.prog w = .ok (.pointer (some ⟨g, o + 1, none⟩)) w := by kernel_rfl
theorem fa32_2 {w : World} (g o : Nat) : (Instr.fieldAt 32 (.pointer (some ⟨g, o, none⟩)) 2).run Tryd.prog w = .ok (.pointer (some ⟨g, o + 2, none⟩)) w := by kernel_rfl
theorem fa32_3 {w : World} (g o : Nat) : (Instr.fieldAt 32 (.pointer (some ⟨g, o, none⟩)) 3).run Tryd.prog w = .ok (.pointer (some ⟨g, o + 3, none⟩)) w := by kernel_rfl
theorem inf41 : (Tryd.prog.info? 41).map (fun i => (i.zero, i.size, i.bytes)) = some (some (.slice none 0 0), 1, 24) := by kernel_rfl
theorem siz41 : (Tryd.prog.info? 41).map (·.size) = some 1 := by kernel_rfl
theorem inf47 : (Tryd.prog.info? 47).map (fun i => (i.zero, i.size, i.bytes)) = some (some (.slice none 0 0), 1, 24) := by kernel_rfl
theorem siz47 : (Tryd.prog.info? 47).map (·.size) = some 1 := by kernel_rfl
theorem inf51 : (Tryd.prog.info? 51).map (fun i => (i.zero, i.size, i.bytes)) = some (some (.slice none 0 0), 1, 24) := by kernel_rfl
theorem siz51 : (Tryd.prog.info? 51).map (·.size) = some 1 := by kernel_rfl
theorem inf53 : (Tryd.prog.info? 53).map (fun i => (i.zero, i.size, i.bytes)) = some (some (.slice none 0 0), 1, 24) := by kernel_rfl
theorem siz53 : (Tryd.prog.info? 53).map (·.size) = some 1 := by kernel_rfl
theorem inf55 : (Tryd.prog.info? 55).map (fun i => (i.zero, i.size, i.bytes)) = some (some (.slice none 0 0), 1, 24) := by kernel_rfl
theorem siz55 : (Tryd.prog.info? 55).map (·.size) = some 1 := by kernel_rfl
theorem inf57 : (Tryd.prog.info? 57).map (fun i => (i.zero, i.size, i.bytes)) = some (some (.agg (List.replicate 32 (.int .u8 0) : List Value).toArray), 32, 32) := by kernel_rfl
theorem siz57 : (Tryd.prog.info? 57).map (·.size) = some 32 := by kernel_rfl
theorem inf59 : (Tryd.prog.info? 59).map (fun i => (i.zero, i.size, i.bytes)) = some (some (.agg (List.replicate 32 (.int .u8 0) ++ [.int .i64 0] : List Value).toArray), 33, 40) := by kernel_rfl
theorem siz59 : (Tryd.prog.info? 59).map (·.size) = some 33 := by kernel_rfl
theorem fa59_0 {w : World} (g o : Nat) : (Instr.fieldAt 59 (.pointer (some ⟨g, o, none⟩)) 0).run Tryd.prog w = .ok (.pointer (some ⟨g, o + 0, none⟩)) w := by kernel_rfl
theorem fa59_1 {w : World} (g o : Nat) : (Instr.fieldAt 59 (.pointer (some ⟨g, o, none⟩)) 1).run Tryd.prog w = .ok (.pointer (some ⟨g, o + 32, none⟩)) w := by kernel_rfl
theorem inf61 : (Tryd.prog.info? 61).map (fun i => (i.zero, i.size, i.bytes)) = some (some (.agg (List.replicate 32 (.int .u8 0) ++ [.int .i64 0] : List Value).toArray), 33, 40) := by kernel_rfl
theorem siz61 : (Tryd.prog.info? 61).map (·.size) = some 33 := by kernel_rfl
theorem fa61_0 {w : World} (g o : Nat) : (Instr.fieldAt 61 (.pointer (some ⟨g, o, none⟩)) 0).run Tryd.prog w = .ok (.pointer (some ⟨g, o + 0, none⟩)) w := by kernel_rfl
theorem fa61_1 {w : World} (g o : Nat) : (Instr.fieldAt 61 (.pointer (some ⟨g, o, none⟩)) 1).run Tryd.prog w = .ok (.pointer (some ⟨g, o + 32, none⟩)) w := by kernel_rfl
theorem inf63 : (Tryd.prog.info? 63).map (fun i => (i.zero, i.size, i.bytes)) = some (some (.agg #[str [], .int .i64 0, .bool false]), 3, 32) := by kernel_rfl
theorem siz63 : (Tryd.prog.info? 63).map (·.size) = some 3 := by kernel_rfl
theorem fa63_0 {w : World} (g o : Nat) : (Instr.fieldAt 63 (.pointer (some ⟨g, o, none⟩)) 0).run Tryd.prog w = .ok (.pointer (some ⟨g, o + 0, none⟩)) w := by kernel_rfl
theorem fa63_1 {w : World} (g o : Nat) : (Instr.fieldAt 63 (.pointer (some ⟨g, o, none⟩)) 1).run Tryd.prog w = .ok (.pointer (some ⟨g, o + 1, none⟩)) w := by kernel_rfl
theorem fa63_2 {w : World} (g o : Nat) : (Instr.fieldAt 63 (.pointer (some ⟨g, o, none⟩)) 2).run Tryd.prog w = .ok (.pointer (some ⟨g, o + 2, none⟩)) w := by kernel_rfl
theorem inf65 : (Tryd.prog.info? 65).map (fun i => (i.zero, i.size, i.bytes)) = some (some (.int .u32 0), 1, 4) := by kernel_rfl
theorem siz65 : (Tryd.prog.info? 65).map (·.size) = some 1 := by kernel_rfl
theorem inf70 : (Tryd.prog.info? 70).map (fun i => (i.zero, i.size, i.bytes)) = some (some (.slice none 0 0), 1, 24) := by kernel_rfl
theorem siz70 : (Tryd.prog.info? 70).map (·.size) = some 1 := by kernel_rfl
theorem inf72 : (Tryd.prog.info? 72).map (fun i => (i.zero, i.size, i.bytes)) = some (some (.agg #[str [], .int .i64 0]), 2, 24) := by kernel_rfl
theorem siz72 : (Tryd.prog.info? 72).map (·.size) = some 2 := by kernel_rfl
theorem fa72_0 {w : World} (g o : Nat) : (Instr.fieldAt 72 (.pointer (some ⟨g, o, none⟩)) 0).run Tryd.prog w = .ok (.pointer (some ⟨g, o + 0, none⟩)) w := by kernel_rfl
theorem fa72_1 {w : World} (g o : Nat) : (Instr.fieldAt 72 (.pointer (some ⟨g, o, none⟩)) 1).run Tryd.prog w = .ok (.pointer (some ⟨g, o + 1, none⟩)) w := by kernel_rfl
theorem inf75 : (Tryd.prog.info? 75).map (fun i => (i.zero, i.size, i.bytes)) = some (some (.pointer none), 1, 8) := by kernel_rfl
theorem siz75 : (Tryd.prog.info? 75).map (·.size) = some 1 := by kernel_rfl
theorem inf77 : (Tryd.prog.info? 77).map (fun i => (i.zero, i.size, i.bytes)) = some (some (.agg #[.pointer none, .slice none 0 0]), 2, 32) := by kernel_rfl
theorem siz77 : (Tryd.prog.info? 77).map (·.size) = some 2 := by kernel_rfl
theorem fa77_0 {w : World} (g o : Nat) : (Instr.fieldAt 77 (.pointer (some ⟨g, o, none⟩)) 0).run Tryd.prog w = .ok (.pointer (some ⟨g, o + 0, none⟩)) w := by kernel_rfl
theorem fa77_1 {w : World} (g o : Nat) : (Instr.fieldAt 77 (.pointer (some ⟨g, o, none⟩)) 1).run Tryd.prog w = .ok (.pointer (some ⟨g, o + 1, none⟩)) w := by kernel_rfl
theorem inf87 : (Tryd.prog.info? 87).map (fun i => (i.zero, i.size, i.bytes)) = some (some (.nilFunc), 1, 8) := by kernel_rfl
theorem siz87 : (Tryd.prog.info? 87).map (·.size) = some 1 := by kernel_rfl
theorem inf96 : (Tryd.prog.info? 96).map (fun i => (i.zero, i.size, i.bytes)) = some (some (.agg #[str [], .int .i64 0]), 2, 24) := by kernel_rfl
theorem siz96 : (Tryd.prog.info? 96).map (·.size) = some 2 := by kernel_rfl
theorem fa96_0 {w : World} (g o : Nat) : (Instr.fieldAt 96 (.pointer (some ⟨g, o, none⟩)) 0).run Tryd.prog w = .ok (.pointer (some ⟨g, o + 0, none⟩)) w := by kernel_rfl
theorem fa96_1 {w : World} (g o : Nat) : (Instr.fieldAt 96 (.pointer (some ⟨g, o, none⟩)) 1).run Tryd.prog w = .ok (.pointer (some ⟨g, o + 1, none⟩)) w := by kernel_rfl
theorem inf98 : (Tryd.prog.info? 98).map (fun i => (i.zero, i.size, i.bytes)) = some (some (.int .u64 0), 1, 8) := by kernel_rfl
theorem siz98 : (Tryd.prog.info? 98).map (·.size) = some 1 := by kernel_rfl
theorem inf101 : (Tryd.prog.info? 101).map (fun i => (i.zero, i.size, i.bytes)) = some (some (.agg #[]), 0, 0) := by kernel_rfl
theorem siz101 : (Tryd.prog.info? 101).map (·.size) = some 0 := by kernel_rfl
theorem inf103 : (Tryd.prog.info? 103).map (fun i => (i.zero, i.size, i.bytes)) = some (some (.pointer none), 1, 8) := by kernel_rfl
theorem siz103 : (Tryd.prog.info? 103).map (·.size) = some 1 := by kernel_rfl
theorem inf105 : (Tryd.prog.info? 105).map (fun i => (i.zero, i.size, i.bytes)) = some (some (.agg #[str []]), 1, 16) := by kernel_rfl
theorem siz105 : (Tryd.prog.info? 105).map (·.size) = some 1 := by kernel_rfl
theorem fa105_0 {w : World} (g o : Nat) : (Instr.fieldAt 105 (.pointer (some ⟨g, o, none⟩)) 0).run Tryd.prog w = .ok (.pointer (some ⟨g, o + 0, none⟩)) w := by kernel_rfl
theorem inf110 : (Tryd.prog.info? 110).map (fun i => (i.zero, i.size, i.bytes)) = some (some (.pointer none), 1, 8) := by kernel_rfl
theorem siz110 : (Tryd.prog.info? 110).map (·.size) = some 1 := by kernel_rfl
theorem inf114 : (Tryd.prog.info? 114).map (fun i => (i.zero, i.size, i.bytes)) = some (some (.map none), 1, 8) := by kernel_rfl
theorem siz114 : (Tryd.prog.info? 114).map (·.size) = some 1 := by kernel_rfl
theorem inf116 : (Tryd.prog.info? 116).map (fun i => (i.zero, i.size, i.bytes)) = some (some (.agg (List.replicate 256 (.int .u32 0) : List Value).toArray), 256, 1024) := by kernel_rfl
theorem siz116 : (Tryd.prog.info? 116).map (·.size) = some 256 := by kernel_rfl
theorem inf121 : (Tryd.prog.info? 121).map (fun i => (i.zero, i.size, i.bytes)) = some (some (.agg (List.replicate 256 (.int .u8 0) : List Value).toArray), 256, 256) := by kernel_rfl
theorem siz121 : (Tryd.prog.info? 121).map (·.size) = some 256 := by kernel_rfl
theorem inf123 : (Tryd.prog.info? 123).map (fun i => (i.zero, i.size, i.bytes)) = some (some (.agg #[.int .u8 0, .int .u8 0]), 2, 2) := by kernel_rfl
theorem siz123 : (Tryd.prog.info? 123).map (·.size) = some 2 := by kernel_rfl
theorem fa123_0 {w : World} (g o : Nat) : (Instr.fieldAt 123 (.pointer (some ⟨g, o, none⟩)) 0).run Tryd.prog w = .ok (.pointer (some ⟨g, o + 0, none⟩)) w := by kernel_rfl
theorem fa123_1 {w : World} (g o : Nat) : (Instr.fieldAt 123 (.pointer (some ⟨g, o, none⟩)) 1).run Tryd.prog w = .ok (.pointer (some ⟨g, o + 1, none⟩)) w := by kernel_rfl
theorem inf124 : (Tryd.prog.info? 124).map (fun i => (i.zero, i.size, i.bytes)) = some (some (.agg (List.replicate 32 (.int .u8 0) : List Value).toArray), 32, 32) := by kernel_rfl
theorem siz124 : (Tryd.prog.info? 124).map (·.size) = some 32 := by kernel_rfl
theorem inf125 : (Tryd.prog.info? 125).map (fun i => (i.zero, i.size, i.bytes)) = some (some (.slice none 0 0), 1, 24) := by kernel_rfl
theorem siz125 : (Tryd.prog.info? 125).map (·.size) = some 1 := by kernel_rfl
theorem inf128 : (Tryd.prog.info? 128).map (fun i => (i.zero, i.size, i.bytes)) = some (some (.nilFunc), 1, 8) := by kernel_rfl
theorem siz128 : (Tryd.prog.info? 128).map (·.size) = some 1 := by kernel_rfl
theorem inf130 : (Tryd.prog.info? 130).map (fun i => (i.zero, i.size, i.bytes)) = some (some (.nilFunc), 1, 8) := by kernel_rfl
theorem siz130 : (Tryd.prog.info? 130).map (·.size) = some 1 := by kernel_rfl
theorem inf132 : (Tryd.prog.info? 132).map (fun i => (i.zero, i.size, i.bytes)) = some (some (.int .u64 0), 1, 8) := by kernel_rfl
theorem siz132 : (Tryd.prog.info? 132).map (·.size) = some 1 := by kernel_rfl
theorem inf151 : (Tryd.prog.info? 151).map (fun i => (i.zero, i.size, i.bytes)) = some (some (.int .u64 0), 1, 8) := by kernel_rfl
theorem siz151 : (Tryd.prog.info? 151).map (·.size) = some 1 := by kernel_rfl
theorem inf155 : (Tryd.prog.info? 155).map (fun i => (i.zero, i.size, i.bytes)) = some (some (.pointer none), 1, 8) := by kernel_rfl
theorem siz155 : (Tryd.prog.info? 155).map (·.size) = some 1 := by kernel_rfl
end Go.Proofs.YtcdlileichdeoaaDoor
