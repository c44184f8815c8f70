/- Closed facts on the program's types (printed by wip/tools/tab.py). -/
import Derived.Test.YtihajdkipkfiiaaProg
import Derived.Test.YtihajdkipkfiiaaEngE
namespace Go.Proofs.Ytihajdkipkfiiaa
open Go
theorem tlay_3 : tlay Try.prog 3 = some (false, 1) := by kernel_rfl
theorem tlay_4 : tlay Try.prog 4 = some (false, 1) := by kernel_rfl
theorem tlay_5 : tlay Try.prog 5 = some (false, 1) := by kernel_rfl
theorem tlay_9 : tlay Try.prog 9 = some (false, 1) := by kernel_rfl
theorem tlay_24 : tlay Try.prog 24 = some (true, 4) := by kernel_rfl
theorem tlay_25 : tlay Try.prog 25 = some (false, 1) := by kernel_rfl
theorem tlay_27 : tlay Try.prog 27 = some (false, 1) := by kernel_rfl
theorem tlay_32 : tlay Try.prog 32 = some (false, 1) := by kernel_rfl
theorem tlay_38 : tlay Try.prog 38 = some (false, 1) := by kernel_rfl
theorem tlay_45 : tlay Try.prog 45 = some (true, 6) := by kernel_rfl
theorem tlay_50 : tlay Try.prog 50 = some (false, 1) := by kernel_rfl
theorem tlay_55 : tlay Try.prog 55 = some (false, 1) := by kernel_rfl
theorem tlay_68 : tlay Try.prog 68 = some (true, 5) := by kernel_rfl
theorem tlay_84 : tlay Try.prog 84 = some (true, 5) := by kernel_rfl
theorem tlay_88 : tlay Try.prog 88 = some (true, 2) := by kernel_rfl
theorem tlay_93 : tlay Try.prog 93 = some (false, 1) := by kernel_rfl
theorem tlay_100 : tlay Try.prog 100 = some (false, 1) := by kernel_rfl
theorem tlay_101 : tlay Try.prog 101 = some (false, 1) := by kernel_rfl
theorem tlay_105 : tlay Try.prog 105 = some (true, 3) := by kernel_rfl
theorem tlay_112 : tlay Try.prog 112 = some (true, 2) := by kernel_rfl
theorem tlay_113 : tlay Try.prog 113 = some (false, 1) := by kernel_rfl
theorem tlay_115 : tlay Try.prog 115 = some (false, 1) := by kernel_rfl
theorem tlay_116 : tlay Try.prog 116 = some (false, 1) := by kernel_rfl
theorem tlay_119 : tlay Try.prog 119 = some (false, 1) := by kernel_rfl
theorem tlay_120 : tlay Try.prog 120 = some (false, 1) := by kernel_rfl
theorem tlay_128 : tlay Try.prog 128 = some (false, 1) := by kernel_rfl
theorem tlay_138 : tlay Try.prog 138 = some (false, 1) := by kernel_rfl
theorem tlay_145 : tlay Try.prog 145 = some (true, 0) := by kernel_rfl
theorem tlay_150 : tlay Try.prog 150 = some (false, 1) := by kernel_rfl
theorem tlay_194 : tlay Try.prog 194 = some (false, 1) := by kernel_rfl
theorem tslice_22 : tslice Try.prog 22 = some (5, 1) := by kernel_rfl
theorem tslice_32 : tslice Try.prog 32 = some (3, 1) := by kernel_rfl
theorem tslice_50 : tslice Try.prog 50 = some (45, 6) := by kernel_rfl
theorem tslice_64 : tslice Try.prog 64 = some (68, 5) := by kernel_rfl
theorem tslice_81 : tslice Try.prog 81 = some (84, 5) := by kernel_rfl
theorem tslice_82 : tslice Try.prog 82 = some (88, 2) := by kernel_rfl
theorem tslice_93 : tslice Try.prog 93 = some (9, 1) := by kernel_rfl
theorem tslice_99 : tslice Try.prog 99 = some (105, 3) := by kernel_rfl
theorem tslice_101 : tslice Try.prog 101 = some (112, 2) := by kernel_rfl
theorem tslice_150 : tslice Try.prog 150 = some (149, 8) := by kernel_rfl
theorem tplaces_45 : tplaces Try.prog 45 = some [(0, 1), (1, 1), (2, 1), (3, 1), (4, 1), (5, 1)] := by kernel_rfl
theorem tplaces_88 : tplaces Try.prog 88 = some [(0, 1), (1, 1)] := by kernel_rfl
theorem tplaces_103 : tplaces Try.prog 103 = some [(0, 1), (1, 1)] := by kernel_rfl
theorem tplaces_112 : tplaces Try.prog 112 = some [(0, 1), (1, 1)] := by kernel_rfl
theorem tplaces_118 : tplaces Try.prog 118 = some [(0, 1), (1, 1), (2, 1)] := by kernel_rfl
theorem tplaces_127 : tplaces Try.prog 127 = some [(0, 6), (6, 1), (7, 1)] := by kernel_rfl
theorem tplaces_130 : tplaces Try.prog 130 = some [(0, 1), (1, 1), (2, 1)] := by kernel_rfl
theorem tplaces_140 : tplaces Try.prog 140 = some [(0, 1), (1, 1)] := by kernel_rfl
theorem tplaces_145 : tplaces Try.prog 145 = some [] := by kernel_rfl
theorem tplaces_149 : tplaces Try.prog 149 = some [(0, 6), (6, 1), (7, 1)] := by kernel_rfl
theorem tplaces_152 : tplaces Try.prog 152 = some [(0, 1), (1, 1), (2, 1)] := by kernel_rfl
theorem tzero_3 : tzero Try.prog 3 = some [.int .i64 0] := by kernel_rfl
theorem tzero_4 : tzero Try.prog 4 = some [.bool false] := by kernel_rfl
theorem tzero_5 : tzero Try.prog 5 = some [.int .u8 0] := by kernel_rfl
theorem tzero_9 : tzero Try.prog 9 = some [.str ⟨#[]⟩] := by kernel_rfl
theorem tzero_24 : tzero Try.prog 24 = some [.str ⟨#[]⟩, .str ⟨#[]⟩, .str ⟨#[]⟩, .str ⟨#[]⟩] := by kernel_rfl
theorem tzero_27 : tzero Try.prog 27 = some [.int .i64 0] := by kernel_rfl
theorem tzero_29 : tzero Try.prog 29 = some [.int .i64 0, .int .i64 0, .int .i64 0, .int .i64 0, .int .i64 0, .int .i64 0, .int .i64 0, .int .i64 0, .int .i64 0, .int .i64 0] := by kernel_rfl
theorem tzero_32 : tzero Try.prog 32 = some [.raw (.slice none 0 0)] := by kernel_rfl
theorem tzero_45 : tzero Try.prog 45 = some [.int .i64 0, .int .i64 0, .str ⟨#[]⟩, .bool false, .int .i64 0, .str ⟨#[]⟩] := by kernel_rfl
theorem tzero_50 : tzero Try.prog 50 = some [.raw (.slice none 0 0)] := by kernel_rfl
theorem tzero_68 : tzero Try.prog 68 = some [.int .i64 0, .int .i64 0, .int .i64 0, .str ⟨#[]⟩, .str ⟨#[]⟩] := by kernel_rfl
theorem tzero_84 : tzero Try.prog 84 = some [.int .i64 0, .int .i64 0, .int .i64 0, .str ⟨#[]⟩, .raw (.slice none 0 0)] := by kernel_rfl
theorem tzero_88 : tzero Try.prog 88 = some [.int .i64 0, .str ⟨#[]⟩] := by kernel_rfl
theorem tzero_93 : tzero Try.prog 93 = some [.raw (.slice none 0 0)] := by kernel_rfl
theorem tzero_100 : tzero Try.prog 100 = some [.raw (.pointer none)] := by kernel_rfl
theorem tzero_103 : tzero Try.prog 103 = some [.raw (.slice none 0 0), .raw (.slice none 0 0)] := by kernel_rfl
theorem tzero_105 : tzero Try.prog 105 = some [.int .i64 0, .int .i64 0, .str ⟨#[]⟩] := by kernel_rfl
theorem tzero_112 : tzero Try.prog 112 = some [.str ⟨#[]⟩, .raw (.slice none 0 0)] := by kernel_rfl
theorem tzero_118 : tzero Try.prog 118 = some [.raw (.map none), .raw (.map none), .raw (.slice none 0 0)] := by kernel_rfl
theorem tzero_127 : tzero Try.prog 127 = some [.int .i64 0, .int .i64 0, .str ⟨#[]⟩, .bool false, .int .i64 0, .str ⟨#[]⟩, .bool false, .bool false] := by kernel_rfl
theorem tzero_130 : tzero Try.prog 130 = some [.raw (.map none), .int .i64 0, .int .i64 0] := by kernel_rfl
theorem tzero_140 : tzero Try.prog 140 = some [.raw (.map none), .raw (.map none)] := by kernel_rfl
theorem tzero_145 : tzero Try.prog 145 = some [] := by kernel_rfl
theorem tzero_149 : tzero Try.prog 149 = some [.int .i64 0, .int .i64 0, .str ⟨#[]⟩, .bool false, .int .i64 0, .str ⟨#[]⟩, .bool false, .bool false] := by kernel_rfl
theorem tzero_152 : tzero Try.prog 152 = some [.raw (.slice none 0 0), .int .i64 0, .int .i64 0] := by kernel_rfl
theorem tzero_194 : tzero Try.prog 194 = some [.int .u64 0] := by kernel_rfl
theorem tfield_45_0 : tfield Try.prog 45 0 = some 0 := by kernel_rfl
theorem tfield_45_1 : tfield Try.prog 45 1 = some 1 := by kernel_rfl
theorem tfield_45_2 : tfield Try.prog 45 2 = some 2 := by kernel_rfl
theorem tfield_45_3 : tfield Try.prog 45 3 = some 3 := by kernel_rfl
theorem tfield_45_4 : tfield Try.prog 45 4 = some 4 := by kernel_rfl
theorem tfield_45_5 : tfield Try.prog 45 5 = some 5 := by kernel_rfl
theorem tfield_68_0 : tfield Try.prog 68 0 = some 0 := by kernel_rfl
theorem tfield_68_1 : tfield Try.prog 68 1 = some 1 := by kernel_rfl
theorem tfield_68_2 : tfield Try.prog 68 2 = some 2 := by kernel_rfl
theorem tfield_68_3 : tfield Try.prog 68 3 = some 3 := by kernel_rfl
theorem tfield_68_4 : tfield Try.prog 68 4 = some 4 := by kernel_rfl
theorem tfield_84_0 : tfield Try.prog 84 0 = some 0 := by kernel_rfl
theorem tfield_84_1 : tfield Try.prog 84 1 = some 1 := by kernel_rfl
theorem tfield_84_2 : tfield Try.prog 84 2 = some 2 := by kernel_rfl
theorem tfield_84_3 : tfield Try.prog 84 3 = some 3 := by kernel_rfl
theorem tfield_84_4 : tfield Try.prog 84 4 = some 4 := by kernel_rfl
theorem tfield_88_0 : tfield Try.prog 88 0 = some 0 := by kernel_rfl
theorem tfield_88_1 : tfield Try.prog 88 1 = some 1 := by kernel_rfl
theorem tfield_103_0 : tfield Try.prog 103 0 = some 0 := by kernel_rfl
theorem tfield_103_1 : tfield Try.prog 103 1 = some 1 := by kernel_rfl
theorem tfield_105_0 : tfield Try.prog 105 0 = some 0 := by kernel_rfl
theorem tfield_105_1 : tfield Try.prog 105 1 = some 1 := by kernel_rfl
theorem tfield_105_2 : tfield Try.prog 105 2 = some 2 := by kernel_rfl
theorem tfield_112_0 : tfield Try.prog 112 0 = some 0 := by kernel_rfl
theorem tfield_112_1 : tfield Try.prog 112 1 = some 1 := by kernel_rfl
theorem tfield_118_0 : tfield Try.prog 118 0 = some 0 := by kernel_rfl
theorem tfield_118_1 : tfield Try.prog 118 1 = some 1 := by kernel_rfl
theorem tfield_118_2 : tfield Try.prog 118 2 = some 2 := by kernel_rfl
theorem tfield_127_0 : tfield Try.prog 127 0 = some 0 := by kernel_rfl
theorem tfield_127_1 : tfield Try.prog 127 1 = some 6 := by kernel_rfl
theorem tfield_127_2 : tfield Try.prog 127 2 = some 7 := by kernel_rfl
theorem tfield_130_0 : tfield Try.prog 130 0 = some 0 := by kernel_rfl
theorem tfield_130_1 : tfield Try.prog 130 1 = some 1 := by kernel_rfl
theorem tfield_130_2 : tfield Try.prog 130 2 = some 2 := by kernel_rfl
theorem tfield_140_0 : tfield Try.prog 140 0 = some 0 := by kernel_rfl
theorem tfield_140_1 : tfield Try.prog 140 1 = some 1 := by kernel_rfl
theorem tfield_149_0 : tfield Try.prog 149 0 = some 0 := by kernel_rfl
theorem tfield_149_1 : tfield Try.prog 149 1 = some 6 := by kernel_rfl
theorem tfield_149_2 : tfield Try.prog 149 2 = some 7 := by kernel_rfl
theorem tfield_152_0 : tfield Try.prog 152 0 = some 0 := by kernel_rfl
theorem tfield_152_1 : tfield Try.prog 152 1 = some 1 := by kernel_rfl
theorem tfield_152_2 : tfield Try.prog 152 2 = some 2 := by kernel_rfl
end Go.Proofs.Ytihajdkipkfiiaa
