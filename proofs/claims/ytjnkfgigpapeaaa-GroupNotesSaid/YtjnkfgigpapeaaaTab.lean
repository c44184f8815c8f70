/- Closed facts on the program's types (printed by wip/tools/tab.py). -/
import Derived.Test.YtjnkfgigpapeaaaProg
import Derived.Test.YtjnkfgigpapeaaaEngE
namespace Go.Proofs.Ytjnkfgigpapeaaa
open Go
theorem tlay_3 : tlay Try.prog 3 = some (false, 1) := by kernel_rfl
theorem tlay_4 : tlay Try.prog 4 = some (false, 1) := by kernel_rfl
theorem tlay_5 : tlay Try.prog 5 = some (false, 1) := by kernel_rfl
theorem tlay_9 : tlay Try.prog 9 = some (false, 1) := by kernel_rfl
theorem tlay_27 : tlay Try.prog 27 = some (true, 3) := by kernel_rfl
theorem tlay_29 : tlay Try.prog 29 = some (false, 1) := by kernel_rfl
theorem tlay_30 : tlay Try.prog 30 = some (false, 1) := by kernel_rfl
theorem tlay_31 : tlay Try.prog 31 = some (false, 1) := by kernel_rfl
theorem tlay_39 : tlay Try.prog 39 = some (false, 1) := by kernel_rfl
theorem tlay_42 : tlay Try.prog 42 = some (true, 2) := by kernel_rfl
theorem tlay_47 : tlay Try.prog 47 = some (true, 3) := by kernel_rfl
theorem tlay_52 : tlay Try.prog 52 = some (true, 2) := by kernel_rfl
theorem tlay_55 : tlay Try.prog 55 = some (false, 1) := by kernel_rfl
theorem tlay_61 : tlay Try.prog 61 = some (true, 6) := by kernel_rfl
theorem tlay_67 : tlay Try.prog 67 = some (false, 1) := by kernel_rfl
theorem tlay_70 : tlay Try.prog 70 = some (false, 1) := by kernel_rfl
theorem tlay_75 : tlay Try.prog 75 = some (false, 1) := by kernel_rfl
theorem tlay_77 : tlay Try.prog 77 = some (false, 1) := by kernel_rfl
theorem tlay_79 : tlay Try.prog 79 = some (false, 1) := by kernel_rfl
theorem tlay_81 : tlay Try.prog 81 = some (false, 1) := by kernel_rfl
theorem tlay_95 : tlay Try.prog 95 = some (false, 1) := by kernel_rfl
theorem tlay_98 : tlay Try.prog 98 = some (true, 2) := by kernel_rfl
theorem tlay_99 : tlay Try.prog 99 = some (false, 1) := by kernel_rfl
theorem tlay_100 : tlay Try.prog 100 = some (false, 1) := by kernel_rfl
theorem tlay_101 : tlay Try.prog 101 = some (false, 1) := by kernel_rfl
theorem tlay_106 : tlay Try.prog 106 = some (false, 1) := by kernel_rfl
theorem tlay_115 : tlay Try.prog 115 = some (false, 1) := by kernel_rfl
theorem tlay_116 : tlay Try.prog 116 = some (false, 1) := by kernel_rfl
theorem tlay_132 : tlay Try.prog 132 = some (false, 1) := by kernel_rfl
theorem tlay_140 : tlay Try.prog 140 = some (true, 2) := by kernel_rfl
theorem tlay_142 : tlay Try.prog 142 = some (false, 1) := by kernel_rfl
theorem tlay_147 : tlay Try.prog 147 = some (false, 1) := by kernel_rfl
theorem tlay_149 : tlay Try.prog 149 = some (true, 2) := by kernel_rfl
theorem tlay_150 : tlay Try.prog 150 = some (false, 1) := by kernel_rfl
theorem tlay_151 : tlay Try.prog 151 = some (false, 1) := by kernel_rfl
theorem tlay_161 : tlay Try.prog 161 = some (false, 1) := by kernel_rfl
theorem tlay_166 : tlay Try.prog 166 = some (false, 1) := by kernel_rfl
theorem tlay_168 : tlay Try.prog 168 = some (true, 3) := by kernel_rfl
theorem tlay_181 : tlay Try.prog 181 = some (true, 0) := by kernel_rfl
theorem tslice_31 : tslice Try.prog 31 = some (27, 3) := by kernel_rfl
theorem tslice_36 : tslice Try.prog 36 = some (5, 1) := by kernel_rfl
theorem tslice_39 : tslice Try.prog 39 = some (3, 1) := by kernel_rfl
theorem tslice_55 : tslice Try.prog 55 = some (52, 2) := by kernel_rfl
theorem tslice_67 : tslice Try.prog 67 = some (9, 1) := by kernel_rfl
theorem tslice_75 : tslice Try.prog 75 = some (81, 1) := by kernel_rfl
theorem tslice_76 : tslice Try.prog 76 = some (4, 1) := by kernel_rfl
theorem tslice_94 : tslice Try.prog 94 = some (101, 1) := by kernel_rfl
theorem tslice_100 : tslice Try.prog 100 = some (98, 2) := by kernel_rfl
theorem tslice_116 : tslice Try.prog 116 = some (42, 2) := by kernel_rfl
theorem tslice_132 : tslice Try.prog 132 = some (140, 2) := by kernel_rfl
theorem tslice_142 : tslice Try.prog 142 = some (149, 2) := by kernel_rfl
theorem tslice_161 : tslice Try.prog 161 = some (168, 3) := by kernel_rfl
theorem tplaces_27 : tplaces Try.prog 27 = some [(0, 1), (1, 1), (2, 1)] := by kernel_rfl
theorem tplaces_42 : tplaces Try.prog 42 = some [(0, 1), (1, 1)] := by kernel_rfl
theorem tplaces_52 : tplaces Try.prog 52 = some [(0, 1), (1, 1)] := by kernel_rfl
theorem tplaces_61 : tplaces Try.prog 61 = some [(0, 3), (3, 1), (4, 1), (5, 1)] := by kernel_rfl
theorem tplaces_98 : tplaces Try.prog 98 = some [(0, 1), (1, 1)] := by kernel_rfl
theorem tplaces_120 : tplaces Try.prog 120 = some [(0, 1), (1, 1), (2, 1)] := by kernel_rfl
theorem tplaces_125 : tplaces Try.prog 125 = some [(0, 1)] := by kernel_rfl
theorem tplaces_134 : tplaces Try.prog 134 = some [(0, 1), (1, 1)] := by kernel_rfl
theorem tplaces_136 : tplaces Try.prog 136 = some [(0, 2), (2, 1)] := by kernel_rfl
theorem tplaces_140 : tplaces Try.prog 140 = some [(0, 1), (1, 1)] := by kernel_rfl
theorem tplaces_144 : tplaces Try.prog 144 = some [(0, 1), (1, 1)] := by kernel_rfl
theorem tplaces_146 : tplaces Try.prog 146 = some [(0, 2), (2, 1)] := by kernel_rfl
theorem tplaces_149 : tplaces Try.prog 149 = some [(0, 1), (1, 1)] := by kernel_rfl
theorem tplaces_153 : tplaces Try.prog 153 = some [(0, 1), (1, 1), (2, 1)] := by kernel_rfl
theorem tplaces_163 : tplaces Try.prog 163 = some [(0, 1), (1, 1)] := by kernel_rfl
theorem tplaces_165 : tplaces Try.prog 165 = some [(0, 2), (2, 1)] := by kernel_rfl
theorem tplaces_168 : tplaces Try.prog 168 = some [(0, 2), (2, 1)] := by kernel_rfl
theorem tplaces_181 : tplaces Try.prog 181 = some [] := by kernel_rfl
theorem tzero_3 : tzero Try.prog 3 = some [.int .i64 0] := by kernel_rfl
theorem tzero_4 : tzero Try.prog 4 = some [.bool false] := by kernel_rfl
theorem tzero_5 : tzero Try.prog 5 = some [.int .u8 0] := by kernel_rfl
theorem tzero_9 : tzero Try.prog 9 = some [.str ⟨#[]⟩] := by kernel_rfl
theorem tzero_27 : tzero Try.prog 27 = some [.int .i64 0, .int .i64 0, .int .i64 0] := by kernel_rfl
theorem tzero_31 : tzero Try.prog 31 = some [.raw (.slice none 0 0)] := by kernel_rfl
theorem tzero_39 : tzero Try.prog 39 = some [.raw (.slice none 0 0)] := by kernel_rfl
theorem tzero_42 : tzero Try.prog 42 = some [.int .i64 0, .str ⟨#[]⟩] := by kernel_rfl
theorem tzero_47 : tzero Try.prog 47 = some [.str ⟨#[]⟩, .str ⟨#[]⟩, .str ⟨#[]⟩] := by kernel_rfl
theorem tzero_49 : tzero Try.prog 49 = some [.raw (.slice none 0 0), .raw (.slice none 0 0), .raw (.slice none 0 0)] := by kernel_rfl
theorem tzero_52 : tzero Try.prog 52 = some [.int .i64 0, .str ⟨#[]⟩] := by kernel_rfl
theorem tzero_61 : tzero Try.prog 61 = some [.int .i64 0, .int .i64 0, .int .i64 0, .int .i64 0, .int .i64 0, .int .i64 0] := by kernel_rfl
theorem tzero_81 : tzero Try.prog 81 = some [.int .i16 0] := by kernel_rfl
theorem tzero_86 : tzero Try.prog 86 = some [.bool false, .bool false, .bool false, .bool false, .bool false, .bool false, .bool false, .bool false] := by kernel_rfl
theorem tzero_98 : tzero Try.prog 98 = some [.int .i64 0, .int .i64 0] := by kernel_rfl
theorem tzero_100 : tzero Try.prog 100 = some [.raw (.slice none 0 0)] := by kernel_rfl
theorem tzero_101 : tzero Try.prog 101 = some [.int .i8 0] := by kernel_rfl
theorem tzero_120 : tzero Try.prog 120 = some [.raw (.map none), .raw (.slice none 0 0), .int .i64 0] := by kernel_rfl
theorem tzero_125 : tzero Try.prog 125 = some [.raw (.slice none 0 0)] := by kernel_rfl
theorem tzero_134 : tzero Try.prog 134 = some [.raw (.slice none 0 0), .raw (.nilFunc)] := by kernel_rfl
theorem tzero_136 : tzero Try.prog 136 = some [.raw (.slice none 0 0), .raw (.nilFunc), .int .i64 0] := by kernel_rfl
theorem tzero_140 : tzero Try.prog 140 = some [.str ⟨#[]⟩, .int .i64 0] := by kernel_rfl
theorem tzero_144 : tzero Try.prog 144 = some [.raw (.slice none 0 0), .raw (.nilFunc)] := by kernel_rfl
theorem tzero_146 : tzero Try.prog 146 = some [.raw (.slice none 0 0), .raw (.nilFunc), .int .i64 0] := by kernel_rfl
theorem tzero_149 : tzero Try.prog 149 = some [.int .i64 0, .int .i64 0] := by kernel_rfl
theorem tzero_153 : tzero Try.prog 153 = some [.raw (.map none), .raw (.map none), .raw (.slice none 0 0)] := by kernel_rfl
theorem tzero_163 : tzero Try.prog 163 = some [.raw (.slice none 0 0), .raw (.nilFunc)] := by kernel_rfl
theorem tzero_165 : tzero Try.prog 165 = some [.raw (.slice none 0 0), .raw (.nilFunc), .int .i64 0] := by kernel_rfl
theorem tzero_168 : tzero Try.prog 168 = some [.int .i64 0, .int .i64 0, .int .i64 0] := by kernel_rfl
theorem tzero_181 : tzero Try.prog 181 = some [] := by kernel_rfl
theorem tfield_27_0 : tfield Try.prog 27 0 = some 0 := by kernel_rfl
theorem tfield_27_1 : tfield Try.prog 27 1 = some 1 := by kernel_rfl
theorem tfield_27_2 : tfield Try.prog 27 2 = some 2 := by kernel_rfl
theorem tfield_42_0 : tfield Try.prog 42 0 = some 0 := by kernel_rfl
theorem tfield_42_1 : tfield Try.prog 42 1 = some 1 := by kernel_rfl
theorem tfield_52_0 : tfield Try.prog 52 0 = some 0 := by kernel_rfl
theorem tfield_61_0 : tfield Try.prog 61 0 = some 0 := by kernel_rfl
theorem tfield_61_1 : tfield Try.prog 61 1 = some 3 := by kernel_rfl
theorem tfield_61_2 : tfield Try.prog 61 2 = some 4 := by kernel_rfl
theorem tfield_61_3 : tfield Try.prog 61 3 = some 5 := by kernel_rfl
theorem tfield_98_0 : tfield Try.prog 98 0 = some 0 := by kernel_rfl
theorem tfield_98_1 : tfield Try.prog 98 1 = some 1 := by kernel_rfl
theorem tfield_118_0 : tfield Try.prog 118 0 = some 0 := by kernel_rfl
theorem tfield_120_0 : tfield Try.prog 120 0 = some 0 := by kernel_rfl
theorem tfield_120_1 : tfield Try.prog 120 1 = some 1 := by kernel_rfl
theorem tfield_120_2 : tfield Try.prog 120 2 = some 2 := by kernel_rfl
theorem tfield_125_0 : tfield Try.prog 125 0 = some 0 := by kernel_rfl
theorem tfield_134_0 : tfield Try.prog 134 0 = some 0 := by kernel_rfl
theorem tfield_134_1 : tfield Try.prog 134 1 = some 1 := by kernel_rfl
theorem tfield_136_0 : tfield Try.prog 136 0 = some 0 := by kernel_rfl
theorem tfield_136_1 : tfield Try.prog 136 1 = some 2 := by kernel_rfl
theorem tfield_140_0 : tfield Try.prog 140 0 = some 0 := by kernel_rfl
theorem tfield_140_1 : tfield Try.prog 140 1 = some 1 := by kernel_rfl
theorem tfield_144_0 : tfield Try.prog 144 0 = some 0 := by kernel_rfl
theorem tfield_144_1 : tfield Try.prog 144 1 = some 1 := by kernel_rfl
theorem tfield_146_0 : tfield Try.prog 146 0 = some 0 := by kernel_rfl
theorem tfield_146_1 : tfield Try.prog 146 1 = some 2 := by kernel_rfl
theorem tfield_149_0 : tfield Try.prog 149 0 = some 0 := by kernel_rfl
theorem tfield_149_1 : tfield Try.prog 149 1 = some 1 := by kernel_rfl
theorem tfield_153_0 : tfield Try.prog 153 0 = some 0 := by kernel_rfl
theorem tfield_153_1 : tfield Try.prog 153 1 = some 1 := by kernel_rfl
theorem tfield_153_2 : tfield Try.prog 153 2 = some 2 := by kernel_rfl
theorem tfield_163_0 : tfield Try.prog 163 0 = some 0 := by kernel_rfl
theorem tfield_163_1 : tfield Try.prog 163 1 = some 1 := by kernel_rfl
theorem tfield_165_0 : tfield Try.prog 165 0 = some 0 := by kernel_rfl
theorem tfield_165_1 : tfield Try.prog 165 1 = some 2 := by kernel_rfl
theorem tfield_168_0 : tfield Try.prog 168 0 = some 0 := by kernel_rfl
theorem tfield_168_1 : tfield Try.prog 168 1 = some 2 := by kernel_rfl
theorem tfieldV_140_0 : tfieldV Try.prog 140 0 = some (0, false, 1) := by kernel_rfl
theorem tfieldV_149_0 : tfieldV Try.prog 149 0 = some (0, false, 1) := by kernel_rfl
theorem tfieldV_168_0 : tfieldV Try.prog 168 0 = some (0, true, 2) := by kernel_rfl
theorem tconc_138 : Try.prog.concrete 138 = true := by kernel_rfl
theorem tconc_140 : Try.prog.concrete 140 = true := by kernel_rfl
theorem tconc_147 : Try.prog.concrete 147 = true := by kernel_rfl
theorem tconc_149 : Try.prog.concrete 149 = true := by kernel_rfl
theorem tconc_166 : Try.prog.concrete 166 = true := by kernel_rfl
theorem tconc_168 : Try.prog.concrete 168 = true := by kernel_rfl
end Go.Proofs.Ytjnkfgigpapeaaa
