import Derived.Test.YtkcmgcoppecfpaaProg
import Derived.Test.YtkcmgcoppecfpaaMgPortPlays4
import Derived.Shelf.SlIterI.Nil
import Derived.Shelf.SlIter.Nil
import Derived.Shelf.SortM.Plain
import Derived.Shelf.SortM.SortNone
import Derived.Ground.GgzProg
import Derived.Ground.SlgmProg
import Derived.Shelf.SlGeneric
import Derived.Test.YtkcmgcoppecfpaaMgPortPlays5
set_option linter.unusedVariables false
set_option linter.unusedSimpArgs false
set_option linter.unnecessarySimpa false
set_option maxHeartbeats 0
set_option maxRecDepth 100000
/- Closed facts on the program's types (printed by wip/tools/tab.py). -/
namespace Go.Proofs.Ytkcmgcoppecfpaa
open Go
theorem tlay_2 : tlay Try.prog 2 = some (false, 1) := by kernel_rfl
theorem tlay_3 : tlay Try.prog 3 = some (false, 1) := by kernel_rfl
theorem tlay_4 : tlay Try.prog 4 = some (false, 1) := by kernel_rfl
theorem tlay_5 : tlay Try.prog 5 = some (false, 1) := by kernel_rfl
theorem tlay_9 : tlay Try.prog 9 = some (false, 1) := by kernel_rfl
theorem tlay_24 : tlay Try.prog 24 = some (false, 1) := by kernel_rfl
theorem tlay_27 : tlay Try.prog 27 = some (false, 1) := by kernel_rfl
theorem tlay_28 : tlay Try.prog 28 = some (false, 1) := by kernel_rfl
theorem tlay_32 : tlay Try.prog 32 = some (true, 4) := by kernel_rfl
theorem tlay_41 : tlay Try.prog 41 = some (true, 2) := by kernel_rfl
theorem tlay_49 : tlay Try.prog 49 = some (true, 2) := by kernel_rfl
theorem tlay_54 : tlay Try.prog 54 = some (false, 1) := by kernel_rfl
theorem tlay_56 : tlay Try.prog 56 = some (false, 1) := by kernel_rfl
theorem tlay_60 : tlay Try.prog 60 = some (false, 1) := by kernel_rfl
theorem tlay_62 : tlay Try.prog 62 = some (true, 2) := by kernel_rfl
theorem tlay_66 : tlay Try.prog 66 = some (false, 1) := by kernel_rfl
theorem tlay_69 : tlay Try.prog 69 = some (false, 1) := by kernel_rfl
theorem tlay_72 : tlay Try.prog 72 = some (true, 3) := by kernel_rfl
theorem tlay_75 : tlay Try.prog 75 = some (false, 1) := by kernel_rfl
theorem tlay_79 : tlay Try.prog 79 = some (true, 5) := by kernel_rfl
theorem tlay_83 : tlay Try.prog 83 = some (true, 3) := by kernel_rfl
theorem tlay_94 : tlay Try.prog 94 = some (false, 1) := by kernel_rfl
theorem tlay_98 : tlay Try.prog 98 = some (true, 9) := by kernel_rfl
theorem tlay_106 : tlay Try.prog 106 = some (false, 1) := by kernel_rfl
theorem tlay_108 : tlay Try.prog 108 = some (false, 1) := by kernel_rfl
theorem tlay_117 : tlay Try.prog 117 = some (false, 1) := by kernel_rfl
theorem tlay_123 : tlay Try.prog 123 = some (false, 1) := by kernel_rfl
theorem tlay_127 : tlay Try.prog 127 = some (false, 1) := by kernel_rfl
theorem tlay_143 : tlay Try.prog 143 = some (false, 1) := by kernel_rfl
theorem tlay_145 : tlay Try.prog 145 = some (false, 1) := by kernel_rfl
theorem tlay_146 : tlay Try.prog 146 = some (false, 1) := by kernel_rfl
theorem tlay_150 : tlay Try.prog 150 = some (true, 2) := by kernel_rfl
theorem tlay_160 : tlay Try.prog 160 = some (false, 1) := by kernel_rfl
theorem tlay_177 : tlay Try.prog 177 = some (false, 1) := by kernel_rfl
theorem tlay_179 : tlay Try.prog 179 = some (false, 1) := by kernel_rfl
theorem tlay_180 : tlay Try.prog 180 = some (false, 1) := by kernel_rfl
theorem tlay_193 : tlay Try.prog 193 = some (false, 1) := by kernel_rfl
theorem tlay_197 : tlay Try.prog 197 = some (true, 6) := by kernel_rfl
theorem tlay_205 : tlay Try.prog 205 = some (false, 1) := by kernel_rfl
theorem tlay_212 : tlay Try.prog 212 = some (false, 1) := by kernel_rfl
theorem tlay_214 : tlay Try.prog 214 = some (true, 6) := by kernel_rfl
theorem tlay_234 : tlay Try.prog 234 = some (true, 0) := by kernel_rfl
theorem tlay_257 : tlay Try.prog 257 = some (false, 1) := by kernel_rfl
theorem tlay_264 : tlay Try.prog 264 = some (false, 1) := by kernel_rfl
theorem tslice_22 : tslice Try.prog 22 = some (32, 4) := by kernel_rfl
theorem tslice_27 : tslice Try.prog 27 = some (62, 2) := by kernel_rfl
theorem tslice_28 : tslice Try.prog 28 = some (49, 2) := by kernel_rfl
theorem tslice_54 : tslice Try.prog 54 = some (41, 2) := by kernel_rfl
theorem tslice_56 : tslice Try.prog 56 = some (9, 1) := by kernel_rfl
theorem tslice_65 : tslice Try.prog 65 = some (5, 1) := by kernel_rfl
theorem tslice_69 : tslice Try.prog 69 = some (72, 3) := by kernel_rfl
theorem tslice_75 : tslice Try.prog 75 = some (3, 1) := by kernel_rfl
theorem tslice_92 : tslice Try.prog 92 = some (98, 9) := by kernel_rfl
theorem tslice_94 : tslice Try.prog 94 = some (79, 5) := by kernel_rfl
theorem tslice_121 : tslice Try.prog 121 = some (123, 1) := by kernel_rfl
theorem tslice_122 : tslice Try.prog 122 = some (2, 1) := by kernel_rfl
theorem tslice_205 : tslice Try.prog 205 = some (214, 6) := by kernel_rfl
theorem tplaces_30 : tplaces Try.prog 30 = some [(0, 1), (1, 1), (2, 1)] := by kernel_rfl
theorem tplaces_41 : tplaces Try.prog 41 = some [(0, 1), (1, 1)] := by kernel_rfl
theorem tplaces_49 : tplaces Try.prog 49 = some [(0, 1), (1, 1)] := by kernel_rfl
theorem tplaces_62 : tplaces Try.prog 62 = some [(0, 1), (1, 1)] := by kernel_rfl
theorem tplaces_72 : tplaces Try.prog 72 = some [(0, 1), (1, 1), (2, 1)] := by kernel_rfl
theorem tplaces_79 : tplaces Try.prog 79 = some [(0, 1), (1, 1), (2, 1), (3, 1), (4, 1)] := by kernel_rfl
theorem tplaces_96 : tplaces Try.prog 96 = some [(0, 1), (1, 1)] := by kernel_rfl
theorem tplaces_131 : tplaces Try.prog 131 = some [(0, 1), (1, 1), (2, 1)] := by kernel_rfl
theorem tplaces_135 : tplaces Try.prog 135 = some [(0, 1)] := by kernel_rfl
theorem tplaces_148 : tplaces Try.prog 148 = some [(0, 1), (1, 1)] := by kernel_rfl
theorem tplaces_150 : tplaces Try.prog 150 = some [(0, 1), (1, 1)] := by kernel_rfl
theorem tplaces_175 : tplaces Try.prog 175 = some [(0, 1), (1, 1), (2, 1), (3, 1), (4, 1), (5, 1)] := by kernel_rfl
theorem tplaces_182 : tplaces Try.prog 182 = some [(0, 1), (1, 1), (2, 1)] := by kernel_rfl
theorem tplaces_195 : tplaces Try.prog 195 = some [(0, 1), (1, 1), (2, 1)] := by kernel_rfl
theorem tplaces_197 : tplaces Try.prog 197 = some [(0, 1), (1, 1), (2, 1), (3, 1), (4, 1), (5, 1)] := by kernel_rfl
theorem tplaces_199 : tplaces Try.prog 199 = some [(0, 6), (6, 1), (7, 1)] := by kernel_rfl
theorem tplaces_207 : tplaces Try.prog 207 = some [(0, 1), (1, 1)] := by kernel_rfl
theorem tplaces_209 : tplaces Try.prog 209 = some [(0, 2), (2, 1)] := by kernel_rfl
theorem tplaces_214 : tplaces Try.prog 214 = some [(0, 5), (5, 1)] := by kernel_rfl
theorem tplaces_226 : tplaces Try.prog 226 = some [(0, 1), (1, 1), (2, 1)] := by kernel_rfl
theorem tplaces_234 : tplaces Try.prog 234 = some [] := by kernel_rfl
theorem tzero_2 : tzero Try.prog 2 = some [.int .i64 0] := by kernel_rfl
theorem tzero_3 : tzero Try.prog 3 = some [.int .i64 0] := by kernel_rfl
theorem tzero_4 : tzero Try.prog 4 = some [.bool false] := by kernel_rfl
theorem tzero_5 : tzero Try.prog 5 = some [.int .u8 0] := by kernel_rfl
theorem tzero_9 : tzero Try.prog 9 = some [.str ⟨#[]⟩] := by kernel_rfl
theorem tzero_30 : tzero Try.prog 30 = some [.raw (.slice none 0 0), .int .i64 0, .raw (.slice none 0 0)] := by kernel_rfl
theorem tzero_32 : tzero Try.prog 32 = some [.int .i64 0, .int .i64 0, .str ⟨#[]⟩, .str ⟨#[]⟩] := by kernel_rfl
theorem tzero_41 : tzero Try.prog 41 = some [.int .i64 0, .str ⟨#[]⟩] := by kernel_rfl
theorem tzero_49 : tzero Try.prog 49 = some [.int .i64 0, .str ⟨#[]⟩] := by kernel_rfl
theorem tzero_56 : tzero Try.prog 56 = some [.raw (.slice none 0 0)] := by kernel_rfl
theorem tzero_62 : tzero Try.prog 62 = some [.str ⟨#[]⟩, .raw (.slice none 0 0)] := by kernel_rfl
theorem tzero_69 : tzero Try.prog 69 = some [.raw (.slice none 0 0)] := by kernel_rfl
theorem tzero_72 : tzero Try.prog 72 = some [.str ⟨#[]⟩, .str ⟨#[]⟩, .int .i64 0] := by kernel_rfl
theorem tzero_76 : tzero Try.prog 76 = some [.raw (.slice none 0 0), .raw (.slice none 0 0), .raw (.slice none 0 0), .raw (.slice none 0 0), .raw (.slice none 0 0), .raw (.slice none 0 0), .raw (.slice none 0 0)] := by kernel_rfl
theorem tzero_79 : tzero Try.prog 79 = some [.int .i64 0, .int .i64 0, .int .i64 0, .str ⟨#[]⟩, .str ⟨#[]⟩] := by kernel_rfl
theorem tzero_83 : tzero Try.prog 83 = some [.str ⟨#[]⟩, .str ⟨#[]⟩, .str ⟨#[]⟩] := by kernel_rfl
theorem tzero_85 : tzero Try.prog 85 = some [.bool false, .bool false, .bool false, .bool false, .bool false, .bool false, .bool false, .bool false, .bool false, .bool false, .bool false, .bool false] := by kernel_rfl
theorem tzero_86 : tzero Try.prog 86 = some [.int .i64 0, .int .i64 0, .int .i64 0] := by kernel_rfl
theorem tzero_94 : tzero Try.prog 94 = some [.raw (.slice none 0 0)] := by kernel_rfl
theorem tzero_96 : tzero Try.prog 96 = some [.raw (.slice none 0 0), .raw (.slice none 0 0)] := by kernel_rfl
theorem tzero_98 : tzero Try.prog 98 = some [.int .i64 0, .int .i64 0, .int .i64 0, .int .i64 0, .str ⟨#[]⟩, .str ⟨#[]⟩, .str ⟨#[]⟩, .str ⟨#[]⟩, .int .i64 0] := by kernel_rfl
theorem tzero_123 : tzero Try.prog 123 = some [.int .u16 0] := by kernel_rfl
theorem tzero_131 : tzero Try.prog 131 = some [.raw (.map none), .raw (.slice none 0 0), .int .i64 0] := by kernel_rfl
theorem tzero_135 : tzero Try.prog 135 = some [.raw (.slice none 0 0)] := by kernel_rfl
theorem tzero_148 : tzero Try.prog 148 = some [.raw (.pointer none), .raw (.map none)] := by kernel_rfl
theorem tzero_150 : tzero Try.prog 150 = some [.str ⟨#[]⟩, .str ⟨#[]⟩] := by kernel_rfl
theorem tzero_175 : tzero Try.prog 175 = some [.raw (.pointer none), .raw (.pointer none), .raw (.pointer none), .raw (.pointer none), .int .i64 0, .int .i64 0] := by kernel_rfl
theorem tzero_182 : tzero Try.prog 182 = some [.raw (.map none), .raw (.map none), .raw (.slice none 0 0)] := by kernel_rfl
theorem tzero_195 : tzero Try.prog 195 = some [.raw (.map none), .int .i64 0, .int .i64 0] := by kernel_rfl
theorem tzero_197 : tzero Try.prog 197 = some [.int .i64 0, .int .i64 0, .str ⟨#[]⟩, .bool false, .int .i64 0, .str ⟨#[]⟩] := by kernel_rfl
theorem tzero_199 : tzero Try.prog 199 = some [.int .i64 0, .int .i64 0, .str ⟨#[]⟩, .bool false, .int .i64 0, .str ⟨#[]⟩, .bool false, .bool false] := by kernel_rfl
theorem tzero_207 : tzero Try.prog 207 = some [.raw (.slice none 0 0), .raw (.nilFunc)] := by kernel_rfl
theorem tzero_209 : tzero Try.prog 209 = some [.raw (.slice none 0 0), .raw (.nilFunc), .int .i64 0] := by kernel_rfl
theorem tzero_214 : tzero Try.prog 214 = some [.int .i64 0, .int .i64 0, .int .i64 0, .str ⟨#[]⟩, .str ⟨#[]⟩, .int .i64 0] := by kernel_rfl
theorem tzero_226 : tzero Try.prog 226 = some [.raw (.map none), .raw (.map none), .raw (.map none)] := by kernel_rfl
theorem tzero_234 : tzero Try.prog 234 = some [] := by kernel_rfl
theorem tzero_264 : tzero Try.prog 264 = some [.int .u64 0] := by kernel_rfl
theorem tfield_30_0 : tfield Try.prog 30 0 = some 0 := by kernel_rfl
theorem tfield_30_1 : tfield Try.prog 30 1 = some 1 := by kernel_rfl
theorem tfield_30_2 : tfield Try.prog 30 2 = some 2 := by kernel_rfl
theorem tfield_32_0 : tfield Try.prog 32 0 = some 0 := by kernel_rfl
theorem tfield_32_1 : tfield Try.prog 32 1 = some 1 := by kernel_rfl
theorem tfield_32_2 : tfield Try.prog 32 2 = some 2 := by kernel_rfl
theorem tfield_32_3 : tfield Try.prog 32 3 = some 3 := by kernel_rfl
theorem tfield_62_0 : tfield Try.prog 62 0 = some 0 := by kernel_rfl
theorem tfield_62_1 : tfield Try.prog 62 1 = some 1 := by kernel_rfl
theorem tfield_72_0 : tfield Try.prog 72 0 = some 0 := by kernel_rfl
theorem tfield_72_1 : tfield Try.prog 72 1 = some 1 := by kernel_rfl
theorem tfield_72_2 : tfield Try.prog 72 2 = some 2 := by kernel_rfl
theorem tfield_79_0 : tfield Try.prog 79 0 = some 0 := by kernel_rfl
theorem tfield_79_1 : tfield Try.prog 79 1 = some 1 := by kernel_rfl
theorem tfield_79_3 : tfield Try.prog 79 3 = some 3 := by kernel_rfl
theorem tfield_79_4 : tfield Try.prog 79 4 = some 4 := by kernel_rfl
theorem tfield_96_0 : tfield Try.prog 96 0 = some 0 := by kernel_rfl
theorem tfield_96_1 : tfield Try.prog 96 1 = some 1 := by kernel_rfl
theorem tfield_98_0 : tfield Try.prog 98 0 = some 0 := by kernel_rfl
theorem tfield_98_1 : tfield Try.prog 98 1 = some 1 := by kernel_rfl
theorem tfield_98_2 : tfield Try.prog 98 2 = some 6 := by kernel_rfl
theorem tfield_98_3 : tfield Try.prog 98 3 = some 7 := by kernel_rfl
theorem tfield_98_4 : tfield Try.prog 98 4 = some 8 := by kernel_rfl
theorem tfield_129_0 : tfield Try.prog 129 0 = some 0 := by kernel_rfl
theorem tfield_131_0 : tfield Try.prog 131 0 = some 0 := by kernel_rfl
theorem tfield_131_1 : tfield Try.prog 131 1 = some 1 := by kernel_rfl
theorem tfield_131_2 : tfield Try.prog 131 2 = some 2 := by kernel_rfl
theorem tfield_135_0 : tfield Try.prog 135 0 = some 0 := by kernel_rfl
theorem tfield_148_0 : tfield Try.prog 148 0 = some 0 := by kernel_rfl
theorem tfield_148_1 : tfield Try.prog 148 1 = some 1 := by kernel_rfl
theorem tfield_150_0 : tfield Try.prog 150 0 = some 0 := by kernel_rfl
theorem tfield_150_1 : tfield Try.prog 150 1 = some 1 := by kernel_rfl
theorem tfield_175_0 : tfield Try.prog 175 0 = some 0 := by kernel_rfl
theorem tfield_175_1 : tfield Try.prog 175 1 = some 1 := by kernel_rfl
theorem tfield_175_4 : tfield Try.prog 175 4 = some 4 := by kernel_rfl
theorem tfield_175_5 : tfield Try.prog 175 5 = some 5 := by kernel_rfl
theorem tfield_182_0 : tfield Try.prog 182 0 = some 0 := by kernel_rfl
theorem tfield_182_1 : tfield Try.prog 182 1 = some 1 := by kernel_rfl
theorem tfield_182_2 : tfield Try.prog 182 2 = some 2 := by kernel_rfl
theorem tfield_195_0 : tfield Try.prog 195 0 = some 0 := by kernel_rfl
theorem tfield_195_1 : tfield Try.prog 195 1 = some 1 := by kernel_rfl
theorem tfield_195_2 : tfield Try.prog 195 2 = some 2 := by kernel_rfl
theorem tfield_197_0 : tfield Try.prog 197 0 = some 0 := by kernel_rfl
theorem tfield_197_1 : tfield Try.prog 197 1 = some 1 := by kernel_rfl
theorem tfield_197_2 : tfield Try.prog 197 2 = some 2 := by kernel_rfl
theorem tfield_197_3 : tfield Try.prog 197 3 = some 3 := by kernel_rfl
theorem tfield_197_4 : tfield Try.prog 197 4 = some 4 := by kernel_rfl
theorem tfield_197_5 : tfield Try.prog 197 5 = some 5 := by kernel_rfl
theorem tfield_199_0 : tfield Try.prog 199 0 = some 0 := by kernel_rfl
theorem tfield_199_1 : tfield Try.prog 199 1 = some 6 := by kernel_rfl
theorem tfield_199_2 : tfield Try.prog 199 2 = some 7 := by kernel_rfl
theorem tfield_207_0 : tfield Try.prog 207 0 = some 0 := by kernel_rfl
theorem tfield_207_1 : tfield Try.prog 207 1 = some 1 := by kernel_rfl
theorem tfield_209_0 : tfield Try.prog 209 0 = some 0 := by kernel_rfl
theorem tfield_209_1 : tfield Try.prog 209 1 = some 2 := by kernel_rfl
theorem tfield_214_0 : tfield Try.prog 214 0 = some 0 := by kernel_rfl
theorem tfield_214_1 : tfield Try.prog 214 1 = some 5 := by kernel_rfl
theorem tfieldV_214_0 : tfieldV Try.prog 214 0 = some (0, true, 5) := by kernel_rfl
theorem tconc_212 : Try.prog.concrete 212 = true := by kernel_rfl
theorem tconc_214 : Try.prog.concrete 214 = true := by kernel_rfl
end Go.Proofs.Ytkcmgcoppecfpaa

/- Layings of the kit's contracts for slices.Sorted and maps.Keys at this program, in plain words. -/
namespace Go.Proofs.Ytkcmgcoppecfpaa
open Go.Shelf
def sortedS_ren : Go.Shelf.Ren := ⟨fun | 6 => 111 | 8 => 136 | 9 => 137 | 11 => 164 | 13 => 120 | 12 => 165 | 23 => 150 | 24 => 151 | 14 => 177 | 15 => 178 | 16 => 179 | 17 => 180 | 18 => 181 | 19 => 182 | 20 => 183 | 21 => 184 | 22 => 185 | 25 => 197 | 26 => 167 | 27 => 168 | 28 => 198 | 29 => 199 | 30 => 122 | 31 => 204 | n => n, fun | 26 => 9 | 28 => 58 | 24 => 56 | 0 => 0 | 3 => 3 | 37 => 221 | 48 => 253 | 50 => 255 | 4 => 4 | 40 => 247 | 39 => 246 | 45 => 136 | 5 => 5 | 9 => 9 | 51 => 264 | 55 => 268 | 57 => 281 | 58 => 38 | 33 => 60 | n => n, fun | n => n⟩
theorem sortedS : Go.Proofs.SlLaysZ.n6 Try.prog sortedS_ren := {
  mixed := by kernel_rfl
  f6 := ⟨Try.f111.name, by decide, Try.func111.trans (congrArg some (by kernel_rfl))⟩
  f8 := ⟨Try.f136.name, by decide, Try.func136.trans (congrArg some (by kernel_rfl))⟩
  f11 := ⟨Try.f164.name, by decide, Try.func164.trans (congrArg some (by kernel_rfl))⟩
  t0 := Try.underlying0
  a0 := Try.isAgg0
  z0 := Try.sizeOf0
  v0 := Try.zeroValue0
  t24 := Try.underlying56
  a24 := Try.isAgg56
  z24 := Try.sizeOf56
  v24 := Try.zeroValue56
  t26 := Try.underlying9
  a26 := Try.isAgg9
  z26 := Try.sizeOf9
  v26 := Try.zeroValue9
  t28 := Try.underlying58
  a28 := Try.isAgg58
  z28 := Try.sizeOf58
  v28 := Try.zeroValue58
  i26 := by kernel_rfl }
def sortS_lay_ren : Go.Shelf.Ren := ⟨fun | 6 => 137 | 8 => 120 | 9 => 165 | 19 => 150 | 20 => 151 | 21 => 177 | 22 => 178 | 23 => 179 | 24 => 180 | 25 => 181 | 26 => 182 | 27 => 183 | 28 => 184 | 29 => 185 | 36 => 197 | 31 => 167 | 32 => 168 | 37 => 198 | 38 => 199 | 39 => 122 | 41 => 204 | n => n, fun | 27 => 56 | 29 => 9 | 3 => 3 | 32 => 221 | 26 => 56 | 0 => 0 | 44 => 253 | 46 => 255 | 4 => 4 | 36 => 247 | 35 => 246 | 41 => 136 | 5 => 5 | 9 => 9 | 53 => 264 | 57 => 268 | 63 => 281 | 64 => 38 | n => n, fun | n => n⟩
theorem sortS_lay : Go.Proofs.SlLaysM.n6 Try.prog sortS_lay_ren := {
  mixed := by kernel_rfl
  f6 := ⟨Try.f137.name, by decide, Try.func137.trans (congrArg some (by kernel_rfl))⟩
  f8 := Try.func120.trans (congrArg some (by kernel_rfl))
  f9 := ⟨Try.f165.name, by decide, Try.func165.trans (congrArg some (by kernel_rfl))⟩
  f19 := Try.func150.trans (congrArg some (by kernel_rfl))
  f20 := Try.func151.trans (congrArg some (by kernel_rfl))
  f21 := ⟨Try.f177.name, by decide, Try.func177.trans (congrArg some (by kernel_rfl))⟩
  f22 := ⟨Try.f178.name, by decide, Try.func178.trans (congrArg some (by kernel_rfl))⟩
  f23 := ⟨Try.f179.name, by decide, Try.func179.trans (congrArg some (by kernel_rfl))⟩
  f24 := ⟨Try.f180.name, by decide, Try.func180.trans (congrArg some (by kernel_rfl))⟩
  f25 := ⟨Try.f181.name, by decide, Try.func181.trans (congrArg some (by kernel_rfl))⟩
  f26 := ⟨Try.f182.name, by decide, Try.func182.trans (congrArg some (by kernel_rfl))⟩
  f27 := ⟨Try.f183.name, by decide, Try.func183.trans (congrArg some (by kernel_rfl))⟩
  f28 := ⟨Try.f184.name, by decide, Try.func184.trans (congrArg some (by kernel_rfl))⟩
  f29 := ⟨Try.f185.name, by decide, Try.func185.trans (congrArg some (by kernel_rfl))⟩
  f31 := Try.func167.trans (congrArg some (by kernel_rfl))
  f32 := Try.func168.trans (congrArg some (by kernel_rfl))
  f36 := ⟨Try.f197.name, by decide, Try.func197.trans (congrArg some (by kernel_rfl))⟩
  f37 := ⟨Try.f198.name, by decide, Try.func198.trans (congrArg some (by kernel_rfl))⟩
  f38 := ⟨Try.f199.name, by decide, Try.func199.trans (congrArg some (by kernel_rfl))⟩
  f39 := ⟨Try.f122.name, by decide, Try.func122.trans (congrArg some (by kernel_rfl))⟩
  f41 := ⟨Try.f204.name, by decide, Try.func204.trans (congrArg some (by kernel_rfl))⟩
  t0 := Try.underlying0
  a0 := Try.isAgg0
  z0 := Try.sizeOf0
  v0 := Try.zeroValue0
  t3 := Try.underlying3
  a3 := Try.isAgg3
  z3 := Try.sizeOf3
  v3 := Try.zeroValue3
  t4 := Try.underlying4
  a4 := Try.isAgg4
  z4 := Try.sizeOf4
  v4 := Try.zeroValue4
  t5 := Try.underlying5
  a5 := Try.isAgg5
  z5 := Try.sizeOf5
  v5 := Try.zeroValue5
  t9 := Try.underlying9
  a9 := Try.isAgg9
  z9 := Try.sizeOf9
  v9 := Try.zeroValue9
  t26 := Try.underlying56
  a26 := Try.isAgg56
  z26 := Try.sizeOf56
  v26 := Try.zeroValue56
  t27 := Try.underlying56
  a27 := Try.isAgg56
  z27 := Try.sizeOf56
  v27 := Try.zeroValue56
  t29 := Try.underlying9
  a29 := Try.isAgg9
  z29 := Try.sizeOf9
  v29 := Try.zeroValue9
  t32 := Try.underlying221
  a32 := Try.isAgg221
  z32 := Try.sizeOf221
  v32 := Try.zeroValue221
  t35 := Try.underlying246
  a35 := Try.isAgg246
  z35 := Try.sizeOf246
  v35 := Try.zeroValue246
  t36 := Try.underlying247
  a36 := Try.isAgg247
  z36 := Try.sizeOf247
  v36 := Try.zeroValue247
  t41 := Try.underlying136
  a41 := Try.isAgg136
  z41 := Try.sizeOf136
  v41 := Try.zeroValue136
  t44 := Try.underlying253
  a44 := Try.isAgg253
  z44 := Try.sizeOf253
  v44 := Try.zeroValue253
  t46 := Try.underlying255
  a46 := Try.isAgg255
  z46 := Try.sizeOf255
  v46 := Try.zeroValue255
  t53 := Try.underlying264
  a53 := Try.isAgg264
  z53 := Try.sizeOf264
  v53 := Try.zeroValue264
  t57 := Try.underlying268
  a57 := Try.isAgg268
  z57 := Try.sizeOf268
  v57 := Try.zeroValue268
  t63 := Try.underlying281
  a63 := Try.isAgg281
  z63 := Try.sizeOf281
  v63 := Try.zeroValue281
  t64 := Try.underlying38
  a64 := Try.isAgg38
  z64 := Try.sizeOf38
  v64 := Try.zeroValue38 }
end Go.Proofs.Ytkcmgcoppecfpaa

/- Layings of the kit's contracts for slices.Sorted and maps.Keys at this program, in plain words. -/
namespace Go.Proofs.Ytkcmgcoppecfpaa
open Go.Shelf
def sortedI_ren : Go.Shelf.Ren := ⟨fun | 6 => 129 | 8 => 160 | 9 => 161 | 11 => 174 | 13 => 120 | 12 => 175 | 23 => 150 | 24 => 151 | 14 => 188 | 15 => 189 | 16 => 190 | 17 => 191 | 18 => 192 | 19 => 193 | 20 => 194 | 21 => 195 | 22 => 196 | 25 => 200 | 26 => 167 | 27 => 168 | 28 => 201 | 29 => 202 | 30 => 203 | 31 => 205 | n => n, fun | 26 => 3 | 28 => 188 | 24 => 75 | 0 => 0 | 3 => 3 | 37 => 221 | 48 => 253 | 50 => 255 | 4 => 4 | 40 => 247 | 39 => 246 | 45 => 136 | 5 => 5 | 9 => 9 | 51 => 264 | 55 => 268 | 57 => 281 | 58 => 38 | 33 => 235 | n => n, fun | n => n⟩
theorem sortedI : Go.Proofs.SlLaysZI.n6 Try.prog sortedI_ren := {
  mixed := by kernel_rfl
  f6 := ⟨Try.f129.name, by decide, Try.func129.trans (congrArg some (by kernel_rfl))⟩
  f8 := ⟨Try.f160.name, by decide, Try.func160.trans (congrArg some (by kernel_rfl))⟩
  f11 := ⟨Try.f174.name, by decide, Try.func174.trans (congrArg some (by kernel_rfl))⟩
  t0 := Try.underlying0
  a0 := Try.isAgg0
  z0 := Try.sizeOf0
  v0 := Try.zeroValue0
  t24 := Try.underlying75
  a24 := Try.isAgg75
  z24 := Try.sizeOf75
  v24 := Try.zeroValue75
  t26 := Try.underlying3
  a26 := Try.isAgg3
  z26 := Try.sizeOf3
  v26 := Try.zeroValue3
  t28 := Try.underlying188
  a28 := Try.isAgg188
  z28 := Try.sizeOf188
  v28 := Try.zeroValue188
  i26 := by kernel_rfl }
def sortI_lay_ren : Go.Shelf.Ren := ⟨fun | 5 => 161 | 8 => 120 | 7 => 175 | 19 => 150 | 20 => 151 | 10 => 188 | 11 => 189 | 12 => 190 | 13 => 191 | 14 => 192 | 15 => 193 | 16 => 194 | 17 => 195 | 18 => 196 | 30 => 200 | 31 => 167 | 32 => 168 | 33 => 201 | 34 => 202 | 35 => 203 | 40 => 205 | n => n, fun | 23 => 75 | 25 => 3 | 3 => 3 | 32 => 221 | 22 => 75 | 0 => 0 | 44 => 253 | 46 => 255 | 4 => 4 | 36 => 247 | 35 => 246 | 41 => 136 | 5 => 5 | 9 => 9 | 53 => 264 | 57 => 268 | 63 => 281 | 64 => 38 | n => n, fun | n => n⟩
theorem sortI_lay : Go.Proofs.SlLaysM.n5 Try.prog sortI_lay_ren := {
  mixed := by kernel_rfl
  f5 := ⟨Try.f161.name, by decide, Try.func161.trans (congrArg some (by kernel_rfl))⟩
  f7 := ⟨Try.f175.name, by decide, Try.func175.trans (congrArg some (by kernel_rfl))⟩
  f8 := Try.func120.trans (congrArg some (by kernel_rfl))
  f10 := ⟨Try.f188.name, by decide, Try.func188.trans (congrArg some (by kernel_rfl))⟩
  f11 := ⟨Try.f189.name, by decide, Try.func189.trans (congrArg some (by kernel_rfl))⟩
  f12 := ⟨Try.f190.name, by decide, Try.func190.trans (congrArg some (by kernel_rfl))⟩
  f13 := ⟨Try.f191.name, by decide, Try.func191.trans (congrArg some (by kernel_rfl))⟩
  f14 := ⟨Try.f192.name, by decide, Try.func192.trans (congrArg some (by kernel_rfl))⟩
  f15 := ⟨Try.f193.name, by decide, Try.func193.trans (congrArg some (by kernel_rfl))⟩
  f16 := ⟨Try.f194.name, by decide, Try.func194.trans (congrArg some (by kernel_rfl))⟩
  f17 := ⟨Try.f195.name, by decide, Try.func195.trans (congrArg some (by kernel_rfl))⟩
  f18 := ⟨Try.f196.name, by decide, Try.func196.trans (congrArg some (by kernel_rfl))⟩
  f19 := Try.func150.trans (congrArg some (by kernel_rfl))
  f20 := Try.func151.trans (congrArg some (by kernel_rfl))
  f30 := ⟨Try.f200.name, by decide, Try.func200.trans (congrArg some (by kernel_rfl))⟩
  f31 := Try.func167.trans (congrArg some (by kernel_rfl))
  f32 := Try.func168.trans (congrArg some (by kernel_rfl))
  f33 := ⟨Try.f201.name, by decide, Try.func201.trans (congrArg some (by kernel_rfl))⟩
  f34 := ⟨Try.f202.name, by decide, Try.func202.trans (congrArg some (by kernel_rfl))⟩
  f35 := ⟨Try.f203.name, by decide, Try.func203.trans (congrArg some (by kernel_rfl))⟩
  f40 := ⟨Try.f205.name, by decide, Try.func205.trans (congrArg some (by kernel_rfl))⟩
  t0 := Try.underlying0
  a0 := Try.isAgg0
  z0 := Try.sizeOf0
  v0 := Try.zeroValue0
  t3 := Try.underlying3
  a3 := Try.isAgg3
  z3 := Try.sizeOf3
  v3 := Try.zeroValue3
  t4 := Try.underlying4
  a4 := Try.isAgg4
  z4 := Try.sizeOf4
  v4 := Try.zeroValue4
  t5 := Try.underlying5
  a5 := Try.isAgg5
  z5 := Try.sizeOf5
  v5 := Try.zeroValue5
  t9 := Try.underlying9
  a9 := Try.isAgg9
  z9 := Try.sizeOf9
  v9 := Try.zeroValue9
  t22 := Try.underlying75
  a22 := Try.isAgg75
  z22 := Try.sizeOf75
  v22 := Try.zeroValue75
  t23 := Try.underlying75
  a23 := Try.isAgg75
  z23 := Try.sizeOf75
  v23 := Try.zeroValue75
  t25 := Try.underlying3
  a25 := Try.isAgg3
  z25 := Try.sizeOf3
  v25 := Try.zeroValue3
  t32 := Try.underlying221
  a32 := Try.isAgg221
  z32 := Try.sizeOf221
  v32 := Try.zeroValue221
  t35 := Try.underlying246
  a35 := Try.isAgg246
  z35 := Try.sizeOf246
  v35 := Try.zeroValue246
  t36 := Try.underlying247
  a36 := Try.isAgg247
  z36 := Try.sizeOf247
  v36 := Try.zeroValue247
  t41 := Try.underlying136
  a41 := Try.isAgg136
  z41 := Try.sizeOf136
  v41 := Try.zeroValue136
  t44 := Try.underlying253
  a44 := Try.isAgg253
  z44 := Try.sizeOf253
  v44 := Try.zeroValue253
  t46 := Try.underlying255
  a46 := Try.isAgg255
  z46 := Try.sizeOf255
  v46 := Try.zeroValue255
  t53 := Try.underlying264
  a53 := Try.isAgg264
  z53 := Try.sizeOf264
  v53 := Try.zeroValue264
  t57 := Try.underlying268
  a57 := Try.isAgg268
  z57 := Try.sizeOf268
  v57 := Try.zeroValue268
  t63 := Try.underlying281
  a63 := Try.isAgg281
  z63 := Try.sizeOf281
  v63 := Try.zeroValue281
  t64 := Try.underlying38
  a64 := Try.isAgg38
  z64 := Try.sizeOf38
  v64 := Try.zeroValue38 }
end Go.Proofs.Ytkcmgcoppecfpaa

/- slices.Sorted(maps.Keys(m)) at whole numbers: the keys, rising. -/
namespace Go.Proofs.Ytkcmgcoppecfpaa
open Go Go.RowKit Go.Maps Go.Sort Go.Shelf

def encI1 (x : Int) : List SV := [.int .i64 x]
def keyInt : Key → Int
  | .i _ n => n
  | .s _ => 0
def sortI {β : Type} (es : List (Key × β)) : List Int := (es.map fun e => keyInt e.1).mergeSort leI
def wfI {β : Type} (es : List (Key × β)) : Prop := keysOk es ∧ es.length ≤ 1000000000 ∧ ∀ e ∈ es, (Lit.int .i64 (keyInt e.1)).wf = true
def srtIC (fI T : Nat) : Ctr := fun args hs N => match args with
  | [.func (.func f) [] [.ptr lb b 0]] => f = fI ∧ match nth hs lb with
    | some ⟨.blk b', .cells [.map lm rm] _⟩ => match nth hs lm with
      | some ⟨.blk rm', .mapL (β := β) kd enc es⟩ => (b' = b ∧ rm' = rm ∧ kd = some .i64 ∧ wfI es) ∧ ∀ ao cap, N (snoc hs ⟨.sl ao cap, .vecL T 1 encI1 (sortI es) 0⟩) (.vec (lenN hs) ao (sortI es).length cap)
      | _ => False
    | _ => False
  | _ => False

theorem H.below {W w w' : World} {L : List Ch} (h : H W w L) (hb : Below w.heap.size w w') : H W w' L :=
  ⟨h.st.trans ⟨hb.os, hb.tape, hb.output, hb.size⟩, h.nd, fun b o hm => by
    have := h.get b o hm
    rw [hb.block b (Array.getElem?_eq_some_iff.1 this).1]; exact this, h.fresh, fun b hlt => by rw [hb.block b (Nat.lt_of_lt_of_le hlt h.st.size)]; exact h.old b hlt⟩
theorem H.grow {W w w' : World} {L : List Ch} {g : Nat} {o : Obj} (h : H W w L) (hb : Below w.heap.size w w') (hg : w.heap.size ≤ g) (ho : w'.heap[g]? = some o) : H W w' ([(g, o)] :: L) := by
  have h1 := h.below hb
  refine ⟨h1.st, ?_, fun b q hm => ?_, fun b q hm => ?_, h1.old⟩
  · simp only [List.flatten_cons, List.singleton_append, List.map_cons, List.nodup_cons]
    refine ⟨fun hm => ?_, h.nd⟩
    obtain ⟨⟨b, q⟩, hm, he⟩ := List.mem_map.1 hm
    have he : b = g := he
    have := (Array.getElem?_eq_some_iff.1 (h.get b q hm)).1
    omega
  · simp only [List.flatten_cons, List.singleton_append, List.mem_cons, Prod.mk.injEq] at hm
    rcases hm with ⟨rfl, rfl⟩ | hm
    · exact ho
    · exact h1.get b q hm
  · simp only [List.flatten_cons, List.singleton_append, List.mem_cons, Prod.mk.injEq] at hm
    rcases hm with ⟨rfl, rfl⟩ | hm
    · exact Nat.le_trans h.st.size hg
    · exact h1.fresh b q hm

theorem owns_of {w : World} {rm : Nat} {ents : List MapEntry} {clock k : Nat} {β : Type} {enc : β → SV} {es : List (Key × β)} (hk : Try.prog.underlying k = some (.int .i64)) (hh : w.heap[rm]? = some (.map ents.toArray clock)) (hst : Stamped ents clock) (he : ents.map (fun e => (e.key, e.val)) = es.map fun e => (den e.1.sv, den (enc e.2)))
    (hks : ∀ e ∈ es, keyKind e.1 = some .i64) (hw : wfI es) : ∃ D0 : DataW Unit, w.ownsMap Try.prog k (fun _ => some (.lit (.bool true), [])) rm es.length D0 ∧ (intKeys D0).Perm (es.map fun e => keyInt e.1) ∧ Maps.size D0 = es.length := by
  have hlen : ents.length = es.length := by simpa using congrArg List.length he
  have hkey : ∀ e ∈ es, den e.1.sv = .int .i64 (keyInt e.1) := fun e hm => by
    have := hks e hm
    cases hq : e.1 with
    | i kk n => rw [hq] at this; cases this; rfl
    | s _ => rw [hq] at this; cases this
  have hmem : ∀ x ∈ ents, ∃ e ∈ es, x.key = .int .i64 (keyInt e.1) := fun x hx => by
    have : (x.key, x.val) ∈ es.map fun e => (den e.1.sv, den (enc e.2)) := by rw [← he]; exact List.mem_map.2 ⟨x, hx, rfl⟩
    obtain ⟨e, h1, h2⟩ := List.mem_map.1 this
    simp only [Prod.mk.injEq] at h2
    exact ⟨e, h1, by rw [← h2.1, hkey e h1]⟩
  have hrg : ∀ x ∈ ents, ∃ n, x.key = .int .i64 n ∧ WideElems.rd Try.prog k (fun _ => some ((.lit (.bool true) : DataW Unit), [])) x = some (.int .i64 n, .lit (.bool true)) := fun x hx => by
    obtain ⟨e, h1, h2⟩ := hmem x hx
    exact ⟨_, h2, by simp [WideElems.rd, h2, keyOf_int_mk hk (hw.2.2 e h1)]⟩
  have hkeys : ents.map (fun x => x.key) = es.map fun e => (Value.int .i64 (keyInt e.1)) := by
    have h1 := congrArg (List.map Prod.fst) he
    simp only [List.map_map, Function.comp_def] at h1
    rw [h1]
    exact List.map_congr_left fun e hm => hkey e hm
  refine ⟨_, ⟨ents.toArray, clock, hh, ⟨?_, ?_, ?_⟩, by simp [hlen], rfl⟩, ?_, ?_⟩
  · have := hw.2.1; simp [hlen, maxLen]; omega
  · refine (MapKept.stamped_iff _ _).2 ⟨by simpa using hst.2, by simpa using hst.1, ?_⟩
    have h1 : (ents.map (fun x => x.key)).Pairwise (· ≠ ·) := by
      rw [hkeys, List.pairwise_map]
      refine hw.1.imp_of_mem fun {a b} ha hb hab e => ?_
      injection e with _ e
      have h2 := hks a ha
      have h3 := hks b hb
      cases a with | mk ka va => cases b with | mk kb vb =>
      cases ka <;> cases kb <;> simp_all [keyKind, keyEq, keyInt]
    simpa [List.pairwise_map] using h1
  · intro x hx
    obtain ⟨n, _, h2⟩ := hrg x (by simpa using hx)
    exact ⟨_, h2⟩
  · show (((ents.toArray.toList.map (WideElems.rg Try.prog k _)).foldr DataW.insert []).map fun p => Go.intOf p.1).Perm _
    refine ((Go.WideShapes.sorted_perm _).map _).trans ?_
    simp only [List.map_map]
    have : ents.map ((fun p : Lit × DataW Unit => Go.intOf p.1) ∘ WideElems.rg Try.prog k (fun _ => some (.lit (.bool true), []))) = es.map fun e => keyInt e.1 := by
      have h1 : ents.map ((fun p : Lit × DataW Unit => Go.intOf p.1) ∘ WideElems.rg Try.prog k (fun _ => some (.lit (.bool true), []))) = (ents.map (fun x => x.key)).map fun v => match v with | .int _ n => n | _ => 0 := by
        rw [List.map_map]
        refine List.map_congr_left fun x hx => ?_
        obtain ⟨n, h2, h3⟩ := hrg x hx
        simp [WideElems.rg, h3, h2, Go.intOf]
      rw [h1, hkeys, List.map_map]
      rfl
    rw [this]
  · show ((ents.toArray.toList.map (WideElems.rg Try.prog k _)).foldr DataW.insert []).length = _
    rw [(Go.WideShapes.sorted_perm _).length_eq]; simp [hlen]

theorem sortsI (m : Nat) : AnyZI.SortsIn Try.prog sortedI_ren Fence.wide m :=
  ⟨fun blk off cap ss W hH hblk hsz => callsIn_wide.2 (AnyM.slices_Sort_int sortI_lay blk off cap ss W hH hblk hsz), fun p cap W => callsIn_wide.2 (AnyM.slices_Sort_int_none sortI_lay p cap W)⟩

theorem flat_one : ∀ l : List Int, flatV encI1 l = l.map encZ
  | [] => rfl
  | x :: l => by
    have := flat_one l
    unfold flatV at this ⊢
    simp only [List.flatMap_cons, List.map_cons, this]
    rfl
theorem srtI_ok {fI T : Nat} (hT : T = 3) (hg : ∃ fn, Try.prog.funcs[fI]? = some fn ∧ (fn.name == "runtime.NumGoroutine") = false ∧ ∃ c, fn.body = some c)
    (hK : ∀ (w : World) (b rm nn : Nat) (D0 : DataW Unit), b < w.heap.size → w.cell? ⟨b, 0, none⟩ = some (.map (some rm)) → w.ownsMap Try.prog 3 (fun _ => some (.lit (.bool true), [])) rm nn D0 →
      SeqGives Fence.wide 2 Try.prog fI #[.pointer (some ⟨b, 0, none⟩)] encZ (fun ss => ss.Perm (intKeys D0)) (Maps.size D0) w) : CtrOk Try.prog 129 (srtIC fI T) := by
  subst hT
  intro args hs N h
  unfold srtIC at h
  split at h
  case h_2 => exact h.elim
  rename_i f lb b
  obtain ⟨rfl, h⟩ := h
  split at h
  case h_2 => exact h.elim
  rename_i b' lm rm T' hlb
  split at h
  case h_2 => exact h.elim
  rename_i rm' β kd enc es hlm
  obtain ⟨⟨rfl, rfl, rfl, hw⟩, h⟩ := h
  intro W F w hr
  obtain ⟨fn, g1, g2, c, g3⟩ := hg
  have hcell : w.cell? ⟨b', 0, none⟩ = some (.map (some rm')) := by rw [hr.cells hlb]; rfl
  have hb : b' < w.heap.size := World.block_lt_of_cell? _ _ hcell
  obtain ⟨c0, L0, hc0, hH0, _⟩ := hr.get hlm
  obtain ⟨hks, ents, clock, rfl, hst, he⟩ := hc0
  obtain ⟨D0, o1, o2, o3⟩ := owns_of (k := 3) Try.underlying3 (hH0.heap .here) hst he hks hw
  have hseq := hK w b' rm' es.length D0 hb hcell o1
  have hlen := hw.2.1
  have cS := AnyZI.sorted_in sortedI Fence.wide 5 trivial trivial trivial trivial rfl (by omega) (sortsI _) (enters_of Try.func161 (by kernel_rfl) rfl) f #[.pointer (some ⟨b', 0, none⟩)] trivial (enters_of g1 g2 g3) _ _ (by rw [o3]; unfold maxLen; omega) (by rw [o3]; omega) _ hseq
  refine Calls.mono ((callsIn_wide (n := 5)).1 cS) ?_
  rintro e w' ⟨v, ss, rfl, hS, hrow, hnil, hbel⟩
  have hsort : ss.mergeSort leI = sortI es := mergeSort_of_perm_i (hS.trans o2)
  have hls : ss.length = (sortI es).length := by rw [← hsort, (List.mergeSort_perm ss leI).length_eq]
  have hflat : flatV encI1 (sortI es) = (sortI es).map encZ := flat_one (sortI es)
  rcases hrow.2 with ⟨rfl, h0⟩ | ⟨g, cap, cur, rfl, hge, hgb, hle, hcap, hsz, htk⟩
  · have hnl : sortI es = [] := List.eq_nil_of_length_eq_zero (by omega)
    refine ⟨_, _, h none 0, by rw [hnl]; rfl, ?_⟩
    have hr' : Rep W F hs w' := hr.move fun L hL => hL.below hbel
    rw [hnl]
    exact Rep.nilvec _ (sz := 1) (enc := encI1) 0 (fun _ => rfl) hr'
  · refine ⟨_, _, h (some ⟨g, 0, none⟩) cap, by rw [hls]; rfl, ?_⟩
    refine hr.new (c := [(g, .cells cur _ (0, 0))]) ⟨⟨by rw [hflat]; simp, by omega, .inr ⟨g, 0, cur, rfl, rfl, by omega, ?_⟩⟩, fun _ => rfl⟩ fun L hL => hL.grow hbel hge hgb
    have e1 : (sortI es).length * 1 = ss.length * 1 := by rw [hls]
    rw [List.drop_zero, hflat, e1, htk, ← hsort]
end Go.Proofs.Ytkcmgcoppecfpaa

/- slices.Sorted(maps.Keys(m)) at texts: the keys, rising. -/
namespace Go.Proofs.Ytkcmgcoppecfpaa
open Go Go.RowKit Go.Maps Go.Sort Go.Shelf

def encS1 (x : ByteArray) : List SV := [.str x]
def keyStr : Key → List UInt8
  | .i _ _ => []
  | .s b => b.data.toList
def ofB (l : List UInt8) : ByteArray := ⟨l.toArray⟩
def sortS {β : Type} (es : List (Key × β)) : List ByteArray := ((es.map fun e => keyStr e.1).mergeSort leB).map ofB
def wfS {β : Type} (es : List (Key × β)) : Prop := keysOk es ∧ es.length ≤ 1000000000 ∧ ∀ e ∈ es, (keyStr e.1).length ≤ maxLen
def srtSC (fI T : Nat) : Ctr := fun args hs N => match args with
  | [.func (.func f) [] [.ptr lb b 0]] => f = fI ∧ match nth hs lb with
    | some ⟨.blk b', .cells [.map lm rm] _⟩ => match nth hs lm with
      | some ⟨.blk rm', .mapL (β := β) kd enc es⟩ => (b' = b ∧ rm' = rm ∧ kd = none ∧ wfS es) ∧ ∀ ao cap, N (snoc hs ⟨.sl ao cap, .vecL T 1 encS1 (sortS es) ByteArray.empty⟩) (.vec (lenN hs) ao (sortS es).length cap)
      | _ => False
    | _ => False
  | _ => False

theorem ownsS_of {w : World} {rm : Nat} {ents : List MapEntry} {clock k : Nat} {β : Type} {enc : β → SV} {es : List (Key × β)} (hk : Try.prog.underlying k = some .string) (hh : w.heap[rm]? = some (.map ents.toArray clock)) (hst : Stamped ents clock) (he : ents.map (fun e => (e.key, e.val)) = es.map fun e => (den e.1.sv, den (enc e.2)))
    (hks : ∀ e ∈ es, keyKind e.1 = none) (hw : wfS es) : ∃ D0 : DataW Unit, w.ownsMap Try.prog k (fun _ => some (.lit (.bool true), [])) rm es.length D0 ∧ (strKeys D0).Perm (es.map fun e => keyStr e.1) ∧ Maps.size D0 = es.length := by
  have hlen : ents.length = es.length := by simpa using congrArg List.length he
  have hkey : ∀ e ∈ es, den e.1.sv = .string ⟨(keyStr e.1).toArray⟩ := fun e hm => by
    have := hks e hm
    cases hq : e.1 with
    | i kk n => rw [hq] at this; cases this
    | s b => simp [keyStr, Key.sv, den]
  have hmem : ∀ x ∈ ents, ∃ e ∈ es, x.key = .string ⟨(keyStr e.1).toArray⟩ := fun x hx => by
    have : (x.key, x.val) ∈ es.map fun e => (den e.1.sv, den (enc e.2)) := by rw [← he]; exact List.mem_map.2 ⟨x, hx, rfl⟩
    obtain ⟨e, h1, h2⟩ := List.mem_map.1 this
    simp only [Prod.mk.injEq] at h2
    exact ⟨e, h1, by rw [← h2.1, hkey e h1]⟩
  have hrg : ∀ x ∈ ents, ∃ n : List UInt8, x.key = .string ⟨n.toArray⟩ ∧ WideElems.rd Try.prog k (fun _ => some ((.lit (.bool true) : DataW Unit), [])) x = some (.string n, .lit (.bool true)) := fun x hx => by
    obtain ⟨e, h1, h2⟩ := hmem x hx
    refine ⟨_, h2, ?_⟩
    have hsz : (ByteArray.mk (keyStr e.1).toArray).size ≤ maxLen := by have := hw.2.2 e h1; simpa [ByteArray.size] using this
    have : Go.keyOf Try.prog k (.string ⟨(keyStr e.1).toArray⟩) = some (.string (keyStr e.1)) := by simp [Go.keyOf, hk, Go.mapKey, hsz]
    simp [WideElems.rd, h2, this]
  have hkeys : ents.map (fun x => x.key) = es.map fun e => (Value.string ⟨(keyStr e.1).toArray⟩) := by
    have h1 := congrArg (List.map Prod.fst) he
    simp only [List.map_map, Function.comp_def] at h1
    rw [h1]
    exact List.map_congr_left fun e hm => hkey e hm
  refine ⟨_, ⟨ents.toArray, clock, hh, ⟨?_, ?_, ?_⟩, by simp [hlen], rfl⟩, ?_, ?_⟩
  · have := hw.2.1; simp [hlen, maxLen]; omega
  · refine (MapKept.stamped_iff _ _).2 ⟨by simpa using hst.2, by simpa using hst.1, ?_⟩
    have h1 : (ents.map (fun x => x.key)).Pairwise (· ≠ ·) := by
      rw [hkeys, List.pairwise_map]
      refine hw.1.imp_of_mem fun {a b} ha hb hab e => ?_
      have e : keyStr a.1 = keyStr b.1 := by simpa using e
      have h2 := hks a ha
      have h3 := hks b hb
      cases a with | mk ka va => cases b with | mk kb vb =>
      cases ka with
      | i _ _ => cases h2
      | s x =>
        cases kb with
        | i _ _ => cases h3
        | s y =>
          have : x = y := by
            cases x; cases y
            simp [keyStr] at e
            rw [e]
          subst this
          simp [keyEq_self] at hab
    simpa [List.pairwise_map] using h1
  · intro x hx
    obtain ⟨n, _, h2⟩ := hrg x (by simpa using hx)
    exact ⟨_, h2⟩
  · show (((ents.toArray.toList.map (WideElems.rg Try.prog k _)).foldr DataW.insert []).map fun p => strOf p.1).Perm _
    refine ((Go.WideShapes.sorted_perm _).map _).trans ?_
    simp only [List.map_map]
    have : ents.map ((fun p : Lit × DataW Unit => strOf p.1) ∘ WideElems.rg Try.prog k (fun _ => some (.lit (.bool true), []))) = es.map fun e => keyStr e.1 := by
      have h1 : ents.map ((fun p : Lit × DataW Unit => strOf p.1) ∘ WideElems.rg Try.prog k (fun _ => some (.lit (.bool true), []))) = (ents.map (fun x => x.key)).map fun v => match v with | .string s => s.data.toList | _ => [] := by
        rw [List.map_map]
        refine List.map_congr_left fun x hx => ?_
        obtain ⟨n, h2, h3⟩ := hrg x hx
        simp [WideElems.rg, h3, h2, strOf]
      rw [h1, hkeys, List.map_map]
      refine List.map_congr_left fun e _ => ?_
      simp
    rw [this]
  · show ((ents.toArray.toList.map (WideElems.rg Try.prog k _)).foldr DataW.insert []).length = _
    rw [(Go.WideShapes.sorted_perm _).length_eq]; simp [hlen]

theorem sortsS (m : Nat) : AnyZ.SortsIn Try.prog sortedS_ren Fence.wide m :=
  ⟨fun blk off cap ss W hH hblk hsz => callsIn_wide.2 (AnyM.slices_Sort_string sortS_lay blk off cap ss W hH hblk hsz), fun p cap W => callsIn_wide.2 (AnyM.slices_Sort_string_none sortS_lay p cap W)⟩

theorem flat_strs : ∀ l : List (List UInt8), flatV encS1 (l.map ofB) = l.map encStr
  | [] => rfl
  | x :: l => by
    have := flat_strs l
    unfold flatV at this ⊢
    simp only [List.map_cons, List.flatMap_cons, this]
    rfl
theorem srtS_ok {fI T : Nat} (hT : T = 9) (hg : ∃ fn, Try.prog.funcs[fI]? = some fn ∧ (fn.name == "runtime.NumGoroutine") = false ∧ ∃ c, fn.body = some c)
    (hK : ∀ (w : World) (b rm nn : Nat) (D0 : DataW Unit), b < w.heap.size → w.cell? ⟨b, 0, none⟩ = some (.map (some rm)) → w.ownsMap Try.prog 9 (fun _ => some (.lit (.bool true), [])) rm nn D0 →
      SeqGives Fence.wide 2 Try.prog fI #[.pointer (some ⟨b, 0, none⟩)] encStr (fun ss => ss.Perm (strKeys D0)) (Maps.size D0) w) : CtrOk Try.prog 111 (srtSC fI T) := by
  subst hT
  intro args hs N h
  unfold srtSC at h
  split at h
  case h_2 => exact h.elim
  rename_i f lb b
  obtain ⟨rfl, h⟩ := h
  split at h
  case h_2 => exact h.elim
  rename_i b' lm rm T' hlb
  split at h
  case h_2 => exact h.elim
  rename_i rm' β kd enc es hlm
  obtain ⟨⟨rfl, rfl, rfl, hw⟩, h⟩ := h
  intro W F w hr
  obtain ⟨fn, g1, g2, c, g3⟩ := hg
  have hcell : w.cell? ⟨b', 0, none⟩ = some (.map (some rm')) := by rw [hr.cells hlb]; rfl
  have hb : b' < w.heap.size := World.block_lt_of_cell? _ _ hcell
  obtain ⟨c0, L0, hc0, hH0, _⟩ := hr.get hlm
  obtain ⟨hks, ents, clock, rfl, hst, he⟩ := hc0
  obtain ⟨D0, o1, o2, o3⟩ := ownsS_of (k := 9) Try.underlying9 (hH0.heap .here) hst he hks hw
  have hseq := hK w b' rm' es.length D0 hb hcell o1
  have hlen := hw.2.1
  have cS := AnyZ.sorted_in sortedS Fence.wide 5 trivial trivial trivial trivial rfl (by omega) (sortsS _) (enters_of Try.func137 (by kernel_rfl) rfl) f #[.pointer (some ⟨b', 0, none⟩)] trivial (enters_of g1 g2 g3) _ _ (by rw [o3]; unfold maxLen; omega) (by rw [o3]; omega) _ hseq
  refine Calls.mono ((callsIn_wide (n := 5)).1 cS) ?_
  rintro e w' ⟨v, ss, rfl, hS, hrow, hnil, hbel⟩
  have hsort : sortS es = (ss.mergeSort leB).map ofB := by unfold sortS; rw [mergeSort_of_perm (hS.trans o2)]
  have hls : ss.length = (sortS es).length := by rw [hsort, List.length_map, (List.mergeSort_perm ss leB).length_eq]
  have hflat : flatV encS1 (sortS es) = (ss.mergeSort leB).map encStr := by rw [hsort, flat_strs]
  rcases hrow.2 with ⟨rfl, h0⟩ | ⟨g, cap, cur, rfl, hge, hgb, hle, hcap, hsz, htk⟩
  · have hnl : sortS es = [] := List.eq_nil_of_length_eq_zero (by omega)
    refine ⟨_, _, h none 0, by rw [hnl]; rfl, ?_⟩
    have hr' : Rep W F hs w' := hr.move fun L hL => hL.below hbel
    rw [hnl]
    exact Rep.nilvec _ (sz := 1) (enc := encS1) ByteArray.empty (fun _ => rfl) hr'
  · refine ⟨_, _, h (some ⟨g, 0, none⟩) cap, by rw [hls]; rfl, ?_⟩
    refine hr.new (c := [(g, .cells cur _ (0, 0))]) ⟨⟨by rw [hflat]; simp [hls], by omega, .inr ⟨g, 0, cur, rfl, rfl, by omega, ?_⟩⟩, fun _ => rfl⟩ fun L hL => hL.grow hbel hge hgb
    have e1 : (sortS es).length * 1 = ss.length * 1 := by rw [hls]
    rw [List.drop_zero, hflat, e1, htk]
end Go.Proofs.Ytkcmgcoppecfpaa

/- Texts by their order; rows of things that stand by their names. -/
namespace Go.Proofs.Ytkcmgcoppecfpaa
open Go Go.RowKit Go.Maps Go.Sort Go.Shelf

/-! ### Texts by their order -/
theorem toListG (x : ByteArray) : x.toList = x.data.toList := ByteArray.toList_eq x
theorem baExt {a b : ByteArray} (h : a.data.toList = b.data.toList) : a = b := by
  cases a; cases b
  simp only [ByteArray.mk.injEq]
  exact Array.ext' h
theorem sEqG (a b : ByteArray) : sEq a b = true ↔ a = b := by
  constructor
  · intro h
    simp only [sEq, beq_iff_eq] at h
    rw [toListG, toListG] at h
    exact baExt h
  · rintro rfl; simp [sEq]
theorem sEqGF (a b : ByteArray) : sEq a b = false ↔ a ≠ b := by rw [← Bool.not_eq_true, sEqG]
theorem bLess : ∀ (x y : List UInt8), Op.bytesLess x y = decide (x < y)
  | [], [] => by simp [Op.bytesLess]
  | _ :: _, [] => by simp [Op.bytesLess]
  | [], _ :: _ => by simp [Op.bytesLess]
  | a :: x, b :: y => by
    rw [Op.bytesLess, bLess x y, Bool.eq_iff_iff]
    simp [List.cons_lt_cons_iff]
theorem sLtG (a b : ByteArray) : sLt a b = decide (a.data.toList < b.data.toList) := by rw [sLt, bLess, toListG, toListG]
theorem sLt_irr (a : ByteArray) : sLt a a = false := by rw [sLtG]; simp [List.lt_irrefl]
theorem sLt_trans {a b c : ByteArray} (h1 : sLt a b = true) (h2 : sLt b c = true) : sLt a c = true := by
  rw [sLtG, decide_eq_true_eq] at *
  exact List.lt_trans h1 h2
theorem sLt_asymm {a b : ByteArray} (h1 : sLt a b = true) : sLt b a = false := by
  cases h : sLt b a with
  | false => rfl
  | true => have := sLt_trans h1 h; rw [sLt_irr] at this; cases this
theorem sLt_tri {a b : ByteArray} (h1 : sLt a b = false) (h2 : sLt b a = false) : a = b := by
  rw [sLtG, decide_eq_false_iff_not] at *
  exact baExt (List.le_antisymm (List.not_lt.1 h2) (List.not_lt.1 h1))
theorem keyS (a b : ByteArray) : keyEq (.s a) (.s b) = decide (a = b) := by
  rw [Bool.eq_iff_iff, decide_eq_true_eq]
  simp only [keyEq]
  exact bytes_beq _ _
theorem mget_str {β : Type} {es : List (Key × β)} (a b : ByteArray) (u : β) : mget (mset es (.s a) u) (.s b) = if b = a then some u else mget es (.s b) := by
  by_cases hab : b = a
  · subst hab; rw [if_pos rfl, mget_mset (keyEq_self _)]
  · rw [if_neg hab, mget_mset_ne (by rw [keyS]; simp [hab])]
theorem mget_strD {β : Type} {es : List (Key × β)} (h : keysOk es) (a b : ByteArray) : mget (mdel es (.s a)) (.s b) = if b = a then none else mget es (.s b) := by
  by_cases hab : b = a
  · subst hab; rw [if_pos rfl, mget_mdel h]
  · rw [if_neg hab, mget_mdel_ne (by rw [keyS]; simp [hab])]

theorem mem_mdel {β : Type} {k : Key} {e : Key × β} : ∀ {es : List (Key × β)}, e ∈ mdel es k → e ∈ es
  | [], h => by cases h
  | (k', v') :: es, h => by
    simp only [mdel] at h
    cases hq : keyEq k k' with
    | true => simp only [hq] at h; exact List.mem_cons_of_mem _ h
    | false =>
      simp only [hq] at h
      rcases List.mem_cons.1 h with rfl | h
      · exact List.mem_cons_self
      · exact List.mem_cons_of_mem _ (mem_mdel h)
theorem mem_mset {β : Type} {k : Key} {u : β} {e : Key × β} : ∀ {es : List (Key × β)}, e ∈ mset es k u → e = (k, u) ∨ e ∈ es
  | [], h => .inl (by simpa [mset] using h)
  | (k', v') :: es, h => by
    simp only [mset] at h
    cases hq : keyEq k k' with
    | true =>
      simp only [hq] at h
      rcases List.mem_cons.1 h with rfl | h
      · exact .inl rfl
      · exact .inr (List.mem_cons_of_mem _ h)
    | false =>
      simp only [hq] at h
      rcases List.mem_cons.1 h with rfl | h
      · exact .inr List.mem_cons_self
      · rcases mem_mset h with h | h
        · exact .inl h
        · exact .inr (List.mem_cons_of_mem _ h)

theorem keyS_of {k : Key} (h : keyKind k = none) : ∃ n, k = .s n := by
  cases k with
  | i a b => cases h
  | s n => exact ⟨n, rfl⟩
theorem ofB_data (n : ByteArray) : ofB n.data.toList = n := by
  unfold ofB
  simp

/-! ### Where a name stands -/
section
variable {α : Type}
def nAt (nm : α → ByteArray) (L : List α) (n : ByteArray) : Nat := (L.takeWhile fun g => sLt (nm g) n).length
def nHas (nm : α → ByteArray) (z : α) (L : List α) (n : ByteArray) : Bool := decide (nAt nm L n < L.length) && sEq (nm (L.getD (nAt nm L n) z)) n
def AscN (nm : α → ByteArray) (L : List α) : Prop := L.Pairwise fun a b => sLt (nm a) (nm b) = true
variable {nm : α → ByteArray} {z : α}
theorem nAt_le (L : List α) (n : ByteArray) : nAt nm L n ≤ L.length := (List.takeWhile_prefix _).length_le
theorem nAt_parts (L : List α) (n : ByteArray) : L.take (nAt nm L n) = L.takeWhile (fun g => sLt (nm g) n) ∧ L.drop (nAt nm L n) = L.dropWhile (fun g => sLt (nm g) n) := by
  have h1 : L.take (nAt nm L n) = L.takeWhile (fun g => sLt (nm g) n) := (List.prefix_iff_eq_take.1 (List.takeWhile_prefix _)).symm
  refine ⟨h1, ?_⟩
  have h2 := List.take_append_drop (nAt nm L n) L
  have h3 := List.takeWhile_append_dropWhile (p := fun g : α => sLt (nm g) n) (l := L)
  rw [h1] at h2
  exact List.append_cancel_left (h2.trans h3.symm)
theorem tw_all {L : List α} {n : ByteArray} : ∀ g ∈ L.takeWhile (fun g => sLt (nm g) n), sLt (nm g) n = true := fun g hg => by
  have h1 : (L.takeWhile fun g => sLt (nm g) n).all (fun g => sLt (nm g) n) = true := List.all_takeWhile
  exact List.all_eq_true.1 h1 g hg
theorem dw_ge {n : ByteArray} : ∀ {L : List α}, AscN nm L → ∀ g ∈ L.dropWhile (fun g => sLt (nm g) n), sLt (nm g) n = false
  | [], _, g, h => by cases h
  | x :: L, ha, g, h => by
    rw [List.dropWhile_cons] at h
    split at h
    · exact dw_ge (List.pairwise_cons.1 ha).2 g h
    · rename_i hc
      have hx : sLt (nm x) n = false := by simpa using hc
      rcases List.mem_cons.1 h with rfl | h
      · exact hx
      · have h1 := (List.pairwise_cons.1 ha).1 g h
        cases hq : sLt (nm g) n with
        | false => rfl
        | true => rw [sLt_trans h1 hq] at hx; cases hx
theorem nHas_split {L : List α} {n : ByteArray} (ha : AscN nm L) (h : nHas nm z L n = true) : ∃ L1 g L2, L = L1 ++ g :: L2 ∧ nAt nm L n = L1.length ∧ nm g = n ∧ (∀ x ∈ L1, nm x ≠ n) ∧ ∀ x ∈ L2, nm x ≠ n := by
  obtain ⟨p1, p2⟩ := nAt_parts (nm := nm) L n
  unfold nHas at h
  simp only [Bool.and_eq_true, decide_eq_true_eq] at h
  obtain ⟨h1, h2⟩ := h
  have h3 : L.getD (nAt nm L n) z = L[nAt nm L n] := by simp [List.getD, h1]
  rw [h3, sEqG] at h2
  refine ⟨L.take (nAt nm L n), L[nAt nm L n], L.drop (nAt nm L n + 1), ?_, by simp; omega, h2, fun x hx e => ?_, fun x hx e => ?_⟩
  · rw [List.getElem_cons_drop, List.take_append_drop]
  · rw [p1] at hx
    have := tw_all x hx
    rw [e, sLt_irr] at this; cases this
  · have hd : L.drop (nAt nm L n) = L[nAt nm L n] :: L.drop (nAt nm L n + 1) := (List.getElem_cons_drop h1).symm
    have hp : AscN nm (L.drop (nAt nm L n)) := List.Pairwise.sublist (List.drop_sublist _ _) ha
    rw [hd] at hp
    have := (List.pairwise_cons.1 hp).1 x hx
    rw [h2, e, sLt_irr] at this; cases this
theorem nHas_none {L : List α} {n : ByteArray} (ha : AscN nm L) (h : nHas nm z L n = false) : ∀ g ∈ L, nm g ≠ n := by
  intro g hg e
  obtain ⟨p1, p2⟩ := nAt_parts (nm := nm) L n
  rw [← List.take_append_drop (nAt nm L n) L] at hg
  rcases List.mem_append.1 hg with hg | hg
  · rw [p1] at hg
    have := tw_all g hg
    rw [e, sLt_irr] at this; cases this
  · have hlt : nAt nm L n < L.length := by
      have := List.length_pos_of_mem hg
      simp at this; omega
    have hd : L.drop (nAt nm L n) = L[nAt nm L n] :: L.drop (nAt nm L n + 1) := (List.getElem_cons_drop hlt).symm
    have h3 : L.getD (nAt nm L n) z = L[nAt nm L n] := by simp [List.getD, hlt]
    unfold nHas at h
    rw [decide_eq_true hlt, h3, Bool.true_and, sEqGF] at h
    have hge := dw_ge (n := n) ha
    rw [← p2] at hge
    have hf := hge L[nAt nm L n] (by rw [hd]; exact List.mem_cons_self)
    have hp : AscN nm (L.drop (nAt nm L n)) := List.Pairwise.sublist (List.drop_sublist _ _) ha
    rw [hd] at hg hp
    rcases List.mem_cons.1 hg with hg | hg
    · rw [hg] at e; exact h e
    · have h4 := (List.pairwise_cons.1 hp).1 g hg
      rw [e, hf] at h4; cases h4
theorem nHas_iff {L : List α} {n : ByteArray} (ha : AscN nm L) : nHas nm z L n = true ↔ ∃ g ∈ L, nm g = n := by
  constructor
  · intro h
    obtain ⟨L1, g, L2, rfl, _, e, _⟩ := nHas_split ha h
    exact ⟨g, by simp, e⟩
  · rintro ⟨g, hg, e⟩
    cases h : nHas nm z L n with
    | true => rfl
    | false => exact absurd e (nHas_none ha h g hg)
theorem asc_uniq {L : List α} (ha : AscN nm L) {g g' : α} (h : g ∈ L) (h' : g' ∈ L) (e : nm g = nm g') : g = g' := by
  induction L with
  | nil => cases h
  | cons x L ih =>
    have hc := List.pairwise_cons.1 ha
    rcases List.mem_cons.1 h with h1 | h1
    · rcases List.mem_cons.1 h' with h2 | h2
      · rw [h1, h2]
      · have := hc.1 g' h2
        rw [← h1, e, sLt_irr] at this; cases this
    · rcases List.mem_cons.1 h' with h2 | h2
      · have := hc.1 g h1
        rw [← h2, e, sLt_irr] at this; cases this
      · exact ih hc.2 h1 h2
theorem asc_ins {L : List α} {n : ByteArray} (ha : AscN nm L) (hno : ∀ g ∈ L, nm g ≠ n) {g : α} (hg : nm g = n) : AscN nm (L.take (nAt nm L n) ++ g :: L.drop (nAt nm L n)) := by
  obtain ⟨p1, p2⟩ := nAt_parts (nm := nm) L n
  rw [p1, p2]
  subst hg
  have ha' := ha
  unfold AscN at ha ⊢
  refine List.pairwise_append.2 ⟨ha.sublist (List.takeWhile_sublist _), List.pairwise_cons.2 ⟨fun y hy => ?_, ha.sublist (List.dropWhile_sublist _)⟩, fun a hA b hb => ?_⟩
  · have h6 := dw_ge ha' y hy
    cases h7 : sLt (nm g) (nm y) with
    | true => rfl
    | false => exact absurd (sLt_tri h6 h7) (hno y ((List.dropWhile_suffix _).subset hy))
  · have h6 := tw_all a hA
    rcases List.mem_cons.1 hb with rfl | hb
    · exact h6
    · have h8 := dw_ge ha' b hb
      cases h7 : sLt (nm g) (nm b) with
      | true => exact sLt_trans h6 h7
      | false => exact absurd (sLt_tri h8 h7) (hno b ((List.dropWhile_suffix _).subset hb))
theorem mem_ins {L : List α} {g y : α} {i : Nat} : y ∈ L.take i ++ g :: L.drop i ↔ y = g ∨ y ∈ L := by
  have h5 := List.take_append_drop i L
  rw [← h5, h5]
  constructor
  · intro hy
    rcases List.mem_append.1 hy with hy | hy
    · exact .inr (List.mem_of_mem_take hy)
    · rcases List.mem_cons.1 hy with hy | hy
      · exact .inl hy
      · exact .inr (List.mem_of_mem_drop hy)
  · rintro (hy | hy)
    · simp [hy]
    · rw [← h5] at hy
      rcases List.mem_append.1 hy with hy | hy
      · exact List.mem_append_left _ hy
      · exact List.mem_append_right _ (List.mem_cons_of_mem _ hy)
end

theorem names_eq {β α : Type} {nm : α → ByteArray} {es : List (Key × β)} {L : List α} (hk : keysOk es) (hkd : ∀ e ∈ es, keyKind e.1 = none) (ha : AscN nm L) (h1 : ∀ g ∈ L, ∃ x, mget es (.s (nm g)) = some x) (h2 : ∀ n x, mget es (.s n) = some x → ∃ g ∈ L, nm g = n) : sortS es = L.map nm := by
  have hnd : (es.map fun e => keyStr e.1).Nodup := by
    unfold List.Nodup
    rw [List.pairwise_map]
    refine List.Pairwise.imp_of_mem ?_ hk
    intro a b ha hb hab e
    obtain ⟨p, e1⟩ := keyS_of (hkd a ha)
    obtain ⟨q, e2⟩ := keyS_of (hkd b hb)
    rw [e1, e2, keyS] at hab
    rw [e1, e2] at e
    simp only [keyStr] at e
    simp [baExt e] at hab
  have hasc : (L.map fun g => (nm g).data.toList).Pairwise (· < ·) := by
    rw [List.pairwise_map]
    exact ha.imp fun {a b} hq => by rw [sLtG, decide_eq_true_eq] at hq; exact hq
  have hperm : (es.map fun e => keyStr e.1).Perm (L.map fun g => (nm g).data.toList) := by
    refine (List.perm_ext_iff_of_nodup hnd (hasc.imp fun {a b} hq e => by subst e; exact List.lt_irrefl _ hq)).2 fun x => ?_
    constructor
    · intro hx
      obtain ⟨e, he, rfl⟩ := List.mem_map.1 hx
      obtain ⟨n, e1⟩ := keyS_of (hkd e he)
      obtain ⟨g, hg, rfl⟩ := h2 n e.2 (by rw [← e1]; exact mget_of_mem hk he)
      refine List.mem_map.2 ⟨g, hg, ?_⟩
      rw [e1]; rfl
    · intro hx
      obtain ⟨g, hg, rfl⟩ := List.mem_map.1 hx
      obtain ⟨x, hx⟩ := h1 g hg
      obtain ⟨k', h2, h3⟩ := mget_mem hx
      refine List.mem_map.2 ⟨(k', x), h2, ?_⟩
      obtain ⟨n, e1⟩ := keyS_of (hkd _ h2)
      dsimp only at e1 ⊢
      rw [e1, keyS, decide_eq_true_eq] at h3
      rw [e1, h3]; rfl
  unfold sortS
  rw [mergeSort_of_perm hperm, List.mergeSort_of_pairwise, List.map_map]
  · refine List.map_congr_left fun g _ => ?_
    exact ofB_data _
  · exact hasc.imp fun {x y} hq => by
      show leB x y = true
      simp only [leB, decide_eq_true_eq]
      exact List.le_of_lt hq
theorem names_len {β α : Type} {nm : α → ByteArray} {es : List (Key × β)} {L : List α} (h : sortS es = L.map nm) : es.length = L.length := by
  have h1 := congrArg List.length h
  unfold sortS at h1
  simp only [List.length_map, List.length_mergeSort] at h1
  exact h1
end Go.Proofs.Ytkcmgcoppecfpaa

/- Ports, and the document's: what they hold, what their methods do. -/
namespace Go.Proofs.Ytkcmgcoppecfpaa
open Go Go.RowKit

structure CN where
  (id : Int) (text : ByteArray)
def encCN (c : CN) : List SV := [.int .i64 c.id, .str c.text]
def CN.zero : CN := ⟨0, ⟨#[]⟩⟩
structure DN where
  (pid : Int) (text : ByteArray)
def encDN (c : DN) : List SV := [.int .i64 c.pid, .str c.text]
def DN.zero : DN := ⟨0, ⟨#[]⟩⟩
structure Sk where
  (b : Nat) (ao : Option Addr) (cap : Nat) (cs : List CN)
structure PS where
  (bm : Nat) (sk : List (Key × Sk)) (aoD : Option Addr) (capD : Nat) (ds : List DN) (last : Int)
def encPq (b : Nat) : SV := .ptr 3 b 0
def skB (e : Key × Sk) : Key × Nat := (e.1, e.2.b)
def skEs (x : Sk) : List Ent := [⟨.blk x.b, .cells [.vec 4 x.ao x.cs.length x.cap] 135⟩, ⟨.sl x.ao x.cap, .vecL 41 2 encCN x.cs CN.zero⟩]
def skE (e : Key × Sk) : Ent := pk 0 (skEs e.2)
def psE (s : PS) (b : Nat) : List Ent := [⟨.blk b, .cells [.map 1 s.bm, .vec 2 s.aoD s.ds.length s.capD, .int .i64 s.last] 131⟩, ⟨.blk s.bm, .mapL none encPq (s.sk.map skB)⟩, ⟨.sl s.aoD s.capD, .vecL 49 2 encDN s.ds DN.zero⟩, pk 0 (s.sk.map skE)]
def pListen (s : PS) (n : ByteArray) (nb : Nat) : PS × Int := match sEq n ⟨#[]⟩ with
  | true => (s, 100)
  | false => match mget s.sk (.s n) with
    | some _ => (s, 101)
    | none => ({ s with sk := mset s.sk (.s n) ⟨nb, none, 0, []⟩ }, 0)
def pClose (s : PS) (n : ByteArray) : PS × Int := match mget s.sk (.s n) with
  | none => (s, 100)
  | some _ => ({ s with sk := mdel s.sk (.s n) }, 0)
def pConnect (s : PS) (n text : ByteArray) (ao : Option Addr) (cap : Nat) : PS × Int × Int := match mget s.sk (.s n) with
  | none => (s, 0, 100)
  | some x => match decide ((text.size : Int) > 200) with
    | true => (s, 0, 100)
    | false => match decide ((x.cs.length : Int) ≥ 16) with
      | true => (s, 0, 102)
      | false => ({ s with sk := mset s.sk (.s n) ⟨x.b, ao, cap, x.cs ++ [⟨s.last + 1, text⟩]⟩, last := s.last + 1 }, s.last + 1, 0)
def pAccept (s : PS) (n : ByteArray) (ao : Option Addr) (cap : Nat) : PS × CN × Int := match mget s.sk (.s n) with
  | none => (s, CN.zero, 100)
  | some x => match x.cs with
    | [] => (s, CN.zero, 100)
    | c :: cs => ({ s with sk := mset s.sk (.s n) ⟨x.b, ao, cap, cs⟩ }, c, 0)
def pWait (s : PS) (n : ByteArray) : List CN := match mget s.sk (.s n) with
  | none => []
  | some x => x.cs
def dAdd (ds : List DN) (pid : Int) (text : ByteArray) : List DN × Int := match decide ((text.size : Int) > 200) with
  | true => (ds, 100)
  | false => match decide ((ds.length : Int) ≥ 16) with
    | true => (ds, 102)
    | false => (ds ++ [⟨pid, text⟩], 0)
def dTake (ds : List DN) : List DN × DN × Bool := match ds with
  | [] => ([], DN.zero, false)
  | d :: l => (l, d, true)
structure psOk (s : PS) : Prop where
  ks : keysOk s.sk
  len : s.sk.length ≤ 1000000
  dl : s.ds.length ≤ 100
  cl : ∀ e ∈ s.sk, e.2.cs.length ≤ 100
  la : 0 ≤ s.last ∧ s.last ≤ 1000000
def plistenM (s : PS) (args : List SV) (N : PS → SV → Prop) : Prop := match args with
  | [.str n] => psOk s ∧ ∀ nb, N (pListen s n nb).1 (.int .i64 (pListen s n nb).2)
  | _ => False
def pcloseM (s : PS) (args : List SV) (N : PS → SV → Prop) : Prop := match args with
  | [.str n] => psOk s ∧ N (pClose s n).1 (.int .i64 (pClose s n).2)
  | _ => False
def pconnectM (s : PS) (args : List SV) (N : PS → SV → Prop) : Prop := match args with
  | [.str n, .str text] => psOk s ∧ ∀ ao cap, N (pConnect s n text ao cap).1 (.tuple [.int .i64 (pConnect s n text ao cap).2.1, .int .i64 (pConnect s n text ao cap).2.2])
  | _ => False
def pacceptM (s : PS) (args : List SV) (N : PS → SV → Prop) : Prop := match args with
  | [.str n] => psOk s ∧ ∀ ao cap, N (pAccept s n ao cap).1 (.tuple [.agg (encCN (pAccept s n ao cap).2.1), .int .i64 (pAccept s n ao cap).2.2])
  | _ => False
def psendM (s : PS) (args : List SV) (N : PS → SV → Prop) : Prop := match args with
  | [.int .i64 pid, .str text] => psOk s ∧ ∀ ao cap, N { s with aoD := ao, capD := cap, ds := (dAdd s.ds pid text).1 } (.int .i64 (dAdd s.ds pid text).2)
  | _ => False
def precvM (s : PS) (args : List SV) (N : PS → SV → Prop) : Prop := match args with
  | [] => psOk s ∧ ∀ ao cap, N { s with aoD := ao, capD := cap, ds := (dTake s.ds).1 } (.tuple [.agg (encDN (dTake s.ds).2.1), .bool (dTake s.ds).2.2])
  | _ => False
def pdgM (s : PS) (args : List SV) (N : PS → SV → Prop) : Prop := match args with
  | [] => psOk s ∧ N s (.int .i64 (s.ds.length : Int))
  | _ => False
def pwaitC : Ctr := fun args hs N => match args with
  | [.ptr l b 0, .str n] => match nth hs l with
    | some ⟨.blk b', .adt (σ := σ') p s⟩ => b' = b ∧ ∃ h : σ' = PS, AdtIs p psE ∧ psOk (cast h s) ∧
        ∀ ao cap, N (snoc hs ⟨.sl ao cap, .vecL 41 2 encCN (pWait (cast h s) n) CN.zero⟩) (.vec (lenN hs) ao (pWait (cast h s) n).length cap)
    | _ => False
  | _ => False

structure RPt where
  (name : ByteArray) (ao : Option Addr) (cap : Nat) (cs : List CN)
structure RPs where
  (aoL : Option Addr) (capL : Nat) (L : List RPt) (nx : Int) (aoD : Option Addr) (capD : Nat) (ds : List DN)
def encRpt (g : RPt) : List SV := [.str g.name, .vec 4 g.ao g.cs.length g.cap]
def zP : RPt := ⟨⟨#[]⟩, none, 0, []⟩
def cnE (g : RPt) : Ent := ⟨.sl g.ao g.cap, .vecL 41 2 encCN g.cs CN.zero⟩
def rpE (r : RPs) (b : Nat) : List Ent := [⟨.blk b, .cells [.vec 1 r.aoL r.L.length r.capL, .int .i64 r.nx, .vec 2 r.aoD r.ds.length r.capD] 30⟩, ⟨.sl r.aoL r.capL, .vecL 62 2 encRpt r.L zP⟩, ⟨.sl r.aoD r.capD, .vecL 49 2 encDN r.ds DN.zero⟩, pk 0 (r.L.map cnE)]
abbrev qAt (L : List RPt) (n : ByteArray) : Nat := nAt RPt.name L n
abbrev qHas (L : List RPt) (n : ByteArray) : Bool := nHas RPt.name zP L n
def qListen (r : RPs) (n : ByteArray) (ao : Option Addr) (cap : Nat) : RPs × Int := match sEq n ⟨#[]⟩ with
  | true => (r, 100)
  | false => match qHas r.L n with
    | true => (r, 101)
    | false => ({ r with L := r.L.take (qAt r.L n) ++ ⟨n, none, 0, []⟩ :: r.L.drop (qAt r.L n), aoL := ao, capL := cap }, 0)
def qClose (r : RPs) (n : ByteArray) (ao : Option Addr) (cap : Nat) : RPs × Int := match qHas r.L n with
  | false => (r, 100)
  | true => ({ r with L := r.L.take (qAt r.L n) ++ r.L.drop (qAt r.L n + 1), aoL := ao, capL := cap }, 0)
def qGet (r : RPs) (n : ByteArray) : RPt := r.L.getD (qAt r.L n) zP
def qSet (r : RPs) (n : ByteArray) (cs : List CN) (ao : Option Addr) (cap : Nat) : List RPt := r.L.set (qAt r.L n) ⟨(qGet r n).name, ao, cap, cs⟩
def qConnect (r : RPs) (n text : ByteArray) (ao : Option Addr) (cap : Nat) : RPs × Int × Int := match !qHas r.L n || decide ((text.size : Int) > 200) with
  | true => (r, 0, 100)
  | false => match decide (((qGet r n).cs.length : Int) ≥ 16) with
    | true => (r, 0, 102)
    | false => ({ r with L := qSet r n ((qGet r n).cs ++ [⟨r.nx + 1, text⟩]) ao cap, nx := r.nx + 1 }, r.nx + 1, 0)
def qAccept (r : RPs) (n : ByteArray) (ao : Option Addr) (cap : Nat) : RPs × CN × Int := match qHas r.L n with
  | false => (r, CN.zero, 100)
  | true => match (qGet r n).cs with
    | [] => (r, CN.zero, 100)
    | c :: cs => ({ r with L := qSet r n cs ao cap }, c, 0)
structure rpOk (r : RPs) : Prop where
  len : r.L.length ≤ 1000
  dl : r.ds.length ≤ 100
  cl : ∀ g ∈ r.L, g.cs.length ≤ 100
  la : 0 ≤ r.nx ∧ r.nx ≤ 1000000
def qatO : Ctr := fun args hs N => match args with
  | [.ptr l b 0, .str n] => match nth hs l with
    | some ⟨.blk b', .cells [.vec lL aoL nL capL, _, _] T⟩ => (b' = b ∧ T = 30 ∧ Nat.beq l lL = false) ∧ ∃ L : List RPt, nth hs lL = some ⟨.sl aoL capL, .vecL 62 2 encRpt L zP⟩ ∧ (nL = L.length ∧ L.length ≤ 1000) ∧
        N hs (.tuple [.int .i64 (qAt L n : Int), .bool (qHas L n)])
    | _ => False
  | _ => False
def qlistenM (r : RPs) (args : List SV) (N : RPs → SV → Prop) : Prop := match args with
  | [.str n] => rpOk r ∧ ∀ ao cap, N (qListen r n ao cap).1 (.int .i64 (qListen r n ao cap).2)
  | _ => False
def qcloseM (r : RPs) (args : List SV) (N : RPs → SV → Prop) : Prop := match args with
  | [.str n] => rpOk r ∧ ∀ ao cap, N (qClose r n ao cap).1 (.int .i64 (qClose r n ao cap).2)
  | _ => False
def qconnectM (r : RPs) (args : List SV) (N : RPs → SV → Prop) : Prop := match args with
  | [.str n, .str text] => rpOk r ∧ ∀ ao cap, N (qConnect r n text ao cap).1 (.tuple [.int .i64 (qConnect r n text ao cap).2.1, .int .i64 (qConnect r n text ao cap).2.2])
  | _ => False
def qacceptM (r : RPs) (args : List SV) (N : RPs → SV → Prop) : Prop := match args with
  | [.str n] => rpOk r ∧ ∀ ao cap, N (qAccept r n ao cap).1 (.tuple [.agg (encCN (qAccept r n ao cap).2.1), .int .i64 (qAccept r n ao cap).2.2])
  | _ => False
def qsendM (r : RPs) (args : List SV) (N : RPs → SV → Prop) : Prop := match args with
  | [.int .i64 pid, .str text] => rpOk r ∧ ∀ ao cap, N { r with aoD := ao, capD := cap, ds := (dAdd r.ds pid text).1 } (.int .i64 (dAdd r.ds pid text).2)
  | _ => False
def qrecvM (r : RPs) (args : List SV) (N : RPs → SV → Prop) : Prop := match args with
  | [] => rpOk r ∧ ∀ ao cap, N { r with aoD := ao, capD := cap, ds := (dTake r.ds).1 } (.tuple [.agg (encDN (dTake r.ds).2.1), .bool (dTake r.ds).2.2])
  | _ => False
def qwG (r : RPs) (n : ByteArray) : RPt := match qHas r.L n with
  | true => qGet r n
  | false => zP
end Go.Proofs.Ytkcmgcoppecfpaa

/- Groups (cgroup.Groups): what they hold; what their methods do. -/
namespace Go.Proofs.Ytkcmgcoppecfpaa
open Go Go.RowKit

def idxFrom {α : Type} (p : α → Bool) : List α → Int → Int
  | [], _ => -1
  | x :: l, i => match p x with
    | true => i
    | false => idxFrom p l (i + 1)
def encS (x : ByteArray) : List SV := [.str x]
def idxSC (T : TypeId) : Ctr := fun args hs N => match args with
  | [.vec l ao n cap, .str v] => ∃ xs : List ByteArray, nth hs l = some ⟨.sl ao cap, .vecL T 1 encS xs ByteArray.empty⟩ ∧ n = xs.length ∧ xs.length ≤ 1000000000 ∧ N hs (.int .i64 (idxFrom (sEq v) xs 0))
  | _ => False
def delSC (T : TypeId) (g : FuncId) : Ctr := fun args hs N => match args with
  | [.vec l ao n cap, .func (.func f) [] [.ptr lb b 0]] => f = g ∧ ∃ (xs : List ByteArray) (nm : ByteArray), nth hs l = some ⟨.sl ao cap, .vecL T 1 encS xs ByteArray.empty⟩ ∧ nth hs lb = some ⟨.blk b, .cells [.str nm] T⟩ ∧ (Nat.beq l lb = false ∧ n = xs.length ∧ xs.length ≤ 1000000000) ∧
      N (setN hs l ⟨.sl ao cap, .vecL T 1 encS (xs.filter fun x => !sEq x nm) ByteArray.empty⟩) (.vec l ao (xs.filter fun x => !sEq x nm).length cap)
  | _ => False

abbrev GSet := Nat × List (Key × Unit)
structure Grp where
  (bg bo : Nat) (ao : Option Addr) (cap : Nat) (gs : List (Key × GSet)) (of : List (Key × ByteArray)) (notes : List ByteArray)
def encG (x : GSet) : SV := .map 4 x.1
def encU (_ : Unit) : SV := .agg []
def encO (x : ByteArray) : SV := .str x
def setE (e : Key × GSet) : Ent := ⟨.blk e.2.1, .mapL (some .i64) encU e.2.2⟩
def grpE (s : Grp) (b : Nat) : List Ent := [⟨.blk b, .cells [.map 1 s.bg, .map 2 s.bo, .vec 3 s.ao s.notes.length s.cap] 182⟩, ⟨.blk s.bg, .mapL none encG s.gs⟩, ⟨.blk s.bo, .mapL (some .i64) encO s.of⟩, ⟨.sl s.ao s.cap, .vecL 9 1 encS s.notes ByteArray.empty⟩, pk 0 (s.gs.map setE)]

def gMake (s : Grp) (name : ByteArray) (nb : Nat) : Grp × Int := match sEq name ⟨#[]⟩ with
  | true => (s, 90)
  | false => match mget s.gs (.s name) with
    | some _ => (s, 91)
    | none => ({ s with gs := mset s.gs (.s name) (nb, []) }, 0)
def gGone (s : Grp) (pid : Int) (ao : Option Addr) (cap : Nat) : Grp × Bool := match mget s.of (.i .i64 pid) with
  | none => (s, false)
  | some n => match mget s.gs (.s n) with
    | none => (s, false)
    | some x => match (mdel x.2 (.i .i64 pid)).length == 0 && !decide (idxFrom (sEq n) s.notes 0 ≥ 0) with
      | true => ({ s with of := mdel s.of (.i .i64 pid), gs := mset s.gs (.s n) (x.1, mdel x.2 (.i .i64 pid)), notes := s.notes ++ [n], ao := ao, cap := cap }, true)
      | false => ({ s with of := mdel s.of (.i .i64 pid), gs := mset s.gs (.s n) (x.1, mdel x.2 (.i .i64 pid)) }, true)
def gPut (s : Grp) (pid : Int) (name : ByteArray) (ao : Option Addr) (cap : Nat) : Grp × Int := match mget s.gs (.s name), decide (pid < 2) with
  | some x, false => match mget x.2 (.i .i64 pid) with
    | some _ => (s, 0)
    | none => match mget (gGone s pid ao cap).1.gs (.s name) with
      | some y => ({ (gGone s pid ao cap).1 with gs := mset (gGone s pid ao cap).1.gs (.s name) (y.1, mset y.2 (.i .i64 pid) ()), of := mset (gGone s pid ao cap).1.of (.i .i64 pid) name }, 0)
      | none => (s, 90)
  | _, _ => (s, 90)
def gRemove (s : Grp) (name : ByteArray) : Grp × Int := match mget s.gs (.s name) with
  | none => (s, 90)
  | some x => match decide ((x.2.length : Int) > 0) with
    | true => (s, 91)
    | false => ({ s with gs := mdel s.gs (.s name), notes := s.notes.filter fun x => !sEq x name }, 0)
def firstEmpty (gs : List (Key × GSet)) : List ByteArray → List ByteArray × Option ByteArray
  | [] => ([], none)
  | n :: l => match (match mget gs (.s n) with | some x => x.2.length | none => 0) with
    | 0 => (l, some n)
    | _ + 1 => firstEmpty gs l
def gEmptied (s : Grp) (ao : Option Addr) (cap : Nat) : Grp × Option ByteArray := ({ s with notes := (firstEmpty s.gs s.notes).1, ao := ao, cap := cap }, (firstEmpty s.gs s.notes).2)
def gOk (s : Grp) (pid : Int) : Prop := s.notes.length ≤ 100000000 ∧ ∀ n, mget s.of (.i .i64 pid) = some n → ∃ x, mget s.gs (.s n) = some x
def grpC := adtC grpE
def makeM (s : Grp) (args : List SV) (N : Grp → SV → Prop) : Prop := match args with
  | [.str name] => ∀ nb, N (gMake s name nb).1 (.int .i64 (gMake s name nb).2)
  | _ => False
def goneM (s : Grp) (args : List SV) (N : Grp → SV → Prop) : Prop := match args with
  | [.int .i64 pid] => gOk s pid ∧ ∀ ao cap, N (gGone s pid ao cap).1 (.bool (gGone s pid ao cap).2)
  | _ => False
def putM (s : Grp) (args : List SV) (N : Grp → SV → Prop) : Prop := match args with
  | [.int .i64 pid, .str name] => (gOk s pid ∧ keysOk s.gs) ∧ ∀ ao cap, N (gPut s pid name ao cap).1 (.int .i64 (gPut s pid name ao cap).2)
  | _ => False
def removeM (s : Grp) (args : List SV) (N : Grp → SV → Prop) : Prop := match args with
  | [.str name] => s.notes.length ≤ 100000000 ∧ N (gRemove s name).1 (.int .i64 (gRemove s name).2)
  | _ => False
def emptiedM (s : Grp) (args : List SV) (N : Grp → SV → Prop) : Prop := match args with
  | [] => ∀ ao cap, N (gEmptied s ao cap).1 (.tuple [.str ((gEmptied s ao cap).2.getD ⟨#[]⟩), .bool (gEmptied s ao cap).2.isSome])
  | _ => False
def newGC : Ctr := fun args hs N => match args with
  | [] => ∀ b bg bo, N (snoc hs (pkA b grpE ⟨bg, bo, none, 0, [], [], []⟩)) (.ptr (lenN hs) b 0)
  | _ => False

def gT1 : Tbl := [(176, idxSC 9)]
def gT2 : Tbl := (163, inl Try.prog gT1 false Try.f163 100) :: (158, inl Try.prog [] false Try.f158 100) :: (159, inl Try.prog [] false Try.f159 100) :: gT1
def idxFC (T : TypeId) (g : FuncId) : Ctr := fun args hs N => match args with
  | [.vec l ao n cap, .func (.func f) [] [.ptr lb b 0]] => f = g ∧ ∃ (xs : List ByteArray) (nm : ByteArray), nth hs l = some ⟨.sl ao cap, .vecL T 1 encS xs ByteArray.empty⟩ ∧ nth hs lb = some ⟨.blk b, .cells [.str nm] T⟩ ∧ (Nat.beq l lb = false ∧ n = xs.length ∧ xs.length ≤ 1000000000) ∧
      N hs (.int .i64 (idxFrom (fun x => sEq x nm) xs 0))
  | _ => False
end Go.Proofs.Ytkcmgcoppecfpaa

/- slices.Values: going through a row. -/
namespace Go.Proofs.Ytkcmgcoppecfpaa
open Go Go.RowKit

def valSY (fv : Value) (xs : List ByteArray) (R : Nat → List Ent) (Stop : List Ent → Prop) : YCtr := fun v args hs N => v = fv ∧ match hs with
  | e0 :: e1 :: e2 :: rest => ∃ i x, xs[i]? = some x ∧ args = [.str x] ∧ e2 = pk 0 (R i) ∧ N (e0 :: e1 :: pk 0 (R (i + 1)) :: rest) (.bool true) ∧ ∀ R', Stop R' → N (e0 :: e1 :: pk 0 R' :: rest) (.bool false)
  | _ => False
end Go.Proofs.Ytkcmgcoppecfpaa

/- Ports: names, Listening. -/
namespace Go.Proofs.Ytkcmgcoppecfpaa
open Go Go.RowKit

def namesPC : Ctr := fun args hs N => match args with
  | [.ptr l b 0] => match nth hs l with
    | some ⟨.blk b', .adt (σ := σ') p s⟩ => b' = b ∧ ∃ h : σ' = PS, AdtIs p psE ∧ wfS ((cast h s).sk.map skB) ∧
        ∀ ao cap bx, N (snoc (snoc hs ⟨.sl ao cap, .vecL 9 1 encS (sortS ((cast h s).sk.map skB)) ByteArray.empty⟩) ⟨.blk bx, .cells [.vec (lenN hs) ao (sortS ((cast h s).sk.map skB)).length cap] 56⟩) (.func (.func 135) [] [.ptr (lenN hs + 1) bx 0])
    | _ => False
  | _ => False
def pnT : Tbl := [(112, inl Try.prog [] true Try.f112 100), (111, srtSC 138 9), (110, inl Try.prog [] true Try.f110 100)]
def allPY (fv : Value) (ns : List ByteArray) (R : Nat → List Ent) (Stop : List Ent → Prop) : YCtr := fun v args hs N => v = fv ∧ match hs with
  | e0 :: e1 :: e2 :: e3 :: rest => ∃ i x, ns[i]? = some x ∧ args = [.str x] ∧ e3 = pk 0 (R i) ∧
      N (e0 :: e1 :: e2 :: pk 0 (R (i + 1)) :: rest) (.bool true) ∧ ∀ R', Stop R' → N (e0 :: e1 :: e2 :: pk 0 R' :: rest) (.bool false)
  | _ => False
end Go.Proofs.Ytkcmgcoppecfpaa

/- PortPlays: the ports and the document's go together (plain law). -/
namespace Go.Proofs.Ytkcmgcoppecfpaa
open Go Go.RowKit Go.Maps Go.Sort Go.Shelf

structure PL (s : PS) (r : RPs) (k : Nat) : Prop where
  asc : AscN RPt.name r.L
  ex : ∀ g ∈ r.L, ∃ x, mget s.sk (.s g.name) = some x ∧ x.cs = g.cs
  on : ∀ n x, mget s.sk (.s n) = some x → ∃ g ∈ r.L, g.name = n
  big : ∀ g ∈ r.L, g.name.size ≤ 100 ∧ g.cs.length ≤ 16
  gk : keysOk s.sk
  kd : ∀ e ∈ s.sk, keyKind e.1 = none
  ds : s.ds = r.ds
  dl : r.ds.length ≤ 16
  la : s.last = r.nx ∧ 0 ≤ r.nx ∧ r.nx ≤ (k : Int)
  len : r.L.length ≤ k

variable {s : PS} {r : RPs} {k : Nat}
theorem PL.find (h : PL s r k) (n : ByteArray) : (mget s.sk (.s n) = none ∧ qHas r.L n = false ∧ ∀ g ∈ r.L, g.name ≠ n) ∨ ∃ x L1 g L2, mget s.sk (.s n) = some x ∧ qHas r.L n = true ∧ r.L = L1 ++ g :: L2 ∧ qAt r.L n = L1.length ∧ g.name = n ∧ x.cs = g.cs ∧ qGet r n = g ∧ ∀ y ∈ L1 ++ L2, y.name ≠ n := by
  cases hh : qHas r.L n with
  | false =>
    have hno := nHas_none h.asc hh
    refine .inl ⟨?_, rfl, hno⟩
    cases hm : mget s.sk (.s n) with
    | none => rfl
    | some x =>
      obtain ⟨g, hg, e⟩ := h.on n x hm
      exact absurd e (hno g hg)
  | true =>
    obtain ⟨L1, g, L2, h1, h2, h3, h4, h5⟩ := nHas_split h.asc hh
    obtain ⟨x, hx, hc⟩ := h.ex g (by rw [h1]; simp)
    rw [h3] at hx
    refine .inr ⟨x, L1, g, L2, hx, rfl, h1, h2, h3, hc, ?_, fun y hy => ?_⟩
    · unfold qGet
      rw [show qAt r.L n = L1.length from h2, h1]
      simp [List.getD]
    · rcases List.mem_append.1 hy with hy | hy
      · exact h4 y hy
      · exact h5 y hy
theorem PL.psok (h : PL s r k) (hk : k ≤ 1000) : psOk s := by
  have hn := names_eq h.gk h.kd h.asc (fun g hg => by obtain ⟨x, hx, _⟩ := h.ex g hg; exact ⟨x, hx⟩) h.on
  have hl := names_len hn
  have := h.len
  have := h.la
  have := h.dl
  refine ⟨h.gk, by omega, by rw [h.ds]; omega, fun e he => ?_, by omega⟩
  obtain ⟨n, e1⟩ := keyS_of (h.kd e he)
  have h1 : mget s.sk (.s n) = some e.2 := by rw [← e1]; exact mget_of_mem h.gk he
  obtain ⟨g, hg, rfl⟩ := h.on n e.2 h1
  obtain ⟨x, hx, hc⟩ := h.ex g hg
  rw [h1] at hx
  obtain rfl := Option.some.inj hx
  rw [hc]
  have := (h.big g hg).2
  omega
theorem PL.rpok (h : PL s r k) (hk : k ≤ 1000) : rpOk r := by
  have := h.len
  have := h.la
  have := h.dl
  exact ⟨by omega, by omega, fun g hg => by have := (h.big g hg).2; omega, by omega⟩
theorem PL.mono (h : PL s r k) {k' : Nat} (hk : k ≤ k') : PL s r k' :=
  ⟨h.asc, h.ex, h.on, h.big, h.gk, h.kd, h.ds, h.dl, ⟨h.la.1, h.la.2.1, by have := h.la.2.2; omega⟩, by have := h.len; omega⟩
theorem PL.empty (bm : Nat) : PL ⟨bm, [], none, 0, [], 0⟩ ⟨none, 0, [], 0, none, 0, []⟩ 0 := by
  refine ⟨List.Pairwise.nil, ?_, ?_, ?_, List.Pairwise.nil, ?_, rfl, by simp, by simp, by simp⟩ <;> simp [mget]
theorem keys_skB (es : List (Key × Sk)) : sortS (es.map skB) = sortS es := by
  unfold sortS
  rw [List.map_map]
  rfl
theorem PL.names (h : PL s r k) : sortS (s.sk.map skB) = r.L.map RPt.name := by
  rw [keys_skB]
  exact names_eq h.gk h.kd h.asc (fun g hg => by obtain ⟨x, hx, _⟩ := h.ex g hg; exact ⟨x, hx⟩) h.on
theorem keysOk_skB {es : List (Key × Sk)} (h : keysOk es) : keysOk (es.map skB) := by
  unfold keysOk at *
  rw [List.pairwise_map]
  exact h
theorem PL.wfs (h : PL s r k) (hk : k ≤ 1000) : wfS (s.sk.map skB) := by
  have h1 := h.names
  have hl := names_len h1
  have hn := h.len
  refine ⟨keysOk_skB h.gk, by omega, fun e he => ?_⟩
  obtain ⟨e0, he0, rfl⟩ := List.mem_map.1 he
  obtain ⟨n, e1⟩ := keyS_of (h.kd e0 he0)
  obtain ⟨g, hg, rfl⟩ := h.on n e0.2 (by rw [← e1]; exact mget_of_mem h.gk he0)
  have := (h.big g hg).1
  simp only [skB]
  rw [e1]
  simp only [keyStr]
  unfold maxLen
  have e2 : g.name.data.toList.length = g.name.size := by rw [Array.length_toList]; rfl
  rw [e2]
  omega
theorem PL.dsame (h : PL s r k) {ds : List DN} (hd : ds.length ≤ 16) (ao : Option Addr) (cap : Nat) (ao' : Option Addr) (cap' : Nat) : PL { s with aoD := ao, capD := cap, ds := ds } { r with aoD := ao', capD := cap', ds := ds } k :=
  ⟨h.asc, h.ex, h.on, h.big, h.gk, h.kd, rfl, hd, h.la, h.len⟩
theorem dAdd_len {ds : List DN} (h : ds.length ≤ 16) (pid : Int) (text : ByteArray) : (dAdd ds pid text).1.length ≤ 16 := by
  unfold dAdd
  split
  · exact h
  · split
    · exact h
    · rename_i hc
      simp only [decide_eq_false_iff_not] at hc
      simp; omega
theorem dTake_len {ds : List DN} (h : ds.length ≤ 16) : (dTake ds).1.length ≤ 16 := by
  unfold dTake
  split
  · simp
  · simp at h ⊢; omega
theorem PL.send (h : PL s r k) (pid : Int) (text : ByteArray) (ao : Option Addr) (cap : Nat) (ao' : Option Addr) (cap' : Nat) : (dAdd s.ds pid text).2 = (dAdd r.ds pid text).2 ∧ PL { s with aoD := ao, capD := cap, ds := (dAdd s.ds pid text).1 } { r with aoD := ao', capD := cap', ds := (dAdd r.ds pid text).1 } k := by
  rw [h.ds]
  exact ⟨rfl, h.dsame (dAdd_len h.dl pid text) ao cap ao' cap'⟩
theorem PL.recv (h : PL s r k) (ao : Option Addr) (cap : Nat) (ao' : Option Addr) (cap' : Nat) : (dTake s.ds).2 = (dTake r.ds).2 ∧ PL { s with aoD := ao, capD := cap, ds := (dTake s.ds).1 } { r with aoD := ao', capD := cap', ds := (dTake r.ds).1 } k := by
  rw [h.ds]
  exact ⟨rfl, h.dsame (dTake_len h.dl) ao cap ao' cap'⟩
theorem PL.wait (h : PL s r k) (n : ByteArray) : pWait s n = (qwG r n).cs := by
  unfold pWait qwG
  rcases h.find n with ⟨h1, h2, _⟩ | ⟨x, L1, g, L2, h1, h2, _, _, _, h3, h4, _⟩
  · rw [h1, h2]; rfl
  · rw [h1, h2, h4]; exact h3
theorem PL.listen (h : PL s r k) (n : ByteArray) (hn : n.size ≤ 100) (nb : Nat) (ao : Option Addr) (cap : Nat) : (pListen s n nb).2 = (qListen r n ao cap).2 ∧ PL (pListen s n nb).1 (qListen r n ao cap).1 (k + 1) := by
  unfold pListen qListen
  cases he : sEq n ⟨#[]⟩ with
  | true => exact ⟨rfl, h.mono (Nat.le_succ k)⟩
  | false =>
    rcases h.find n with ⟨h1, h2, hno⟩ | ⟨x, L1, g, L2, h1, h2, _⟩
    · rw [h1, h2]
      refine ⟨rfl, asc_ins h.asc hno rfl, fun y hy => ?_, fun m z hz => ?_, fun y hy => ?_, keysOk_mset h.gk, fun e he => ?_, h.ds, h.dl, ⟨h.la.1, h.la.2.1, by have := h.la.2.2; dsimp only; omega⟩, ?_⟩
      · rcases mem_ins.1 hy with rfl | hy
        · exact ⟨⟨nb, none, 0, []⟩, by dsimp only; rw [mget_str, if_pos rfl], rfl⟩
        · obtain ⟨z, hz, hc⟩ := h.ex y hy
          exact ⟨z, by dsimp only; rw [mget_str, if_neg (hno y hy)]; exact hz, hc⟩
      · dsimp only at hz
        rw [mget_str] at hz
        by_cases hm : m = n
        · exact ⟨_, mem_ins.2 (.inl rfl), hm.symm⟩
        · rw [if_neg hm] at hz
          obtain ⟨y, hy, e⟩ := h.on m z hz
          exact ⟨y, mem_ins.2 (.inr hy), e⟩
      · rcases mem_ins.1 hy with rfl | hy
        · exact ⟨hn, by simp⟩
        · exact h.big y hy
      · rcases mem_mset he with rfl | he
        · rfl
        · exact h.kd e he
      · have h5 := congrArg List.length (List.take_append_drop (qAt r.L n) r.L)
        have := h.len
        simp only [List.length_append, List.length_cons] at h5 ⊢
        omega
    · rw [h1, h2]
      exact ⟨rfl, h.mono (Nat.le_succ k)⟩
theorem PL.close (h : PL s r k) (n : ByteArray) (ao : Option Addr) (cap : Nat) : (pClose s n).2 = (qClose r n ao cap).2 ∧ PL (pClose s n).1 (qClose r n ao cap).1 (k + 1) := by
  unfold pClose qClose
  rcases h.find n with ⟨h1, h2, hno⟩ | ⟨x, L1, g, L2, h1, h2, hs, hat, hg, hc, hget, hne⟩
  · rw [h1, h2]
    exact ⟨rfl, h.mono (Nat.le_succ k)⟩
  · rw [h1, h2]
    dsimp only
    have e1 : r.L.take (qAt r.L n) ++ r.L.drop (qAt r.L n + 1) = L1 ++ L2 := by
      rw [hat, hs, List.take_left]
      congr 1
      rw [show L1 ++ g :: L2 = (L1 ++ [g]) ++ L2 by simp, List.drop_left' (by simp)]
    rw [e1]
    have hold : ∀ y ∈ L1 ++ L2, y ∈ r.L := fun y hy => by rw [hs]; simp at hy ⊢; rcases hy with h | h <;> simp [h]
    refine ⟨rfl, ?_, fun y hy => ?_, fun m z hz => ?_, fun y hy => h.big y (hold y hy), keysOk_mdel h.gk, fun e he => h.kd e (mem_mdel he), h.ds, h.dl, ⟨h.la.1, h.la.2.1, by have := h.la.2.2; dsimp only; omega⟩, ?_⟩
    · have ha := h.asc
      unfold AscN at ha ⊢
      rw [hs] at ha
      exact ha.sublist (by simp)
    · obtain ⟨z, hz, hc⟩ := h.ex y (hold y hy)
      exact ⟨z, by dsimp only; rw [mget_strD h.gk, if_neg (hne y hy)]; exact hz, hc⟩
    · dsimp only at hz
      rw [mget_strD h.gk] at hz
      by_cases hm : m = n
      · rw [if_pos hm] at hz; cases hz
      · rw [if_neg hm] at hz
        obtain ⟨y, hy, e⟩ := h.on m z hz
        refine ⟨y, ?_, e⟩
        rw [hs] at hy
        simp only [List.mem_append, List.mem_cons] at hy ⊢
        rcases hy with hy | rfl | hy
        · exact .inl hy
        · exact absurd (e.symm.trans hg) hm
        · exact .inr hy
    · have := h.len
      rw [hs] at this
      simp at this ⊢; omega
theorem PL.upd (h : PL s r k) {n : ByteArray} {x : Sk} {L1 L2 : List RPt} {g : RPt} (hs : r.L = L1 ++ g :: L2) (hg : g.name = n) (hne : ∀ y ∈ L1 ++ L2, y.name ≠ n) {cs : List CN} (hc : cs.length ≤ 16) (xb : Nat) (ao ao' : Option Addr) (cap cap' : Nat) {v : Int} (hv : 0 ≤ v ∧ v ≤ (k : Int) + 1) :
    PL { s with sk := mset s.sk (.s n) ⟨xb, ao, cap, cs⟩, last := v } { r with L := L1 ++ ⟨g.name, ao', cap', cs⟩ :: L2, nx := v } (k + 1) := by
  have hmem : ∀ y, y ∈ L1 ++ (⟨g.name, ao', cap', cs⟩ : RPt) :: L2 ↔ y = ⟨g.name, ao', cap', cs⟩ ∨ y ∈ L1 ++ L2 := fun y => by simp [or_left_comm]
  have hold : ∀ y ∈ L1 ++ L2, y ∈ r.L := fun y hy => by rw [hs]; simp at hy ⊢; rcases hy with h | h <;> simp [h]
  have hga : g ∈ r.L := by rw [hs]; simp
  refine ⟨?_, fun y hy => ?_, fun m z hz => ?_, fun y hy => ?_, keysOk_mset h.gk, fun e he => ?_, h.ds, h.dl, ⟨rfl, hv.1, by have := hv.2; dsimp only; omega⟩, ?_⟩
  · have ha := h.asc
    unfold AscN at ha ⊢
    rw [hs] at ha
    simp only [List.pairwise_append, List.pairwise_cons, List.mem_cons, forall_eq_or_imp] at ha ⊢
    exact ha
  · rcases (hmem y).1 hy with rfl | hy
    · exact ⟨⟨xb, ao, cap, cs⟩, by dsimp only; rw [mget_str, if_pos hg], rfl⟩
    · obtain ⟨z, hz, hc⟩ := h.ex y (hold y hy)
      exact ⟨z, by dsimp only; rw [mget_str, if_neg (hne y hy)]; exact hz, hc⟩
  · dsimp only at hz
    rw [mget_str] at hz
    by_cases hm : m = n
    · exact ⟨_, (hmem _).2 (.inl rfl), by rw [hm]; exact hg⟩
    · rw [if_neg hm] at hz
      obtain ⟨y, hy, e⟩ := h.on m z hz
      refine ⟨y, (hmem y).2 (.inr ?_), e⟩
      rw [hs] at hy
      simp only [List.mem_append, List.mem_cons] at hy ⊢
      rcases hy with hy | rfl | hy
      · exact .inl hy
      · exact absurd (e.symm.trans hg) hm
      · exact .inr hy
  · rcases (hmem y).1 hy with rfl | hy
    · exact ⟨(h.big g hga).1, hc⟩
    · exact h.big y (hold y hy)
  · rcases mem_mset he with rfl | he
    · rfl
    · exact h.kd e he
  · have := h.len
    rw [hs] at this
    simp at this ⊢; omega
theorem qSet_split {L1 L2 : List RPt} {g : RPt} {n : ByteArray} (hs : r.L = L1 ++ g :: L2) (hat : qAt r.L n = L1.length) (hget : qGet r n = g) (cs : List CN) (ao : Option Addr) (cap : Nat) : qSet r n cs ao cap = L1 ++ ⟨g.name, ao, cap, cs⟩ :: L2 := by
  unfold qSet
  rw [hget, hat, hs, List.set_append_right _ _ (Nat.le_refl _)]
  simp
theorem PL.connect (h : PL s r k) (n text : ByteArray) (ao : Option Addr) (cap : Nat) (ao' : Option Addr) (cap' : Nat) : (pConnect s n text ao cap).2 = (qConnect r n text ao' cap').2 ∧ PL (pConnect s n text ao cap).1 (qConnect r n text ao' cap').1 (k + 1) := by
  unfold pConnect qConnect
  rcases h.find n with ⟨h1, h2, hno⟩ | ⟨x, L1, g, L2, h1, h2, hs, hat, hg, hc, hget, hne⟩
  · rw [h1, h2]
    exact ⟨rfl, h.mono (Nat.le_succ k)⟩
  · rw [h1, h2, hget]
    simp only [Bool.not_true, Bool.false_or, hc]
    cases ht : decide ((text.size : Int) > 200) with
    | true => exact ⟨rfl, h.mono (Nat.le_succ k)⟩
    | false =>
      dsimp only
      cases hf : decide ((g.cs.length : Int) ≥ 16) with
      | true => exact ⟨rfl, h.mono (Nat.le_succ k)⟩
      | false =>
        simp only [decide_eq_false_iff_not] at hf
        rw [qSet_split hs hat hget, h.la.1]
        exact ⟨rfl, h.upd (x := x) hs hg hne (by simp; omega) x.b ao ao' cap cap' (by have := h.la.2; omega)⟩
theorem PL.accept (h : PL s r k) (n : ByteArray) (ao : Option Addr) (cap : Nat) (ao' : Option Addr) (cap' : Nat) : (pAccept s n ao cap).2 = (qAccept r n ao' cap').2 ∧ PL (pAccept s n ao cap).1 (qAccept r n ao' cap').1 (k + 1) := by
  unfold pAccept qAccept
  rcases h.find n with ⟨h1, h2, hno⟩ | ⟨x, L1, g, L2, h1, h2, hs, hat, hg, hc, hget, hne⟩
  · rw [h1, h2]
    exact ⟨rfl, h.mono (Nat.le_succ k)⟩
  · rw [h1, h2, hget]
    dsimp only
    rw [hc]
    have hb := (h.big g (by rw [hs]; simp)).2
    cases hcs : g.cs with
    | nil => exact ⟨rfl, h.mono (Nat.le_succ k)⟩
    | cons c cs =>
      rw [hcs] at hb
      dsimp only
      rw [qSet_split hs hat hget]
      have := h.upd (x := x) hs hg hne (cs := cs) (by simp at hb; omega) x.b ao ao' cap cap' (v := s.last) (by have := h.la; omega)
      have e : ({ r with L := L1 ++ ⟨g.name, ao', cap', cs⟩ :: L2, nx := s.last } : RPs) = { r with L := L1 ++ ⟨g.name, ao', cap', cs⟩ :: L2 } := by rw [h.la.1]
      rw [e] at this
      exact ⟨rfl, this⟩
end Go.Proofs.Ytkcmgcoppecfpaa

/- PortPlays: its calls. -/
namespace Go.Proofs.Ytkcmgcoppecfpaa
open Go Go.RowKit

structure StepP where
  (what pid : Int) (name text : ByteArray)
def encStepP (s : StepP) : List SV := [.int .i64 s.what, .int .i64 s.pid, .str s.name, .str s.text]
def StepP.zero : StepP := ⟨0, 0, ⟨#[]⟩, ⟨#[]⟩⟩
def connsC : Ctr := fun args hs N => match args with
  | [.vec l ao n cap, .vec l' ao' n' cap'] => ∃ xs : List CN, nth hs l = some ⟨.sl ao cap, .vecL 41 2 encCN xs CN.zero⟩ ∧ nth hs l' = some ⟨.sl ao' cap', .vecL 41 2 encCN xs CN.zero⟩ ∧ (Nat.beq l l' = false ∧ n = xs.length ∧ n' = xs.length ∧ xs.length ≤ 1000000) ∧ N hs (.bool true)
  | [.vec l ao n cap, .raw (.slice none 0 0)] => n = 0 ∧ N hs (.bool true)
  | _ => False
def textsC : Ctr := fun args hs N => match args with
  | [.vec l ao n cap, .vec l' ao' n' cap'] => ∃ xs : List ByteArray, nth hs l = some ⟨.sl ao cap, .vecL 9 1 encS xs ByteArray.empty⟩ ∧ nth hs l' = some ⟨.sl ao' cap', .vecL 9 1 encS xs ByteArray.empty⟩ ∧ (Nat.beq l l' = false ∧ n = xs.length ∧ n' = xs.length ∧ xs.length ≤ 1000000) ∧ N hs (.bool true)
  | _ => False
def listC : Ctr := fun args hs N => match args with
  | [.func (.func g) [] [.ptr la ba 0], .ptr lb bx 0] => g = 29 ∧ ∃ (s : PS) (r : RPs) (k lp bp : Nat), nth hs la = some ⟨.blk ba, .cells [.raw (.slice none 0 0)] 56⟩ ∧ nth hs lb = some ⟨.blk bx, .cells [.ptr lp bp 0] 24⟩ ∧ nth hs lp = some (pkA bp psE s) ∧ distinct [lp, lb, la] = true ∧ (PL s r k ∧ k ≤ 150) ∧
      ∀ ao cap, N (snoc (setN hs la ⟨.blk ba, .cells [.vec (lenN hs) ao r.L.length cap] 56⟩) ⟨.sl ao cap, .vecL 9 1 encS (r.L.map RPt.name) ByteArray.empty⟩) (.tuple [])
  | _ => False
def newPsC : Ctr := fun args hs N => match args with
  | [] => ∀ b bm, N (snoc hs (pkA b psE ⟨bm, [], none, 0, [], 0⟩)) (.ptr (lenN hs) b 0)
  | _ => False
def tru10C : Ctr := fun args hs N => match args with
  | [] => N hs (.bool true)
  | _ => False
def qwT : Tbl := [(70, qatO)]
def plT : Tbl := (10, tru10C) :: (11, newPsC) :: (25, connsC) :: (30, textsC) :: (12, adtC psE plistenM) :: (14, adtC psE pcloseM) :: (16, adtC psE pconnectM) :: (18, adtC psE pacceptM) :: (20, adtC psE psendM) :: (22, adtC psE precvM) :: (24, adtC psE pdgM) :: (26, pwaitC) ::
  (13, adtC rpE qlistenM) :: (15, adtC rpE qcloseM) :: (17, adtC rpE qconnectM) :: (19, adtC rpE qacceptM) :: (21, adtC rpE qsendM) :: (23, adtC rpE qrecvM) :: (27, inl Try.prog qwT true Try.f27 300) :: (28, inl Try.prog [] true Try.f28 100) :: (76, listC) :: []
end Go.Proofs.Ytkcmgcoppecfpaa

/- Slots of which nothing is said, in short. -/
namespace Go.Proofs.Ytkcmgcoppecfpaa
open Go Go.RowKit
def rawR (u : Nat → Value) (k : Nat) (t : List SV) : Nat → List SV
  | 0 => t
  | n + 1 => SV.raw (u k) :: rawR u (k + 1) t n
def rawE (t : List SV) : Nat → List SV
  | 0 => t
  | n + 1 => SV.raw (Value.tuple #[]) :: rawE t n
end Go.Proofs.Ytkcmgcoppecfpaa

