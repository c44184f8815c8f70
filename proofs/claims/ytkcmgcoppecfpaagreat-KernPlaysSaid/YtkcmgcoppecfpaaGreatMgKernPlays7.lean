import Derived.Test.YtkcmgcoppecfpaaGreatMgKernPlays6
import Derived.Test.YtkcmgcoppecfpaaGreatMgKernPlays5
set_option linter.unusedVariables false
set_option linter.unusedSimpArgs false
set_option linter.unnecessarySimpa false
set_option maxHeartbeats 0
set_option maxRecDepth 100000
namespace Go.Proofs.YtkcmgcoppecfpaaGreat
open Go Go.RowKit

theorem pNew_run (K : List Frm → Sy → Prop) (N : List Ent → SV → Prop) (room : Int) : (run Tryz.prog [] false [] K (retP Tryz.prog Tryz.f48.results.toList N) 600 [.code (bodyOf Tryz.f48)] ⟨padTo 13 [.int .i64 room], []⟩) = ( ∀ (b : Nat), (true = true ∧ true = true) ∧ (true = true ∧ true = true) ∧ true = true ∧ ∀ (b_1 : Nat), (b = b ∧ some IntKind.i64 = some IntKind.i64 ∧ some IntKind.i64 = some IntKind.i64) ∧ (true = true ∧ true = true) ∧ true = true ∧ ∀ (b_2 : Nat), N [Ent.mk (Loc.blk b) (SObj.mapV (some IntKind.i64) [(Key.i IntKind.i64 (1 : Int), .ptr 1 b_1 0)]), Ent.mk (Loc.blk b_1) (SObj.cells [.int .i64 (1 : Int), .int .i64 (0 : Int), .str (ByteArray.mk #[]), .bool false, .int .i64 (0 : Int), .str (ByteArray.mk #[]), .bool false, .bool false] 121), Ent.mk (Loc.blk b_2) (SObj.cells [.map 0 b, .int .i64 (mnI (mxI room (0 : Int)) (64 : Int)), .int .i64 (1 : Int)] 119)] (.ptr 2 b_2 0)) := by kernel_rfl
theorem pGet_none (K : List Frm → Sy → Prop) (N : List Ent → SV → Prop) (s : PT) (b : Nat) (rest : List Ent) (pid : Int) : (run Tryz.prog [] false [] K (retP Tryz.prog Tryz.f16.results.toList N) 600 [.code (bodyOf Tryz.f16)] ⟨padTo 24 [.ptr 0 b 0, .int .i64 pid], [⟨.blk b, .cells [.map 1 s.bm, .int .i64 s.room, .int .i64 s.last] 119⟩, ⟨.blk s.bm, .map1 (some .i64) encB1 (s.ps.map pkey) (.i .i64 pid) none⟩, pk 0 rest]⟩) = ( ∀ (b_1 : Nat), b = b ∧ (s.1 = s.1 ∧ Key.i IntKind.i64 pid = Key.i IntKind.i64 pid ∧ some IntKind.i64 = some IntKind.i64) ∧ (true = true ∧ true = true) ∧ (b_1 = b_1 ∧ true = true ∧ 6 = 6 ∧ 6 ≤ 6) ∧ (b_1 = b_1 ∧ 6 = 6) ∧ N [Ent.mk (Loc.blk b) (SObj.cells [.map 1 s.1, .int .i64 s.3, .int .i64 s.4] 119), Ent.mk (Loc.blk s.1) (SObj.map1 (some IntKind.i64) encB1 (List.map pkey s.2) (Key.i IntKind.i64 pid) (@none SV)), pk 0 rest, Ent.mk (Loc.blk b_1) (SObj.cells [.int .i64 (0 : Int), .int .i64 (0 : Int), .str (ByteArray.mk #[]), .bool false, .int .i64 (0 : Int), .str (ByteArray.mk #[])] 38)] (SV.tuple [.agg [.int .i64 (0 : Int), .int .i64 (0 : Int), .str (ByteArray.mk #[]), .bool false, .int .i64 (0 : Int), .str (ByteArray.mk #[])], .bool false])) := by kernel_rfl
theorem pGet_some (K : List Frm → Sy → Prop) (N : List Ent → SV → Prop) (s : PT) (b pb : Nat) (r : PR) (rest : List Ent) (pid : Int) : (run Tryz.prog [] false [] K (retP Tryz.prog Tryz.f16.results.toList N) 600 [.code (bodyOf Tryz.f16)] ⟨padTo 24 [.ptr 0 b 0, .int .i64 pid], [⟨.blk b, .cells [.map 1 s.bm, .int .i64 s.room, .int .i64 s.last] 119⟩, ⟨.blk s.bm, .map1 (some .i64) encB1 (s.ps.map pkey) (.i .i64 pid) (some (.ptr 2 pb 0))⟩, ⟨.blk pb, .cells (encR r) 121⟩, pk 0 rest]⟩) = ( ∀ (b_1 : Nat), b = b ∧ (s.1 = s.1 ∧ Key.i IntKind.i64 pid = Key.i IntKind.i64 pid ∧ some IntKind.i64 = some IntKind.i64) ∧ (pb = pb ∧ 6 = 6) ∧ (b_1 = b_1 ∧ true = true ∧ 6 = 6 ∧ 6 ≤ 6) ∧ (b_1 = b_1 ∧ 6 = 6) ∧ N [Ent.mk (Loc.blk b) (SObj.cells [.map 1 s.1, .int .i64 s.3, .int .i64 s.4] 119), Ent.mk (Loc.blk s.1) (SObj.map1 (some IntKind.i64) encB1 (List.map pkey s.2) (Key.i IntKind.i64 pid) (some (.ptr 2 pb 0))), Ent.mk (Loc.blk pb) (SObj.cells [.int .i64 r.1, .int .i64 r.2, .str r.3, .bool r.4, .int .i64 r.5, .str r.6, .bool r.7, .bool r.8] 121), pk 0 rest, Ent.mk (Loc.blk b_1) (SObj.cells [.int .i64 r.1, .int .i64 r.2, .str r.3, .bool r.4, .int .i64 r.5, .str r.6] 38)] (SV.tuple [.agg [.int .i64 r.1, .int .i64 r.2, .str r.3, .bool r.4, .int .i64 r.5, .str r.6], .bool true])) := by kernel_rfl
theorem pSig_none (K : List Frm → Sy → Prop) (N : List Ent → SV → Prop) (s : PT) (b : Nat) (rest : List Ent) (pid : Int) : (run Tryz.prog [] false [] K (retP Tryz.prog Tryz.f59.results.toList N) 600 [.code (bodyOf Tryz.f59)] ⟨padTo 27 [.ptr 0 b 0, .int .i64 pid], [⟨.blk b, .cells [.map 1 s.bm, .int .i64 s.room, .int .i64 s.last] 119⟩, ⟨.blk s.bm, .map1 (some .i64) encB1 (s.ps.map pkey) (.i .i64 pid) none⟩, pk 0 rest]⟩) = ( b = b ∧ (s.1 = s.1 ∧ Key.i IntKind.i64 pid = Key.i IntKind.i64 pid ∧ some IntKind.i64 = some IntKind.i64) ∧ N [Ent.mk (Loc.blk b) (SObj.cells [.map 1 s.1, .int .i64 s.3, .int .i64 s.4] 119), Ent.mk (Loc.blk s.1) (SObj.map1 (some IntKind.i64) encB1 (List.map pkey s.2) (Key.i IntKind.i64 pid) (@none SV)), pk 0 rest] (SV.tuple [.bool false, .bool false])) := by kernel_rfl
theorem pSig_some (K : List Frm → Sy → Prop) (N : List Ent → SV → Prop) (s : PT) (b pb : Nat) (r : PR) (rest : List Ent) (pid : Int) : (run Tryz.prog [] false [] K (retP Tryz.prog Tryz.f59.results.toList N) 600 [.code (bodyOf Tryz.f59)] ⟨padTo 27 [.ptr 0 b 0, .int .i64 pid], [⟨.blk b, .cells [.map 1 s.bm, .int .i64 s.room, .int .i64 s.last] 119⟩, ⟨.blk s.bm, .map1 (some .i64) encB1 (s.ps.map pkey) (.i .i64 pid) (some (.ptr 2 pb 0))⟩, ⟨.blk pb, .cells (encR r) 121⟩, pk 0 rest]⟩) = ( b = b ∧ (s.1 = s.1 ∧ Key.i IntKind.i64 pid = Key.i IntKind.i64 pid ∧ some IntKind.i64 = some IntKind.i64) ∧ pb = pb ∧ pb = pb ∧ N [Ent.mk (Loc.blk b) (SObj.cells [.map 1 s.1, .int .i64 s.3, .int .i64 s.4] 119), Ent.mk (Loc.blk s.1) (SObj.map1 (some IntKind.i64) encB1 (List.map pkey s.2) (Key.i IntKind.i64 pid) (some (.ptr 2 pb 0))), Ent.mk (Loc.blk pb) (SObj.cells [.int .i64 r.1, .int .i64 r.2, .str r.3, .bool r.4, .int .i64 r.5, .str r.6, .bool r.7, .bool r.8] 121), pk 0 rest] (SV.tuple [.bool r.7, .bool r.8])) := by kernel_rfl
theorem pKill_none (K : List Frm → Sy → Prop) (N : List Ent → SV → Prop) (s : PT) (b : Nat) (rest : List Ent) (pid sig : Int) : (run Tryz.prog ptL false [] K (retP Tryz.prog Tryz.f73.results.toList N) 600 [.code (bodyOf Tryz.f73)] ⟨padTo 32 [.ptr 0 b 0, .int .i64 pid, .int .i64 sig], [⟨.blk b, .cells [.map 1 s.bm, .int .i64 s.room, .int .i64 s.last] 119⟩, ⟨.blk s.bm, .map1 (some .i64) encB1 (s.ps.map pkey) (.i .i64 pid) none⟩, pk 0 rest]⟩) = ( true = true ∧ b = b ∧ (s.1 = s.1 ∧ Key.i IntKind.i64 pid = Key.i IntKind.i64 pid ∧ some IntKind.i64 = some IntKind.i64) ∧ N [Ent.mk (Loc.blk b) (SObj.cells [.map 1 s.1, .int .i64 s.3, .int .i64 s.4] 119), Ent.mk (Loc.blk s.1) (SObj.map1 (some IntKind.i64) encB1 (List.map pkey s.2) (Key.i IntKind.i64 pid) (@none SV)), pk 0 rest] (.int .i64 (80 : Int))) := by kernel_rfl
theorem pKill_some (K : List Frm → Sy → Prop) (N : List Ent → SV → Prop) (s : PT) (b pb : Nat) (r : PR) (rest : List Ent) (pid sig : Int) : (run Tryz.prog ptL false [] K (retP Tryz.prog Tryz.f73.results.toList N) 600 [.code (bodyOf Tryz.f73)] ⟨padTo 32 [.ptr 0 b 0, .int .i64 pid, .int .i64 sig], [⟨.blk b, .cells [.map 1 s.bm, .int .i64 s.room, .int .i64 s.last] 119⟩, ⟨.blk s.bm, .map1 (some .i64) encB1 (s.ps.map pkey) (.i .i64 pid) (some (.ptr 2 pb 0))⟩, ⟨.blk pb, .cells (encR r) 121⟩, pk 0 rest]⟩) = ( true = true ∧ b = b ∧ (s.1 = s.1 ∧ Key.i IntKind.i64 pid = Key.i IntKind.i64 pid ∧ some IntKind.i64 = some IntKind.i64) ∧ pb = pb ∧ match !!r.4 with
 | true => N [Ent.mk (Loc.blk b) (SObj.cells [.map 1 s.1, .int .i64 s.3, .int .i64 s.4] 119), Ent.mk (Loc.blk s.1) (SObj.map1 (some IntKind.i64) encB1 (List.map pkey s.2) (Key.i IntKind.i64 pid) (some (.ptr 2 pb 0))), Ent.mk (Loc.blk pb) (SObj.cells [.int .i64 r.1, .int .i64 r.2, .str r.3, .bool r.4, .int .i64 r.5, .str r.6, .bool r.7, .bool r.8] 121), pk 0 rest] (.int .i64 (80 : Int))
 | false => match pid == (1 : Int) with
  | true => N [Ent.mk (Loc.blk b) (SObj.cells [.map 1 s.1, .int .i64 s.3, .int .i64 s.4] 119), Ent.mk (Loc.blk s.1) (SObj.map1 (some IntKind.i64) encB1 (List.map pkey s.2) (Key.i IntKind.i64 pid) (some (.ptr 2 pb 0))), Ent.mk (Loc.blk pb) (SObj.cells [.int .i64 r.1, .int .i64 r.2, .str r.3, .bool r.4, .int .i64 r.5, .str r.6, .bool r.7, .bool r.8] 121), pk 0 rest] (.int .i64 (80 : Int))
  | false => match sig == (15 : Int) with
   | true => (pb = pb ∧ true = true ∧ 1 = 1 ∧ 7 ≤ 8) ∧ N [Ent.mk (Loc.blk b) (SObj.cells [.map 1 s.1, .int .i64 s.3, .int .i64 s.4] 119), Ent.mk (Loc.blk s.1) (SObj.map1 (some IntKind.i64) encB1 (List.map pkey s.2) (Key.i IntKind.i64 pid) (some (.ptr 2 pb 0))), Ent.mk (Loc.blk pb) (SObj.cells [.int .i64 r.1, .int .i64 r.2, .str r.3, .bool r.4, .int .i64 r.5, .str r.6, .bool true, .bool r.8] 121), pk 0 rest] (.int .i64 (0 : Int))
   | false => match sig == (9 : Int) with
    | true => (pb = pb ∧ true = true ∧ 1 = 1 ∧ 8 ≤ 8) ∧ N [Ent.mk (Loc.blk b) (SObj.cells [.map 1 s.1, .int .i64 s.3, .int .i64 s.4] 119), Ent.mk (Loc.blk s.1) (SObj.map1 (some IntKind.i64) encB1 (List.map pkey s.2) (Key.i IntKind.i64 pid) (some (.ptr 2 pb 0))), Ent.mk (Loc.blk pb) (SObj.cells [.int .i64 r.1, .int .i64 r.2, .str r.3, .bool r.4, .int .i64 r.5, .str r.6, .bool r.7, .bool true] 121), pk 0 rest] (.int .i64 (0 : Int))
    | false => N [Ent.mk (Loc.blk b) (SObj.cells [.map 1 s.1, .int .i64 s.3, .int .i64 s.4] 119), Ent.mk (Loc.blk s.1) (SObj.map1 (some IntKind.i64) encB1 (List.map pkey s.2) (Key.i IntKind.i64 pid) (some (.ptr 2 pb 0))), Ent.mk (Loc.blk pb) (SObj.cells [.int .i64 r.1, .int .i64 r.2, .str r.3, .bool r.4, .int .i64 r.5, .str r.6, .bool r.7, .bool r.8] 121), pk 0 rest] (.int .i64 (80 : Int))) := by kernel_rfl
theorem pSpawn_none (K : List Frm → Sy → Prop) (N : List Ent → SV → Prop) (s : PT) (b : Nat) (rest : List Ent) (pid : Int) (group cmd : ByteArray) : (run Tryz.prog ptB false [] K (retP Tryz.prog Tryz.f53.results.toList N) 900 [.code (bodyOf Tryz.f53)] ⟨padTo 28 [.ptr 0 b 0, .int .i64 pid, .str group, .str cmd], [⟨.blk b, .cells [.map 1 s.bm, .int .i64 s.room, .int .i64 s.last] 119⟩, ⟨.blk s.bm, .map1 (some .i64) encB1 (s.ps.map pkey) (.i .i64 pid) none⟩, pk 0 rest]⟩) = ( true = true ∧ b = b ∧ (s.1 = s.1 ∧ Key.i IntKind.i64 pid = Key.i IntKind.i64 pid ∧ some IntKind.i64 = some IntKind.i64) ∧ N [Ent.mk (Loc.blk b) (SObj.cells [.map 1 s.1, .int .i64 s.3, .int .i64 s.4] 119), Ent.mk (Loc.blk s.1) (SObj.map1 (some IntKind.i64) encB1 (List.map pkey s.2) (Key.i IntKind.i64 pid) (@none SV)), pk 0 rest] (SV.tuple [.int .i64 (0 : Int), .int .i64 (80 : Int)])) := by kernel_rfl
theorem pSpawn_some (K : List Frm → Sy → Prop) (N : List Ent → SV → Prop) (s : PT) (b pb : Nat) (r : PR) (rest : List Ent) (pid : Int) (group cmd : ByteArray) : (run Tryz.prog ptB false [] K (retP Tryz.prog Tryz.f53.results.toList N) 900 [.code (bodyOf Tryz.f53)] ⟨padTo 28 [.ptr 0 b 0, .int .i64 pid, .str group, .str cmd], [⟨.blk b, .cells [.map 1 s.bm, .int .i64 s.room, .int .i64 s.last] 119⟩, ⟨.blk s.bm, .map1 (some .i64) encB1 (s.ps.map pkey) (.i .i64 pid) (some (.ptr 2 pb 0))⟩, ⟨.blk pb, .cells (encR r) 121⟩, pk 0 rest]⟩) = ( true = true ∧ b = b ∧ (s.1 = s.1 ∧ Key.i IntKind.i64 pid = Key.i IntKind.i64 pid ∧ some IntKind.i64 = some IntKind.i64) ∧ pb = pb ∧ match !!r.4 with
 | true => N [Ent.mk (Loc.blk b) (SObj.cells [.map 1 s.1, .int .i64 s.3, .int .i64 s.4] 119), Ent.mk (Loc.blk s.1) (SObj.map1 (some IntKind.i64) encB1 (List.map pkey s.2) (Key.i IntKind.i64 pid) (some (.ptr 2 pb 0))), Ent.mk (Loc.blk pb) (SObj.cells [.int .i64 r.1, .int .i64 r.2, .str r.3, .bool r.4, .int .i64 r.5, .str r.6, .bool r.7, .bool r.8] 121), pk 0 rest] (SV.tuple [.int .i64 (0 : Int), .int .i64 (80 : Int)])
 | false => (true = true ∧ true = true) ∧ true = true ∧ true = true ∧ ∀ (b_1 : Nat), b = b ∧ true = true ∧ b = b ∧ s.1 = s.1 ∧ (Ent.mk (Loc.blk b) (SObj.cells [.map 1 s.1, .int .i64 s.3, .int .i64 s.4] 119) = Ent.mk (Loc.blk b) (SObj.cells [.map 1 s.1, .int .i64 s.3, .int .i64 s.4] 119) ∧ Ent.mk (Loc.blk s.1) (SObj.map1 (some IntKind.i64) encB1 (List.map pkey s.2) (Key.i IntKind.i64 pid) (some (.ptr 2 pb 0))) = Ent.mk (Loc.blk s.1) (SObj.map1 (some IntKind.i64) encB1 (List.map pkey s.2) (Key.i IntKind.i64 pid) (some (.ptr 2 pb 0))) ∧ Ent.mk (Loc.blk pb) (SObj.cells [.int .i64 r.1, .int .i64 r.2, .str r.3, .bool r.4, .int .i64 r.5, .str r.6, .bool r.7, .bool r.8] 121) = Ent.mk (Loc.blk pb) (SObj.cells [.int .i64 r.1, .int .i64 r.2, .str r.3, .bool r.4, .int .i64 r.5, .str r.6, .bool r.7, .bool r.8] 121) ∧ pk 0 rest = pk 0 rest ∧ Ent.mk (Loc.blk b_1) (SObj.cells [.int .i64 (0 : Int), .int .i64 pid, .str group, .bool false, .int .i64 (0 : Int), .str cmd] 38) = Ent.mk (Loc.blk b_1) (SObj.cells [.int .i64 (0 : Int), .int .i64 pid, .str group, .bool false, .int .i64 (0 : Int), .str cmd] 38) ∧ True) ∧ match decide (IntKind.wrap IntKind.i64 ((↑(List.length (List.map pkey s.2)) : Int) - (1 : Int)) ≥ s.3) with
  | true => N [Ent.mk (Loc.blk b) (SObj.cells [.map 1 s.1, .int .i64 s.3, .int .i64 s.4] 119), Ent.mk (Loc.blk s.1) (SObj.map1 (some IntKind.i64) encB1 (List.map pkey s.2) (Key.i IntKind.i64 pid) (some (.ptr 2 pb 0))), Ent.mk (Loc.blk pb) (SObj.cells [.int .i64 r.1, .int .i64 r.2, .str r.3, .bool r.4, .int .i64 r.5, .str r.6, .bool r.7, .bool r.8] 121), pk 0 rest, Ent.mk (Loc.blk b_1) (SObj.cells [.int .i64 (0 : Int), .int .i64 pid, .str group, .bool false, .int .i64 (0 : Int), .str cmd] 38)] (SV.tuple [.int .i64 (0 : Int), .int .i64 (81 : Int)])
  | false => b = b ∧ (b = b ∧ true = true ∧ 1 = 1 ∧ 3 ≤ 3) ∧ b = b ∧ (b_1 = b_1 ∧ true = true ∧ 1 = 1 ∧ 1 ≤ 6) ∧ b = b ∧ b_1 = b_1 ∧ (b_1 = b_1 ∧ 6 = 6) ∧ (true = true ∧ true = true) ∧ true = true ∧ ∀ (b_2 : Nat), (Ent.mk (Loc.blk b) (SObj.cells [.map 1 s.1, .int .i64 s.3, .int .i64 (IntKind.wrap IntKind.i64 (s.4 + (1 : Int)))] 119) = Ent.mk (Loc.blk b) (SObj.cells [.map 1 s.1, .int .i64 s.3, .int .i64 (IntKind.wrap IntKind.i64 (s.4 + (1 : Int)))] 119) ∧ Ent.mk (Loc.blk s.1) (SObj.map1 (some IntKind.i64) encB1 (List.map pkey s.2) (Key.i IntKind.i64 pid) (some (.ptr 2 pb 0))) = Ent.mk (Loc.blk s.1) (SObj.map1 (some IntKind.i64) encB1 (List.map pkey s.2) (Key.i IntKind.i64 pid) (some (.ptr 2 pb 0))) ∧ Ent.mk (Loc.blk pb) (SObj.cells [.int .i64 r.1, .int .i64 r.2, .str r.3, .bool r.4, .int .i64 r.5, .str r.6, .bool r.7, .bool r.8] 121) = Ent.mk (Loc.blk pb) (SObj.cells [.int .i64 r.1, .int .i64 r.2, .str r.3, .bool r.4, .int .i64 r.5, .str r.6, .bool r.7, .bool r.8] 121) ∧ pk 0 rest = pk 0 rest ∧ Ent.mk (Loc.blk b_1) (SObj.cells [.int .i64 (IntKind.wrap IntKind.i64 (s.4 + (1 : Int))), .int .i64 pid, .str group, .bool false, .int .i64 (0 : Int), .str cmd] 38) = Ent.mk (Loc.blk b_1) (SObj.cells [.int .i64 (IntKind.wrap IntKind.i64 (s.4 + (1 : Int))), .int .i64 pid, .str group, .bool false, .int .i64 (0 : Int), .str cmd] 38) ∧ True) ∧ (s.1 = s.1 ∧ some IntKind.i64 = some IntKind.i64 ∧ some IntKind.i64 = some IntKind.i64) ∧ ∃ (u : Nat), den (.ptr 2 u 0) = den (.ptr 5 b_2 0) ∧ b_1 = b_1 ∧ N [Ent.mk (Loc.blk b) (SObj.cells [.map 1 s.1, .int .i64 s.3, .int .i64 (IntKind.wrap IntKind.i64 (s.4 + (1 : Int)))] 119), Ent.mk (Loc.blk s.1) (SObj.map1 (some IntKind.i64) encB1 (mset (List.map pkey s.2) (Key.i IntKind.i64 (IntKind.wrap IntKind.i64 (s.4 + (1 : Int)))) u) (Key.i IntKind.i64 (IntKind.wrap IntKind.i64 (s.4 + (1 : Int)))) (some (.ptr 5 b_2 0))), Ent.mk (Loc.blk pb) (SObj.cells [.int .i64 r.1, .int .i64 r.2, .str r.3, .bool r.4, .int .i64 r.5, .str r.6, .bool r.7, .bool r.8] 121), pk 0 rest, Ent.mk (Loc.blk b_1) (SObj.cells [.int .i64 (IntKind.wrap IntKind.i64 (s.4 + (1 : Int))), .int .i64 pid, .str group, .bool false, .int .i64 (0 : Int), .str cmd] 38), Ent.mk (Loc.blk b_2) (SObj.cells [.int .i64 (IntKind.wrap IntKind.i64 (s.4 + (1 : Int))), .int .i64 pid, .str group, .bool false, .int .i64 (0 : Int), .str cmd, .bool false, .bool false] 121)] (SV.tuple [.int .i64 (IntKind.wrap IntKind.i64 (s.4 + (1 : Int))), .int .i64 (0 : Int)])) := by kernel_rfl
theorem pFork_none (K : List Frm → Sy → Prop) (N : List Ent → SV → Prop) (s : PT) (b : Nat) (rest : List Ent) (pid : Int) : (run Tryz.prog ptB false [] K (retP Tryz.prog Tryz.f55.results.toList N) 900 [.code (bodyOf Tryz.f55)] ⟨padTo 42 [.ptr 0 b 0, .int .i64 pid], [⟨.blk b, .cells [.map 1 s.bm, .int .i64 s.room, .int .i64 s.last] 119⟩, ⟨.blk s.bm, .map1 (some .i64) encB1 (s.ps.map pkey) (.i .i64 pid) none⟩, pk 0 rest]⟩) = ( true = true ∧ b = b ∧ (s.1 = s.1 ∧ Key.i IntKind.i64 pid = Key.i IntKind.i64 pid ∧ some IntKind.i64 = some IntKind.i64) ∧ N [Ent.mk (Loc.blk b) (SObj.cells [.map 1 s.1, .int .i64 s.3, .int .i64 s.4] 119), Ent.mk (Loc.blk s.1) (SObj.map1 (some IntKind.i64) encB1 (List.map pkey s.2) (Key.i IntKind.i64 pid) (@none SV)), pk 0 rest] (SV.tuple [.int .i64 (0 : Int), .int .i64 (80 : Int)])) := by kernel_rfl
theorem pFork_some (K : List Frm → Sy → Prop) (N : List Ent → SV → Prop) (s : PT) (b pb : Nat) (r : PR) (rest : List Ent) (pid : Int) : (run Tryz.prog ptB false [] K (retP Tryz.prog Tryz.f55.results.toList N) 900 [.code (bodyOf Tryz.f55)] ⟨padTo 42 [.ptr 0 b 0, .int .i64 pid], [⟨.blk b, .cells [.map 1 s.bm, .int .i64 s.room, .int .i64 s.last] 119⟩, ⟨.blk s.bm, .map1 (some .i64) encB1 (s.ps.map pkey) (.i .i64 pid) (some (.ptr 2 pb 0))⟩, ⟨.blk pb, .cells (encR r) 121⟩, pk 0 rest]⟩) = ( true = true ∧ b = b ∧ (s.1 = s.1 ∧ Key.i IntKind.i64 pid = Key.i IntKind.i64 pid ∧ some IntKind.i64 = some IntKind.i64) ∧ pb = pb ∧ match !!r.4 with
 | true => N [Ent.mk (Loc.blk b) (SObj.cells [.map 1 s.1, .int .i64 s.3, .int .i64 s.4] 119), Ent.mk (Loc.blk s.1) (SObj.map1 (some IntKind.i64) encB1 (List.map pkey s.2) (Key.i IntKind.i64 pid) (some (.ptr 2 pb 0))), Ent.mk (Loc.blk pb) (SObj.cells [.int .i64 r.1, .int .i64 r.2, .str r.3, .bool r.4, .int .i64 r.5, .str r.6, .bool r.7, .bool r.8] 121), pk 0 rest] (SV.tuple [.int .i64 (0 : Int), .int .i64 (80 : Int)])
 | false => match pid == (1 : Int) with
  | true => N [Ent.mk (Loc.blk b) (SObj.cells [.map 1 s.1, .int .i64 s.3, .int .i64 s.4] 119), Ent.mk (Loc.blk s.1) (SObj.map1 (some IntKind.i64) encB1 (List.map pkey s.2) (Key.i IntKind.i64 pid) (some (.ptr 2 pb 0))), Ent.mk (Loc.blk pb) (SObj.cells [.int .i64 r.1, .int .i64 r.2, .str r.3, .bool r.4, .int .i64 r.5, .str r.6, .bool r.7, .bool r.8] 121), pk 0 rest] (SV.tuple [.int .i64 (0 : Int), .int .i64 (80 : Int)])
  | false => pb = pb ∧ match r.8 with
   | true => N [Ent.mk (Loc.blk b) (SObj.cells [.map 1 s.1, .int .i64 s.3, .int .i64 s.4] 119), Ent.mk (Loc.blk s.1) (SObj.map1 (some IntKind.i64) encB1 (List.map pkey s.2) (Key.i IntKind.i64 pid) (some (.ptr 2 pb 0))), Ent.mk (Loc.blk pb) (SObj.cells [.int .i64 r.1, .int .i64 r.2, .str r.3, .bool r.4, .int .i64 r.5, .str r.6, .bool r.7, .bool r.8] 121), pk 0 rest] (SV.tuple [.int .i64 (0 : Int), .int .i64 (80 : Int)])
   | false => (pb = pb ∧ pb = pb ∧ (true = true ∧ true = true) ∧ true = true ∧ true = true ∧ ∀ (b_1 : Nat), b = b ∧ true = true ∧ b = b ∧ s.1 = s.1 ∧ (Ent.mk (Loc.blk b) (SObj.cells [.map 1 s.1, .int .i64 s.3, .int .i64 s.4] 119) = Ent.mk (Loc.blk b) (SObj.cells [.map 1 s.1, .int .i64 s.3, .int .i64 s.4] 119) ∧ Ent.mk (Loc.blk s.1) (SObj.map1 (some IntKind.i64) encB1 (List.map pkey s.2) (Key.i IntKind.i64 pid) (some (.ptr 2 pb 0))) = Ent.mk (Loc.blk s.1) (SObj.map1 (some IntKind.i64) encB1 (List.map pkey s.2) (Key.i IntKind.i64 pid) (some (.ptr 2 pb 0))) ∧ Ent.mk (Loc.blk pb) (SObj.cells [.int .i64 r.1, .int .i64 r.2, .str r.3, .bool r.4, .int .i64 r.5, .str r.6, .bool r.7, .bool r.8] 121) = Ent.mk (Loc.blk pb) (SObj.cells [.int .i64 r.1, .int .i64 r.2, .str r.3, .bool r.4, .int .i64 r.5, .str r.6, .bool r.7, .bool r.8] 121) ∧ pk 0 rest = pk 0 rest ∧ Ent.mk (Loc.blk b_1) (SObj.cells [.int .i64 (0 : Int), .int .i64 pid, .str r.3, .bool false, .int .i64 (0 : Int), .str r.6] 38) = Ent.mk (Loc.blk b_1) (SObj.cells [.int .i64 (0 : Int), .int .i64 pid, .str r.3, .bool false, .int .i64 (0 : Int), .str r.6] 38) ∧ True) ∧ match decide (IntKind.wrap IntKind.i64 ((↑(List.length (List.map pkey s.2)) : Int) - (1 : Int)) ≥ s.3) with
    | true => N [Ent.mk (Loc.blk b) (SObj.cells [.map 1 s.1, .int .i64 s.3, .int .i64 s.4] 119), Ent.mk (Loc.blk s.1) (SObj.map1 (some IntKind.i64) encB1 (List.map pkey s.2) (Key.i IntKind.i64 pid) (some (.ptr 2 pb 0))), Ent.mk (Loc.blk pb) (SObj.cells [.int .i64 r.1, .int .i64 r.2, .str r.3, .bool r.4, .int .i64 r.5, .str r.6, .bool r.7, .bool r.8] 121), pk 0 rest, Ent.mk (Loc.blk b_1) (SObj.cells [.int .i64 (0 : Int), .int .i64 pid, .str r.3, .bool false, .int .i64 (0 : Int), .str r.6] 38)] (SV.tuple [.int .i64 (0 : Int), .int .i64 (81 : Int)])
    | false => b = b ∧ (b = b ∧ true = true ∧ 1 = 1 ∧ 3 ≤ 3) ∧ b = b ∧ (b_1 = b_1 ∧ true = true ∧ 1 = 1 ∧ 1 ≤ 6) ∧ b = b ∧ b_1 = b_1 ∧ (b_1 = b_1 ∧ 6 = 6) ∧ (true = true ∧ true = true) ∧ true = true ∧ ∀ (b_2 : Nat), (Ent.mk (Loc.blk b) (SObj.cells [.map 1 s.1, .int .i64 s.3, .int .i64 (IntKind.wrap IntKind.i64 (s.4 + (1 : Int)))] 119) = Ent.mk (Loc.blk b) (SObj.cells [.map 1 s.1, .int .i64 s.3, .int .i64 (IntKind.wrap IntKind.i64 (s.4 + (1 : Int)))] 119) ∧ Ent.mk (Loc.blk s.1) (SObj.map1 (some IntKind.i64) encB1 (List.map pkey s.2) (Key.i IntKind.i64 pid) (some (.ptr 2 pb 0))) = Ent.mk (Loc.blk s.1) (SObj.map1 (some IntKind.i64) encB1 (List.map pkey s.2) (Key.i IntKind.i64 pid) (some (.ptr 2 pb 0))) ∧ Ent.mk (Loc.blk pb) (SObj.cells [.int .i64 r.1, .int .i64 r.2, .str r.3, .bool r.4, .int .i64 r.5, .str r.6, .bool r.7, .bool r.8] 121) = Ent.mk (Loc.blk pb) (SObj.cells [.int .i64 r.1, .int .i64 r.2, .str r.3, .bool r.4, .int .i64 r.5, .str r.6, .bool r.7, .bool r.8] 121) ∧ pk 0 rest = pk 0 rest ∧ Ent.mk (Loc.blk b_1) (SObj.cells [.int .i64 (IntKind.wrap IntKind.i64 (s.4 + (1 : Int))), .int .i64 pid, .str r.3, .bool false, .int .i64 (0 : Int), .str r.6] 38) = Ent.mk (Loc.blk b_1) (SObj.cells [.int .i64 (IntKind.wrap IntKind.i64 (s.4 + (1 : Int))), .int .i64 pid, .str r.3, .bool false, .int .i64 (0 : Int), .str r.6] 38) ∧ True) ∧ (s.1 = s.1 ∧ some IntKind.i64 = some IntKind.i64 ∧ some IntKind.i64 = some IntKind.i64) ∧ ∃ (u : Nat), den (.ptr 2 u 0) = den (.ptr 5 b_2 0) ∧ b_1 = b_1 ∧ N [Ent.mk (Loc.blk b) (SObj.cells [.map 1 s.1, .int .i64 s.3, .int .i64 (IntKind.wrap IntKind.i64 (s.4 + (1 : Int)))] 119), Ent.mk (Loc.blk s.1) (SObj.map1 (some IntKind.i64) encB1 (mset (List.map pkey s.2) (Key.i IntKind.i64 (IntKind.wrap IntKind.i64 (s.4 + (1 : Int)))) u) (Key.i IntKind.i64 (IntKind.wrap IntKind.i64 (s.4 + (1 : Int)))) (some (.ptr 5 b_2 0))), Ent.mk (Loc.blk pb) (SObj.cells [.int .i64 r.1, .int .i64 r.2, .str r.3, .bool r.4, .int .i64 r.5, .str r.6, .bool r.7, .bool r.8] 121), pk 0 rest, Ent.mk (Loc.blk b_1) (SObj.cells [.int .i64 (IntKind.wrap IntKind.i64 (s.4 + (1 : Int))), .int .i64 pid, .str r.3, .bool false, .int .i64 (0 : Int), .str r.6] 38), Ent.mk (Loc.blk b_2) (SObj.cells [.int .i64 (IntKind.wrap IntKind.i64 (s.4 + (1 : Int))), .int .i64 pid, .str r.3, .bool false, .int .i64 (0 : Int), .str r.6, .bool false, .bool false] 121)] (SV.tuple [.int .i64 (IntKind.wrap IntKind.i64 (s.4 + (1 : Int))), .int .i64 (0 : Int)])) ∧ pb = pb ∧ pb = pb ∧ (true = true ∧ true = true) ∧ true = true ∧ true = true ∧ ∀ (b_1 : Nat), b = b ∧ true = true ∧ b = b ∧ s.1 = s.1 ∧ (Ent.mk (Loc.blk b) (SObj.cells [.map 1 s.1, .int .i64 s.3, .int .i64 s.4] 119) = Ent.mk (Loc.blk b) (SObj.cells [.map 1 s.1, .int .i64 s.3, .int .i64 s.4] 119) ∧ Ent.mk (Loc.blk s.1) (SObj.map1 (some IntKind.i64) encB1 (List.map pkey s.2) (Key.i IntKind.i64 pid) (some (.ptr 2 pb 0))) = Ent.mk (Loc.blk s.1) (SObj.map1 (some IntKind.i64) encB1 (List.map pkey s.2) (Key.i IntKind.i64 pid) (some (.ptr 2 pb 0))) ∧ Ent.mk (Loc.blk pb) (SObj.cells [.int .i64 r.1, .int .i64 r.2, .str r.3, .bool r.4, .int .i64 r.5, .str r.6, .bool r.7, .bool r.8] 121) = Ent.mk (Loc.blk pb) (SObj.cells [.int .i64 r.1, .int .i64 r.2, .str r.3, .bool r.4, .int .i64 r.5, .str r.6, .bool r.7, .bool r.8] 121) ∧ pk 0 rest = pk 0 rest ∧ Ent.mk (Loc.blk b_1) (SObj.cells [.int .i64 (0 : Int), .int .i64 pid, .str r.3, .bool false, .int .i64 (0 : Int), .str r.6] 38) = Ent.mk (Loc.blk b_1) (SObj.cells [.int .i64 (0 : Int), .int .i64 pid, .str r.3, .bool false, .int .i64 (0 : Int), .str r.6] 38) ∧ True) ∧ match decide (IntKind.wrap IntKind.i64 ((↑(List.length (List.map pkey s.2)) : Int) - (1 : Int)) ≥ s.3) with
     | true => N [Ent.mk (Loc.blk b) (SObj.cells [.map 1 s.1, .int .i64 s.3, .int .i64 s.4] 119), Ent.mk (Loc.blk s.1) (SObj.map1 (some IntKind.i64) encB1 (List.map pkey s.2) (Key.i IntKind.i64 pid) (some (.ptr 2 pb 0))), Ent.mk (Loc.blk pb) (SObj.cells [.int .i64 r.1, .int .i64 r.2, .str r.3, .bool r.4, .int .i64 r.5, .str r.6, .bool r.7, .bool r.8] 121), pk 0 rest, Ent.mk (Loc.blk b_1) (SObj.cells [.int .i64 (0 : Int), .int .i64 pid, .str r.3, .bool false, .int .i64 (0 : Int), .str r.6] 38)] (SV.tuple [.int .i64 (0 : Int), .int .i64 (81 : Int)])
     | false => b = b ∧ (b = b ∧ true = true ∧ 1 = 1 ∧ 3 ≤ 3) ∧ b = b ∧ (b_1 = b_1 ∧ true = true ∧ 1 = 1 ∧ 1 ≤ 6) ∧ b = b ∧ b_1 = b_1 ∧ (b_1 = b_1 ∧ 6 = 6) ∧ (true = true ∧ true = true) ∧ true = true ∧ ∀ (b_2 : Nat), (Ent.mk (Loc.blk b) (SObj.cells [.map 1 s.1, .int .i64 s.3, .int .i64 (IntKind.wrap IntKind.i64 (s.4 + (1 : Int)))] 119) = Ent.mk (Loc.blk b) (SObj.cells [.map 1 s.1, .int .i64 s.3, .int .i64 (IntKind.wrap IntKind.i64 (s.4 + (1 : Int)))] 119) ∧ Ent.mk (Loc.blk s.1) (SObj.map1 (some IntKind.i64) encB1 (List.map pkey s.2) (Key.i IntKind.i64 pid) (some (.ptr 2 pb 0))) = Ent.mk (Loc.blk s.1) (SObj.map1 (some IntKind.i64) encB1 (List.map pkey s.2) (Key.i IntKind.i64 pid) (some (.ptr 2 pb 0))) ∧ Ent.mk (Loc.blk pb) (SObj.cells [.int .i64 r.1, .int .i64 r.2, .str r.3, .bool r.4, .int .i64 r.5, .str r.6, .bool r.7, .bool r.8] 121) = Ent.mk (Loc.blk pb) (SObj.cells [.int .i64 r.1, .int .i64 r.2, .str r.3, .bool r.4, .int .i64 r.5, .str r.6, .bool r.7, .bool r.8] 121) ∧ pk 0 rest = pk 0 rest ∧ Ent.mk (Loc.blk b_1) (SObj.cells [.int .i64 (IntKind.wrap IntKind.i64 (s.4 + (1 : Int))), .int .i64 pid, .str r.3, .bool false, .int .i64 (0 : Int), .str r.6] 38) = Ent.mk (Loc.blk b_1) (SObj.cells [.int .i64 (IntKind.wrap IntKind.i64 (s.4 + (1 : Int))), .int .i64 pid, .str r.3, .bool false, .int .i64 (0 : Int), .str r.6] 38) ∧ True) ∧ (s.1 = s.1 ∧ some IntKind.i64 = some IntKind.i64 ∧ some IntKind.i64 = some IntKind.i64) ∧ ∃ (u : Nat), den (.ptr 2 u 0) = den (.ptr 5 b_2 0) ∧ b_1 = b_1 ∧ N [Ent.mk (Loc.blk b) (SObj.cells [.map 1 s.1, .int .i64 s.3, .int .i64 (IntKind.wrap IntKind.i64 (s.4 + (1 : Int)))] 119), Ent.mk (Loc.blk s.1) (SObj.map1 (some IntKind.i64) encB1 (mset (List.map pkey s.2) (Key.i IntKind.i64 (IntKind.wrap IntKind.i64 (s.4 + (1 : Int)))) u) (Key.i IntKind.i64 (IntKind.wrap IntKind.i64 (s.4 + (1 : Int)))) (some (.ptr 5 b_2 0))), Ent.mk (Loc.blk pb) (SObj.cells [.int .i64 r.1, .int .i64 r.2, .str r.3, .bool r.4, .int .i64 r.5, .str r.6, .bool r.7, .bool r.8] 121), pk 0 rest, Ent.mk (Loc.blk b_1) (SObj.cells [.int .i64 (IntKind.wrap IntKind.i64 (s.4 + (1 : Int))), .int .i64 pid, .str r.3, .bool false, .int .i64 (0 : Int), .str r.6] 38), Ent.mk (Loc.blk b_2) (SObj.cells [.int .i64 (IntKind.wrap IntKind.i64 (s.4 + (1 : Int))), .int .i64 pid, .str r.3, .bool false, .int .i64 (0 : Int), .str r.6, .bool false, .bool false] 121)] (SV.tuple [.int .i64 (IntKind.wrap IntKind.i64 (s.4 + (1 : Int))), .int .i64 (0 : Int)])) := by kernel_rfl
theorem pExit_none (K : List Frm → Sy → Prop) (N : List Ent → SV → Prop) (s : PT) (b : Nat) (rest : List Ent) (pid status : Int) : (run Tryz.prog ptL false [] K (retP Tryz.prog Tryz.f56.results.toList N) 900 [.code (bodyOf Tryz.f56)] ⟨padTo 58 [.ptr 0 b 0, .int .i64 pid, .int .i64 status], [⟨.blk b, .cells [.map 1 s.bm, .int .i64 s.room, .int .i64 s.last] 119⟩, ⟨.blk s.bm, .map1 (some .i64) encB1 (s.ps.map pkey) (.i .i64 pid) none⟩, pk 0 rest]⟩) = ( true = true ∧ b = b ∧ (s.1 = s.1 ∧ Key.i IntKind.i64 pid = Key.i IntKind.i64 pid ∧ some IntKind.i64 = some IntKind.i64) ∧ N [Ent.mk (Loc.blk b) (SObj.cells [.map 1 s.1, .int .i64 s.3, .int .i64 s.4] 119), Ent.mk (Loc.blk s.1) (SObj.map1 (some IntKind.i64) encB1 (List.map pkey s.2) (Key.i IntKind.i64 pid) (@none SV)), pk 0 rest] (.int .i64 (80 : Int))) := by kernel_rfl
theorem pExit_some (K : List Frm → Sy → Prop) (N : List Ent → SV → Prop) (s : PT) (b pb : Nat) (r : PR) (rest : List Ent) (pid status : Int) : (run Tryz.prog ptL false [7] K (retP Tryz.prog Tryz.f56.results.toList N) 900 [.code (bodyOf Tryz.f56)] ⟨padTo 58 [.ptr 0 b 0, .int .i64 pid, .int .i64 status], [⟨.blk b, .cells [.map 1 s.bm, .int .i64 s.room, .int .i64 s.last] 119⟩, ⟨.blk s.bm, .map1 (some .i64) encB1 (s.ps.map pkey) (.i .i64 pid) (some (.ptr 2 pb 0))⟩, ⟨.blk pb, .cells (encR r) 121⟩, pk 0 rest]⟩) = ( true = true ∧ b = b ∧ (s.1 = s.1 ∧ Key.i IntKind.i64 pid = Key.i IntKind.i64 pid ∧ some IntKind.i64 = some IntKind.i64) ∧ pb = pb ∧ match !!r.4 with
 | true => N [Ent.mk (Loc.blk b) (SObj.cells [.map 1 s.1, .int .i64 s.3, .int .i64 s.4] 119), Ent.mk (Loc.blk s.1) (SObj.map1 (some IntKind.i64) encB1 (List.map pkey s.2) (Key.i IntKind.i64 pid) (some (.ptr 2 pb 0))), Ent.mk (Loc.blk pb) (SObj.cells [.int .i64 r.1, .int .i64 r.2, .str r.3, .bool r.4, .int .i64 r.5, .str r.6, .bool r.7, .bool r.8] 121), pk 0 rest] (.int .i64 (80 : Int))
 | false => match pid == (1 : Int) with
  | true => N [Ent.mk (Loc.blk b) (SObj.cells [.map 1 s.1, .int .i64 s.3, .int .i64 s.4] 119), Ent.mk (Loc.blk s.1) (SObj.map1 (some IntKind.i64) encB1 (List.map pkey s.2) (Key.i IntKind.i64 pid) (some (.ptr 2 pb 0))), Ent.mk (Loc.blk pb) (SObj.cells [.int .i64 r.1, .int .i64 r.2, .str r.3, .bool r.4, .int .i64 r.5, .str r.6, .bool r.7, .bool r.8] 121), pk 0 rest] (.int .i64 (80 : Int))
  | false => match decide (status < (-64 : Int)) with
   | true => (pb = pb ∧ true = true ∧ 1 = 1 ∧ 4 ≤ 8) ∧ (pb = pb ∧ true = true ∧ 1 = 1 ∧ 5 ≤ 8) ∧ K (frmR [] (bodyOf Tryz.f56) 7) (Sy.mk (.ptr 0 b 0 :: (.int .i64 pid :: (.int .i64 (255 : Int) :: (rawE (.int .i64 (0 : Int) :: (.ptr 2 pb 0 :: ((.bool !r.4) :: (.raw (Value.tuple #[]) :: (.raw (Value.tuple #[]) :: ((SV.tuple [.ptr 2 pb 0, .bool !r.4]) :: (.ptr 0 b 0 :: (.int .i64 pid :: ((SV.tuple [.ptr 2 pb 0, .bool !r.4]) :: (.ptr 2 pb 0 :: ((.bool !r.4) :: ((.bool !r.4) :: ((.bool !!r.4) :: (.bool false :: (.int .i64 pid :: ((.bool (pid == (1 : Int))) :: (.bool false :: (.int .i64 status :: (.bool (decide (status < (-64 : Int))) :: (.bool true :: (.raw (Value.tuple #[]) :: (.raw (Value.tuple #[]) :: (.bool true :: (.ptr 2 pb 0 :: (.ptr 2 pb 0 :: (.int .i64 (255 : Int) :: (.ptr 2 pb 0 :: (.ptr 2 pb 0 :: (.ptr 2 pb 3 :: (.ptr 2 pb 0 :: (.ptr 2 pb 0 :: (.ptr 2 pb 4 :: (rawE [] 20))))))))))))))))))))))))))))))))) 3)))) [Ent.mk (Loc.blk b) (SObj.cells [.map 1 s.1, .int .i64 s.3, .int .i64 s.4] 119), Ent.mk (Loc.blk s.1) (SObj.map1 (some IntKind.i64) encB1 (List.map pkey s.2) (Key.i IntKind.i64 pid) (some (.ptr 2 pb 0))), Ent.mk (Loc.blk pb) (SObj.cells [.int .i64 r.1, .int .i64 r.2, .str r.3, .bool true, .int .i64 (255 : Int), .str r.6, .bool r.7, .bool r.8] 121), pk 0 rest])
   | false => match decide (status > (255 : Int)) with
    | true => (pb = pb ∧ true = true ∧ 1 = 1 ∧ 4 ≤ 8) ∧ (pb = pb ∧ true = true ∧ 1 = 1 ∧ 5 ≤ 8) ∧ K (frmR [] (bodyOf Tryz.f56) 7) (Sy.mk (.ptr 0 b 0 :: (.int .i64 pid :: (.int .i64 (255 : Int) :: (rawE (.int .i64 (0 : Int) :: (.ptr 2 pb 0 :: ((.bool !r.4) :: (.raw (Value.tuple #[]) :: (.raw (Value.tuple #[]) :: ((SV.tuple [.ptr 2 pb 0, .bool !r.4]) :: (.ptr 0 b 0 :: (.int .i64 pid :: ((SV.tuple [.ptr 2 pb 0, .bool !r.4]) :: (.ptr 2 pb 0 :: ((.bool !r.4) :: ((.bool !r.4) :: ((.bool !!r.4) :: (.bool false :: (.int .i64 pid :: ((.bool (pid == (1 : Int))) :: (.bool false :: (.int .i64 status :: (.bool (decide (status < (-64 : Int))) :: (.bool false :: (.int .i64 status :: (.bool (decide (status > (255 : Int))) :: (.bool true :: (.ptr 2 pb 0 :: (.ptr 2 pb 0 :: (.int .i64 (255 : Int) :: (.ptr 2 pb 0 :: (.ptr 2 pb 0 :: (.ptr 2 pb 3 :: (.ptr 2 pb 0 :: (.ptr 2 pb 0 :: (.ptr 2 pb 4 :: (rawE [] 20))))))))))))))))))))))))))))))))) 3)))) [Ent.mk (Loc.blk b) (SObj.cells [.map 1 s.1, .int .i64 s.3, .int .i64 s.4] 119), Ent.mk (Loc.blk s.1) (SObj.map1 (some IntKind.i64) encB1 (List.map pkey s.2) (Key.i IntKind.i64 pid) (some (.ptr 2 pb 0))), Ent.mk (Loc.blk pb) (SObj.cells [.int .i64 r.1, .int .i64 r.2, .str r.3, .bool true, .int .i64 (255 : Int), .str r.6, .bool r.7, .bool r.8] 121), pk 0 rest])
    | false => (pb = pb ∧ true = true ∧ 1 = 1 ∧ 4 ≤ 8) ∧ (pb = pb ∧ true = true ∧ 1 = 1 ∧ 5 ≤ 8) ∧ K (frmR [] (bodyOf Tryz.f56) 7) (Sy.mk (.ptr 0 b 0 :: (.int .i64 pid :: (.int .i64 status :: (rawE (.int .i64 (0 : Int) :: (.ptr 2 pb 0 :: ((.bool !r.4) :: (.raw (Value.tuple #[]) :: (.raw (Value.tuple #[]) :: ((SV.tuple [.ptr 2 pb 0, .bool !r.4]) :: (.ptr 0 b 0 :: (.int .i64 pid :: ((SV.tuple [.ptr 2 pb 0, .bool !r.4]) :: (.ptr 2 pb 0 :: ((.bool !r.4) :: ((.bool !r.4) :: ((.bool !!r.4) :: (.bool false :: (.int .i64 pid :: ((.bool (pid == (1 : Int))) :: (.bool false :: (.int .i64 status :: (.bool (decide (status < (-64 : Int))) :: (.bool false :: (.int .i64 status :: (.bool (decide (status > (255 : Int))) :: (.bool false :: (.ptr 2 pb 0 :: (.ptr 2 pb 0 :: (.int .i64 status :: (.ptr 2 pb 0 :: (.ptr 2 pb 0 :: (.ptr 2 pb 3 :: (.ptr 2 pb 0 :: (.ptr 2 pb 0 :: (.ptr 2 pb 4 :: (rawE [] 20))))))))))))))))))))))))))))))))) 3)))) [Ent.mk (Loc.blk b) (SObj.cells [.map 1 s.1, .int .i64 s.3, .int .i64 s.4] 119), Ent.mk (Loc.blk s.1) (SObj.map1 (some IntKind.i64) encB1 (List.map pkey s.2) (Key.i IntKind.i64 pid) (some (.ptr 2 pb 0))), Ent.mk (Loc.blk pb) (SObj.cells [.int .i64 r.1, .int .i64 r.2, .str r.3, .bool true, .int .i64 status, .str r.6, .bool r.7, .bool r.8] 121), pk 0 rest])) := by kernel_rfl
theorem pExit_rng (K : List Frm → Sy → Prop) (N : List Ent → SV → Prop) (s : PT) (b : Nat) (rest : List Ent) (pid st : Int) (u : Nat → Value) : (run Tryz.prog [] false [8] K (retP Tryz.prog Tryz.f56.results.toList N) 900 (frmR [] (bodyOf Tryz.f56) 7) ⟨mkT u 58 0 [(0, .ptr 0 b 0), (1, .int .i64 pid), (2, .int .i64 st)], [⟨.blk b, .cells [.map 1 s.bm, .int .i64 s.room, .int .i64 s.last] 119⟩, ⟨.blk s.bm, .mapL (some .i64) encB1 (s.ps.map pkey)⟩, pk 0 rest]⟩) = ( b = b ∧ s.1 = s.1 ∧ ∀ (es' : List (Key × Nat × Nat)) (clk b_1 : Nat), List.map (fun (e : Key × Nat × Nat) ↦ (e.fst, e.snd.snd)) es' = List.map pkey s.2 → List.Nodup (List.map (fun (x : Key × Nat × Nat) ↦ x.snd.fst) es') → K (frm [] (bodyOf Tryz.f56) [1, 1, 1, 1, 1, 0, 1, 0] []) (Sy.mk (.ptr 0 b 0 :: (.int .i64 pid :: (.int .i64 st :: (rawR u 3 (.ptr 0 b 0 :: (.ptr 0 b 0 :: (.ptr 0 b 0 :: (.map 1 s.1 :: (.ptr 3 b_1 0 :: (rawR u 43 [] 15)))))) 35)))) [Ent.mk (Loc.blk b) (SObj.cells [.map 1 s.1, .int .i64 s.3, .int .i64 s.4] 119), Ent.mk (Loc.blk s.1) (SObj.mapS (some IntKind.i64) encB1 es' clk), pk 0 rest, Ent.mk (Loc.blk b_1) (SObj.iter 1 s.1 clk [])])) := by kernel_rfl
theorem pExit_head (K : List Frm → Sy → Prop) (N : List Ent → SV → Prop) (J : Act → World → Prop) (s : PT) (b : Nat) (rest : List Ent) (pid : Int) (es : List (Key × (Nat × Nat))) (clk bi : Nat) (seen : List Nat) (u : Nat → Value) : (run Tryz.prog [] false [10] K (retP Tryz.prog Tryz.f56.results.toList N) 900 (frm [J] (bodyOf Tryz.f56) [1, 1, 1, 1, 1, 0, 1, 0, 0] []) ⟨mkT u 58 0 [(0, .ptr 0 b 0), (1, .int .i64 pid), (42, .ptr 3 bi 0)], [⟨.blk b, .cells [.map 1 s.bm, .int .i64 s.room, .int .i64 s.last] 119⟩, ⟨.blk s.bm, .mapS (some .i64) encB1 es clk⟩, pk 0 rest, ⟨.blk bi, .iter 1 s.bm clk seen⟩]⟩) = ( (bi = bi ∧ s.1 = s.1 ∧ clk = clk) ∧ (∀ (n : Int) (born v : Nat), (Key.i IntKind.i64 n, born, v) ∈ es → ¬born ∈ seen → (bi = bi ∧ s.1 = s.1 ∧ clk = clk) ∧ ∃ (n_1 : Int), ∃ (born_1 : Nat), ∃ (v_1 : Nat), ∃ (seen0 : List Nat), (Key.i IntKind.i64 n_1, born_1, v_1) ∈ es ∧ snoc seen born = snoc seen0 born_1 ∧ K (frmR [J] (bodyOf Tryz.f56) 10) (Sy.mk (.ptr 0 b 0 :: (.int .i64 pid :: (rawR u 2 (.ptr 2 v_1 0 :: (rawR u 11 (.ptr 3 bi 0 :: (SV.tuple [.bool true, .int .i64 n, .ptr 2 v 0] :: (.bool true :: (SV.tuple [.int .i64 n_1, .ptr 2 v_1 0] :: (.ptr 2 v_1 0 :: (rawR u 47 [] 11)))))) 31)) 8))) [Ent.mk (Loc.blk b) (SObj.cells [.map 1 s.1, .int .i64 s.3, .int .i64 s.4] 119), Ent.mk (Loc.blk s.1) (SObj.mapS (some IntKind.i64) encB1 es clk), pk 0 rest, Ent.mk (Loc.blk bi) (SObj.iter 1 s.1 clk (snoc seen born))])) ∧ ((∀ (e : Key × Nat × Nat), e ∈ es → e.snd.fst ∈ seen) → N [Ent.mk (Loc.blk b) (SObj.cells [.map 1 s.1, .int .i64 s.3, .int .i64 s.4] 119), Ent.mk (Loc.blk s.1) (SObj.mapS (some IntKind.i64) encB1 es clk), pk 0 rest, Ent.mk (Loc.blk bi) (SObj.iter 1 s.1 clk seen)] (.int .i64 (0 : Int)))) := by kernel_rfl
theorem pExit_body (K : List Frm → Sy → Prop) (N : List Ent → SV → Prop) (J0 : Act → World → Prop) (s : PT) (b pb : Nat) (r : PR) (rest : List Ent) (pid : Int) (es : List (Key × (Nat × Nat))) (clk bi : Nat) (seen : List Nat) (u : Nat → Value) : (run Tryz.prog [] false [] K (retP Tryz.prog Tryz.f56.results.toList N) 900 (frmR [J0] (bodyOf Tryz.f56) 10) ⟨mkT u 58 0 [(0, .ptr 0 b 0), (1, .int .i64 pid), (10, .ptr 4 pb 0), (42, .ptr 3 bi 0)], [⟨.blk b, .cells [.map 1 s.bm, .int .i64 s.room, .int .i64 s.last] 119⟩, ⟨.blk s.bm, .mapS (some .i64) encB1 es clk⟩, pk 0 rest, ⟨.blk bi, .iter 1 s.bm clk seen⟩, ⟨.blk pb, .cells (encR r) 121⟩]⟩) = ( pb = pb ∧ match r.2 == pid with
 | true => (pb = pb ∧ true = true ∧ 1 = 1 ∧ 2 ≤ 8) ∧ K (Frm.loop J0 :: Frm.blk 0 :: frm [] (bodyOf Tryz.f56) [1, 1, 1, 1, 1, 1] []) (Sy.mk (.ptr 0 b 0 :: (.int .i64 pid :: (rawR u 2 (.ptr 4 pb 0 :: (rawR u 11 (.ptr 3 bi 0 :: (rawR u 43 (.ptr 4 pb 0 :: (.ptr 4 pb 0 :: (.ptr 4 pb 0 :: (.ptr 4 pb 1 :: (.int .i64 r.2 :: (.int .i64 pid :: (.bool true :: (.ptr 4 pb 0 :: (.ptr 4 pb 0 :: (.ptr 4 pb 0 :: (.ptr 4 pb 1 :: []))))))))))) 4)) 31)) 8))) [Ent.mk (Loc.blk b) (SObj.cells [.map 1 s.1, .int .i64 s.3, .int .i64 s.4] 119), Ent.mk (Loc.blk s.1) (SObj.mapS (some IntKind.i64) encB1 es clk), pk 0 rest, Ent.mk (Loc.blk bi) (SObj.iter 1 s.1 clk seen), Ent.mk (Loc.blk pb) (SObj.cells [.int .i64 r.1, .int .i64 (1 : Int), .str r.3, .bool r.4, .int .i64 r.5, .str r.6, .bool r.7, .bool r.8] 121)])
 | false => K (Frm.loop J0 :: Frm.blk 0 :: frm [] (bodyOf Tryz.f56) [1, 1, 1, 1, 1, 1] []) (Sy.mk (.ptr 0 b 0 :: (.int .i64 pid :: (rawR u 2 (.ptr 4 pb 0 :: (rawR u 11 (.ptr 3 bi 0 :: (rawR u 43 (.ptr 4 pb 0 :: (.ptr 4 pb 0 :: (.ptr 4 pb 0 :: (.ptr 4 pb 1 :: (.int .i64 r.2 :: (.int .i64 pid :: (.bool false :: (rawR u 54 [] 4)))))))) 4)) 31)) 8))) [Ent.mk (Loc.blk b) (SObj.cells [.map 1 s.1, .int .i64 s.3, .int .i64 s.4] 119), Ent.mk (Loc.blk s.1) (SObj.mapS (some IntKind.i64) encB1 es clk), pk 0 rest, Ent.mk (Loc.blk bi) (SObj.iter 1 s.1 clk seen), Ent.mk (Loc.blk pb) (SObj.cells [.int .i64 r.1, .int .i64 r.2, .str r.3, .bool r.4, .int .i64 r.5, .str r.6, .bool r.7, .bool r.8] 121)])) := by kernel_rfl
end Go.Proofs.YtkcmgcoppecfpaaGreat

/- proc.Table: Len, Get, Signals, Kill, Spawn, Fork. -/
namespace Go.Proofs.YtkcmgcoppecfpaaGreat
open Go Go.RowKit

theorem hmP : Tryz.prog.follows .mixedOrders = true := by kernel_rfl
theorem mget_pkey (pid : Int) : ∀ ps : List (Nat × PR), mget (ps.map pkey) (.i .i64 pid) = (getP ps pid).map (·.1)
  | [] => rfl
  | x :: ps => by
    have ih := mget_pkey pid ps
    unfold getP at ih ⊢
    simp only [List.map_cons, mget, List.find?_cons]
    have e : keyEq (.i .i64 pid) (pkey x).1 = (x.2.pid == pid) := by
      rw [Bool.eq_iff_iff]; simp only [pkey, keyEq, beq_iff_eq]; exact eq_comm
    have e2 : pkey x = ((pkey x).1, x.1) := rfl
    rw [e2]
    simp only [mget, e]
    cases x.2.pid == pid with
    | true => rfl
    | false => exact ih
theorem map_same {α : Type} {f : α → α} : ∀ {l : List α}, (∀ x ∈ l, f x = x) → l.map f = l
  | [], _ => rfl
  | x :: l, h => by rw [List.map_cons, h x List.mem_cons_self, map_same fun y hy => h y (List.mem_cons_of_mem _ hy)]
theorem getP_split {ps : List (Nat × PR)} {pid : Int} {x : Nat × PR} (ha : ps.Pairwise fun x y => x.2.pid < y.2.pid) (h : getP ps pid = some x) : ∃ l1 l2, ps = l1 ++ x :: l2 ∧ x.2.pid = pid ∧ (∀ g, setP ps pid g = l1 ++ (x.1, g x.2) :: l2) ∧ (ps.filter fun y => !(y.2.pid == pid)) = l1 ++ l2 := by
  unfold getP at h
  obtain ⟨h1, l1, l2, rfl, h2⟩ := List.find?_eq_some_iff_append.1 h
  have hx : x.2.pid = pid := by simpa using h1
  have n1 : ∀ y ∈ l1, (y.2.pid == pid) = false := fun y hy => by have := h2 y hy; simpa using this
  have n2 : ∀ y ∈ l2, (y.2.pid == pid) = false := fun y hy => by
    rw [List.pairwise_append] at ha
    have := (List.pairwise_cons.1 ha.2.1).1 y hy
    rw [hx] at this
    simp; omega
  refine ⟨l1, l2, rfl, hx, fun g => ?_, ?_⟩
  · have e1 : l1.map (setOne pid g) = l1 := map_same fun y hy => by simp only [setOne, n1 y hy]
    have e2 : l2.map (setOne pid g) = l2 := map_same fun y hy => by simp only [setOne, n2 y hy]
    unfold setP
    rw [List.map_append, List.map_cons, e1, e2]
    simp [setOne, hx]
  · rw [List.filter_append, List.filter_cons, List.filter_eq_self.2 fun y hy => by rw [n1 y hy]; rfl, List.filter_eq_self.2 fun y hy => by rw [n2 y hy]; rfl]
    simp [hx]
theorem pkey_setP {g : PR → PR} (hg : ∀ r, (g r).pid = r.pid) (ps : List (Nat × PR)) (pid : Int) : (setP ps pid g).map pkey = ps.map pkey := by
  unfold setP
  rw [List.map_map]
  refine List.map_congr_left fun x _ => ?_
  simp only [Function.comp, setOne]
  cases x.2.pid == pid <;> simp [pkey, hg]

section
variable {W w : World} {F : List Ch} {s : PT} {b : Nat} {x : Nat × PR} {l1 l2 : List (Nat × PR)}
theorem pt_open (hs : s.ps = l1 ++ x :: l2) (hr : Rep W F (ptE s b) w) : Rep W F [⟨.blk b, .cells [.map 1 s.bm, .int .i64 s.room, .int .i64 s.last] 119⟩, ⟨.blk s.bm, .mapL (some .i64) encB1 (s.ps.map pkey)⟩, procE x, pk 0 (l1.map procE ++ l2.map procE)] w := by
  have e : s.ps.map procE = l1.map procE ++ procE x :: l2.map procE := by rw [hs]; simp
  unfold ptE at hr
  rw [e] at hr
  exact Rep.outP (p := [⟨.blk b, .cells [.map 1 s.bm, .int .i64 s.room, .int .i64 s.last] 119⟩, ⟨.blk s.bm, .mapL (some .i64) encB1 (s.ps.map pkey)⟩]) (t := []) hr
theorem pt_close {a1 a2 : Ent} {t : List Ent} {pb : Nat} {r : PR} (hr : Rep W F (a1 :: a2 :: procE (pb, r) :: pk 0 (l1.map procE ++ l2.map procE) :: t) w) : Rep W F (a1 :: a2 :: pk 0 ((l1 ++ (pb, r) :: l2).map procE) :: t) w := by
  have := Rep.intoP (p := [a1, a2]) (t := t) (e := procE (pb, r)) hr
  have e : (l1 ++ (pb, r) :: l2).map procE = l1.map procE ++ procE (pb, r) :: l2.map procE := by simp
  rw [e]; exact this
theorem pt_back {pid : Int} {r0 : Option SV} {t : List Ent} {pb : Nat} {r : PR} (hs : s.ps = l1 ++ (pb, r) :: l2) (hr : Rep W F (⟨.blk b, .cells [.map 1 s.bm, .int .i64 s.room, .int .i64 s.last] 119⟩ :: ⟨.blk s.bm, .map1 (some .i64) encB1 (s.ps.map pkey) (.i .i64 pid) r0⟩ :: ⟨.blk pb, .cells (encR r) 121⟩ :: pk 0 (l1.map procE ++ l2.map procE) :: t) w) : Rep W F (ptE s b) w := by
  have h1 := Rep.forget1 (l := 1) rfl hr
  have h2 := pt_close (pb := pb) (r := r) h1
  rw [← hs] at h2
  exact Rep.dropR (h := ptE s b) h2
theorem pt_set {pid : Int} {r0 : Option SV} {t : List Ent} {pb : Nat} {r : PR} {g : PR → PR} (hg : ∀ r, (g r).pid = r.pid) (hs : ∀ g, setP s.ps pid g = l1 ++ (pb, g r) :: l2) (hr : Rep W F (⟨.blk b, .cells [.map 1 s.bm, .int .i64 s.room, .int .i64 s.last] 119⟩ :: ⟨.blk s.bm, .map1 (some .i64) encB1 (s.ps.map pkey) (.i .i64 pid) r0⟩ :: ⟨.blk pb, .cells (encR (g r)) 121⟩ :: pk 0 (l1.map procE ++ l2.map procE) :: t) w) :
    Rep W F (ptE { s with ps := setP s.ps pid g } b) w := by
  have h1 := Rep.forget1 (l := 1) rfl hr
  have h2 := pt_close (pb := pb) (r := g r) h1
  rw [← hs] at h2
  unfold ptE
  dsimp only
  rw [pkey_setP hg]
  exact Rep.dropR (h := [⟨.blk b, .cells [.map 1 s.bm, .int .i64 s.room, .int .i64 s.last] 119⟩, ⟨.blk s.bm, .mapL (some .i64) encB1 (s.ps.map pkey)⟩, pk 0 ((setP s.ps pid g).map procE)]) h2
theorem pt_new {k : Int} {r0 : Option SV} {e1 : Ent} {nb pb : Nat} {r r' : PR} (hs : s.ps = l1 ++ (pb, r) :: l2) (ho : pOk s) (hk : k = s.last + 1) (hr' : r'.pid = s.last + 1)
    (hr : Rep W F [⟨.blk b, .cells [.map 1 s.bm, .int .i64 s.room, .int .i64 k] 119⟩, ⟨.blk s.bm, .map1 (some .i64) encB1 (mset (s.ps.map pkey) (.i .i64 k) nb) (.i .i64 k) r0⟩, ⟨.blk pb, .cells (encR r) 121⟩, pk 0 (l1.map procE ++ l2.map procE), e1, procE (nb, r')] w) :
    Rep W F (ptE { s with ps := s.ps ++ [(nb, r')], last := s.last + 1 } b) w := by
  subst hk
  have h1 := Rep.forget1 (l := 1) rfl hr
  have h2 := pt_close (pb := pb) (r := r) h1
  rw [← hs] at h2
  have h3 := Rep.pick (π := [0, 1, 4, 2]) (by decide) rfl h2
  have h4 := Rep.intoNewP (p := [_, _]) (t := []) h3
  have hn : mget (s.ps.map pkey) (.i .i64 (s.last + 1)) = none := by
    rw [mget_pkey]
    have : getP s.ps (s.last + 1) = none := by
      unfold getP
      rw [List.find?_eq_none]
      intro x hx
      have := (ho.le x hx).2
      simp; omega
    rw [this]; rfl
  rw [mset_none hn] at h4
  unfold ptE
  dsimp only
  have e1 : (s.ps ++ [(nb, r')]).map pkey = s.ps.map pkey ++ [(.i .i64 (s.last + 1), nb)] := by simp [pkey, hr']
  have e2 : (s.ps ++ [(nb, r')]).map procE = s.ps.map procE ++ [procE (nb, r')] := by simp
  rw [e1, e2]
  exact h4
end
theorem pHas_none {s : PT} {pid : Int} (h : getP s.ps pid = none) : pHas s pid = false ∧ pGet s pid = PR.zero ∧ pLive s pid = false := by simp [pHas, pGet, pLive, h]
theorem pHas_some {s : PT} {pid : Int} {x : Nat × PR} (h : getP s.ps pid = some x) : pHas s pid = true ∧ pGet s pid = x.2 ∧ pLive s pid = !x.2.zombie := by simp [pHas, pGet, pLive, h]

theorem ptL_ok : AllOk Tryz.prog ptL := ⟨inl_ok trivial hmP Tryz.func83 (by kernel_rfl), inl_ok trivial hmP Tryz.func97 (by kernel_rfl), trivial⟩
theorem ptB_ok : AllOk Tryz.prog ptB := ⟨inl_ok ptL_ok hmP Tryz.func84 (by kernel_rfl), ptL_ok⟩
theorem pGet_ok : CtrOk Tryz.prog 16 (adtC ptE getM) := adt_ok fun b s rest N h => by
  unfold getM at h
  split at h
  case h_2 => exact h.elim
  rename_i pid
  obtain ⟨ho, h⟩ := h
  cases hg : getP s.ps pid with
  | none =>
    obtain ⟨e1, e2, e3⟩ := pHas_none hg
    refine Spec.pre (hs' := [⟨.blk b, .cells [.map 1 s.bm, .int .i64 s.room, .int .i64 s.last] 119⟩, ⟨.blk s.bm, .map1 (some .i64) encB1 (s.ps.map pkey) (.i .i64 pid) none⟩, pk 0 (s.ps.map procE)]) (fun W F w hr => Rep.know1 (l := 1) (.i .i64 pid) none rfl rfl (by rw [mget_pkey, hg]; rfl) hr) rfl ?_
    refine Spec.of_G 24 Tryz.func16 (c := bodyOf Tryz.f16) (by kernel_rfl) (by kernel_rfl) (Nat.le_of_ble_eq_true rfl) fun W F => ?_
    refine G_run (kc := false) (ss := []) (Cs := []) trivial hmP 600 ?_
    rw [pGet_none]
    rw [e1, e2] at h
    repeat' first
      | exact rfl
      | exact trivial
      | (refine fun _ => ?_)
      | (refine ⟨_, rfl, ?_⟩)
      | apply And.intro
      | (show _ ≤ _; decide)
      | (refine ⟨s, fun W F w hr => Rep.dropR (h := ptE s b) (Rep.forget1 (l := 1) rfl hr), ?_⟩)
      | exact h
      | fail
  | some x =>
    obtain ⟨pb, r⟩ := x
    obtain ⟨e1, e2, e3⟩ := pHas_some hg
    obtain ⟨l1, l2, hs, hpid, hset, _⟩ := getP_split ho.asc hg
    dsimp only at e2 e3 hpid hset
    refine Spec.pre (hs' := [⟨.blk b, .cells [.map 1 s.bm, .int .i64 s.room, .int .i64 s.last] 119⟩, ⟨.blk s.bm, .map1 (some .i64) encB1 (s.ps.map pkey) (.i .i64 pid) (some (.ptr 2 pb 0))⟩, ⟨.blk pb, .cells (encR r) 121⟩, pk 0 (l1.map procE ++ l2.map procE)]) (fun W F w hr => Rep.know1 (l := 1) (.i .i64 pid) (some (.ptr 2 pb 0)) rfl rfl (by rw [mget_pkey, hg]; rfl) (pt_open hs hr)) rfl ?_
    refine Spec.of_G 24 Tryz.func16 (c := bodyOf Tryz.f16) (by kernel_rfl) (by kernel_rfl) (Nat.le_of_ble_eq_true rfl) fun W F => ?_
    refine G_run (kc := false) (ss := []) (Cs := []) trivial hmP 600 ?_
    rw [pGet_some]
    rw [e1, e2] at h
    repeat' first
      | exact rfl
      | exact trivial
      | (refine fun _ => ?_)
      | (refine ⟨_, rfl, ?_⟩)
      | apply And.intro
      | (show _ ≤ _; decide)
      | (refine ⟨s, fun W F w hr => pt_back hs hr, ?_⟩)
      | exact h
      | fail
theorem pSig_ok : CtrOk Tryz.prog 59 (adtC ptE signalsM) := adt_ok fun b s rest N h => by
  unfold signalsM at h
  split at h
  case h_2 => exact h.elim
  rename_i pid
  obtain ⟨ho, h⟩ := h
  cases hg : getP s.ps pid with
  | none =>
    obtain ⟨e1, e2, e3⟩ := pHas_none hg
    refine Spec.pre (hs' := [⟨.blk b, .cells [.map 1 s.bm, .int .i64 s.room, .int .i64 s.last] 119⟩, ⟨.blk s.bm, .map1 (some .i64) encB1 (s.ps.map pkey) (.i .i64 pid) none⟩, pk 0 (s.ps.map procE)]) (fun W F w hr => Rep.know1 (l := 1) (.i .i64 pid) none rfl rfl (by rw [mget_pkey, hg]; rfl) hr) rfl ?_
    refine Spec.of_G 27 Tryz.func59 (c := bodyOf Tryz.f59) (by kernel_rfl) (by kernel_rfl) (Nat.le_of_ble_eq_true rfl) fun W F => ?_
    refine G_run (kc := false) (ss := []) (Cs := []) trivial hmP 600 ?_
    rw [pSig_none]
    rw [e2] at h
    repeat' first
      | exact rfl
      | exact trivial
      | (refine fun _ => ?_)
      | (refine ⟨_, rfl, ?_⟩)
      | apply And.intro
      | (show _ ≤ _; decide)
      | (refine ⟨s, fun W F w hr => Rep.dropR (h := ptE s b) (Rep.forget1 (l := 1) rfl hr), ?_⟩)
      | exact h
      | fail
  | some x =>
    obtain ⟨pb, r⟩ := x
    obtain ⟨e1, e2, e3⟩ := pHas_some hg
    obtain ⟨l1, l2, hs, hpid, hset, _⟩ := getP_split ho.asc hg
    dsimp only at e2 e3 hpid hset
    refine Spec.pre (hs' := [⟨.blk b, .cells [.map 1 s.bm, .int .i64 s.room, .int .i64 s.last] 119⟩, ⟨.blk s.bm, .map1 (some .i64) encB1 (s.ps.map pkey) (.i .i64 pid) (some (.ptr 2 pb 0))⟩, ⟨.blk pb, .cells (encR r) 121⟩, pk 0 (l1.map procE ++ l2.map procE)]) (fun W F w hr => Rep.know1 (l := 1) (.i .i64 pid) (some (.ptr 2 pb 0)) rfl rfl (by rw [mget_pkey, hg]; rfl) (pt_open hs hr)) rfl ?_
    refine Spec.of_G 27 Tryz.func59 (c := bodyOf Tryz.f59) (by kernel_rfl) (by kernel_rfl) (Nat.le_of_ble_eq_true rfl) fun W F => ?_
    refine G_run (kc := false) (ss := []) (Cs := []) trivial hmP 600 ?_
    rw [pSig_some]
    rw [e2] at h
    repeat' first
      | exact rfl
      | exact trivial
      | (refine fun _ => ?_)
      | (refine ⟨_, rfl, ?_⟩)
      | apply And.intro
      | (show _ ≤ _; decide)
      | (refine ⟨s, fun W F w hr => pt_back hs hr, ?_⟩)
      | exact h
      | fail
theorem pKill_ok : CtrOk Tryz.prog 73 (adtC ptE killM) := adt_ok fun b s rest N h => by
  unfold killM at h
  split at h
  case h_2 => exact h.elim
  rename_i pid sig
  obtain ⟨ho, h⟩ := h
  cases hg : getP s.ps pid with
  | none =>
    obtain ⟨e1, e2, e3⟩ := pHas_none hg
    refine Spec.pre (hs' := [⟨.blk b, .cells [.map 1 s.bm, .int .i64 s.room, .int .i64 s.last] 119⟩, ⟨.blk s.bm, .map1 (some .i64) encB1 (s.ps.map pkey) (.i .i64 pid) none⟩, pk 0 (s.ps.map procE)]) (fun W F w hr => Rep.know1 (l := 1) (.i .i64 pid) none rfl rfl (by rw [mget_pkey, hg]; rfl) hr) rfl ?_
    refine Spec.of_G 32 Tryz.func73 (c := bodyOf Tryz.f73) (by kernel_rfl) (by kernel_rfl) (Nat.le_of_ble_eq_true rfl) fun W F => ?_
    refine G_run (kc := false) (ss := []) ptL_ok hmP 600 ?_
    rw [pKill_none]
    simp only [pKill, e3, Bool.false_and] at h
    repeat' first
      | exact rfl
      | exact trivial
      | assumption
      | (refine ⟨s, fun W F w hr => Rep.dropR (h := ptE s b) (Rep.forget1 (l := 1) rfl hr), ?_⟩)
      | (refine fun _ => ?_)
      | (refine ⟨_, rfl, ?_⟩)
      | apply And.intro
      | (show _ ≤ _; decide)
      | fail
  | some x =>
    obtain ⟨pb, r⟩ := x
    obtain ⟨e1, e2, e3⟩ := pHas_some hg
    obtain ⟨l1, l2, hs, hpid, hset, _⟩ := getP_split ho.asc hg
    dsimp only at e2 e3 hpid hset
    refine Spec.pre (hs' := [⟨.blk b, .cells [.map 1 s.bm, .int .i64 s.room, .int .i64 s.last] 119⟩, ⟨.blk s.bm, .map1 (some .i64) encB1 (s.ps.map pkey) (.i .i64 pid) (some (.ptr 2 pb 0))⟩, ⟨.blk pb, .cells (encR r) 121⟩, pk 0 (l1.map procE ++ l2.map procE)]) (fun W F w hr => Rep.know1 (l := 1) (.i .i64 pid) (some (.ptr 2 pb 0)) rfl rfl (by rw [mget_pkey, hg]; rfl) (pt_open hs hr)) rfl ?_
    refine Spec.of_G 32 Tryz.func73 (c := bodyOf Tryz.f73) (by kernel_rfl) (by kernel_rfl) (Nat.le_of_ble_eq_true rfl) fun W F => ?_
    refine G_run (kc := false) (ss := []) ptL_ok hmP 600 ?_
    rw [pKill_some]
    simp only [pKill, e3] at h
    obtain ⟨rp, rpa, rg, rz, rs, rc, rt, rk⟩ := r
    dsimp only at h ⊢
    cases rz <;> cases h1 : pid == 1 <;> cases h15 : sig == 15 <;> cases h9 : sig == 9 <;> simp only [h1, h15, h9, Bool.not_true, Bool.not_false, Bool.true_and, Bool.false_and, Bool.and_true, Bool.and_false] at h ⊢
    all_goals
      repeat' first
        | exact rfl
        | exact trivial
        | assumption
        | (refine ⟨s, fun W F w hr => pt_back hs hr, ?_⟩)
        | (refine ⟨_, fun W F w hr => pt_set (g := fun r => { r with term := true }) (fun _ => rfl) hset hr, ?_⟩)
        | (refine ⟨_, fun W F w hr => pt_set (g := fun r => { r with kill := true }) (fun _ => rfl) hset hr, ?_⟩)
        | (refine fun _ => ?_)
        | (refine ⟨_, rfl, ?_⟩)
        | apply And.intro
        | (show _ ≤ _; decide)
        | fail
theorem pSpawn_ok : CtrOk Tryz.prog 53 (adtC ptE spawnM) := adt_ok fun b s rest N h => by
  unfold spawnM at h
  split at h
  case h_2 => exact h.elim
  rename_i pid group cmd
  obtain ⟨ho, h⟩ := h
  cases hg : getP s.ps pid with
  | none =>
    obtain ⟨e1, e2, e3⟩ := pHas_none hg
    refine Spec.pre (hs' := [⟨.blk b, .cells [.map 1 s.bm, .int .i64 s.room, .int .i64 s.last] 119⟩, ⟨.blk s.bm, .map1 (some .i64) encB1 (s.ps.map pkey) (.i .i64 pid) none⟩, pk 0 (s.ps.map procE)]) (fun W F w hr => Rep.know1 (l := 1) (.i .i64 pid) none rfl rfl (by rw [mget_pkey, hg]; rfl) hr) rfl ?_
    refine Spec.of_G 28 Tryz.func53 (c := bodyOf Tryz.f53) (by kernel_rfl) (by kernel_rfl) (Nat.le_of_ble_eq_true rfl) fun W F => ?_
    refine G_run (kc := false) (ss := []) ptB_ok hmP 900 ?_
    rw [pSpawn_none]
    simp only [pSpawn, e3, Bool.false_and] at h
    have h := h 0
    repeat' first
      | exact rfl
      | exact trivial
      | assumption
      | (refine ⟨s, fun W F w hr => Rep.dropR (h := ptE s b) (Rep.forget1 (l := 1) rfl hr), ?_⟩)
      | (refine fun _ => ?_)
      | (refine ⟨_, rfl, ?_⟩)
      | apply And.intro
      | (show _ ≤ _; decide)
      | fail
  | some x =>
    obtain ⟨pb, r⟩ := x
    obtain ⟨e1, e2, e3⟩ := pHas_some hg
    obtain ⟨l1, l2, hs, hpid, hset, _⟩ := getP_split ho.asc hg
    dsimp only at e2 e3 hpid hset
    refine Spec.pre (hs' := [⟨.blk b, .cells [.map 1 s.bm, .int .i64 s.room, .int .i64 s.last] 119⟩, ⟨.blk s.bm, .map1 (some .i64) encB1 (s.ps.map pkey) (.i .i64 pid) (some (.ptr 2 pb 0))⟩, ⟨.blk pb, .cells (encR r) 121⟩, pk 0 (l1.map procE ++ l2.map procE)]) (fun W F w hr => Rep.know1 (l := 1) (.i .i64 pid) (some (.ptr 2 pb 0)) rfl rfl (by rw [mget_pkey, hg]; rfl) (pt_open hs hr)) rfl ?_
    refine Spec.of_G 28 Tryz.func53 (c := bodyOf Tryz.f53) (by kernel_rfl) (by kernel_rfl) (Nat.le_of_ble_eq_true rfl) fun W F => ?_
    refine G_run (kc := false) (ss := []) ptB_ok hmP 900 ?_
    rw [pSpawn_some]
    have hl := ho.len
    have hla := ho.last
    have hpl := (ho.le (pb, r) (by rw [hs]; simp)).2
    have hl1 := (ho.le (pb, r) (by rw [hs]; simp)).1
    dsimp only at hpl hl1
    have w1 : IntKind.wrap .i64 (((s.ps.map pkey).length : Int) - 1) = (s.ps.length : Int) - 1 := by rw [List.length_map]; exact IntWalk.i64_in _ (by omega)
    have w2 : IntKind.wrap .i64 (s.last + 1) = s.last + 1 := IntWalk.i64_in _ (by omega)
    rw [w1, w2]
    simp only [pSpawn, pBegins, e2, e3] at h
    obtain ⟨rp, rpa, rg, rz, rs, rc, rt, rk⟩ := r
    dsimp only at h ⊢
    cases rz <;> cases h1 : pid == 1 <;> cases rk <;> cases hr : decide ((s.ps.length : Int) - 1 ≥ s.room) <;> simp only [h1, hr, Bool.not_true, Bool.not_false, Bool.true_and, Bool.false_and, Bool.and_true, Bool.and_false] at h ⊢
    all_goals
      repeat' first
        | exact rfl
        | exact trivial
        | assumption
        | exact h 0
        | (refine ⟨s, fun W F w hr => pt_back hs hr, ?_⟩)
        | (refine ⟨_, fun W F w hr => pt_new (r' := { PR.zero with parent := pid, group := group, cmd := cmd, pid := s.last + 1 }) hs ho rfl rfl hr, ?_⟩; exact h _)
        | (refine fun _ => ?_)
        | (refine ⟨_, rfl, ?_⟩)
        | apply And.intro
        | (show _ ≤ _; decide)
        | fail
theorem pFork_ok : CtrOk Tryz.prog 55 (adtC ptE forkM) := adt_ok fun b s rest N h => by
  unfold forkM at h
  split at h
  case h_2 => exact h.elim
  rename_i pid
  obtain ⟨ho, h⟩ := h
  cases hg : getP s.ps pid with
  | none =>
    obtain ⟨e1, e2, e3⟩ := pHas_none hg
    refine Spec.pre (hs' := [⟨.blk b, .cells [.map 1 s.bm, .int .i64 s.room, .int .i64 s.last] 119⟩, ⟨.blk s.bm, .map1 (some .i64) encB1 (s.ps.map pkey) (.i .i64 pid) none⟩, pk 0 (s.ps.map procE)]) (fun W F w hr => Rep.know1 (l := 1) (.i .i64 pid) none rfl rfl (by rw [mget_pkey, hg]; rfl) hr) rfl ?_
    refine Spec.of_G 42 Tryz.func55 (c := bodyOf Tryz.f55) (by kernel_rfl) (by kernel_rfl) (Nat.le_of_ble_eq_true rfl) fun W F => ?_
    refine G_run (kc := false) (ss := []) ptB_ok hmP 900 ?_
    rw [pFork_none]
    simp only [pFork, e3, Bool.false_and] at h
    have h := h 0
    repeat' first
      | exact rfl
      | exact trivial
      | assumption
      | (refine ⟨s, fun W F w hr => Rep.dropR (h := ptE s b) (Rep.forget1 (l := 1) rfl hr), ?_⟩)
      | (refine fun _ => ?_)
      | (refine ⟨_, rfl, ?_⟩)
      | apply And.intro
      | (show _ ≤ _; decide)
      | fail
  | some x =>
    obtain ⟨pb, r⟩ := x
    obtain ⟨e1, e2, e3⟩ := pHas_some hg
    obtain ⟨l1, l2, hs, hpid, hset, _⟩ := getP_split ho.asc hg
    dsimp only at e2 e3 hpid hset
    refine Spec.pre (hs' := [⟨.blk b, .cells [.map 1 s.bm, .int .i64 s.room, .int .i64 s.last] 119⟩, ⟨.blk s.bm, .map1 (some .i64) encB1 (s.ps.map pkey) (.i .i64 pid) (some (.ptr 2 pb 0))⟩, ⟨.blk pb, .cells (encR r) 121⟩, pk 0 (l1.map procE ++ l2.map procE)]) (fun W F w hr => Rep.know1 (l := 1) (.i .i64 pid) (some (.ptr 2 pb 0)) rfl rfl (by rw [mget_pkey, hg]; rfl) (pt_open hs hr)) rfl ?_
    refine Spec.of_G 42 Tryz.func55 (c := bodyOf Tryz.f55) (by kernel_rfl) (by kernel_rfl) (Nat.le_of_ble_eq_true rfl) fun W F => ?_
    refine G_run (kc := false) (ss := []) ptB_ok hmP 900 ?_
    rw [pFork_some]
    have hl := ho.len
    have hla := ho.last
    have hpl := (ho.le (pb, r) (by rw [hs]; simp)).2
    have hl1 := (ho.le (pb, r) (by rw [hs]; simp)).1
    dsimp only at hpl hl1
    have w1 : IntKind.wrap .i64 (((s.ps.map pkey).length : Int) - 1) = (s.ps.length : Int) - 1 := by rw [List.length_map]; exact IntWalk.i64_in _ (by omega)
    have w2 : IntKind.wrap .i64 (s.last + 1) = s.last + 1 := IntWalk.i64_in _ (by omega)
    rw [w1, w2]
    simp only [pFork, pBegins, e2, e3] at h
    obtain ⟨rp, rpa, rg, rz, rs, rc, rt, rk⟩ := r
    dsimp only at h ⊢
    cases rz <;> cases h1 : pid == 1 <;> cases rk <;> cases hr : decide ((s.ps.length : Int) - 1 ≥ s.room) <;> simp only [h1, hr, Bool.not_true, Bool.not_false, Bool.true_and, Bool.false_and, Bool.and_true, Bool.and_false] at h ⊢
    all_goals
      repeat' first
        | exact rfl
        | exact trivial
        | assumption
        | exact h 0
        | (refine ⟨s, fun W F w hr => pt_back hs hr, ?_⟩)
        | (refine ⟨_, fun W F w hr => pt_new (r' := { PR.zero with parent := pid, group := rg, cmd := rc, pid := s.last + 1 }) hs ho rfl rfl hr, ?_⟩; exact h _)
        | (refine fun _ => ?_)
        | (refine ⟨_, rfl, ?_⟩)
        | apply And.intro
        | (show _ ≤ _; decide)
        | fail
end Go.Proofs.YtkcmgcoppecfpaaGreat

/- proc.Table: Exit, New. -/
namespace Go.Proofs.YtkcmgcoppecfpaaGreat
open Go Go.RowKit

def bagX (pid : Int) (zl : List (Nat × (Nat × PR))) (seen : List Nat) : List Ent := zl.map fun z => procE (z.2.1, if z.1 ∈ seen then orphan pid z.2.2 else z.2.2)
theorem bagX_out {pid : Int} {z1 z2 : List (Nat × (Nat × PR))} {born : Nat} {x : Nat × PR} {seen : List Nat} (hn : ((z1 ++ (born, x) :: z2).map (·.1)).Nodup) (hs : born ∉ seen) :
    bagX pid (z1 ++ (born, x) :: z2) seen = bagX pid z1 seen ++ procE x :: bagX pid z2 seen ∧ bagX pid (z1 ++ (born, x) :: z2) (snoc seen born) = bagX pid z1 seen ++ procE (x.1, orphan pid x.2) :: bagX pid z2 seen := by
  have key : ∀ z : List (Nat × (Nat × PR)), (∀ y ∈ z, y.1 ≠ born) → bagX pid z (snoc seen born) = bagX pid z seen := fun z hz => by
    unfold bagX
    refine List.map_congr_left fun y hy => ?_
    have : y.1 ∈ snoc seen born ↔ y.1 ∈ seen := by rw [snoc_eq]; simp [hz y hy]
    simp only [this]
  rw [List.map_append, List.map_cons, List.nodup_append, List.nodup_cons] at hn
  have k1 := key z1 fun y hy e => hn.2.2 born (List.mem_map.2 ⟨y, hy, e⟩) born List.mem_cons_self rfl
  have k2 := key z2 fun y hy e => hn.2.1.1 (List.mem_map.2 ⟨y, hy, e⟩)
  refine ⟨?_, ?_⟩
  · unfold bagX
    rw [List.map_append, List.map_cons, if_neg hs]
  · have : bagX pid (z1 ++ (born, x) :: z2) (snoc seen born) = bagX pid z1 (snoc seen born) ++ procE (x.1, orphan pid x.2) :: bagX pid z2 (snoc seen born) := by
      unfold bagX
      rw [List.map_append, List.map_cons, if_pos (by rw [snoc_eq]; simp)]
    rw [this, k1, k2]
theorem filter_lt_of {α : Type} {p q : α → Bool} (h : ∀ x, q x = true → p x = true) {a : α} (ha : p a = true) (hb : q a = false) : ∀ {l : List α}, a ∈ l → (l.filter q).length < (l.filter p).length
  | x :: l, hm => by
    have hle : ∀ l : List α, (l.filter q).length ≤ (l.filter p).length := fun l => by
      induction l with
      | nil => simp
      | cons y l ih =>
        simp only [List.filter_cons]
        cases hq : q y with
        | true => simp [h y hq, ih]
        | false => cases p y <;> simp <;> omega
    simp only [List.filter_cons]
    rcases List.mem_cons.1 hm with rfl | hm
    · rw [ha, hb]; simp; have := hle l; omega
    · have ih := filter_lt_of h ha hb hm
      cases hq : q x with
      | true => simp [h x hq]; omega
      | false => cases p x <;> simp <;> omega

theorem pExit_loop {W : World} {F : List Ch} {N : List Ent → SV → Prop} (s : PT) (b : Nat) (pid st : Int) (u : Nat → Value) (hN : ∀ h', (∀ W F w, Rep W F h' w → Rep W F (ptE { s with ps := s.ps.map fun x => (x.1, orphan pid x.2) } b) w) → N h' (.int .i64 0)) :
    G Tryz.prog (endQ Tryz.prog Tryz.f56 W F N) W F (frmR [] (bodyOf Tryz.f56) 7) ⟨mkT u 58 0 [(0, .ptr 0 b 0), (1, .int .i64 pid), (2, .int .i64 st)], ptE s b⟩ := by
  refine G_heap (h' := [⟨.blk b, .cells [.map 1 s.bm, .int .i64 s.room, .int .i64 s.last] 119⟩, ⟨.blk s.bm, .mapL (some .i64) encB1 (s.ps.map pkey)⟩, pk 0 (s.ps.map procE)]) (fun w hr => hr) ?_
  refine G_run (kc := false) (ss := [8]) (Cs := []) trivial hmP 900 ?_
  rw [pExit_rng]
  refine ⟨rfl, rfl, fun es clk bi hes hnd => ?_⟩
  have hlen : es.length = s.ps.length := by simpa using congrArg List.length hes
  obtain ⟨zl, hzl⟩ : ∃ zl, zl = (es.map (·.2.1)).zip s.ps := ⟨_, rfl⟩
  have hz1 : zl.map (·.1) = es.map (·.2.1) := by rw [hzl, List.map_fst_zip (by simp [hlen])]
  have hz2 : zl.map (·.2) = s.ps := by rw [hzl, List.map_snd_zip (by simp [hlen])]
  refine G_loopAt (ι := List Nat) [] (bodyOf Tryz.f56) [1, 1, 1, 1, 1, 0, 1, 0] 58 (fun _ => [(0, .ptr 0 b 0), (1, .int .i64 pid), (42, .ptr 3 bi 0)]) (fun seen => [⟨.blk b, .cells [.map 1 s.bm, .int .i64 s.room, .int .i64 s.last] 119⟩, ⟨.blk s.bm, .mapS (some .i64) encB1 es clk⟩, pk 0 (bagX pid zl seen), ⟨.blk bi, .iter 1 s.bm clk seen⟩])
    (fun _ => True) (fun seen => (es.filter fun e => !seen.contains e.2.1).length) [] (by kernel_rfl) (fun J => by kernel_rfl) trivial rfl ⟨rfl, rfl, rfl, trivial⟩ (fun w hw => ?_) fun seen _ u => ?_
  · have e : s.ps.map procE = bagX pid zl [] := by
      unfold bagX
      rw [← hz2, List.map_map]
      refine List.map_congr_left fun z _ => ?_
      simp
    rw [e] at hw; exact hw
  simp only [List.nil_append, List.cons_append]
  refine G_run (kc := false) (ss := [10]) (Cs := []) trivial hmP 900 ?_
  rw [pExit_head]
  refine ⟨⟨rfl, rfl, rfl⟩, fun n born v hm hns => ⟨⟨rfl, rfl, rfl⟩, n, born, v, seen, hm, rfl, ?_⟩, fun hall => ?_⟩
  · obtain ⟨j, hj, he⟩ := List.mem_iff_getElem.1 hm
    have hj2 : j < s.ps.length := by omega
    have hx : pkey s.ps[j] = (Key.i .i64 n, v) := by
      have h1 : (es.map fun e => (e.1, e.2.2))[j]'(by simpa using hj) = (s.ps.map pkey)[j]'(by simpa using hj2) := by simp only [hes]
      simp only [List.getElem_map, he] at h1
      exact h1.symm
    have hxz : (born, s.ps[j]) ∈ zl := by
      rw [hzl, List.mem_iff_getElem]
      refine ⟨j, by simp [hlen]; exact hj2, ?_⟩
      simp [he]
    obtain ⟨z1, z2, hz⟩ := List.append_of_mem hxz
    have hv : (s.ps[j]).1 = v := congrArg Prod.snd hx
    generalize s.ps[j] = x at hz hv
    subst hv
    obtain ⟨o1, o2⟩ := bagX_out (pid := pid) (z1 := z1) (z2 := z2) (born := born) (x := x) (seen := seen) (by rw [← hz, hz1]; exact hnd) hns
    obtain ⟨pb, r⟩ := x
    dsimp only at o1 o2
    refine G_live 58 [(0, .ptr 0 b 0), (1, .int .i64 pid), (10, .ptr 4 pb 0), (42, .ptr 3 bi 0)] [⟨.blk b, .cells [.map 1 s.bm, .int .i64 s.room, .int .i64 s.last] 119⟩, ⟨.blk s.bm, .mapS (some .i64) encB1 es clk⟩, pk 0 (bagX pid z1 seen ++ bagX pid z2 seen), ⟨.blk bi, .iter 1 s.bm clk (snoc seen born)⟩, ⟨.blk pb, .cells (encR r) 121⟩] rfl ⟨rfl, rfl, rfl, rfl, trivial⟩ (fun w hr => ?_) fun u => ?_
    · rw [hz, o1] at hr
      have h1 := Rep.outP (p := [_, _]) (t := [_]) hr
      exact Rep.pick (π := [0, 1, 3, 4, 2]) (by decide) rfl h1
    have hback : ∀ r', r' = orphan pid r → ∀ w, Rep W F [⟨.blk b, .cells [.map 1 s.bm, .int .i64 s.room, .int .i64 s.last] 119⟩, ⟨.blk s.bm, .mapS (some .i64) encB1 es clk⟩, pk 0 (bagX pid z1 seen ++ bagX pid z2 seen), ⟨.blk bi, .iter 1 s.bm clk (snoc seen born)⟩, ⟨.blk pb, .cells (encR r') 121⟩] w →
        Rep W F [⟨.blk b, .cells [.map 1 s.bm, .int .i64 s.room, .int .i64 s.last] 119⟩, ⟨.blk s.bm, .mapS (some .i64) encB1 es clk⟩, pk 0 (bagX pid zl (snoc seen born)), ⟨.blk bi, .iter 1 s.bm clk (snoc seen born)⟩] w := by
      rintro r' rfl w hr
      have h1 := Rep.pick (π := [0, 1, 4, 2, 3]) (by decide) rfl hr
      have h2 := Rep.intoP (p := [_, _]) (t := [_]) (e := procE (pb, orphan pid r)) h1
      rw [hz, o2]; exact h2
    have hmu : (es.filter fun e => !(snoc seen born).contains e.2.1).length < (es.filter fun e => !seen.contains e.2.1).length := by
      refine filter_lt_of (fun x hx => ?_) (a := (Key.i .i64 n, born, pb)) ?_ ?_ hm
      · simp only [snoc_eq, Bool.not_eq_true', List.contains_eq_mem, decide_eq_false_iff_not, List.mem_append, not_or] at hx ⊢
        exact hx.1
      · simp [hns]
      · simp [snoc_eq]
    refine G_run (kc := false) (ss := []) (Cs := []) trivial hmP 900 ?_
    rw [pExit_body]
    refine ⟨rfl, ?_⟩
    cases hp : r.parent == pid with
    | true =>
      refine ⟨⟨rfl, rfl, rfl, by decide⟩, ?_⟩
      exact G_back (snoc seen born) trivial hmu rfl ⟨rfl, rfl, rfl, trivial⟩ (fun w hw => hback { r with parent := 1 } (by simp only [orphan, hp]) w hw)
    | false => exact G_back (snoc seen born) trivial hmu rfl ⟨rfl, rfl, rfl, trivial⟩ (fun w hw => hback r (by simp only [orphan, hp]) w hw)
  · refine hN _ fun W F w hr => ?_
    have h1 := Rep.unmapS (l := 1) rfl hr
    have h2 := Rep.pick (π := [0, 1, 2]) (by decide) rfl h1
    have e1 : bagX pid zl seen = (s.ps.map fun x => (x.1, orphan pid x.2)).map procE := by
      unfold bagX
      rw [← hz2, List.map_map, List.map_map]
      refine List.map_congr_left fun z hzm => ?_
      have : z.1 ∈ es.map (·.2.1) := by rw [← hz1]; exact List.mem_map.2 ⟨z, hzm, rfl⟩
      obtain ⟨e, he, he2⟩ := List.mem_map.1 this
      have := hall e he
      rw [he2] at this
      simp [this]
    have e2 : (s.ps.map fun x => (x.1, orphan pid x.2)).map pkey = s.ps.map pkey := by
      rw [List.map_map]
      refine List.map_congr_left fun x _ => ?_
      simp only [Function.comp, pkey, orphan]
      cases x.2.parent == pid <;> rfl
    unfold ptE
    dsimp only
    rw [e2, ← e1, ← hes]
    exact h2

theorem pExit_ok : CtrOk Tryz.prog 56 (adtC ptE exitM) := adt_ok fun b s rest N h => by
  unfold exitM at h
  split at h
  case h_2 => exact h.elim
  rename_i pid status
  obtain ⟨ho, h⟩ := h
  cases hg : getP s.ps pid with
  | none =>
    obtain ⟨e1, e2, e3⟩ := pHas_none hg
    refine Spec.pre (hs' := [⟨.blk b, .cells [.map 1 s.bm, .int .i64 s.room, .int .i64 s.last] 119⟩, ⟨.blk s.bm, .map1 (some .i64) encB1 (s.ps.map pkey) (.i .i64 pid) none⟩, pk 0 (s.ps.map procE)]) (fun W F w hr => Rep.know1 (l := 1) (.i .i64 pid) none rfl rfl (by rw [mget_pkey, hg]; rfl) hr) rfl ?_
    refine Spec.of_G 58 Tryz.func56 (c := bodyOf Tryz.f56) (by kernel_rfl) (by kernel_rfl) (Nat.le_of_ble_eq_true rfl) fun W F => ?_
    refine G_run (kc := false) (ss := []) ptL_ok hmP 900 ?_
    rw [pExit_none]
    simp only [pExit, e3, Bool.false_and] at h
    repeat' first
      | exact rfl
      | exact trivial
      | assumption
      | (refine ⟨s, fun W F w hr => Rep.dropR (h := ptE s b) (Rep.forget1 (l := 1) rfl hr), ?_⟩)
      | (refine fun _ => ?_)
      | (refine ⟨_, rfl, ?_⟩)
      | apply And.intro
      | (show _ ≤ _; decide)
      | fail
  | some x =>
    obtain ⟨pb, r⟩ := x
    obtain ⟨e1, e2, e3⟩ := pHas_some hg
    obtain ⟨l1, l2, hs, hpid, hset, _⟩ := getP_split ho.asc hg
    dsimp only at e2 e3 hpid hset
    refine Spec.pre (hs' := [⟨.blk b, .cells [.map 1 s.bm, .int .i64 s.room, .int .i64 s.last] 119⟩, ⟨.blk s.bm, .map1 (some .i64) encB1 (s.ps.map pkey) (.i .i64 pid) (some (.ptr 2 pb 0))⟩, ⟨.blk pb, .cells (encR r) 121⟩, pk 0 (l1.map procE ++ l2.map procE)]) (fun W F w hr => Rep.know1 (l := 1) (.i .i64 pid) (some (.ptr 2 pb 0)) rfl rfl (by rw [mget_pkey, hg]; rfl) (pt_open hs hr)) rfl ?_
    refine Spec.of_G 58 Tryz.func56 (c := bodyOf Tryz.f56) (by kernel_rfl) (by kernel_rfl) (Nat.le_of_ble_eq_true rfl) fun W F => ?_
    refine G_run (kc := false) (ss := [7]) ptL_ok hmP 900 ?_
    rw [pExit_some]
    simp only [pExit, e3] at h
    obtain ⟨rp, rpa, rg, rz, rs, rc, rt, rk⟩ := r
    dsimp only at h ⊢
    cases rz <;> cases h1 : pid == 1 <;> cases s1 : decide (status < -64) <;> cases s2 : decide (status > 255) <;> simp only [h1, s1, s2, Bool.not_true, Bool.not_false, Bool.true_and, Bool.false_and, Bool.and_true, Bool.and_false] at h ⊢
    all_goals
      have hst : stOf status = stOf status := rfl
      conv at hst => rhs; unfold stOf; simp only [s1, s2, Bool.or_true, Bool.or_false, Bool.true_or, Bool.false_or]
      repeat' first
        | exact rfl
        | exact trivial
        | assumption
        | (refine ⟨s, fun W F w hr => pt_back hs hr, ?_⟩)
        | (refine G_live 58 [(0, .ptr 0 b 0), (1, .int .i64 pid), (2, .int .i64 255)] (ptE { s with ps := setP s.ps pid fun r => { r with zombie := true, status := stOf status } } b) rfl ⟨rfl, rfl, rfl, trivial⟩ (fun w hr => pt_set (g := fun r => { r with zombie := true, status := stOf status }) (fun _ => rfl) hset (by rw [hst]; exact hr)) fun u => pExit_loop _ b pid _ u fun h' hh => ⟨_, hh, h⟩)
        | (refine G_live 58 [(0, .ptr 0 b 0), (1, .int .i64 pid), (2, .int .i64 status)] (ptE { s with ps := setP s.ps pid fun r => { r with zombie := true, status := stOf status } } b) rfl ⟨rfl, rfl, rfl, trivial⟩ (fun w hr => pt_set (g := fun r => { r with zombie := true, status := stOf status }) (fun _ => rfl) hset (by rw [hst]; exact hr)) fun u => pExit_loop _ b pid _ u fun h' hh => ⟨_, hh, h⟩)
        | (refine fun _ => ?_)
        | (refine ⟨_, rfl, ?_⟩)
        | apply And.intro
        | (show _ ≤ _; decide)
        | fail

theorem pNew_ok : CtrOk Tryz.prog 48 newPC := by
  intro args hs N h
  unfold newPC at h
  split at h
  case h_2 => exact h.elim
  rename_i room
  refine Spec.at (hp := []) (args' := [.int .i64 room]) (Post' := fun h' r => ∃ b bm bp, h' = [pkA b ptE (pNew room bm bp)] ∧ r = .ptr 0 b 0) [] rfl rfl ?_ rfl ?_
  · refine Spec.up ?_
    refine Spec.of_G 13 Tryz.func48 (c := bodyOf Tryz.f48) (by kernel_rfl) (by kernel_rfl) (Nat.le_of_ble_eq_true rfl) fun W F => ?_
    refine G_run (kc := false) (ss := []) (Cs := []) trivial hmP 600 ?_
    rw [pNew_run]
    refine fun bm => ⟨⟨rfl, rfl⟩, ⟨rfl, rfl⟩, rfl, fun bp => ⟨⟨rfl, rfl, rfl⟩, ⟨rfl, rfl⟩, rfl, fun b => ?_⟩⟩
    refine ⟨[pkA b ptE (pNew room bm bp)], .ptr 0 b 0, fun W F w hr => ?_, rfl, b, bm, bp, rfl, rfl⟩
    have h1 := Rep.mapOf (l := 0) encB1 [(.i .i64 1, bp)] rfl rfl hr
    have h2 := Rep.pick (π := [1]) (by decide) rfl h1
    have h3 := Rep.pick (π := [2, 0, 1]) (by decide) rfl h1
    have h4 := Rep.pick (π := [2, 0, 1]) (by decide) rfl h3
    have h5 : Rep W F [pk 0 [procE (bp, { PR.zero with pid := 1 })], _, _] w := Rep.pk 0 (h := [procE (bp, { PR.zero with pid := 1 })]) h4
    have h6 := Rep.pick (π := [1, 2, 0]) (by decide) rfl h5
    exact Rep.pkA1 h6
  · rintro h' r ⟨b, bm, bp, rfl, rfl⟩
    refine ⟨Nat.zero_le _, .ptr (lenN hs) b 0, rfl, ?_⟩
    have := h b bm bp
    simpa [putBack, appE_eq, snoc_eq] using this
end Go.Proofs.YtkcmgcoppecfpaaGreat

/- Processes: what each call keeps. -/
namespace Go.Proofs.YtkcmgcoppecfpaaGreat
open Go Go.RowKit
theorem pOk.add {s : PT} (ho : pOk s) (h1 : s.last < 1000000) (h2 : s.ps.length < 1000000) (h3 : 0 ≤ s.last) {r : PR} (hr : r.pid = s.last + 1) (nb : Nat) : pOk { s with ps := s.ps ++ [(nb, r)], last := s.last + 1 } := by
  refine ⟨?_, fun x hx => ?_, by dsimp only; omega, by simp; omega, ho.room⟩
  · dsimp only
    rw [List.pairwise_append]
    refine ⟨ho.asc, by simp, fun x hx y hy => ?_⟩
    simp only [List.mem_singleton] at hy
    subst hy
    have := (ho.le x hx).2
    dsimp only
    omega
  · dsimp only at hx ⊢
    rcases List.mem_append.1 hx with hx | hx
    · have := ho.le x hx; omega
    · simp only [List.mem_singleton] at hx
      subst hx
      dsimp only
      omega
structure PI (s : PT) (n : Nat) : Prop where
  ok : pOk s
  root : ∃ x ∈ s.ps, x.2.pid = 1 ∧ x.2.zombie = false
  last : s.last ≤ n
  len : s.ps.length ≤ n
theorem PI.up {s : PT} {n m : Nat} (h : PI s n) (hm : n ≤ m) : PI s m := ⟨h.ok, h.root, by have := h.last; omega, by have := h.len; omega⟩
theorem PI.last1 {s : PT} {n : Nat} (h : PI s n) : 1 ≤ s.last := by
  obtain ⟨x, hx, h1, _⟩ := h.root
  have := (h.ok.le x hx).2
  omega
theorem PI.pos {s : PT} {n : Nat} (h : PI s n) : 0 < s.ps.length := by
  obtain ⟨x, hx, _⟩ := h.root
  exact List.length_pos_of_mem hx
theorem PI.new (room : Int) (bm bp : Nat) : PI (pNew room bm bp) 1 := by
  refine ⟨⟨?_, ?_, ?_, ?_, ?_⟩, ⟨(bp, { PR.zero with pid := 1 }), List.mem_cons_self, rfl, rfl⟩, Int.le_refl 1, Nat.le_refl 1⟩
  · exact List.pairwise_singleton _ _
  · intro x hx
    simp only [pNew, List.mem_singleton] at hx
    subst hx
    exact ⟨Int.le_refl 1, Int.le_refl 1⟩
  · show (1 : Int) ≤ _; omega
  · show (1 : Nat) ≤ _; omega
  · show 0 ≤ mnI (mxI room 0) 64 ∧ mnI (mxI room 0) 64 ≤ 64
    unfold mnI mxI
    repeat' split
    all_goals omega
theorem PI.begins {s : PT} {n : Nat} (h : PI s n) (hn : n < 1000000) (r : PR) (nb : Nat) : PI (pBegins s r nb).1 (n + 1) := by
  unfold pBegins
  have h1 := h.last
  have h2 := h.len
  have h3 := h.last1
  cases decide ((s.ps.length : Int) - 1 ≥ s.room) with
  | true => exact h.up (by omega)
  | false =>
    obtain ⟨x, hx, e1, e2⟩ := h.root
    exact ⟨h.ok.add (by omega) (by omega) (by omega) rfl nb, ⟨x, List.mem_append_left _ hx, e1, e2⟩, by dsimp only; omega, by simp; omega⟩
theorem PI.mapP {s : PT} {n : Nat} (h : PI s n) (f : Nat × PR → Nat × PR) (hf : ∀ z, (f z).2.pid = z.2.pid) (hz : ∀ z, z.2.pid = 1 → z.2.zombie = false → (f z).2.zombie = false) : PI { s with ps := s.ps.map f } n := by
  refine ⟨⟨?_, fun z hz => ?_, h.ok.last, by have := h.ok.len; simpa using this, h.ok.room⟩, ?_, h.last, by have := h.len; simpa using this⟩
  · dsimp only
    rw [List.pairwise_map]
    refine h.ok.asc.imp fun {u v} huv => ?_
    rw [hf, hf]; exact huv
  · dsimp only at hz ⊢
    obtain ⟨u, hu, rfl⟩ := List.mem_map.1 hz
    rw [hf]; exact h.ok.le u hu
  · obtain ⟨x, hx, e1, e2⟩ := h.root
    exact ⟨f x, List.mem_map.2 ⟨x, hx, rfl⟩, by rw [hf]; exact e1, hz x e1 e2⟩
theorem orphan_pid (p : Int) (r : PR) : (orphan p r).pid = r.pid ∧ (orphan p r).zombie = r.zombie := by
  unfold orphan
  cases r.parent == p <;> exact ⟨rfl, rfl⟩
theorem PI.exit {s : PT} {n : Nat} (h : PI s n) (p st : Int) : PI (pExit s p st).1 n := by
  unfold pExit
  cases hc : (pLive s p && !(p == 1)) with
  | false => exact h
  | true =>
    simp only [Bool.and_eq_true] at hc
    have hp : p ≠ 1 := by simpa using hc.2
    unfold setP
    dsimp only
    rw [List.map_map]
    refine h.mapP _ (fun z => ?_) (fun z h1 h2 => ?_)
    · simp only [Function.comp, (orphan_pid p _).1, setOne]
      cases z.2.pid == p <;> rfl
    · simp only [Function.comp, (orphan_pid p _).2, setOne]
      have : (z.2.pid == p) = false := by rw [h1]; simpa using fun e => hp e.symm
      rw [this]; exact h2
theorem PI.setP {s : PT} {n : Nat} (h : PI s n) (p : Int) (g : PR → PR) (hg : ∀ r, (g r).pid = r.pid ∧ (g r).zombie = r.zombie) : PI { s with ps := Go.Proofs.YtkcmgcoppecfpaaGreat.setP s.ps p g } n := by
  unfold Go.Proofs.YtkcmgcoppecfpaaGreat.setP
  refine h.mapP _ (fun z => ?_) (fun z h1 h2 => ?_)
  · simp only [setOne]
    cases z.2.pid == p
    · rfl
    · exact (hg _).1
  · simp only [setOne]
    cases z.2.pid == p
    · exact h2
    · exact ((hg _).2).trans h2
theorem PI.kill {s : PT} {n : Nat} (h : PI s n) (p sig : Int) : PI (pKill s p sig).1 n := by
  unfold pKill
  cases pLive s p && !(p == 1) with
  | false => exact h
  | true =>
    dsimp only
    cases sig == 15 with
    | true => exact h.setP p _ fun r => ⟨rfl, rfl⟩
    | false =>
      cases sig == 9 with
      | true => exact h.setP p _ fun r => ⟨rfl, rfl⟩
      | false => exact h
theorem PI.reap {s : PT} {n : Nat} (h : PI s n) (p : Int) : PI (pReap s p).1 n := by
  unfold pReap
  cases hd : deadOf s p with
  | none => exact h
  | some x =>
    obtain ⟨h1, l1, l2, hs, _⟩ := List.find?_eq_some_iff_append.1 hd
    simp only [Bool.and_eq_true, beq_iff_eq] at h1
    obtain ⟨y, hy, e1, e2⟩ := h.root
    have hne : y.2.pid ≠ x.2.pid := fun e => by
      have ha := h.ok.asc
      rw [hs] at ha hy
      rw [List.pairwise_append, List.pairwise_cons] at ha
      rcases List.mem_append.1 hy with hy | hy
      · have := ha.2.2 y hy x List.mem_cons_self; omega
      · rcases List.mem_cons.1 hy with rfl | hy
        · rw [h1.1] at e2; cases e2
        · have := ha.2.1.1 y hy; omega
    refine ⟨⟨h.ok.asc.sublist List.filter_sublist, fun z hz => h.ok.le z ((List.mem_filter.1 hz).1), h.ok.last, Nat.le_trans (List.length_filter_le _ _) h.ok.len, h.ok.room⟩, ⟨y, List.mem_filter.2 ⟨hy, by simpa using hne⟩, e1, e2⟩, h.last, Nat.le_trans (List.length_filter_le _ _) h.len⟩

theorem pOk.mapP {s : PT} (h : pOk s) (f : Nat × PR → Nat × PR) (hf : ∀ z, (f z).2.pid = z.2.pid) : pOk { s with ps := s.ps.map f } := by
  refine ⟨?_, fun z hz => ?_, h.last, by have := h.len; simpa using this, h.room⟩
  · dsimp only
    rw [List.pairwise_map]
    refine h.asc.imp fun {u v} huv => ?_
    rw [hf, hf]; exact huv
  · dsimp only at hz ⊢
    obtain ⟨u, hu, rfl⟩ := List.mem_map.1 hz
    rw [hf]; exact h.le u hu
theorem pOk.kill {s : PT} (h : pOk s) (p sig : Int) : pOk (pKill s p sig).1 := by
  have hs : ∀ g : PR → PR, (∀ r, (g r).pid = r.pid) → pOk { s with ps := setP s.ps p g } := fun g hg => by
    unfold setP
    refine h.mapP _ fun z => ?_
    simp only [setOne]
    cases z.2.pid == p
    · rfl
    · exact hg _
  unfold pKill
  cases pLive s p && !(p == 1) with
  | false => exact h
  | true =>
    dsimp only
    cases sig == 15 with
    | true => exact hs _ fun r => rfl
    | false =>
      cases sig == 9 with
      | true => exact hs _ fun r => rfl
      | false => exact h
end Go.Proofs.YtkcmgcoppecfpaaGreat

namespace Go.Proofs.YtkcmgcoppecfpaaGreat
open Go Go.RowKit

theorem gOf_none (K : List Frm → Sy → Prop) (N : List Ent → SV → Prop) (s : Grp) (b : Nat) (pid : Int) (n : ByteArray) : (run Tryz.prog [] false [] K (retP Tryz.prog Tryz.f17.results.toList N) 600 [.code (bodyOf Tryz.f17)] ⟨padTo 19 [.ptr 0 b 0, .int .i64 pid], [⟨.blk b, .cells [.map 1 s.bg, .map 2 s.bo, .vec 3 s.ao s.notes.length s.cap] 104⟩, ⟨.blk s.bg, .mapL none encG s.gs⟩, ⟨.blk s.bo, .map1 (some .i64) encO s.of (.i .i64 pid) none⟩, ⟨.sl s.ao s.cap, .vecL 9 1 encS s.notes ByteArray.empty⟩, pk 0 (s.gs.map setE)]⟩) = ( b = b ∧ (s.2 = s.2 ∧ Key.i IntKind.i64 pid = Key.i IntKind.i64 pid ∧ some IntKind.i64 = some IntKind.i64) ∧ N [Ent.mk (Loc.blk b) (SObj.cells [SV.map 1 s.1, SV.map 2 s.2, SV.vec 3 s.ao (List.length s.7) s.4] 104), Ent.mk (Loc.blk s.1) (SObj.mapL (@none IntKind) encG s.5), Ent.mk (Loc.blk s.2) (SObj.map1 (some IntKind.i64) encO s.6 (Key.i IntKind.i64 pid) (@none SV)), Ent.mk (Loc.sl s.ao s.4) (SObj.vecL 9 1 encS s.7 ByteArray.empty), pk 0 (List.map setE s.5)] (SV.tuple [SV.str (ByteArray.mk #[]), SV.bool false])) := by kernel_rfl
theorem gOf_some (K : List Frm → Sy → Prop) (N : List Ent → SV → Prop) (s : Grp) (b : Nat) (pid : Int) (n : ByteArray) : (run Tryz.prog [] false [] K (retP Tryz.prog Tryz.f17.results.toList N) 600 [.code (bodyOf Tryz.f17)] ⟨padTo 19 [.ptr 0 b 0, .int .i64 pid], [⟨.blk b, .cells [.map 1 s.bg, .map 2 s.bo, .vec 3 s.ao s.notes.length s.cap] 104⟩, ⟨.blk s.bg, .mapL none encG s.gs⟩, ⟨.blk s.bo, .map1 (some .i64) encO s.of (.i .i64 pid) (some (.str n))⟩, ⟨.sl s.ao s.cap, .vecL 9 1 encS s.notes ByteArray.empty⟩, pk 0 (s.gs.map setE)]⟩) = ( b = b ∧ (s.2 = s.2 ∧ Key.i IntKind.i64 pid = Key.i IntKind.i64 pid ∧ some IntKind.i64 = some IntKind.i64) ∧ N [Ent.mk (Loc.blk b) (SObj.cells [SV.map 1 s.1, SV.map 2 s.2, SV.vec 3 s.ao (List.length s.7) s.4] 104), Ent.mk (Loc.blk s.1) (SObj.mapL (@none IntKind) encG s.5), Ent.mk (Loc.blk s.2) (SObj.map1 (some IntKind.i64) encO s.6 (Key.i IntKind.i64 pid) (some (SV.str n))), Ent.mk (Loc.sl s.ao s.4) (SObj.vecL 9 1 encS s.7 ByteArray.empty), pk 0 (List.map setE s.5)] (SV.tuple [SV.str n, SV.bool true])) := by kernel_rfl
theorem gMb_none (K : List Frm → Sy → Prop) (N : List Ent → SV → Prop) (s : Grp) (b : Nat) (n : ByteArray) : (run Tryz.prog gaT true [] K (retP Tryz.prog Tryz.f18.results.toList N) 600 [.code (bodyOf Tryz.f18)] ⟨padTo 12 [.ptr 0 b 0, .str n], [⟨.blk b, .cells [.map 1 s.bg, .map 2 s.bo, .vec 3 s.ao s.notes.length s.cap] 104⟩, ⟨.blk s.bg, .map1 none encG s.gs (.s n) none⟩, ⟨.blk s.bo, .mapL (some .i64) encO s.of⟩, ⟨.sl s.ao s.cap, .vecL 9 1 encS s.notes ByteArray.empty⟩, pk 0 (s.gs.map setE)]⟩) = ( b = b ∧ (s.1 = s.1 ∧ Key.s n = Key.s n ∧ @none IntKind = @none IntKind) ∧ true = true ∧ true = true ∧ true = true ∧ ∀ (b_1 : Nat), true = true ∧ 101 = 101 ∧ b_1 = b_1 ∧ ∀ (ao : Option Addr) (cap : Nat), N [Ent.mk (Loc.blk b) (SObj.cells [SV.map 1 s.1, SV.map 2 s.2, SV.vec 3 s.ao (List.length s.7) s.4] 104), Ent.mk (Loc.blk s.1) (SObj.map1 (@none IntKind) encG s.5 (Key.s n) (@none SV)), Ent.mk (Loc.blk s.2) (SObj.mapL (some IntKind.i64) encO s.6), Ent.mk (Loc.sl s.ao s.4) (SObj.vecL 9 1 encS s.7 ByteArray.empty), pk 0 (List.map setE s.5), Ent.mk (Loc.blk b_1) (SObj.cells [SV.raw (Value.map (@none Nat))] 98), Ent.mk (Loc.sl ao cap) (SObj.vecL 3 1 encI1 [] (0 : Int))] (SV.vec 6 ao 0 cap)) := by kernel_rfl
theorem gMb_some (K : List Frm → Sy → Prop) (N : List Ent → SV → Prop) (s : Grp) (b : Nat) (nb : Nat) (n : ByteArray) (ms : List (Key × Unit)) (rest : List Ent) : (run Tryz.prog gaT true [] K (retP Tryz.prog Tryz.f18.results.toList N) 600 [.code (bodyOf Tryz.f18)] ⟨padTo 12 [.ptr 0 b 0, .str n], [⟨.blk b, .cells [.map 1 s.bg, .map 2 s.bo, .vec 3 s.ao s.notes.length s.cap] 104⟩, ⟨.blk s.bg, .map1 none encG s.gs (.s n) (some (.map 4 nb))⟩, ⟨.blk s.bo, .mapL (some .i64) encO s.of⟩, ⟨.sl s.ao s.cap, .vecL 9 1 encS s.notes ByteArray.empty⟩, ⟨.blk nb, .mapL (some .i64) encU ms⟩, pk 0 rest]⟩) = ( b = b ∧ (s.1 = s.1 ∧ Key.s n = Key.s n ∧ @none IntKind = @none IntKind) ∧ true = true ∧ true = true ∧ true = true ∧ ∀ (b_1 : Nat), true = true ∧ 101 = 101 ∧ (b_1 = b_1 ∧ nb = nb ∧ some IntKind.i64 = some IntKind.i64 ∧ wfI ms) ∧ ∀ (ao : Option Addr) (cap : Nat), N [Ent.mk (Loc.blk b) (SObj.cells [SV.map 1 s.1, SV.map 2 s.2, SV.vec 3 s.ao (List.length s.7) s.4] 104), Ent.mk (Loc.blk s.1) (SObj.map1 (@none IntKind) encG s.5 (Key.s n) (some (SV.map 4 nb))), Ent.mk (Loc.blk s.2) (SObj.mapL (some IntKind.i64) encO s.6), Ent.mk (Loc.sl s.ao s.4) (SObj.vecL 9 1 encS s.7 ByteArray.empty), Ent.mk (Loc.blk nb) (SObj.mapL (some IntKind.i64) encU ms), pk 0 rest, Ent.mk (Loc.blk b_1) (SObj.cells [SV.map 4 nb] 98), Ent.mk (Loc.sl ao cap) (SObj.vecL 3 1 encI1 (sortI ms) (0 : Int))] (SV.vec 7 ao (List.length (sortI ms)) cap)) := by kernel_rfl
theorem gNm_run (K : List Frm → Sy → Prop) (N : List Ent → SV → Prop) (s : Grp) (b : Nat) : (run Tryz.prog gnT true [] K (retP Tryz.prog Tryz.f96.results.toList N) 600 [.code (bodyOf Tryz.f96)] ⟨padTo 10 [.ptr 0 b 0], [⟨.blk b, .cells [.map 1 s.bg, .map 2 s.bo, .vec 3 s.ao s.notes.length s.cap] 104⟩, ⟨.blk s.bg, .mapL none encG s.gs⟩, ⟨.blk s.bo, .mapL (some .i64) encO s.of⟩, ⟨.sl s.ao s.cap, .vecL 9 1 encS s.notes ByteArray.empty⟩, pk 0 (s.gs.map setE)]⟩) = ( b = b ∧ true = true ∧ true = true ∧ ∀ (b_1 : Nat), true = true ∧ 122 = 122 ∧ (b_1 = b_1 ∧ s.1 = s.1 ∧ @none IntKind = @none IntKind ∧ wfS s.5) ∧ ∀ (ao : Option Addr) (cap : Nat), true = true ∧ true = true ∧ ∀ (b_2 : Nat), N [Ent.mk (Loc.blk b) (SObj.cells [SV.map 1 s.1, SV.map 2 s.2, SV.vec 3 s.ao (List.length s.7) s.4] 104), Ent.mk (Loc.blk s.1) (SObj.mapL (@none IntKind) encG s.5), Ent.mk (Loc.blk s.2) (SObj.mapL (some IntKind.i64) encO s.6), Ent.mk (Loc.sl s.ao s.4) (SObj.vecL 9 1 encS s.7 ByteArray.empty), pk 0 (List.map setE s.5), Ent.mk (Loc.blk b_1) (SObj.cells [SV.map 1 s.1] 100), Ent.mk (Loc.sl ao cap) (SObj.vecL 9 1 encS1 (sortS s.5) ByteArray.empty), Ent.mk (Loc.blk b_2) (SObj.cells [SV.vec 6 ao (List.length (sortS s.5)) cap] 102)] (SV.func (Fn.func 119) [] [SV.ptr 7 b_2 0])) := by kernel_rfl
theorem al9_start (K : List Frm → Sy → Prop) (X : Code → Sy → Prop) (E : Sy → Prop) (s : Grp) (b : Nat) (bx : Nat) (fv : Value) (rr : List Ent) : (runR Tryz.prog [(96, namesC)] (noY) true [] K X E 300 [.code (bodyOf Tryz.f95)] ⟨padTo 14 [.raw fv, .ptr 1 bx 0], [pkA b grpE s, ⟨.blk bx, .cells [.ptr 0 b 0] 28⟩, pk 0 rr]⟩) = ( ((match SV.raw fv with
 | SV.agg cs => false
 | SV.tuple cs => false
 | SV.raw (Value.agg cells) => false
 | SV.raw (Value.tuple vs) => false
 | SV.raw (Value.int k n) => true
 | SV.raw (Value.bool b) => true
 | SV.raw (Value.string s) => true
 | SV.raw (Value.pointer a) => true
 | SV.raw (Value.slice a len cap) => true
 | SV.raw (Value.map r) => true
 | SV.raw (Value.func fn first captured) => true
 | SV.raw Value.nilFunc => true
 | SV.raw (Value.iface t v) => true
 | SV.raw Value.nilIface => true
 | SV.raw v => false
 | x => true) && true) = true ∧ ∀ (b_1 : Nat), bx = bx ∧ true = true ∧ b = b ∧ ∃ (h : Grp = Grp), AdtIs (fun (s : Grp) (b : Nat) ↦ packs (grpE s b)) grpE ∧ wfS (cast h s).gs ∧ ∀ (ao : Option Addr) (cap bx_1 : Nat), K (frm [] (bodyOf Tryz.f95) [1, 1, 0] []) (Sy.mk (SV.raw fv :: (SV.ptr 1 bx 0 :: (SV.ptr 3 b_1 0 :: (SV.raw (Value.tuple #[]) :: (SV.ptr 0 b 0 :: (SV.func (Fn.func (119 : FuncId)) [] [SV.ptr 5 bx_1 0] :: (rawE [] 8))))))) [pkA b grpE s, Ent.mk (Loc.blk bx) (SObj.cells [SV.ptr 0 b 0] 28), pk 0 rr, Ent.mk (Loc.blk b_1) (SObj.cells [SV.raw fv] 171), Ent.mk (Loc.sl ao cap) (SObj.vecL 9 1 encS (sortS s.5) ByteArray.empty), Ent.mk (Loc.blk bx_1) (SObj.cells [SV.vec 4 ao (List.length (sortS s.5)) cap] 102)])) := by kernel_rfl
theorem al9_asg (K : List Frm → Sy → Prop) (X : Code → Sy → Prop) (E : Sy → Prop) (s : Grp) (b : Nat) (bx : Nat) (fv : Value) (rr : List Ent) (by_ D l : Nat) (rc : Loop) (x : ByteArray) (u : Nat → Value) : (runR Tryz.prog [] (noY) true [] K X E 60 ([.code (rfA (codeAt (bodyOf Tryz.f95) [1, 1, 0]))]) ⟨mkT u 14 0 [(1, .ptr 1 bx 0), (2, .ptr 2 by_ 0), (6, .str x)], [pkA b grpE s, ⟨.blk bx, .cells [.ptr 0 b 0] 28⟩, ⟨.blk by_, .cells [.raw fv] 171⟩, pk 0 (rr), dent D true, lp l rc .ready none]⟩) = ( E (Sy.mk (SV.raw (u 0) :: (SV.ptr 1 bx 0 :: (SV.ptr 2 by_ 0 :: (SV.str x :: (SV.raw (u 4) :: (SV.raw (u 5) :: (SV.str x :: (rawR u 7 [] 7)))))))) [pkA b grpE s, Ent.mk (Loc.blk bx) (SObj.cells [SV.ptr 0 b 0] 28), Ent.mk (Loc.blk by_) (SObj.cells [SV.raw fv] 171), pk 0 rr, dent D true, lp l rc LoopState.ready (@none Code)])) := by kernel_rfl
@[reducible] def al9_body_z0 (b : Nat) (bx : Nat) : Ent := Ent.mk (Loc.blk bx) (SObj.cells [SV.ptr 0 b 0] 28)
@[reducible] def al9_body_z1 (fv : Value) (by_ : Nat) : Ent := Ent.mk (Loc.blk by_) (SObj.cells [SV.raw fv] 171)
theorem al9_body (K : List Frm → Sy → Prop) (X : Code → Sy → Prop) (E : Sy → Prop) (s : Grp) (b : Nat) (bx : Nat) (fv : Value) (R : Nat → List Ent) (Stop : List Ent → Prop) (ns : List ByteArray) (i : Nat) (by_ D l : Nat) (rc : Loop) (x : ByteArray) (u : Nat → Value) : (runR Tryz.prog [(18, membersNC)] (allGY fv s b ns R Stop) true [] K X E 600 ([.code (rfB (codeAt (bodyOf Tryz.f95) [1, 1, 0]))]) ⟨mkT u 14 0 [(1, .ptr 1 bx 0), (2, .ptr 2 by_ 0), (3, .str x)], [pkA b grpE s, ⟨.blk bx, .cells [.ptr 0 b 0] 28⟩, ⟨.blk by_, .cells [.raw fv] 171⟩, pk 0 (R i), dent D true, lp l rc .busy none]⟩) = ( by_ = by_ ∧ (bx = bx ∧ true = true ∧ b = b ∧ ∃ (h : Grp = Grp), AdtIs (fun (s : Grp) (b : Nat) ↦ packs (grpE s b)) grpE ∧ memGOk (cast h s) x ∧ ∀ (ao : Option Addr) (cap : Nat), (pkA b grpE s = pkA b grpE s ∧ al9_body_z0 b bx = al9_body_z0 b bx ∧ al9_body_z1 fv by_ = al9_body_z1 fv by_ ∧ pk 0 (R i) = pk 0 (R i) ∧ dent D true = dent D true ∧ lp l rc LoopState.busy (@none Code) = lp l rc LoopState.busy (@none Code) ∧ True) ∧ fv = fv ∧ ∃ (i_1 : Nat), ∃ (x_1 : ByteArray), ∃ (ao_1 : Option Addr), ∃ (cap_1 : Nat), ns[i_1]? = some x_1 ∧ [SV.str x, SV.vec 6 ao (List.length (memG s x)) cap] = [SV.str x_1, SV.vec 6 ao_1 (List.length (memG s x_1)) cap_1] ∧ pkA b grpE s = pkA b grpE s ∧ pk 0 (R i) = pk 0 (R i_1) ∧ Ent.mk (Loc.sl ao cap) (SObj.vecL 3 1 encI1 (memG s x) (0 : Int)) = Ent.mk (Loc.sl ao_1 cap_1) (SObj.vecL 3 1 encI1 (memG s x_1) (0 : Int)) ∧ E (Sy.mk (SV.raw (u 0) :: (SV.ptr 1 bx 0 :: (SV.ptr 2 by_ 0 :: (SV.str x :: (rawR u 4 (SV.raw fv :: (SV.str x :: (SV.ptr 0 b 0 :: (SV.str x :: (SV.vec 6 ao (List.length (memG s x)) cap :: (SV.bool true :: (SV.bool false :: []))))))) 3))))) [pkA b grpE s, al9_body_z0 b bx, al9_body_z1 fv by_, pk 0 (R (i_1 + 1)), dent D true, lp l rc LoopState.busy (@none Code), Ent.mk (Loc.sl ao cap) (SObj.vecL 3 1 encI1 (memG s x) (0 : Int))]) ∧ ∀ (R' : List Ent), Stop R' → X Code.ret (Sy.mk (SV.raw (u 0) :: (SV.ptr 1 bx 0 :: (SV.ptr 2 by_ 0 :: (SV.str x :: (rawR u 4 (SV.raw fv :: (SV.str x :: (SV.ptr 0 b 0 :: (SV.str x :: (SV.vec 6 ao (List.length (memG s x)) cap :: (SV.bool false :: (SV.bool true :: []))))))) 3))))) [pkA b grpE s, al9_body_z0 b bx, al9_body_z1 fv by_, pk 0 R', dent D true, lp l rc LoopState.busy (@none Code), Ent.mk (Loc.sl ao cap) (SObj.vecL 3 1 encI1 (memG s x) (0 : Int))])) ∧ bx = bx ∧ true = true ∧ b = b ∧ ∃ (h : Grp = Grp), AdtIs (fun (s : Grp) (b : Nat) ↦ packs (grpE s b)) grpE ∧ memGOk (cast h s) x ∧ ∀ (ao : Option Addr) (cap : Nat), (pkA b grpE s = pkA b grpE s ∧ al9_body_z0 b bx = al9_body_z0 b bx ∧ al9_body_z1 fv by_ = al9_body_z1 fv by_ ∧ pk 0 (R i) = pk 0 (R i) ∧ dent D true = dent D true ∧ lp l rc LoopState.busy (@none Code) = lp l rc LoopState.busy (@none Code) ∧ True) ∧ fv = fv ∧ ∃ (i_1 : Nat), ∃ (x_1 : ByteArray), ∃ (ao_1 : Option Addr), ∃ (cap_1 : Nat), ns[i_1]? = some x_1 ∧ [SV.str x, SV.vec 6 ao (List.length (memG s x)) cap] = [SV.str x_1, SV.vec 6 ao_1 (List.length (memG s x_1)) cap_1] ∧ pkA b grpE s = pkA b grpE s ∧ pk 0 (R i) = pk 0 (R i_1) ∧ Ent.mk (Loc.sl ao cap) (SObj.vecL 3 1 encI1 (memG s x) (0 : Int)) = Ent.mk (Loc.sl ao_1 cap_1) (SObj.vecL 3 1 encI1 (memG s x_1) (0 : Int)) ∧ E (Sy.mk (SV.raw (u 0) :: (SV.ptr 1 bx 0 :: (SV.ptr 2 by_ 0 :: (SV.str x :: (rawR u 4 (SV.raw fv :: (SV.str x :: (SV.ptr 0 b 0 :: (SV.str x :: (SV.vec 6 ao (List.length (memG s x)) cap :: (SV.bool true :: (SV.bool false :: []))))))) 3))))) [pkA b grpE s, al9_body_z0 b bx, al9_body_z1 fv by_, pk 0 (R (i_1 + 1)), dent D true, lp l rc LoopState.busy (@none Code), Ent.mk (Loc.sl ao cap) (SObj.vecL 3 1 encI1 (memG s x) (0 : Int))]) ∧ ∀ (R' : List Ent), Stop R' → X Code.ret (Sy.mk (SV.raw (u 0) :: (SV.ptr 1 bx 0 :: (SV.ptr 2 by_ 0 :: (SV.str x :: (rawR u 4 (SV.raw fv :: (SV.str x :: (SV.ptr 0 b 0 :: (SV.str x :: (SV.vec 6 ao (List.length (memG s x)) cap :: (SV.bool false :: (SV.bool true :: []))))))) 3))))) [pkA b grpE s, al9_body_z0 b bx, al9_body_z1 fv by_, pk 0 R', dent D true, lp l rc LoopState.busy (@none Code), Ent.mk (Loc.sl ao cap) (SObj.vecL 3 1 encI1 (memG s x) (0 : Int))])) := by kernel_rfl
theorem al9_end (K : List Frm → Sy → Prop) (E : Sy → Prop) (N : List Ent → SV → Prop) (s : Grp) (b : Nat) (bx : Nat) (fv : Value) (rr : List Ent) (by_ D l : Nat) (rc : Loop) (u : Nat → Value) : (runR Tryz.prog [] (noY) true [] K (endMX Tryz.prog Tryz.f95.results.toList D 4 N) E 900 ((frm [] (bodyOf Tryz.f95) [1, 1, 0] []).tail) ⟨mkT u 14 0 [(1, .ptr 1 bx 0), (2, .ptr 2 by_ 0)], [pkA b grpE s, ⟨.blk bx, .cells [.ptr 0 b 0] 28⟩, ⟨.blk by_, .cells [.raw fv] 171⟩, pk 0 (rr), dent D true, lp l rc .exhausted none]⟩) = ( E (Sy.mk (SV.raw (u 0) :: (SV.ptr 1 bx 0 :: (SV.ptr 2 by_ 0 :: (rawR u 3 [] 11)))) [pkA b grpE s, Ent.mk (Loc.blk bx) (SObj.cells [SV.ptr 0 b 0] 28), Ent.mk (Loc.blk by_) (SObj.cells [SV.raw fv] 171), pk 0 rr, dent D true, lp l rc LoopState.exhausted (@none Code)])) := by kernel_rfl
theorem al9_ret (K : List Frm → Sy → Prop) (E : Sy → Prop) (N : List Ent → SV → Prop) (s : Grp) (b : Nat) (bx : Nat) (fv : Value) (rr : List Ent) (by_ D l : Nat) (rc : Loop) (u : Nat → Value) : (runR Tryz.prog [] (noY) true [] K (endMX Tryz.prog Tryz.f95.results.toList D 4 N) E 900 (Frm.code .ret :: (frm [] (bodyOf Tryz.f95) [1, 1, 0] []).tail) ⟨mkT u 14 0 [(1, .ptr 1 bx 0), (2, .ptr 2 by_ 0)], [pkA b grpE s, ⟨.blk bx, .cells [.ptr 0 b 0] 28⟩, ⟨.blk by_, .cells [.raw fv] 171⟩, pk 0 (rr), dent D true, lp l rc .exhausted (some .ret)]⟩) = ( some (dent D true) = some (dent D true) ∧ N [pkA b grpE s, Ent.mk (Loc.blk bx) (SObj.cells [SV.ptr 0 b 0] 28), Ent.mk (Loc.blk by_) (SObj.cells [SV.raw fv] 171), pk 0 rr, dent D false, lp l rc LoopState.exhausted (some Code.ret)] (SV.tuple [])) := by kernel_rfl
end Go.Proofs.YtkcmgcoppecfpaaGreat

namespace Go.Proofs.YtkcmgcoppecfpaaGreat
open Go Go.RowKit

theorem idxS_start (K : List Frm → Sy → Prop) (N : List Ent → SV → Prop) (ao : Option Addr) (cap : Nat) (xs : List ByteArray) (v : ByteArray) : (run Tryz.prog [] false [] K (retP Tryz.prog Tryz.f100.results.toList N) 300 [.code (bodyOf Tryz.f100)] ⟨padTo 19 [.vec 0 ao xs.length cap, .str v], [⟨.sl ao cap, .vecL 9 1 encS xs ByteArray.empty⟩]⟩) = ( K (frm [] (bodyOf Tryz.f100) [1, 0, 1, 0] []) (Sy.mk (SV.vec 0 ao (List.length xs) cap :: (SV.str v :: (SV.raw (Value.tuple #[]) :: (SV.raw (Value.tuple #[]) :: (SV.int .i64 (0 : Int) :: (SV.raw (Value.tuple #[]) :: (SV.vec 0 ao (List.length xs) cap :: (SV.int .i64 (↑(List.length xs) : Int) :: (SV.int .i64 (0 : Int) :: (rawE [] 10)))))))))) [Ent.mk (Loc.sl ao cap) (SObj.vecL 9 1 encS xs ByteArray.empty)])) := by kernel_rfl
end Go.Proofs.YtkcmgcoppecfpaaGreat

