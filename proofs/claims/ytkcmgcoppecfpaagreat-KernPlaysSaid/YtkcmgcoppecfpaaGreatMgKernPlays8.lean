import Derived.Test.YtkcmgcoppecfpaaGreatMgKernPlays5
import Derived.Test.YtkcmgcoppecfpaaGreatMgKernPlays6
import Derived.Test.YtkcmgcoppecfpaaGreatMgKernPlays7
import Derived.Shelf.SlIterI.Nil
import Derived.Shelf.SlIter.Nil
import Derived.Shelf.SortM.Plain
import Derived.Shelf.SortM.SortNone
import Derived.Ground.GgzProg
import Derived.Ground.SlgmProg
import Derived.Shelf.SlGeneric
import Derived.Test.YtkcmgcoppecfpaaGreatProg
set_option linter.unusedVariables false
set_option linter.unusedSimpArgs false
set_option linter.unnecessarySimpa false
set_option maxHeartbeats 0
set_option maxRecDepth 100000
namespace Go.Proofs.YtkcmgcoppecfpaaGreat
open Go Go.RowKit

@[reducible] def idxS_body_z0 (ao : Option Addr) (cap : Nat) (xs : List ByteArray) : Ent := Ent.mk (Loc.sl ao cap) (SObj.vecL 9 1 encS xs ByteArray.empty)
theorem idxS_body (K : List Frm → Sy → Prop) (N : List Ent → SV → Prop) (J : Act → World → Prop) (ao : Option Addr) (cap : Nat) (xs : List ByteArray) (v : ByteArray) (i : Nat) (u : Nat → Value) : (run Tryz.prog [] false [] K (retP Tryz.prog Tryz.f100.results.toList N) 900 (frm [J] (bodyOf Tryz.f100) [1, 0, 1, 0, 0] []) ⟨mkT u 19 0 [(0, .vec 0 ao xs.length cap), (1, .str v), (7, .int .i64 (xs.length : Int)), (8, .int .i64 (i : Int))], [⟨.sl ao cap, .vecL 9 1 encS xs ByteArray.empty⟩]⟩) = ( match decide ((↑i : Int) < (↑(List.length xs) : Int)) with
 | true => (ao = ao ∧ cap = cap ∧ List.length xs = List.length xs ∧ (0 : Int) ≤ (↑i : Int) ∧ (↑i : Int) < (↑(List.length xs) : Int)) ∧ (Addr.blkD ao = Addr.blkD ao ∧ Addr.offD ao = Addr.offD ao ∧ 1 = 1 ∧ Int.toNat (↑i : Int) < List.length xs) ∧ match sEq v (List.getD xs (Int.toNat (↑i : Int)) ByteArray.empty) with
  | true => N [idxS_body_z0 ao cap xs] (SV.int .i64 (↑i : Int))
  | false => K (Frm.loop J :: Frm.blk 0 :: frm [] (bodyOf Tryz.f100) [1, 1] []) (Sy.mk (SV.vec 0 ao (List.length xs) cap :: (SV.str v :: (rawR u 2 (SV.int .i64 (↑i : Int) :: (SV.raw (u 6) :: (SV.int .i64 (↑(List.length xs) : Int) :: (SV.int .i64 (IntKind.wrap IntKind.i64 ((↑i : Int) + (1 : Int))) :: (SV.bool true :: (SV.int .i64 (↑i : Int) :: (SV.str v :: (SV.vec 0 ao (List.length xs) cap :: (SV.int .i64 (↑i : Int) :: (SV.eptr 0 (Addr.blkD ao) (Addr.offD ao) 1 (Int.toNat (↑i : Int)) 0 :: (SV.str (List.getD xs (Int.toNat (↑i : Int)) ByteArray.empty) :: (SV.bool false :: (SV.raw (u 17) :: (SV.int .i64 (IntKind.wrap IntKind.i64 ((↑i : Int) + (1 : Int))) :: [])))))))))))))) 3))) [idxS_body_z0 ao cap xs])
 | false => N [idxS_body_z0 ao cap xs] (SV.int .i64 (-1 : Int))) := by kernel_rfl
@[reducible] def gMake_run_z0 (s : Grp) (b : Nat) : Ent := Ent.mk (Loc.blk b) (SObj.cells [SV.map 1 s.1, SV.map 2 s.2, SV.vec 3 s.ao (List.length s.7) s.4] 104)
@[reducible] def gMake_run_z1 (s : Grp) : Ent := Ent.mk (Loc.sl s.ao s.4) (SObj.vecL 9 1 encS s.7 ByteArray.empty)
@[reducible] def gMake_run_z2 (s : Grp) : Ent := Ent.mk (Loc.blk s.2) (SObj.mapL (some IntKind.i64) encO s.6)
theorem gMake_run (K : List Frm → Sy → Prop) (N : List Ent → SV → Prop) (s : Grp) (b : Nat) (name : ByteArray) (rest : List Ent) : (run Tryz.prog [] false [] K (retP Tryz.prog Tryz.f8.results.toList N) 600 [.code (bodyOf Tryz.f8)] ⟨padTo 25 [.ptr 0 b 0, .str name], [⟨.blk b, .cells [.map 1 s.bg, .map 2 s.bo, .vec 3 s.ao s.notes.length s.cap] 104⟩, ⟨.blk s.bg, .mapL none encG s.gs⟩, ⟨.blk s.bo, .mapL (some .i64) encO s.of⟩, ⟨.sl s.ao s.cap, .vecL 9 1 encS s.notes ByteArray.empty⟩, pk 0 rest]⟩) = ( match sEq name (ByteArray.mk #[]) with
 | true => N [gMake_run_z0 s b, Ent.mk (Loc.blk s.1) (SObj.mapL (@none IntKind) encG s.5), gMake_run_z2 s, gMake_run_z1 s, pk 0 rest] (SV.int .i64 90)
 | false => b = b ∧ (s.1 = s.1 ∧ @none IntKind = @none IntKind ∧ @none IntKind = @none IntKind) ∧ match mget s.5 (Key.s name) with
  | some v => N [gMake_run_z0 s b, Ent.mk (Loc.blk s.1) (SObj.mapL (@none IntKind) encG s.5), gMake_run_z2 s, gMake_run_z1 s, pk 0 rest] (SV.int .i64 91)
  | none => b = b ∧ ∀ (b_1 : Nat), (s.1 = s.1 ∧ @none IntKind = @none IntKind ∧ @none IntKind = @none IntKind) ∧ ∃ (u : GSet), den (SV.map 4 u.1) = den (SV.map 5 b_1) ∧ N [gMake_run_z0 s b, Ent.mk (Loc.blk s.1) (SObj.mapL (@none IntKind) encG (mset s.5 (Key.s name) u)), gMake_run_z2 s, gMake_run_z1 s, pk 0 rest, Ent.mk (Loc.blk b_1) (SObj.mapV (some IntKind.i64) [])] (SV.int .i64 0)) := by kernel_rfl
theorem gGone_none (K : List Frm → Sy → Prop) (N : List Ent → SV → Prop) (s : Grp) (b : Nat) (pid : Int) (rest : List Ent) : (run Tryz.prog [] false [] K (retP Tryz.prog Tryz.f57.results.toList N) 600 [.code (bodyOf Tryz.f57)] ⟨padTo 57 [.ptr 0 b 0, .int .i64 pid], [⟨.blk b, .cells [.map 1 s.bg, .map 2 s.bo, .vec 3 s.ao s.notes.length s.cap] 104⟩, ⟨.blk s.bg, .mapL none encG s.gs⟩, ⟨.blk s.bo, .map1 (some .i64) encO s.of (.i .i64 pid) none⟩, ⟨.sl s.ao s.cap, .vecL 9 1 encS s.notes ByteArray.empty⟩, pk 0 rest]⟩) = ( b = b ∧ (s.2 = s.2 ∧ Key.i IntKind.i64 pid = Key.i IntKind.i64 pid ∧ some IntKind.i64 = some IntKind.i64) ∧ N [Ent.mk (Loc.blk b) (SObj.cells [SV.map 1 s.1, SV.map 2 s.2, SV.vec 3 s.ao (List.length s.7) s.4] 104), Ent.mk (Loc.blk s.1) (SObj.mapL (@none IntKind) encG s.5), Ent.mk (Loc.blk s.2) (SObj.map1 (some IntKind.i64) encO s.6 (Key.i IntKind.i64 pid) (@none SV)), Ent.mk (Loc.sl s.ao s.4) (SObj.vecL 9 1 encS s.7 ByteArray.empty), pk 0 rest] (SV.bool false)) := by kernel_rfl
@[reducible] def gGone_some_z0 (s : Grp) (n : ByteArray) (nb : Nat) : Ent := Ent.mk (Loc.blk s.1) (SObj.map1 (@none IntKind) encG s.5 (Key.s n) (some (SV.map 4 nb)))
@[reducible] def gGone_some_z1 (s : Grp) : Ent := Ent.mk (Loc.sl s.ao s.4) (SObj.vecL 9 1 encS s.7 ByteArray.empty)
theorem gGone_some (K : List Frm → Sy → Prop) (N : List Ent → SV → Prop) (s : Grp) (b : Nat) (pid : Int) (n : ByteArray) (nb : Nat) (ms : List (Key × Unit)) (rest : List Ent) : (run Tryz.prog gT2 false [] K (retP Tryz.prog Tryz.f57.results.toList N) 600 [.code (bodyOf Tryz.f57)] ⟨padTo 57 [.ptr 0 b 0, .int .i64 pid], [⟨.blk b, .cells [.map 1 s.bg, .map 2 s.bo, .vec 3 s.ao s.notes.length s.cap] 104⟩, ⟨.blk s.bg, .map1 none encG s.gs (.s n) (some (.map 4 nb))⟩, ⟨.blk s.bo, .map1 (some .i64) encO s.of (.i .i64 pid) (some (.str n))⟩, ⟨.sl s.ao s.cap, .vecL 9 1 encS s.notes ByteArray.empty⟩, ⟨.blk nb, .mapL (some .i64) encU ms⟩, pk 0 rest]⟩) = ( b = b ∧ (s.2 = s.2 ∧ Key.i IntKind.i64 pid = Key.i IntKind.i64 pid ∧ some IntKind.i64 = some IntKind.i64) ∧ b = b ∧ (s.2 = s.2 ∧ some IntKind.i64 = some IntKind.i64 ∧ some IntKind.i64 = some IntKind.i64) ∧ b = b ∧ (s.1 = s.1 ∧ Key.s n = Key.s n ∧ @none IntKind = @none IntKind) ∧ (nb = nb ∧ some IntKind.i64 = some IntKind.i64 ∧ some IntKind.i64 = some IntKind.i64) ∧ b = b ∧ (s.1 = s.1 ∧ Key.s n = Key.s n ∧ @none IntKind = @none IntKind) ∧ nb = nb ∧ match (↑(List.length (mdel ms (Key.i IntKind.i64 pid))) : Int) == (0 : Int) with
 | true => b = b ∧ true = true ∧ true = true ∧ ∃ (xs : List ByteArray), some (gGone_some_z1 s) = some (Ent.mk (Loc.sl s.ao s.4) (SObj.vecL 9 1 encS xs ByteArray.empty)) ∧ List.length s.7 = List.length xs ∧ List.length xs ≤ 1000000000 ∧ match !decide (idxFrom (sEq n) xs (0 : Int) ≥ (0 : Int)) with
  | true => b = b ∧ (true = true ∧ 1 = 1 ∧ 0 < 1 ∧ 1 ≤ 16777216) ∧ ∀ (b_1 : Nat), (s.ao = s.ao ∧ s.4 = s.4 ∧ List.length s.7 = List.length s.7 ∧ some (Addr.mk b_1 0 (@none Nat)) = some (Addr.mk b_1 0 (@none Nat)) ∧ 9 = 9 ∧ 1 = 1 ∧ 1 = 1 ∧ 0 < 1 ∧ true = true ∧ (List.length s.7 + 1) * 16 ≤ 140737488355328 ∧ List.length s.7 + 1 ≤ 9223372036854775807) ∧ ∃ (es : List ByteArray), List.length es = 1 ∧ denL (List.flatMap encS es) = denL [SV.str n] ∧ ∀ (ao2 : Option Addr) (cap2 : Nat), List.length s.7 + 1 ≤ cap2 → (b = b ∧ true = true ∧ 1 = 1 ∧ 3 ≤ 3) ∧ N [Ent.mk (Loc.blk b) (SObj.cells [SV.map 1 s.1, SV.map 2 s.2, SV.vec 3 ao2 (List.length s.7 + 1) cap2] 104), gGone_some_z0 s n nb, Ent.mk (Loc.blk s.2) (SObj.mapL (some IntKind.i64) encO (mdel s.6 (Key.i IntKind.i64 pid))), Ent.mk (Loc.sl ao2 cap2) (SObj.vecL 9 1 encS (s.7 ++ es) ByteArray.empty), Ent.mk (Loc.blk nb) (SObj.mapL (some IntKind.i64) encU (mdel ms (Key.i IntKind.i64 pid))), pk 0 rest, Ent.mk (Loc.blk b_1) (SObj.cells [SV.str n] 9)] (SV.bool true)
  | false => N [Ent.mk (Loc.blk b) (SObj.cells [SV.map 1 s.1, SV.map 2 s.2, SV.vec 3 s.ao (List.length s.7) s.4] 104), gGone_some_z0 s n nb, Ent.mk (Loc.blk s.2) (SObj.mapL (some IntKind.i64) encO (mdel s.6 (Key.i IntKind.i64 pid))), gGone_some_z1 s, Ent.mk (Loc.blk nb) (SObj.mapL (some IntKind.i64) encU (mdel ms (Key.i IntKind.i64 pid))), pk 0 rest] (SV.bool true)
 | false => N [Ent.mk (Loc.blk b) (SObj.cells [SV.map 1 s.1, SV.map 2 s.2, SV.vec 3 s.ao (List.length s.7) s.4] 104), gGone_some_z0 s n nb, Ent.mk (Loc.blk s.2) (SObj.mapL (some IntKind.i64) encO (mdel s.6 (Key.i IntKind.i64 pid))), gGone_some_z1 s, Ent.mk (Loc.blk nb) (SObj.mapL (some IntKind.i64) encU (mdel ms (Key.i IntKind.i64 pid))), pk 0 rest] (SV.bool true)) := by kernel_rfl
theorem gPut_none (K : List Frm → Sy → Prop) (N : List Ent → SV → Prop) (s : Grp) (b : Nat) (pid : Int) (n : ByteArray) (rest : List Ent) : (run Tryz.prog [] false [6] K (retP Tryz.prog Tryz.f85.results.toList N) 600 [.code (bodyOf Tryz.f85)] ⟨padTo 39 [.ptr 0 b 0, .int .i64 pid, .str n], [⟨.blk b, .cells [.map 1 s.bg, .map 2 s.bo, .vec 3 s.ao s.notes.length s.cap] 104⟩, ⟨.blk s.bg, .map1 none encG s.gs (.s n) none⟩, ⟨.blk s.bo, .mapL (some .i64) encO s.of⟩, ⟨.sl s.ao s.cap, .vecL 9 1 encS s.notes ByteArray.empty⟩, pk 0 rest]⟩) = ( b = b ∧ (s.1 = s.1 ∧ Key.s n = Key.s n ∧ @none IntKind = @none IntKind) ∧ N [Ent.mk (Loc.blk b) (SObj.cells [SV.map 1 s.1, SV.map 2 s.2, SV.vec 3 s.ao (List.length s.7) s.4] 104), Ent.mk (Loc.blk s.1) (SObj.map1 (@none IntKind) encG s.5 (Key.s n) (@none SV)), Ent.mk (Loc.blk s.2) (SObj.mapL (some IntKind.i64) encO s.6), Ent.mk (Loc.sl s.ao s.4) (SObj.vecL 9 1 encS s.7 ByteArray.empty), pk 0 rest] (SV.int .i64 90)) := by kernel_rfl
@[reducible] def gPut_some_z0 (s : Grp) (b : Nat) : Ent := Ent.mk (Loc.blk b) (SObj.cells [SV.map 1 s.1, SV.map 2 s.2, SV.vec 3 s.ao (List.length s.7) s.4] 104)
@[reducible] def gPut_some_z1 (s : Grp) (n : ByteArray) (nb : Nat) : Ent := Ent.mk (Loc.blk s.1) (SObj.map1 (@none IntKind) encG s.5 (Key.s n) (some (SV.map 4 nb)))
@[reducible] def gPut_some_z2 (s : Grp) : Ent := Ent.mk (Loc.sl s.ao s.4) (SObj.vecL 9 1 encS s.7 ByteArray.empty)
@[reducible] def gPut_some_z3 (s : Grp) : Ent := Ent.mk (Loc.blk s.2) (SObj.mapL (some IntKind.i64) encO s.6)
@[reducible] def gPut_some_z4 (nb : Nat) (ms : List (Key × Unit)) : Ent := Ent.mk (Loc.blk nb) (SObj.mapL (some IntKind.i64) encU ms)
theorem gPut_some (K : List Frm → Sy → Prop) (N : List Ent → SV → Prop) (s : Grp) (b : Nat) (pid : Int) (n : ByteArray) (nb : Nat) (ms : List (Key × Unit)) (rest : List Ent) : (run Tryz.prog gT2 false [6] K (retP Tryz.prog Tryz.f85.results.toList N) 600 [.code (bodyOf Tryz.f85)] ⟨padTo 39 [.ptr 0 b 0, .int .i64 pid, .str n], [⟨.blk b, .cells [.map 1 s.bg, .map 2 s.bo, .vec 3 s.ao s.notes.length s.cap] 104⟩, ⟨.blk s.bg, .map1 none encG s.gs (.s n) (some (.map 4 nb))⟩, ⟨.blk s.bo, .mapL (some .i64) encO s.of⟩, ⟨.sl s.ao s.cap, .vecL 9 1 encS s.notes ByteArray.empty⟩, ⟨.blk nb, .mapL (some .i64) encU ms⟩, pk 0 rest]⟩) = ( b = b ∧ (s.1 = s.1 ∧ Key.s n = Key.s n ∧ @none IntKind = @none IntKind) ∧ match decide (pid < (2 : Int)) with
 | true => N [gPut_some_z0 s b, gPut_some_z1 s n nb, gPut_some_z3 s, gPut_some_z2 s, gPut_some_z4 nb ms, pk 0 rest] (SV.int .i64 90)
 | false => true = true ∧ (nb = nb ∧ some IntKind.i64 = some IntKind.i64 ∧ some IntKind.i64 = some IntKind.i64) ∧ match mget ms (Key.i IntKind.i64 pid) with
  | some v => ∀ (b_1 : Nat), (b_1 = b_1 ∧ true = true ∧ 0 = 0 ∧ 0 ≤ 0) ∧ N [gPut_some_z0 s b, gPut_some_z1 s n nb, gPut_some_z3 s, gPut_some_z2 s, gPut_some_z4 nb ms, pk 0 rest, Ent.mk (Loc.blk b_1) (SObj.cells [] 158)] (SV.int .i64 0)
  | none => ∀ (b_1 : Nat), (b_1 = b_1 ∧ true = true ∧ 0 = 0 ∧ 0 ≤ 0) ∧ K (frmR [] (bodyOf Tryz.f85) 6) (Sy.mk (SV.ptr 0 b 0 :: (SV.int .i64 pid :: (SV.str n :: (rawE (SV.int .i64 0 :: (SV.map 4 nb :: (SV.bool true :: (SV.tuple [SV.map 4 nb, SV.bool true] :: (SV.ptr 0 b 0 :: (SV.ptr 0 b 0 :: (SV.ptr 0 b 0 :: (SV.map 1 s.1 :: (SV.str n :: (SV.tuple [SV.map 4 nb, SV.bool true] :: (SV.map 4 nb :: (SV.bool true :: (SV.bool true :: (SV.bool false :: (SV.bool false :: (SV.int .i64 pid :: (SV.bool (decide (pid < (2 : Int))) :: (SV.bool false :: (SV.map 4 nb :: (SV.int .i64 pid :: (SV.bool false :: (rawE [] 12)))))))))))))))))))))) 3)))) [gPut_some_z0 s b, gPut_some_z1 s n nb, gPut_some_z3 s, gPut_some_z2 s, gPut_some_z4 nb ms, pk 0 rest, Ent.mk (Loc.blk b_1) (SObj.cells [] 158)])) := by kernel_rfl
theorem gPut_mid (K : List Frm → Sy → Prop) (N : List Ent → SV → Prop) (s : Grp) (b nb : Nat) (pid : Int) (n : ByteArray) (u : Nat → Value) : (run Tryz.prog [(57, adtC grpE goneM)] false [7] K (retP Tryz.prog Tryz.f85.results.toList N) 900 (frmR [] (bodyOf Tryz.f85) 6) ⟨mkT u 39 0 [(0, .ptr 0 b 0), (1, .int .i64 pid), (2, .str n), (7, .map 4 nb)], [pkA b grpE s]⟩) = ( true = true ∧ b = b ∧ ∃ (h : Grp = Grp), AdtIs (fun (s : Grp) (b : Nat) ↦ packs (grpE s b)) grpE ∧ gOk s pid ∧ ∀ (ao : Option Addr) (cap : Nat), K (frmR [] (bodyOf Tryz.f85) 7) (Sy.mk (SV.ptr 0 b 0 :: (SV.int .i64 pid :: (SV.str n :: (rawR u 3 (SV.map 4 nb :: (rawR u 8 (SV.ptr 0 b 0 :: (SV.int .i64 pid :: (SV.bool (gGone s pid ao cap).2 :: (rawR u 30 [] 9)))) 19)) 4)))) [pkA b grpE (gGone s pid ao cap).1])) := by kernel_rfl
theorem gPut_end (K : List Frm → Sy → Prop) (N : List Ent → SV → Prop) (s : Grp) (b : Nat) (pid : Int) (n : ByteArray) (nb : Nat) (ms : List (Key × Unit)) (rest : List Ent) (u : Nat → Value) : (run Tryz.prog gT2 false [] K (retP Tryz.prog Tryz.f85.results.toList N) 900 (frmR [] (bodyOf Tryz.f85) 7) ⟨mkT u 39 0 [(0, .ptr 0 b 0), (1, .int .i64 pid), (2, .str n), (7, .map 4 nb)], [⟨.blk b, .cells [.map 1 s.bg, .map 2 s.bo, .vec 3 s.ao s.notes.length s.cap] 104⟩, ⟨.blk s.bg, .mapL none encG s.gs⟩, ⟨.blk s.bo, .mapL (some .i64) encO s.of⟩, ⟨.sl s.ao s.cap, .vecL 9 1 encS s.notes ByteArray.empty⟩, ⟨.blk nb, .mapL (some .i64) encU ms⟩, pk 0 rest]⟩) = ( true = true ∧ (true = true ∧ true = true) ∧ (nb = nb ∧ some IntKind.i64 = some IntKind.i64 ∧ some IntKind.i64 = some IntKind.i64) ∧ ∃ (u : Unit), den (SV.agg []) = den (SV.agg []) ∧ b = b ∧ (s.2 = s.2 ∧ some IntKind.i64 = some IntKind.i64 ∧ some IntKind.i64 = some IntKind.i64) ∧ ∃ (u_1 : ByteArray), den (SV.str u_1) = den (SV.str n) ∧ N [Ent.mk (Loc.blk b) (SObj.cells [SV.map 1 s.1, SV.map 2 s.2, SV.vec 3 s.ao (List.length s.7) s.4] 104), Ent.mk (Loc.blk s.1) (SObj.mapL (@none IntKind) encG s.5), Ent.mk (Loc.blk s.2) (SObj.mapL (some IntKind.i64) encO (mset s.6 (Key.i IntKind.i64 pid) u_1)), Ent.mk (Loc.sl s.ao s.4) (SObj.vecL 9 1 encS s.7 ByteArray.empty), Ent.mk (Loc.blk nb) (SObj.mapL (some IntKind.i64) encU (mset ms (Key.i IntKind.i64 pid) u)), pk 0 rest] (SV.int .i64 0)) := by kernel_rfl
theorem gEm_head (K : List Frm → Sy → Prop) (N : List Ent → SV → Prop) (J : Act → World → Prop) (s : Grp) (b : Nat) (rest : List Ent) (u : Nat → Value) : (run Tryz.prog [] false [4] K (retP Tryz.prog Tryz.f46.results.toList N) 900 (frm [J] (bodyOf Tryz.f46) [1, 0, 0, 0] []) ⟨mkT u 34 0 [(0, .ptr 0 b 0), (2, .str ⟨#[]⟩), (3, .bool false)], [⟨.blk b, .cells [.map 1 s.bg, .map 2 s.bo, .vec 3 s.ao s.notes.length s.cap] 104⟩, ⟨.blk s.bg, .mapL none encG s.gs⟩, ⟨.blk s.bo, .mapL (some .i64) encO s.of⟩, ⟨.sl s.ao s.cap, .vecL 9 1 encS s.notes ByteArray.empty⟩, pk 0 rest]⟩) = ( b = b ∧ match decide ((↑(List.length s.7) : Int) > (0 : Int)) with
 | true => b = b ∧ (s.ao = s.ao ∧ s.4 = s.4 ∧ List.length s.7 = List.length s.7 ∧ (0 : Int) ≤ (0 : Int) ∧ (0 : Int) < (↑(List.length s.7) : Int)) ∧ (Addr.blkD s.ao = Addr.blkD s.ao ∧ Addr.offD s.ao = Addr.offD s.ao ∧ 1 = 1 ∧ 0 < List.length s.7) ∧ b = b ∧ ((0 : Int) ≤ (1 : Int) ∧ (1 : Int) ≤ (↑(List.length s.7) : Int) ∧ List.length s.7 ≤ s.4) ∧ (b = b ∧ true = true ∧ 1 = 1 ∧ 3 ≤ 3) ∧ K (frmR [J] (bodyOf Tryz.f46) 4) (Sy.mk (SV.ptr 0 b 0 :: (SV.raw (u 1) :: (SV.str (ByteArray.mk #[]) :: (SV.bool false :: (SV.str (List.getD s.7 0 ByteArray.empty) :: (SV.ptr 0 b 0 :: (SV.ptr 0 b 0 :: (SV.ptr 0 b 2 :: (SV.vec 3 s.ao (List.length s.7) s.4 :: (SV.int .i64 (↑(List.length s.7) : Int) :: (SV.bool true :: (SV.ptr 0 b 0 :: (SV.ptr 0 b 0 :: (SV.ptr 0 b 2 :: (SV.vec 3 s.ao (List.length s.7) s.4 :: (SV.eptr 3 (Addr.blkD s.ao) (Addr.offD s.ao) 1 0 0 :: (SV.str (List.getD s.7 0 ByteArray.empty) :: (SV.ptr 0 b 0 :: (SV.ptr 0 b 0 :: (SV.ptr 0 b 0 :: (SV.ptr 0 b 2 :: (SV.vec 3 s.ao (List.length s.7) s.4 :: (SV.sub 3 s.ao s.4 1 1 (List.length s.7) :: (SV.ptr 0 b 0 :: (SV.ptr 0 b 2 :: (rawR u 25 [] 9)))))))))))))))))))))))))) [Ent.mk (Loc.blk b) (SObj.cells [SV.map 1 s.1, SV.map 2 s.2, SV.sub 3 s.ao s.4 1 1 (List.length s.7)] 104), Ent.mk (Loc.blk s.1) (SObj.mapL (@none IntKind) encG s.5), Ent.mk (Loc.blk s.2) (SObj.mapL (some IntKind.i64) encO s.6), Ent.mk (Loc.sl s.ao s.4) (SObj.vecL 9 1 encS s.7 ByteArray.empty), pk 0 rest])
 | false => N [Ent.mk (Loc.blk b) (SObj.cells [SV.map 1 s.1, SV.map 2 s.2, SV.vec 3 s.ao (List.length s.7) s.4] 104), Ent.mk (Loc.blk s.1) (SObj.mapL (@none IntKind) encG s.5), Ent.mk (Loc.blk s.2) (SObj.mapL (some IntKind.i64) encO s.6), Ent.mk (Loc.sl s.ao s.4) (SObj.vecL 9 1 encS s.7 ByteArray.empty), pk 0 rest] (SV.tuple [SV.str (ByteArray.mk #[]), SV.bool false])) := by kernel_rfl
theorem gEm_none (K : List Frm → Sy → Prop) (N : List Ent → SV → Prop) (J0 : Act → World → Prop) (s : Grp) (b : Nat) (n : ByteArray) (rest : List Ent) (u : Nat → Value) : (run Tryz.prog [] false [] K (retP Tryz.prog Tryz.f46.results.toList N) 900 (frmR [J0] (bodyOf Tryz.f46) 4) ⟨mkT u 34 0 [(0, .ptr 0 b 0), (2, .str ⟨#[]⟩), (3, .bool false), (4, .str n)], [⟨.blk b, .cells [.map 1 s.bg, .map 2 s.bo, .vec 3 s.ao s.notes.length s.cap] 104⟩, ⟨.blk s.bg, .map1 none encG s.gs (.s n) none⟩, ⟨.blk s.bo, .mapL (some .i64) encO s.of⟩, ⟨.sl s.ao s.cap, .vecL 9 1 encS s.notes ByteArray.empty⟩, pk 0 rest]⟩) = ( b = b ∧ (s.1 = s.1 ∧ Key.s n = Key.s n ∧ @none IntKind = @none IntKind) ∧ N [Ent.mk (Loc.blk b) (SObj.cells [SV.map 1 s.1, SV.map 2 s.2, SV.vec 3 s.ao (List.length s.7) s.4] 104), Ent.mk (Loc.blk s.1) (SObj.map1 (@none IntKind) encG s.5 (Key.s n) (@none SV)), Ent.mk (Loc.blk s.2) (SObj.mapL (some IntKind.i64) encO s.6), Ent.mk (Loc.sl s.ao s.4) (SObj.vecL 9 1 encS s.7 ByteArray.empty), pk 0 rest] (SV.tuple [SV.str n, SV.bool true])) := by kernel_rfl
theorem gEm_some (K : List Frm → Sy → Prop) (N : List Ent → SV → Prop) (J0 : Act → World → Prop) (s : Grp) (b : Nat) (n : ByteArray) (nb : Nat) (ms : List (Key × Unit)) (rest : List Ent) (u : Nat → Value) : (run Tryz.prog [] false [] K (retP Tryz.prog Tryz.f46.results.toList N) 900 (frmR [J0] (bodyOf Tryz.f46) 4) ⟨mkT u 34 0 [(0, .ptr 0 b 0), (2, .str ⟨#[]⟩), (3, .bool false), (4, .str n)], [⟨.blk b, .cells [.map 1 s.bg, .map 2 s.bo, .vec 3 s.ao s.notes.length s.cap] 104⟩, ⟨.blk s.bg, .map1 none encG s.gs (.s n) (some (.map 4 nb))⟩, ⟨.blk s.bo, .mapL (some .i64) encO s.of⟩, ⟨.sl s.ao s.cap, .vecL 9 1 encS s.notes ByteArray.empty⟩, ⟨.blk nb, .mapL (some .i64) encU ms⟩, pk 0 rest]⟩) = ( b = b ∧ (s.1 = s.1 ∧ Key.s n = Key.s n ∧ @none IntKind = @none IntKind) ∧ nb = nb ∧ match (↑(List.length ms) : Int) == (0 : Int) with
 | true => N [Ent.mk (Loc.blk b) (SObj.cells [SV.map 1 s.1, SV.map 2 s.2, SV.vec 3 s.ao (List.length s.7) s.4] 104), Ent.mk (Loc.blk s.1) (SObj.map1 (@none IntKind) encG s.5 (Key.s n) (some (SV.map 4 nb))), Ent.mk (Loc.blk s.2) (SObj.mapL (some IntKind.i64) encO s.6), Ent.mk (Loc.sl s.ao s.4) (SObj.vecL 9 1 encS s.7 ByteArray.empty), Ent.mk (Loc.blk nb) (SObj.mapL (some IntKind.i64) encU ms), pk 0 rest] (SV.tuple [SV.str n, SV.bool true])
 | false => K (Frm.loop J0 :: Frm.blk 0 :: frm [] (bodyOf Tryz.f46) [1, 1] []) (Sy.mk (SV.ptr 0 b 0 :: (SV.raw (u 1) :: (SV.str (ByteArray.mk #[]) :: (SV.bool false :: (SV.str n :: (rawR u 5 (SV.ptr 0 b 0 :: (SV.ptr 0 b 0 :: (SV.ptr 0 b 0 :: (SV.map 1 s.1 :: (SV.str n :: (SV.map 4 nb :: (SV.int .i64 (↑(List.length ms) : Int) :: (SV.bool false :: (SV.raw (u 33) :: []))))))))) 20)))))) [Ent.mk (Loc.blk b) (SObj.cells [SV.map 1 s.1, SV.map 2 s.2, SV.vec 3 s.ao (List.length s.7) s.4] 104), Ent.mk (Loc.blk s.1) (SObj.map1 (@none IntKind) encG s.5 (Key.s n) (some (SV.map 4 nb))), Ent.mk (Loc.blk s.2) (SObj.mapL (some IntKind.i64) encO s.6), Ent.mk (Loc.sl s.ao s.4) (SObj.vecL 9 1 encS s.7 ByteArray.empty), Ent.mk (Loc.blk nb) (SObj.mapL (some IntKind.i64) encU ms), pk 0 rest])) := by kernel_rfl
theorem gEm_start (K : List Frm → Sy → Prop) (N : List Ent → SV → Prop) (s : Grp) (b : Nat) (rest : List Ent) : (run Tryz.prog [] false [] K (retP Tryz.prog Tryz.f46.results.toList N) 600 [.code (bodyOf Tryz.f46)] ⟨padTo 34 [.ptr 0 b 0], [⟨.blk b, .cells [.map 1 s.bg, .map 2 s.bo, .vec 3 s.ao s.notes.length s.cap] 104⟩, ⟨.blk s.bg, .mapL none encG s.gs⟩, ⟨.blk s.bo, .mapL (some .i64) encO s.of⟩, ⟨.sl s.ao s.cap, .vecL 9 1 encS s.notes ByteArray.empty⟩, pk 0 rest]⟩) = ( K (frm [] (bodyOf Tryz.f46) [1, 0, 0] []) (Sy.mk (SV.ptr 0 b 0 :: (SV.raw (Value.tuple #[]) :: (SV.str (ByteArray.mk #[]) :: (SV.bool false :: (rawE [] 30))))) [Ent.mk (Loc.blk b) (SObj.cells [SV.map 1 s.1, SV.map 2 s.2, SV.vec 3 s.ao (List.length s.7) s.4] 104), Ent.mk (Loc.blk s.1) (SObj.mapL (@none IntKind) encG s.5), Ent.mk (Loc.blk s.2) (SObj.mapL (some IntKind.i64) encO s.6), Ent.mk (Loc.sl s.ao s.4) (SObj.vecL 9 1 encS s.7 ByteArray.empty), pk 0 rest])) := by kernel_rfl
theorem gNew_run (K : List Frm → Sy → Prop) (N : List Ent → SV → Prop) : (run Tryz.prog [] false [] K (retP Tryz.prog Tryz.f49.results.toList N) 600 [.code (bodyOf Tryz.f49)] ⟨padTo 5 [], []⟩) = ( ∀ (b b_1 : Nat), (true = true ∧ true = true) ∧ true = true ∧ ∀ (b_2 : Nat), N [Ent.mk (Loc.blk b) (SObj.mapV (@none IntKind) []), Ent.mk (Loc.blk b_1) (SObj.mapV (some IntKind.i64) []), Ent.mk (Loc.blk b_2) (SObj.cells [SV.map 0 b, SV.map 1 b_1, SV.raw (Value.slice (@none Addr) 0 0)] 104)] (SV.ptr 2 b_2 0)) := by kernel_rfl
end Go.Proofs.YtkcmgcoppecfpaaGreat

/- slices.Index, IndexFunc, DeleteFunc at texts. -/
namespace Go.Proofs.YtkcmgcoppecfpaaGreat
universe u
open Go Go.RowKit

theorem hmG : Tryz.prog.follows .mixedOrders = true := by kernel_rfl

/-! ### slices.Index, Contains, IndexFunc, DeleteFunc -/
theorem getD_lt {α : Type} (xs : List α) (d : α) (i : Nat) (h : i < xs.length) : xs.getD i d = xs[i] := by simp [List.getD, h]
theorem idxFrom_drop {α : Type} (p : α → Bool) (d : α) (xs : List α) (i : Nat) (h : i < xs.length) : idxFrom p (xs.drop i) i = match p (xs.getD i d) with | true => (i : Int) | false => idxFrom p (xs.drop (i + 1)) ((i + 1 : Nat) : Int) := by
  have e : xs.drop i = xs.getD i d :: xs.drop (i + 1) := by
    rw [List.drop_eq_getElem_cons h, getD_lt _ _ _ h]
  rw [e]
  simp only [idxFrom]
  cases p (xs.getD i d) <;> simp
theorem idxFrom_lt {α : Type} (p : α → Bool) : ∀ (xs : List α) (i : Int), idxFrom p xs i = -1 ∨ i ≤ idxFrom p xs i ∧ idxFrom p xs i < i + xs.length
  | [], i => .inl rfl
  | x :: l, i => by
    simp only [idxFrom]
    cases p x with
    | true => right; simp only [List.length_cons]; omega
    | false =>
      rcases idxFrom_lt p l (i + 1) with h | h
      · exact .inl h
      · right; simp only [List.length_cons]; omega
theorem idxFrom_none {α : Type} (p : α → Bool) : ∀ (xs : List α) (i : Int), 0 ≤ i → (idxFrom p xs i = -1 ↔ ∀ x ∈ xs, p x = false)
  | [], i, _ => by simp [idxFrom]
  | x :: l, i, h => by
    simp only [idxFrom]
    cases hp : p x with
    | true => simp [hp]; omega
    | false => simp [hp, idxFrom_none p l (i + 1) (by omega)]
theorem idxS_spec (ao : Option Addr) (cap : Nat) (xs : List ByteArray) (v : ByteArray) (hx : xs.length ≤ 1000000000) : Spec Tryz.prog 100 [⟨.sl ao cap, .vecL 9 1 encS xs ByteArray.empty⟩] [.vec 0 ao xs.length cap, .str v] fun h' r => h' = [⟨.sl ao cap, .vecL 9 1 encS xs ByteArray.empty⟩] ∧ r = .int .i64 (idxFrom (sEq v) xs 0) := by
  refine Spec.of_G 19 Tryz.func100 (c := bodyOf Tryz.f100) (by kernel_rfl) (by kernel_rfl) (Nat.le_of_ble_eq_true rfl) fun W F => ?_
  refine G_run (kc := false) (ss := []) (Cs := []) trivial hmG 300 ?_
  rw [idxS_start]
  refine G_loopAt (ι := Nat) [] (bodyOf Tryz.f100) [1, 0, 1, 0] 19 (fun i => [(0, .vec 0 ao xs.length cap), (1, .str v), (7, .int .i64 (xs.length : Int)), (8, .int .i64 (i : Int))]) (fun _ => [⟨.sl ao cap, .vecL 9 1 encS xs ByteArray.empty⟩]) (fun i => i ≤ xs.length ∧ idxFrom (sEq v) (xs.drop i) i = idxFrom (sEq v) xs 0) (fun i => xs.length - i) 0 (by kernel_rfl) (fun J => by kernel_rfl) ⟨Nat.zero_le _, rfl⟩ rfl ⟨rfl, rfl, rfl, rfl, trivial⟩ (fun w hw => hw) fun i hi u => ?_
  obtain ⟨h1, h2⟩ := hi
  simp only [List.nil_append, List.cons_append]
  refine G_run (kc := false) (ss := []) (Cs := []) trivial hmG 900 ?_
  rw [idxS_body]
  cases hlt : decide ((i : Int) < (xs.length : Int)) with
  | false =>
    simp only [decide_eq_false_iff_not] at hlt
    have hi : i = xs.length := by omega
    subst hi
    rw [List.drop_length] at h2
    exact ⟨rfl, by rw [← h2]; rfl⟩
  | true =>
    simp only [decide_eq_true_eq] at hlt
    have hlt' : i < xs.length := by omega
    rw [idxFrom_drop _ ByteArray.empty _ _ hlt'] at h2
    have e1 : Int.toNat (i : Int) = i := by omega
    have e2 : IntKind.wrap .i64 ((i : Int) + 1) = ((i + 1 : Nat) : Int) := IntWalk.i64_in _ (by omega)
    rw [e1, e2]
    refine ⟨⟨rfl, rfl, rfl, by omega, by omega⟩, ⟨rfl, rfl, rfl, hlt'⟩, ?_⟩
    skip
    cases hp : sEq v (xs.getD i ByteArray.empty) with
    | true =>
      simp only [hp] at h2
      exact ⟨rfl, by rw [← h2]⟩
    | false =>
      simp only [hp] at h2
      exact G_back (i + 1) ⟨by omega, h2⟩ (by omega) rfl ⟨rfl, rfl, rfl, rfl, trivial⟩ (fun w hw => hw)

theorem setN_self {α : Type u} {l : Nat} {v : α} : ∀ {h : List α}, nth h l = some v → setN h l v = h := by
  induction l with
  | zero => intro h hl; cases h <;> simp [nth, setN] at hl ⊢; exact hl.symm
  | succ l ih => intro h hl; cases h <;> simp [nth, setN] at hl ⊢; exact ih hl

theorem idxS_ok : CtrOk Tryz.prog 100 (idxSC 9) := by
  intro args hs N h
  unfold idxSC at h
  split at h
  · rename_i l ao n cap v
    obtain ⟨xs, hl, rfl, hx, h⟩ := h
    refine Spec.at (hp := [⟨.sl ao cap, .vecL 9 1 encS xs ByteArray.empty⟩]) (args' := [.vec 0 ao xs.length cap, .str v]) [l] (by simp [distinct]) (by simp [pickE, hl]) (idxS_spec ao cap xs v hx) rfl ?_
    rintro h' r ⟨rfl, rfl⟩
    refine ⟨Nat.le_refl _, _, rfl, ?_⟩
    simpa [putBack, appE_eq, setN_self hl] using h
  · exact h.elim

theorem ne_of_beq {a b : Nat} (h : Nat.beq a b = false) : a ≠ b := fun e => by subst e; simp at h

theorem gT1_ok : AllOk Tryz.prog gT1 := ⟨idxS_ok, trivial⟩
theorem gT2_ok : AllOk Tryz.prog gT2 := ⟨inl_ok gT1_ok hmG Tryz.func86 (by kernel_rfl), inl_ok trivial hmG Tryz.func98 (by kernel_rfl), inl_ok trivial hmG Tryz.func99 (by kernel_rfl), gT1_ok⟩
end Go.Proofs.YtkcmgcoppecfpaaGreat

/- The methods of cgroup.Groups. -/
namespace Go.Proofs.YtkcmgcoppecfpaaGreat
open Go Go.RowKit

section
variable {W w : World} {F : List Ch}
theorem grp_open {s : Grp} {b : Nat} {n : ByteArray} {v : GSet} {x y : List (Key × GSet)} (hs : s.gs = x ++ (.s n, v) :: y) (hr : Rep W F (grpE s b) w) : Rep W F [⟨.blk b, .cells [.map 1 s.bg, .map 2 s.bo, .vec 3 s.ao s.notes.length s.cap] 104⟩, ⟨.blk s.bg, .mapL none encG s.gs⟩, ⟨.blk s.bo, .mapL (some .i64) encO s.of⟩, ⟨.sl s.ao s.cap, .vecL 9 1 encS s.notes ByteArray.empty⟩, ⟨.blk v.1, .mapL (some .i64) encU v.2⟩, pk 0 (x.map setE ++ y.map setE)] w := by
  have e : s.gs.map setE = x.map setE ++ setE (.s n, v) :: y.map setE := by rw [hs]; simp
  unfold grpE at hr
  rw [e] at hr
  exact Rep.outP (p := [⟨.blk b, .cells [.map 1 s.bg, .map 2 s.bo, .vec 3 s.ao s.notes.length s.cap] 104⟩, ⟨.blk s.bg, .mapL none encG s.gs⟩, ⟨.blk s.bo, .mapL (some .i64) encO s.of⟩, ⟨.sl s.ao s.cap, .vecL 9 1 encS s.notes ByteArray.empty⟩]) (t := []) hr
theorem grp_close {a1 a2 a3 a4 : Ent} {t : List Ent} {n : ByteArray} {v : GSet} {x y : List (Key × GSet)} (hr : Rep W F (a1 :: a2 :: a3 :: a4 :: ⟨.blk v.1, .mapL (some .i64) encU v.2⟩ :: pk 0 (x.map setE ++ y.map setE) :: t) w) : Rep W F [a1, a2, a3, a4, pk 0 ((x ++ (.s n, v) :: y).map setE)] w := by
  have := Rep.intoP (p := [a1, a2, a3, a4]) (t := t) (e := setE (.s n, v)) hr
  have e : (x ++ (.s n, v) :: y).map setE = x.map setE ++ setE (.s n, v) :: y.map setE := by simp
  rw [e]; exact Rep.dropR (h := [a1, a2, a3, a4, pk 0 (x.map setE ++ setE (.s n, v) :: y.map setE)]) (t := t) this
theorem grp_map {a1 : Ent} {t : List Ent} {bg : Nat} {n : ByteArray} {v v' : GSet} {x y : List (Key × GSet)} (hv : v'.1 = v.1) (hr : Rep W F (a1 :: ⟨.blk bg, .mapL none encG (x ++ (.s n, v) :: y)⟩ :: t) w) : Rep W F (a1 :: ⟨.blk bg, .mapL none encG (x ++ (.s n, v') :: y)⟩ :: t) w := by
  refine Rep.mapCongr (l := 1) encG (x ++ (.s n, v') :: y) rfl (fun e he => ?_) ?_ hr
  · have hk := Rep.mapKinds (l := 1) rfl hr
    rcases List.mem_append.1 he with he | he
    · exact hk e (List.mem_append.2 (.inl he))
    · rcases List.mem_cons.1 he with rfl | he
      · rfl
      · exact hk e (List.mem_append.2 (.inr (List.mem_cons_of_mem _ he)))
  · simp [encG, den, hv]
end
theorem gs_split {s : Grp} {n : ByteArray} {v : GSet} (h : mget s.gs (.s n) = some v) : ∃ x y, s.gs = x ++ (.s n, v) :: y ∧ (∀ u, mset s.gs (.s n) u = x ++ (.s n, u) :: y) ∧ mdel s.gs (.s n) = x ++ y := by
  obtain ⟨x, y, k', h1, h2, _, h3, h4⟩ := mget_split h
  rw [keyEq_s h2] at h1
  exact ⟨x, y, h1, h3, h4⟩

theorem gMake_ok : CtrOk Tryz.prog 8 (adtC grpE makeM) := adt_ok fun b s rest N h => by
  unfold makeM at h
  split at h
  · rename_i name
    refine Spec.pre (hs' := [⟨.blk b, .cells [.map 1 s.bg, .map 2 s.bo, .vec 3 s.ao s.notes.length s.cap] 104⟩, ⟨.blk s.bg, .mapL none encG s.gs⟩, ⟨.blk s.bo, .mapL (some .i64) encO s.of⟩, ⟨.sl s.ao s.cap, .vecL 9 1 encS s.notes ByteArray.empty⟩, pk 0 (s.gs.map setE)]) (fun W F w hr => hr) rfl ?_
    refine Spec.of_G 25 Tryz.func8 (c := bodyOf Tryz.f8) (by kernel_rfl) (by kernel_rfl) (Nat.le_of_ble_eq_true rfl) fun W F => ?_
    refine G_run (kc := false) (ss := []) (Cs := []) trivial hmG 600 ?_
    rw [gMake_run]
    split <;> rename_i h1
    · exact ⟨s, fun W F w hr => hr, by have := h 0; simpa only [gMake, h1] using this⟩
    · refine ⟨rfl, ⟨rfl, rfl, rfl⟩, ?_⟩
      split <;> rename_i h2
      · exact ⟨s, fun W F w hr => hr, by have := h 0; simpa only [gMake, h1, h2] using this⟩
      · refine ⟨rfl, fun nb => ⟨⟨rfl, rfl, rfl⟩, (nb, []), rfl, ?_⟩⟩
        refine ⟨{ s with gs := mset s.gs (.s name) (nb, []) }, fun W F w hr => ?_, by have := h nb; simpa only [gMake, h1, h2] using this⟩
        have h3 := Rep.mapOf (l := 5) encU [] rfl rfl hr
        have h4 := Rep.pick (π := [0, 1, 2, 3, 5, 4]) (by decide) rfl h3
        have h5 := Rep.intoNewP (p := [⟨.blk b, .cells [.map 1 s.bg, .map 2 s.bo, .vec 3 s.ao s.notes.length s.cap] 104⟩, ⟨.blk s.bg, .mapL none encG (mset s.gs (.s name) (nb, []))⟩, ⟨.blk s.bo, .mapL (some .i64) encO s.of⟩, ⟨.sl s.ao s.cap, .vecL 9 1 encS s.notes ByteArray.empty⟩]) (t := []) h4
        have e : (mset s.gs (.s name) (nb, [])).map setE = s.gs.map setE ++ [setE (.s name, (nb, []))] := by rw [mset_none h2]; simp
        unfold grpE
        dsimp only
        rw [e]
        exact h5
  · exact h.elim
theorem gGone_ok : CtrOk Tryz.prog 57 (adtC grpE goneM) := adt_ok fun b s rest N h => by
  unfold goneM at h
  split at h
  · rename_i pid
    obtain ⟨⟨hn, hof⟩, h⟩ := h
    cases hg : mget s.of (.i .i64 pid) with
    | none =>
      refine Spec.pre (hs' := [⟨.blk b, .cells [.map 1 s.bg, .map 2 s.bo, .vec 3 s.ao s.notes.length s.cap] 104⟩, ⟨.blk s.bg, .mapL none encG s.gs⟩, ⟨.blk s.bo, .map1 (some .i64) encO s.of (.i .i64 pid) none⟩, ⟨.sl s.ao s.cap, .vecL 9 1 encS s.notes ByteArray.empty⟩, pk 0 (s.gs.map setE)]) (fun W F w hr => Rep.know1 (l := 2) (.i .i64 pid) none rfl rfl (by rw [hg]; rfl) hr) rfl ?_
      refine Spec.of_G 57 Tryz.func57 (c := bodyOf Tryz.f57) (by kernel_rfl) (by kernel_rfl) (Nat.le_of_ble_eq_true rfl) fun W F => ?_
      refine G_run (kc := false) (ss := []) (Cs := []) trivial hmG 600 ?_
      rw [gGone_none]
      refine ⟨rfl, ⟨rfl, rfl, rfl⟩, s, fun W F w hr => Rep.forget1 (l := 2) rfl hr, ?_⟩
      have := h s.ao s.cap
      simpa only [gGone, hg] using this
    | some n =>
      obtain ⟨⟨nb, ms⟩, hx⟩ := hof n hg
      obtain ⟨x, y, hs, hset, _⟩ := gs_split hx
      refine Spec.pre (hs' := [⟨.blk b, .cells [.map 1 s.bg, .map 2 s.bo, .vec 3 s.ao s.notes.length s.cap] 104⟩, ⟨.blk s.bg, .map1 none encG s.gs (.s n) (some (.map 4 nb))⟩, ⟨.blk s.bo, .map1 (some .i64) encO s.of (.i .i64 pid) (some (.str n))⟩, ⟨.sl s.ao s.cap, .vecL 9 1 encS s.notes ByteArray.empty⟩, ⟨.blk nb, .mapL (some .i64) encU ms⟩, pk 0 (x.map setE ++ y.map setE)]) (fun W F w hr => Rep.know1 (l := 2) (.i .i64 pid) (some (.str n)) rfl rfl (by rw [hg]; rfl) (Rep.know1 (l := 1) (.s n) (some (.map 4 nb)) rfl rfl (by rw [hx]; rfl) (grp_open hs hr))) rfl ?_
      refine Spec.of_G 57 Tryz.func57 (c := bodyOf Tryz.f57) (by kernel_rfl) (by kernel_rfl) (Nat.le_of_ble_eq_true rfl) fun W F => ?_
      refine G_run (kc := false) (ss := []) gT2_ok hmG 600 ?_
      rw [gGone_some]
      refine ⟨rfl, ⟨rfl, rfl, rfl⟩, rfl, ⟨rfl, rfl, rfl⟩, rfl, ⟨rfl, rfl, rfl⟩, ⟨rfl, rfl, rfl⟩, rfl, ⟨rfl, rfl, rfl⟩, rfl, ?_⟩
      have hc : (((mdel ms (.i .i64 pid)).length : Int) == 0) = ((mdel ms (.i .i64 pid)).length == 0) := by rw [Bool.eq_iff_iff]; simp
      rw [hc]
      have hv := fun ao cap => h ao cap
      simp only [gGone, hg, hx] at hv
      cases hm : ((mdel ms (.i .i64 pid)).length == 0) with
      | true =>
        refine ⟨rfl, rfl, rfl, s.notes, rfl, rfl, by omega, ?_⟩
        cases hq : !decide (idxFrom (sEq n) s.notes 0 ≥ 0) with
        | true =>
          refine ⟨rfl, ⟨rfl, rfl, by decide, by decide⟩, fun b1 => ⟨⟨rfl, rfl, rfl, rfl, rfl, rfl, rfl, by decide, rfl, by omega, by omega⟩, [n], rfl, rfl, fun ao2 cap2 hc2 => ⟨⟨rfl, rfl, rfl, by decide⟩, ?_⟩⟩⟩
          refine ⟨{ s with of := mdel s.of (.i .i64 pid), gs := mset s.gs (.s n) (nb, mdel ms (.i .i64 pid)), notes := s.notes ++ [n], ao := ao2, cap := cap2 }, fun W F w hr => ?_, by have := hv ao2 cap2; simpa only [hm, hq, Bool.and_true, Bool.and_false, Bool.true_and, Bool.false_and] using this⟩
          have h1 := Rep.forget1 (l := 1) rfl hr
          rw [hs] at h1
          have h2 := grp_map (v := (nb, ms)) (v' := (nb, mdel ms (.i .i64 pid))) rfl h1
          have h3 := grp_close (n := n) (v := (nb, mdel ms (.i .i64 pid))) h2
          unfold grpE
          dsimp only
          rw [hset]
          simp only [List.length_append, List.length_cons, List.length_nil]
          exact h3
        | false =>
          refine ⟨{ s with of := mdel s.of (.i .i64 pid), gs := mset s.gs (.s n) (nb, mdel ms (.i .i64 pid)) }, fun W F w hr => ?_, by have := hv s.ao s.cap; simpa only [hm, hq, Bool.and_true, Bool.and_false, Bool.true_and, Bool.false_and] using this⟩
          have h1 := Rep.forget1 (l := 1) rfl hr
          rw [hs] at h1
          have h2 := grp_map (v := (nb, ms)) (v' := (nb, mdel ms (.i .i64 pid))) rfl h1
          have h3 := grp_close (n := n) (v := (nb, mdel ms (.i .i64 pid))) h2
          unfold grpE
          dsimp only
          rw [hset]
          exact h3
      | false =>
          refine ⟨{ s with of := mdel s.of (.i .i64 pid), gs := mset s.gs (.s n) (nb, mdel ms (.i .i64 pid)) }, fun W F w hr => ?_, by have := hv s.ao s.cap; simpa only [hm, Bool.false_and] using this⟩
          have h1 := Rep.forget1 (l := 1) rfl hr
          rw [hs] at h1
          have h2 := grp_map (v := (nb, ms)) (v' := (nb, mdel ms (.i .i64 pid))) rfl h1
          have h3 := grp_close (n := n) (v := (nb, mdel ms (.i .i64 pid))) h2
          unfold grpE
          dsimp only
          rw [hset]
          exact h3
  · exact h.elim

theorem gGone_blk {s : Grp} {pid : Int} {ao : Option Addr} {cap nb : Nat} {n : ByteArray} {ms : List (Key × Unit)} (h : mget s.gs (.s n) = some (nb, ms)) : ∃ ms', mget (gGone s pid ao cap).1.gs (.s n) = some (nb, ms') := by
  cases hg : mget s.of (.i .i64 pid) with
  | none => exact ⟨ms, by simp only [gGone, hg]; exact h⟩
  | some n' =>
    cases hx : mget s.gs (.s n') with
    | none => exact ⟨ms, by simp only [gGone, hg, hx]; exact h⟩
    | some v =>
      have key : ∃ ms', mget (mset s.gs (.s n') (v.1, mdel v.2 (.i .i64 pid))) (.s n) = some (nb, ms') := by
        cases hq : keyEq (.s n) (.s n') with
        | true =>
          have := keyEq_s hq
          cases this
          rw [h] at hx; cases hx
          exact ⟨_, mget_mset (keyEq_self _) _⟩
        | false => exact ⟨ms, by rw [mget_mset_ne hq]; exact h⟩
      simp only [gGone, hg, hx]
      cases ((mdel v.2 (.i .i64 pid)).length == 0 && !decide (idxFrom (sEq n') s.notes 0 ≥ 0)) <;> exact key
theorem gPut_ok : CtrOk Tryz.prog 85 (adtC grpE putM) := adt_ok fun b s rest N h => by
  unfold putM at h
  split at h
  · rename_i pid n
    obtain ⟨⟨hok, hkeys⟩, h⟩ := h
    cases hx : mget s.gs (.s n) with
    | none =>
      refine Spec.pre (hs' := [⟨.blk b, .cells [.map 1 s.bg, .map 2 s.bo, .vec 3 s.ao s.notes.length s.cap] 104⟩, ⟨.blk s.bg, .map1 none encG s.gs (.s n) none⟩, ⟨.blk s.bo, .mapL (some .i64) encO s.of⟩, ⟨.sl s.ao s.cap, .vecL 9 1 encS s.notes ByteArray.empty⟩, pk 0 (s.gs.map setE)]) (fun W F w hr => Rep.know1 (l := 1) (.s n) none rfl rfl (by rw [hx]; rfl) hr) rfl ?_
      refine Spec.of_G 39 Tryz.func85 (c := bodyOf Tryz.f85) (by kernel_rfl) (by kernel_rfl) (Nat.le_of_ble_eq_true rfl) fun W F => ?_
      refine G_run (kc := false) (ss := [6]) (Cs := []) trivial hmG 600 ?_
      rw [gPut_none]
      refine ⟨rfl, ⟨rfl, rfl, rfl⟩, s, fun W F w hr => Rep.forget1 (l := 1) rfl hr, ?_⟩
      have := h s.ao s.cap
      simpa only [gPut, hx] using this
    | some v =>
      obtain ⟨nb, ms⟩ := v
      obtain ⟨x, y, hs, hset, _⟩ := gs_split hx
      refine Spec.pre (hs' := [⟨.blk b, .cells [.map 1 s.bg, .map 2 s.bo, .vec 3 s.ao s.notes.length s.cap] 104⟩, ⟨.blk s.bg, .map1 none encG s.gs (.s n) (some (.map 4 nb))⟩, ⟨.blk s.bo, .mapL (some .i64) encO s.of⟩, ⟨.sl s.ao s.cap, .vecL 9 1 encS s.notes ByteArray.empty⟩, ⟨.blk nb, .mapL (some .i64) encU ms⟩, pk 0 (x.map setE ++ y.map setE)]) (fun W F w hr => Rep.know1 (l := 1) (.s n) (some (.map 4 nb)) rfl rfl (by rw [hx]; rfl) (grp_open hs hr)) rfl ?_
      refine Spec.of_G 39 Tryz.func85 (c := bodyOf Tryz.f85) (by kernel_rfl) (by kernel_rfl) (Nat.le_of_ble_eq_true rfl) fun W F => ?_
      refine G_run (kc := false) (ss := [6]) gT2_ok hmG 600 ?_
      rw [gPut_some]
      refine ⟨rfl, ⟨rfl, rfl, rfl⟩, ?_⟩
      cases hp : decide (pid < 2) with
      | true =>
          refine ⟨s, fun W F w hr => ?_, by have := h s.ao s.cap; simpa only [gPut, hx, hp] using this⟩
          have h1 := Rep.forget1 (l := 1) rfl hr
          rw [hs] at h1
          have h3 := grp_close (n := n) (v := (nb, ms)) h1
          rw [← hs] at h3
          exact h3
      | false =>
        refine ⟨rfl, ⟨rfl, rfl, rfl⟩, ?_⟩
        cases hm : mget ms (.i .i64 pid) with
        | some u =>
          refine fun b1 => ⟨⟨rfl, rfl, rfl, Nat.le_refl _⟩, s, fun W F w hr => ?_, by have := h s.ao s.cap; simpa only [gPut, hx, hp, hm] using this⟩
          have h1 := Rep.forget1 (l := 1) rfl hr
          rw [hs] at h1
          have h3 := grp_close (n := n) (v := (nb, ms)) h1
          rw [← hs] at h3
          exact h3
        | none =>
          refine fun b1 => ⟨⟨rfl, rfl, rfl, Nat.le_refl _⟩, ?_⟩
          refine G_live 39 [(0, .ptr 0 b 0), (1, .int .i64 pid), (2, .str n), (7, .map 4 nb)] [pkA b grpE s] rfl ⟨rfl, rfl, rfl, rfl, trivial⟩ (fun w hr => ?_) fun u => ?_
          · refine Rep.pkA1 ?_
            have h1 := Rep.forget1 (l := 1) rfl hr
            rw [hs] at h1
            have h3 := grp_close (n := n) (v := (nb, ms)) h1
            rw [← hs] at h3
            exact h3
          refine G_run (kc := false) (ss := [7]) (Cs := [(57, adtC grpE goneM)]) ⟨gGone_ok, trivial⟩ hmG 900 ?_
          rw [gPut_mid]
          refine ⟨rfl, rfl, rfl, HEq.rfl, hok, fun ao cap => ?_⟩
          obtain ⟨ms1, hx1⟩ := gGone_blk (pid := pid) (ao := ao) (cap := cap) hx
          have hf := h ao cap
          simp only [gPut, hx, hp, hm, hx1] at hf
          generalize gGone s pid ao cap = g at hx1 hf
          obtain ⟨s1, r1⟩ := g
          dsimp only at hx1 hf
          obtain ⟨x1, y1, hs1, hset1, _⟩ := gs_split hx1
          refine G_live 39 [(0, .ptr 0 b 0), (1, .int .i64 pid), (2, .str n), (7, .map 4 nb)] [⟨.blk b, .cells [.map 1 s1.bg, .map 2 s1.bo, .vec 3 s1.ao s1.notes.length s1.cap] 104⟩, ⟨.blk s1.bg, .mapL none encG s1.gs⟩, ⟨.blk s1.bo, .mapL (some .i64) encO s1.of⟩, ⟨.sl s1.ao s1.cap, .vecL 9 1 encS s1.notes ByteArray.empty⟩, ⟨.blk nb, .mapL (some .i64) encU ms1⟩, pk 0 (x1.map setE ++ y1.map setE)] rfl ⟨rfl, rfl, rfl, rfl, trivial⟩ (fun w hr => ?_) fun u => ?_
          · exact grp_open hs1 hr.unpkA1
          refine G_run (kc := false) (ss := []) gT2_ok hmG 900 ?_
          rw [gPut_end]
          refine ⟨rfl, ⟨rfl, rfl⟩, ⟨rfl, rfl, rfl⟩, (), rfl, rfl, ⟨rfl, rfl, rfl⟩, n, rfl, ?_⟩
          refine ⟨_, fun W F w hr => ?_, hf⟩
          rw [hs1] at hr
          have h2 := grp_map (v := (nb, ms1)) (v' := (nb, mset ms1 (.i .i64 pid) ())) rfl hr
          have h3 := grp_close (n := n) (v := (nb, mset ms1 (.i .i64 pid) ())) h2
          unfold grpE
          dsimp only
          rw [hset1]
          exact h3
  · exact h.elim
theorem gEmptied_ok : CtrOk Tryz.prog 46 (adtC grpE emptiedM) := adt_ok fun b s rest N h => by
  unfold emptiedM at h
  split at h
  · skip
    refine Spec.pre (hs' := [⟨.blk b, .cells [.map 1 s.bg, .map 2 s.bo, .vec 3 s.ao s.notes.length s.cap] 104⟩, ⟨.blk s.bg, .mapL none encG s.gs⟩, ⟨.blk s.bo, .mapL (some .i64) encO s.of⟩, ⟨.sl s.ao s.cap, .vecL 9 1 encS s.notes ByteArray.empty⟩, pk 0 (s.gs.map setE)]) (fun W F w hr => hr) rfl ?_
    refine Spec.of_G 34 Tryz.func46 (c := bodyOf Tryz.f46) (by kernel_rfl) (by kernel_rfl) (Nat.le_of_ble_eq_true rfl) fun W F => ?_
    refine G_run (kc := false) (ss := []) (Cs := []) trivial hmG 600 ?_
    rw [gEm_start]
    refine G_loopAt (ι := List ByteArray × Option Addr × Nat) [] (bodyOf Tryz.f46) [1, 0, 0] 34 (fun _ => [(0, .ptr 0 b 0), (2, .str ⟨#[]⟩), (3, .bool false)]) (fun i => grpE { s with notes := i.1, ao := i.2.1, cap := i.2.2 } b) (fun i => firstEmpty s.gs i.1 = firstEmpty s.gs s.notes) (fun i => i.1.length) (s.notes, s.ao, s.cap) (by kernel_rfl) (fun J => by kernel_rfl) rfl rfl ⟨rfl, rfl, rfl, trivial⟩ (fun w hw => hw) ?_
    rintro ⟨notes, ao, cap⟩ hfe u
    dsimp only at hfe
    simp only [List.nil_append, List.cons_append]
    have hfin := h
    simp only [gEmptied, ← hfe] at hfin
    clear h
    generalize hs2 : ({ s with notes := notes, ao := ao, cap := cap } : Grp) = s2
    refine G_heap (h' := [⟨.blk b, .cells [.map 1 s2.bg, .map 2 s2.bo, .vec 3 s2.ao s2.notes.length s2.cap] 104⟩, ⟨.blk s2.bg, .mapL none encG s2.gs⟩, ⟨.blk s2.bo, .mapL (some .i64) encO s2.of⟩, ⟨.sl s2.ao s2.cap, .vecL 9 1 encS s2.notes ByteArray.empty⟩, pk 0 (s2.gs.map setE)]) (fun w hw => hw) ?_
    refine G_vec (l := 3) rfl fun hcap _ => ?_
    refine G_run (kc := false) (ss := [4]) (Cs := []) trivial hmG 900 ?_
    rw [gEm_head]
    refine ⟨rfl, ?_⟩
    cases notes with
    | nil =>
      have hd : decide ((s2.notes.length : Int) > 0) = false := by rw [← hs2]; rfl
      rw [hd]
      refine ⟨s2, fun W F w hr => hr, ?_⟩
      have := hfin ao cap
      simp only [firstEmpty] at this
      rw [hs2] at this
      exact this
    | cons n notes =>
      have hl : s2.notes.length = notes.length + 1 := by rw [← hs2]; rfl
      have hd : decide ((s2.notes.length : Int) > 0) = true := by rw [hl]; simp
      rw [hd]
      refine ⟨rfl, ⟨rfl, rfl, rfl, by omega, by omega⟩, ⟨rfl, rfl, rfl, by omega⟩, rfl, ⟨by omega, by omega, by omega⟩, ⟨rfl, rfl, rfl, Nat.le_refl _⟩, ?_⟩
      obtain ⟨s3, hs3⟩ : ∃ s3 : Grp, s3 = { s with notes := notes, ao := cutA ao cap 1 1, cap := cap - 1 } := ⟨_, rfl⟩
      have hcut : ∀ w, Rep W F [⟨.blk b, .cells [.map 1 s2.bg, .map 2 s2.bo, .sub 3 s2.ao s2.cap 1 1 s2.notes.length] 104⟩, ⟨.blk s2.bg, .mapL none encG s2.gs⟩, ⟨.blk s2.bo, .mapL (some .i64) encO s2.of⟩, ⟨.sl s2.ao s2.cap, .vecL 9 1 encS s2.notes ByteArray.empty⟩, pk 0 (s2.gs.map setE)] w → Rep W F (grpE s3 b) w := by
        intro w hw
        have a1 := Rep.cut (l := 3) (k := 1) rfl (by omega) hw
        have a2 := Rep.cellsEq (l := 0) (cs' := [.map 1 s2.bg, .map 2 s2.bo, .vec 3 (cutA s2.ao s2.cap 1 1) (s2.notes.drop 1).length (s2.cap - 1)]) rfl (by simp [denL, den_cut]) a1
        rw [hs3]
        rw [← hs2] at a2
        exact a2
      have hnn : s2.notes.getD 0 ByteArray.empty = n := by rw [← hs2]; rfl
      rw [hnn]
      have hg3 : s3.gs = s.gs := by rw [hs3]
      cases hx : mget s.gs (.s n) with
      | none =>
        refine G_live 34 [(0, .ptr 0 b 0), (2, .str ⟨#[]⟩), (3, .bool false), (4, .str n)] [⟨.blk b, .cells [.map 1 s3.bg, .map 2 s3.bo, .vec 3 s3.ao s3.notes.length s3.cap] 104⟩, ⟨.blk s3.bg, .map1 none encG s3.gs (.s n) none⟩, ⟨.blk s3.bo, .mapL (some .i64) encO s3.of⟩, ⟨.sl s3.ao s3.cap, .vecL 9 1 encS s3.notes ByteArray.empty⟩, pk 0 (s3.gs.map setE)] rfl ⟨rfl, rfl, rfl, rfl, trivial⟩ (fun w hr => Rep.know1 (l := 1) (.s n) none rfl rfl (by rw [hg3, hx]; rfl) (hcut w hr)) fun u => ?_
        refine G_run (kc := false) (ss := []) (Cs := []) trivial hmG 900 ?_
        rw [gEm_none]
        refine ⟨rfl, ⟨rfl, rfl, rfl⟩, s3, fun W F w hr => Rep.forget1 (l := 1) rfl hr, ?_⟩
        have := hfin (cutA ao cap 1 1) (cap - 1)
        simp only [firstEmpty, hx] at this
        rw [hs3]; exact this
      | some v =>
        obtain ⟨nb, ms⟩ := v
        have hx3 : mget s3.gs (.s n) = some (nb, ms) := by rw [hg3]; exact hx
        obtain ⟨x, y, hsx, hset, _⟩ := gs_split hx3
        refine G_live 34 [(0, .ptr 0 b 0), (2, .str ⟨#[]⟩), (3, .bool false), (4, .str n)] [⟨.blk b, .cells [.map 1 s3.bg, .map 2 s3.bo, .vec 3 s3.ao s3.notes.length s3.cap] 104⟩, ⟨.blk s3.bg, .map1 none encG s3.gs (.s n) (some (.map 4 nb))⟩, ⟨.blk s3.bo, .mapL (some .i64) encO s3.of⟩, ⟨.sl s3.ao s3.cap, .vecL 9 1 encS s3.notes ByteArray.empty⟩, ⟨.blk nb, .mapL (some .i64) encU ms⟩, pk 0 (x.map setE ++ y.map setE)] rfl ⟨rfl, rfl, rfl, rfl, trivial⟩ (fun w hr => Rep.know1 (l := 1) (.s n) (some (.map 4 nb)) rfl rfl (by rw [hx3]; rfl) (grp_open hsx (hcut w hr))) fun u => ?_
        refine G_run (kc := false) (ss := []) (Cs := []) trivial hmG 900 ?_
        rw [gEm_some]
        refine ⟨rfl, ⟨rfl, rfl, rfl⟩, rfl, ?_⟩
        have hclose : ∀ W F w, Rep W F [⟨.blk b, .cells [.map 1 s3.bg, .map 2 s3.bo, .vec 3 s3.ao s3.notes.length s3.cap] 104⟩, ⟨.blk s3.bg, .map1 none encG s3.gs (.s n) (some (.map 4 nb))⟩, ⟨.blk s3.bo, .mapL (some .i64) encO s3.of⟩, ⟨.sl s3.ao s3.cap, .vecL 9 1 encS s3.notes ByteArray.empty⟩, ⟨.blk nb, .mapL (some .i64) encU ms⟩, pk 0 (x.map setE ++ y.map setE)] w → Rep W F (grpE s3 b) w := by
          intro W F w hr
          have h1 := Rep.forget1 (l := 1) rfl hr
          rw [hsx] at h1
          have h3 := grp_close (n := n) (v := (nb, ms)) h1
          rw [← hsx] at h3
          exact h3
        cases hm : ms with
        | nil =>
          refine ⟨s3, fun W F w hr => hclose W F w (by rw [hm]; exact hr), ?_⟩
          have := hfin (cutA ao cap 1 1) (cap - 1)
          simp only [firstEmpty, hx, hm] at this
          rw [hs3]; exact this
        | cons m ms' =>
          have hne : (((m :: ms').length : Int) == 0) = false := by simp; omega
          rw [hne]
          refine G_back (notes, cutA ao cap 1 1, cap - 1) ?_ (by dsimp only; simp) rfl ⟨rfl, rfl, rfl, trivial⟩ (fun w hw => ?_)
          · dsimp only
            rw [← hfe]
            simp only [firstEmpty, hx, hm, List.length_cons]
          · have := hclose W F w (by rw [hm]; exact hw)
            rw [hs3] at this
            exact this
  · exact h.elim

theorem gNew_ok : CtrOk Tryz.prog 49 newGC := by
  intro args hs N h
  unfold newGC at h
  split at h
  · refine Spec.at (hp := []) (args' := []) (Post' := fun h' r => ∃ b bg bo, h' = [pkA b grpE ⟨bg, bo, none, 0, [], [], []⟩] ∧ r = .ptr 0 b 0) [] rfl rfl ?_ rfl ?_
    · refine Spec.up ?_
      refine Spec.of_G 5 Tryz.func49 (c := bodyOf Tryz.f49) (by kernel_rfl) (by kernel_rfl) (Nat.le_of_ble_eq_true rfl) fun W F => ?_
      refine G_run (kc := false) (ss := []) (Cs := []) trivial hmG 600 ?_
      rw [gNew_run]
      refine fun bg bo => ⟨⟨rfl, rfl⟩, rfl, fun b => ?_⟩
      refine ⟨[pkA b grpE ⟨bg, bo, none, 0, [], [], []⟩], .ptr 0 b 0, fun W F w hr => ?_, rfl, b, bg, bo, rfl, rfl⟩
      have h1 := Rep.mapOf (l := 0) encG [] rfl rfl hr
      have h2 := Rep.mapOf (l := 1) encO [] rfl rfl h1
      have h3 := Rep.nilvec 9 (sz := 1) (enc := encS) ByteArray.empty (fun _ => rfl) h2
      have h4 := Rep.pick (π := [2, 0, 1, 3]) (by decide) rfl h3
      have h5 := Rep.cellsEq (l := 0) (cs' := [.map 1 bg, .map 2 bo, .vec 3 none 0 0]) rfl (by simp [denL, den]) h4
      have h6 : Rep W F (pk 0 [] :: _) w := Rep.pk 0 (h := []) h5
      have h7 := Rep.pick (π := [1, 2, 3, 4, 0]) (by decide) rfl h6
      exact Rep.pkA1 h7
    · rintro h' r ⟨b, bg, bo, rfl, rfl⟩
      refine ⟨Nat.zero_le _, .ptr (lenN hs) b 0, rfl, ?_⟩
      have := h b bg bo
      simpa [putBack, appE_eq, snoc_eq] using this
  · exact h.elim
end Go.Proofs.YtkcmgcoppecfpaaGreat

/- Layings of the kit's contracts for slices.Sorted and maps.Keys at this program, in plain words. -/
namespace Go.Proofs.YtkcmgcoppecfpaaGreat
open Go.Shelf
def keysG_ren : Go.Shelf.Ren := ⟨fun | 7 => 88 | 10 => 101 | n => n, fun | 23 => 98 | 26 => 3 | 3 => 158 | 28 => 110 | 0 => 0 | 27 => 109 | 33 => 108 | 4 => 4 | n => n, fun | n => n⟩
theorem keysG : Go.Proofs.SlLaysZI.n7 Tryz.prog keysG_ren := {
  mixed := by kernel_rfl
  f7 := ⟨Tryz.f88.name, by decide, Tryz.func88.trans (congrArg some (by kernel_rfl))⟩
  f10 := ⟨Tryz.f101.name, by decide, Tryz.func101.trans (congrArg some (by kernel_rfl))⟩
  t0 := Tryz.underlying0
  a0 := Tryz.isAgg0
  z0 := Tryz.sizeOf0
  v0 := Tryz.zeroValue0
  t4 := Tryz.underlying4
  a4 := Tryz.isAgg4
  z4 := Tryz.sizeOf4
  v4 := Tryz.zeroValue4
  t23 := Tryz.underlying98
  a23 := Tryz.isAgg98
  z23 := Tryz.sizeOf98
  v23 := Tryz.zeroValue98
  t26 := Tryz.underlying3
  a26 := Tryz.isAgg3
  z26 := Tryz.sizeOf3
  v26 := Tryz.zeroValue3
  t27 := Tryz.underlying109
  a27 := Tryz.isAgg109
  z27 := Tryz.sizeOf109
  v27 := Tryz.zeroValue109
  t28 := Tryz.underlying110
  a28 := Tryz.isAgg110
  z28 := Tryz.sizeOf110
  v28 := Tryz.zeroValue110
  t33 := Tryz.underlying108
  a33 := Tryz.isAgg108
  z33 := Tryz.sizeOf108
  v33 := Tryz.zeroValue108 }
end Go.Proofs.YtkcmgcoppecfpaaGreat

/- Layings of the kit's contracts for slices.Sorted and maps.Keys at this program, in plain words. -/
namespace Go.Proofs.YtkcmgcoppecfpaaGreat
open Go.Shelf
def keysM_ren : Go.Shelf.Ren := ⟨fun | 7 => 107 | 10 => 122 | n => n, fun | 23 => 100 | 26 => 9 | 3 => 98 | 28 => 173 | 0 => 0 | 27 => 172 | 33 => 105 | 4 => 4 | n => n, fun | n => n⟩
theorem keysM : Go.Proofs.SlLaysZ.n7 Tryz.prog keysM_ren := {
  mixed := by kernel_rfl
  f7 := ⟨Tryz.f107.name, by decide, Tryz.func107.trans (congrArg some (by kernel_rfl))⟩
  f10 := ⟨Tryz.f122.name, by decide, Tryz.func122.trans (congrArg some (by kernel_rfl))⟩
  t0 := Tryz.underlying0
  a0 := Tryz.isAgg0
  z0 := Tryz.sizeOf0
  v0 := Tryz.zeroValue0
  t4 := Tryz.underlying4
  a4 := Tryz.isAgg4
  z4 := Tryz.sizeOf4
  v4 := Tryz.zeroValue4
  t23 := Tryz.underlying100
  a23 := Tryz.isAgg100
  z23 := Tryz.sizeOf100
  v23 := Tryz.zeroValue100
  t26 := Tryz.underlying9
  a26 := Tryz.isAgg9
  z26 := Tryz.sizeOf9
  v26 := Tryz.zeroValue9
  t27 := Tryz.underlying172
  a27 := Tryz.isAgg172
  z27 := Tryz.sizeOf172
  v27 := Tryz.zeroValue172
  t28 := Tryz.underlying173
  a28 := Tryz.isAgg173
  z28 := Tryz.sizeOf173
  v28 := Tryz.zeroValue173
  t33 := Tryz.underlying105
  a33 := Tryz.isAgg105
  z33 := Tryz.sizeOf105
  v33 := Tryz.zeroValue105 }
end Go.Proofs.YtkcmgcoppecfpaaGreat

/- slices.Values: going through a row. -/
namespace Go.Proofs.YtkcmgcoppecfpaaGreat
open Go Go.RowKit

def valSY (fv : Value) (xs : List ByteArray) (R : Nat → List Ent) (Stop : List Ent → Prop) : YCtr := fun v args hs N => v = fv ∧ match hs with
  | e0 :: e1 :: e2 :: rest => ∃ i x, xs[i]? = some x ∧ args = [.str x] ∧ e2 = pk 0 (R i) ∧ N (e0 :: e1 :: pk 0 (R (i + 1)) :: rest) (.bool true) ∧ ∀ R', Stop R' → N (e0 :: e1 :: pk 0 R' :: rest) (.bool false)
  | _ => False
end Go.Proofs.YtkcmgcoppecfpaaGreat

namespace Go.Proofs.YtkcmgcoppecfpaaGreat
open Go Go.RowKit

theorem vS_start (K : List Frm → Sy → Prop) (X : Code → Sy → Prop) (E : Sy → Prop) (xs : List ByteArray) (bx : Nat) (ao : Option Addr) (cap : Nat) (fv : Value) (R : Nat → List Ent) (Stop : List Ent → Prop) : (runR Tryz.prog [] (valSY fv xs R Stop) true [] K X E 300 [.code (bodyOf Tryz.f119)] ⟨padTo 16 [.raw fv, .ptr 0 bx 0], [⟨.blk bx, .cells [.vec 1 ao xs.length cap] 102⟩, ⟨.sl ao cap, .vecL 9 1 encS xs ByteArray.empty⟩, pk 0 (R 0)]⟩) = (
bx = bx ∧
 K (frm [] (bodyOf Tryz.f119) [1, 0] [])
  (Sy.mk (SV.raw fv :: (SV.ptr 0 bx 0 :: (rawE (SV.vec 1 ao (List.length xs) cap :: (SV.int IntKind.i64 (↑(List.length xs) : Int) :: (SV.int IntKind.i64 (0 : Int) :: (rawE [] 8)))) 3)))
   [Ent.mk (Loc.blk bx) (SObj.cells [SV.vec 1 ao (List.length xs) cap] 102), Ent.mk (Loc.sl ao cap) (SObj.vecL 9 1 encS xs ByteArray.empty),
    pk 0 (R 0)])) := by kernel_rfl


theorem vS_body (K : List Frm → Sy → Prop) (X : Code → Sy → Prop) (E : Sy → Prop) (J : Act → World → Prop) (xs : List ByteArray) (bx : Nat) (ao : Option Addr) (cap : Nat) (fv : Value) (R : Nat → List Ent) (Stop : List Ent → Prop) (i : Nat) (u : Nat → Value) : (runR Tryz.prog [] (valSY fv xs R Stop) true [] K X E 900 (frm [J] (bodyOf Tryz.f119) [1, 0, 0] []) ⟨mkT u 16 0 [(0, .raw fv), (1, .ptr 0 bx 0), (5, .vec 1 ao xs.length cap), (6, .int .i64 (xs.length : Int)), (7, .int .i64 (i : Int))], [⟨.blk bx, .cells [.vec 1 ao xs.length cap] 102⟩, ⟨.sl ao cap, .vecL 9 1 encS xs ByteArray.empty⟩, pk 0 (R i)]⟩) = (
match decide ((↑i : Int) < (↑(List.length xs) : Int)) with
| true =>
 (ao = ao ∧ cap = cap ∧ List.length xs = List.length xs ∧ (0 : Int) ≤ (↑i : Int) ∧ (↑i : Int) < (↑(List.length xs) : Int)) ∧
  (Addr.blkD ao = Addr.blkD ao ∧ Addr.offD ao = Addr.offD ao ∧ 1 = 1 ∧ Int.toNat (↑i : Int) < List.length xs) ∧
   fv = fv ∧
    ∃ (i_1 : Nat),
     ∃ (x : ByteArray),
      xs[i_1]? = some x ∧
       [SV.str (List.getD xs (Int.toNat (↑i : Int)) ByteArray.empty)] = [SV.str x] ∧
        pk 0 (R i) = pk 0 (R i_1) ∧
         K [Frm.loop J, Frm.blk 0]
          (Sy.mk (SV.raw fv :: (SV.ptr 0 bx 0 :: (SV.raw (u 2) :: (SV.raw (u 3) :: (SV.str (List.getD xs (Int.toNat (↑i : Int)) ByteArray.empty) :: (SV.vec 1 ao (List.length xs) cap :: (SV.int IntKind.i64 (↑(List.length xs) : Int) :: (SV.int IntKind.i64 (IntKind.wrap IntKind.i64 ((↑i : Int) + (1 : Int))) :: (SV.bool true :: (SV.eptr 1 (Addr.blkD ao) (Addr.offD ao) 1 (Int.toNat (↑i : Int)) 0 :: (SV.str (List.getD xs (Int.toNat (↑i : Int)) ByteArray.empty) :: (SV.raw fv :: (SV.str (List.getD xs (Int.toNat (↑i : Int)) ByteArray.empty) :: (SV.bool true :: (SV.bool false :: (SV.int IntKind.i64 (IntKind.wrap IntKind.i64 ((↑i : Int) + (1 : Int))) :: []))))))))))))))))
           [Ent.mk (Loc.blk bx) (SObj.cells [SV.vec 1 ao (List.length xs) cap] 102), Ent.mk (Loc.sl ao cap) (SObj.vecL 9 1 encS xs ByteArray.empty),
            pk 0 (R (i_1 + 1))]) ∧
          ∀ (R' : List Ent),
           Stop R' →
            X Code.ret
             (Sy.mk (SV.raw fv :: (SV.ptr 0 bx 0 :: (SV.raw (u 2) :: (SV.raw (u 3) :: (SV.str (List.getD xs (Int.toNat (↑i : Int)) ByteArray.empty) :: (SV.vec 1 ao (List.length xs) cap :: (SV.int IntKind.i64 (↑(List.length xs) : Int) :: (SV.int IntKind.i64 (↑i : Int) :: (SV.bool true :: (SV.eptr 1 (Addr.blkD ao) (Addr.offD ao) 1 (Int.toNat (↑i : Int)) 0 :: (SV.str (List.getD xs (Int.toNat (↑i : Int)) ByteArray.empty) :: (SV.raw fv :: (SV.str (List.getD xs (Int.toNat (↑i : Int)) ByteArray.empty) :: (SV.bool false :: (SV.bool true :: (SV.raw (u 15) :: []))))))))))))))))
              [Ent.mk (Loc.blk bx) (SObj.cells [SV.vec 1 ao (List.length xs) cap] 102),
               Ent.mk (Loc.sl ao cap) (SObj.vecL 9 1 encS xs ByteArray.empty), pk 0 R'])
| false =>
 E
  (Sy.mk (SV.raw fv :: (SV.ptr 0 bx 0 :: (rawR u 2 (SV.vec 1 ao (List.length xs) cap :: (SV.int IntKind.i64 (↑(List.length xs) : Int) :: (SV.int IntKind.i64 (↑i : Int) :: (SV.bool false :: (rawR u 9 [] 7))))) 3)))
   [Ent.mk (Loc.blk bx) (SObj.cells [SV.vec 1 ao (List.length xs) cap] 102), Ent.mk (Loc.sl ao cap) (SObj.vecL 9 1 encS xs ByteArray.empty),
    pk 0 (R i)])) := by kernel_rfl
end Go.Proofs.YtkcmgcoppecfpaaGreat

/- slices.Values: going through a row. -/
namespace Go.Proofs.YtkcmgcoppecfpaaGreat
open Go Go.RowKit
theorem hmValS : Tryz.prog.follows .mixedOrders = true := by kernel_rfl

def OneS (fv : Value) (xs : List ByteArray) (R : Nat → List Ent) (Stop : List Ent → Prop) : Prop := ∀ i x, xs[i]? = some x → VSpec Tryz.prog fv [pk 0 (R i)] [.str x] fun h r => (h = [pk 0 (R (i + 1))] ∧ r = .bool true) ∨ ∃ R', Stop R' ∧ h = [pk 0 R'] ∧ r = .bool false
theorem valSY_ok {fv : Value} {xs : List ByteArray} {R : Nat → List Ent} {Stop : List Ent → Prop} (hV : OneS fv xs R Stop) : YOk Tryz.prog (valSY fv xs R Stop) := by
  rintro v args hs N ⟨rfl, h⟩
  split at h
  case h_2 => exact h.elim
  rename_i e0 e1 e2 rest
  obtain ⟨i, x, hx, rfl, rfl, hN1, hN2⟩ := h
  refine VSpec.at [2] rfl rfl (hV i x hx) fun h' r hp => ?_
  rcases hp with ⟨rfl, rfl⟩ | ⟨R', hs, rfl, rfl⟩
  · exact ⟨Nat.le_refl _, by simpa [putBack, setN, appE_eq] using hN1⟩
  · exact ⟨Nat.le_refl _, by simpa [putBack, setN, appE_eq] using hN2 R' hs⟩
theorem valS_iter {fv : Value} {xs : List ByteArray} {bx : Nat} {ao : Option Addr} {cap : Nat} {R : Nat → List Ent} {Stop : List Ent → Prop} (hx : xs.length ≤ 1000000) (hV : OneS fv xs R Stop) :
    Spec Tryz.prog 119 [⟨.blk bx, .cells [.vec 1 ao xs.length cap] 102⟩, ⟨.sl ao cap, .vecL 9 1 encS xs ByteArray.empty⟩, pk 0 (R 0)] [.raw fv, .ptr 0 bx 0] fun h' r => r = .tuple [] ∧ (h' = [⟨.blk bx, .cells [.vec 1 ao xs.length cap] 102⟩, ⟨.sl ao cap, .vecL 9 1 encS xs ByteArray.empty⟩, pk 0 (R xs.length)] ∨ ∃ R', Stop R' ∧ h' = [⟨.blk bx, .cells [.vec 1 ao xs.length cap] 102⟩, ⟨.sl ao cap, .vecL 9 1 encS xs ByteArray.empty⟩, pk 0 R']) := by
  refine Spec.up ?_
  refine Spec.of_GR 16 Tryz.func119 (c := bodyOf Tryz.f119) (by kernel_rfl) (by kernel_rfl) (Nat.le_of_ble_eq_true rfl) fun W F => ?_
  refine runR_sound (kc := true) (ss := []) (Cs := []) (fun _ _ h => h) trivial (valSY_ok hV) hmValS Ends.fn 300 _ _ ?_
  rw [vS_start]
  try refine ⟨rfl, ?_⟩
  refine GR_loopAt (ι := Nat) [] (bodyOf Tryz.f119) [1, 0] 16 (fun i => [(0, .raw fv), (1, .ptr 0 bx 0), (5, .vec 1 ao xs.length cap), (6, .int .i64 (xs.length : Int)), (7, .int .i64 (i : Int))]) (fun i => [⟨.blk bx, .cells [.vec 1 ao xs.length cap] 102⟩, ⟨.sl ao cap, .vecL 9 1 encS xs ByteArray.empty⟩, pk 0 (R i)]) (fun i => i ≤ xs.length) (fun i => xs.length - i) 0 (by kernel_rfl) (fun J => by kernel_rfl) (Nat.zero_le _) rfl ⟨rfl, rfl, rfl, rfl, rfl, trivial⟩ (fun w hw => hw) fun i hi u => ?_
  simp only [List.nil_append, List.cons_append]
  refine runR_sound (kc := true) (ss := []) (Cs := []) (fun _ _ h => h) trivial (valSY_ok hV) hmValS Ends.fn 900 _ _ ?_
  rw [vS_body]
  cases hlt : decide ((i : Int) < (xs.length : Int)) with
  | false =>
    simp only [decide_eq_false_iff_not] at hlt
    obtain rfl : i = xs.length := by omega
    exact ⟨_, _, fun W F w hr => hr, rfl, rfl, .inl rfl⟩
  | true =>
    simp only [decide_eq_true_eq] at hlt
    have hi' : i < xs.length := by omega
    have t2 : IntKind.wrap .i64 ((i : Int) + 1) = ((i + 1 : Nat) : Int) := IntWalk.i64_in _ (by omega)
    have hk : xs.getD i ByteArray.empty = xs[i] := by simp [List.getD, hi']
    rw [Int.toNat_natCast, hk]
    refine ⟨⟨rfl, rfl, rfl, by omega, by omega⟩, ⟨rfl, rfl, rfl, hi'⟩, ?_⟩
    repeat' first
      | exact rfl
      | (refine ⟨i, xs[i], List.getElem?_eq_getElem hi', rfl, rfl, ?_, fun R' hst => ?_⟩)
      | (refine GR_back (i + 1) (by omega) (by omega) rfl ⟨rfl, rfl, rfl, rfl, congrArg (Value.int .i64) t2, trivial⟩ (fun w hr => hr))
      | exact ⟨_, _, fun W F w hr => hr, rfl, rfl, .inr ⟨R', hst, rfl⟩⟩
      | apply And.intro
      | fail
end Go.Proofs.YtkcmgcoppecfpaaGreat

/- cgroup.Groups: Of, Members, names, All. -/
namespace Go.Proofs.YtkcmgcoppecfpaaGreat
open Go Go.RowKit
open Go.Maps Go.Sort Go.Shelf
theorem hmA : Tryz.prog.follows .mixedOrders = true := by kernel_rfl
theorem setN_selfA {α : Type 1} {l : Nat} {v : α} : ∀ {h : List α}, nth h l = some v → setN h l v = h := by
  induction l with
  | zero => intro h hl; cases h <;> simp [nth, setN] at hl ⊢; exact hl.symm
  | succ l ih => intro h hl; cases h <;> simp [nth, setN] at hl ⊢; exact ih hl
theorem srtQ_ok {fI T : Nat} (hT : T = 3) (hI : CtrOk Tryz.prog 80 (srtIC fI T)) (hg : ∃ fn, Tryz.prog.funcs[fI]? = some fn ∧ (fn.name == "runtime.NumGoroutine") = false ∧ ∃ c, fn.body = some c)
    (hK : ∀ (w : World) (b : Nat), b < w.heap.size → w.cell? ⟨b, 0, none⟩ = some (.map none) → SeqGives Fence.wide 2 Tryz.prog fI #[.pointer (some ⟨b, 0, none⟩)] encZ (fun ss => ss = []) 0 w) : CtrOk Tryz.prog 80 (srtQC fI T) := by
  subst hT
  intro args hs N h
  unfold srtQC at h
  split at h
  case h_2 => exact h.elim
  rename_i f lb b
  obtain ⟨hf, h⟩ := h
  split at h
  case h_3 => exact h.elim
  · rename_i b' lm rm T' hlb
    refine hI _ hs N ?_
    unfold srtIC
    exact ⟨hf, by rw [hlb]; exact h⟩
  · rename_i b' T' hlb
    subst hf
    obtain ⟨rfl, h⟩ := h
    intro W F w hr
    obtain ⟨fn, g1, g2, c, g3⟩ := hg
    have hcell : w.cell? ⟨b', 0, none⟩ = some (.map none) := by rw [hr.cells hlb]; rfl
    have hb : b' < w.heap.size := World.block_lt_of_cell? _ _ hcell
    have hseq := hK w b' hb hcell
    have cS := AnyZI.sorted_in sortedI Fence.wide 5 trivial trivial trivial trivial rfl (by omega) (sortsI _) (enters_of Tryz.func93 (by kernel_rfl) rfl) f #[.pointer (some ⟨b', 0, none⟩)] trivial (enters_of g1 g2 g3) _ _ (by unfold maxLen; omega) (by omega) _ hseq
    refine Calls.mono ((callsIn_wide (n := 5)).1 cS) ?_
    rintro e w' ⟨v, ss, rfl, hS, hrow, hnil, hbel⟩
    subst hS
    have hm : ([] : List Int).mergeSort leI = [] := by simp
    rcases hrow.2 with ⟨rfl, h0⟩ | ⟨g, cap, cur, rfl, hge, hgb, hle, hcap, hsz, htk⟩
    · refine ⟨_, _, h none 0, rfl, ?_⟩
      have hr' : Rep W F hs w' := hr.move fun L hL => hL.below hbel
      exact Rep.nilvec _ (sz := 1) (enc := encI1) 0 (fun _ => rfl) hr'
    · refine ⟨_, _, h (some ⟨g, 0, none⟩) cap, rfl, ?_⟩
      refine hr.new (c := [(g, .cells cur _ (0, 0))]) ⟨⟨by simp [flatV], by simp, .inr ⟨g, 0, cur, rfl, rfl, by have := hsz; simp at this; omega, by simp [flatV]⟩⟩, fun _ => rfl⟩ fun L hL => hL.grow hbel hge hgb
theorem gaT0_ok : AllOk Tryz.prog gaT0 := ⟨inl_ok trivial hmA Tryz.func88 (by kernel_rfl),
  srtQ_ok rfl (srtI_ok rfl ⟨_, Tryz.func101, by kernel_rfl, _, rfl⟩ (fun w b rm nn D0 h1 h2 h3 => AnyZI.keys_gives (ρ := keysG_ren) { keysG with } Fence.wide _ trivial rfl (by omega) b rm nn D0 w h1 h2 h3)) ⟨_, Tryz.func101, by kernel_rfl, _, rfl⟩
    (fun w b h1 h2 => AnyZI.keys_gives_nil (ρ := keysG_ren) { keysG with } Fence.wide _ trivial rfl b w h1 h2), trivial⟩
theorem gaT_ok : AllOk Tryz.prog gaT := ⟨inl_ok gaT0_ok hmA Tryz.func61 (by kernel_rfl), gaT0_ok⟩
theorem gnT_ok : AllOk Tryz.prog gnT := ⟨inl_ok trivial hmA Tryz.func107 (by kernel_rfl), srtS_ok rfl ⟨_, Tryz.func122, by kernel_rfl, _, rfl⟩ (fun w b rm nn D0 h1 h2 h3 => AnyZ.keys_gives (ρ := keysM_ren) { keysM with } Fence.wide _ trivial rfl (by omega) b rm nn D0 w h1 h2 h3), inl_ok trivial hmA Tryz.func105 (by kernel_rfl), trivial⟩
theorem gOf_ok : CtrOk Tryz.prog 17 (adtC grpE gofM) := adt_ok fun b s rest N h => by
  unfold gofM at h
  split at h
  case h_2 => exact h.elim
  rename_i pid
  cases hg : mget s.of (.i .i64 pid) with
  | none =>
    rw [hg] at h
    refine Spec.pre (hs' := [⟨.blk b, .cells [.map 1 s.bg, .map 2 s.bo, .vec 3 s.ao s.notes.length s.cap] 104⟩, ⟨.blk s.bg, .mapL none encG s.gs⟩, ⟨.blk s.bo, .map1 (some .i64) encO s.of (.i .i64 pid) none⟩, ⟨.sl s.ao s.cap, .vecL 9 1 encS s.notes ByteArray.empty⟩, pk 0 (s.gs.map setE)]) (fun W F w hr => Rep.know1 (l := 2) (.i .i64 pid) none rfl rfl (by rw [hg]; rfl) hr) rfl ?_
    refine Spec.of_G 19 Tryz.func17 (c := bodyOf Tryz.f17) (by kernel_rfl) (by kernel_rfl) (Nat.le_of_ble_eq_true rfl) fun W F => ?_
    refine G_run (kc := false) (ss := []) (Cs := []) trivial hmA 600 ?_
    rw [gOf_none (n := ByteArray.empty)]
    exact ⟨rfl, ⟨rfl, rfl, rfl⟩, s, fun W F w hr => Rep.forget1 (l := 2) rfl hr, h⟩
  | some n =>
    rw [hg] at h
    refine Spec.pre (hs' := [⟨.blk b, .cells [.map 1 s.bg, .map 2 s.bo, .vec 3 s.ao s.notes.length s.cap] 104⟩, ⟨.blk s.bg, .mapL none encG s.gs⟩, ⟨.blk s.bo, .map1 (some .i64) encO s.of (.i .i64 pid) (some (.str n))⟩, ⟨.sl s.ao s.cap, .vecL 9 1 encS s.notes ByteArray.empty⟩, pk 0 (s.gs.map setE)]) (fun W F w hr => Rep.know1 (l := 2) (.i .i64 pid) (some (.str n)) rfl rfl (by rw [hg]; rfl) hr) rfl ?_
    refine Spec.of_G 19 Tryz.func17 (c := bodyOf Tryz.f17) (by kernel_rfl) (by kernel_rfl) (Nat.le_of_ble_eq_true rfl) fun W F => ?_
    refine G_run (kc := false) (ss := []) (Cs := []) trivial hmA 600 ?_
    rw [gOf_some]
    exact ⟨rfl, ⟨rfl, rfl, rfl⟩, s, fun W F w hr => Rep.forget1 (l := 2) rfl hr, h⟩
theorem gMb_ok : CtrOk Tryz.prog 18 membersNC := by
  intro args hs N h
  unfold membersNC at h
  split at h
  case h_2 => exact h.elim
  rename_i l b name
  split at h
  case h_2 => exact h.elim
  rename_i b' σ' p s hl
  obtain ⟨rfl, rfl, hp, hw, hN⟩ := h
  cases hp
  simp only [cast_eq] at hw hN
  refine Spec.at (hp := [pkA b' grpE s]) (args' := [.ptr 0 b' 0, .str name]) (Post' := fun h' r => ∃ ao cap, h' = [pkA b' grpE s, ⟨.sl ao cap, .vecL 3 1 encI1 (memG s name) 0⟩] ∧ r = .vec 1 ao (memG s name).length cap) [l] (by simp [distinct]) (by simp [pickE, hl, pkA]) ?_ rfl ?_
  · refine Spec.up ?_
    cases hx : mget s.gs (.s name) with
    | none =>
      have e : memG s name = [] := by simp only [memG, hx]
      rw [e]
      refine Spec.pre (hs' := [⟨.blk b', .cells [.map 1 s.bg, .map 2 s.bo, .vec 3 s.ao s.notes.length s.cap] 104⟩, ⟨.blk s.bg, .map1 none encG s.gs (.s name) none⟩, ⟨.blk s.bo, .mapL (some .i64) encO s.of⟩, ⟨.sl s.ao s.cap, .vecL 9 1 encS s.notes ByteArray.empty⟩, pk 0 (s.gs.map setE)]) (fun W F w hr => Rep.know1 (l := 1) (.s name) none rfl rfl (by rw [hx]; rfl) hr.unpkA1) rfl ?_
      refine Spec.of_G 12 Tryz.func18 (c := bodyOf Tryz.f18) (by kernel_rfl) (by kernel_rfl) (Nat.le_of_ble_eq_true rfl) fun W F => ?_
      refine G_run (kc := true) (ss := []) gaT_ok hmA 600 ?_
      rw [gMb_none]
      have fin : ∀ (ao : Option Addr) (cap b1 : Nat), up (fun h' r => ∃ ao cap, h' = [pkA b' grpE s, ⟨.sl ao cap, .vecL 3 1 encI1 [] 0⟩] ∧ r = .vec 1 ao ([] : List Int).length cap) [⟨.blk b', .cells [.map 1 s.bg, .map 2 s.bo, .vec 3 s.ao s.notes.length s.cap] 104⟩, ⟨.blk s.bg, .map1 none encG s.gs (.s name) none⟩, ⟨.blk s.bo, .mapL (some .i64) encO s.of⟩, ⟨.sl s.ao s.cap, .vecL 9 1 encS s.notes ByteArray.empty⟩, pk 0 (s.gs.map setE), ⟨.blk b1, .cells [.raw (.map none)] 98⟩, ⟨.sl ao cap, .vecL 3 1 encI1 [] 0⟩] (.vec 6 ao 0 cap) := fun ao cap b1 => by
        refine ⟨[pkA b' grpE s, ⟨.sl ao cap, .vecL 3 1 encI1 [] 0⟩], .vec 1 ao 0 cap, fun W F w hr => ?_, rfl, ao, cap, rfl, rfl⟩
        have h1 := Rep.forget1 (l := 1) rfl hr
        have h2 := Rep.pick (π := [0, 1, 2, 3, 4, 6]) (by decide) rfl h1
        exact Rep.pkA (S := grpE) (s := s) (t := [_]) h2
      repeat' first
        | exact rfl
        | exact HEq.rfl
        | exact fin _ _ _
        | apply And.intro
        | (refine fun _ => ?_)
        | fail
    | some v =>
      obtain ⟨nb, ms⟩ := v
      have hwf := hw _ hx
      have e : memG s name = sortI ms := by simp only [memG, hx]
      rw [e]
      obtain ⟨x, y, hs, _, _⟩ := gs_split hx
      refine Spec.pre (hs' := [⟨.blk b', .cells [.map 1 s.bg, .map 2 s.bo, .vec 3 s.ao s.notes.length s.cap] 104⟩, ⟨.blk s.bg, .map1 none encG s.gs (.s name) (some (.map 4 nb))⟩, ⟨.blk s.bo, .mapL (some .i64) encO s.of⟩, ⟨.sl s.ao s.cap, .vecL 9 1 encS s.notes ByteArray.empty⟩, ⟨.blk nb, .mapL (some .i64) encU ms⟩, pk 0 (x.map setE ++ y.map setE)]) (fun W F w hr => Rep.know1 (l := 1) (.s name) (some (.map 4 nb)) rfl rfl (by rw [hx]; rfl) (grp_open hs hr.unpkA1)) rfl ?_
      refine Spec.of_G 12 Tryz.func18 (c := bodyOf Tryz.f18) (by kernel_rfl) (by kernel_rfl) (Nat.le_of_ble_eq_true rfl) fun W F => ?_
      refine G_run (kc := true) (ss := []) gaT_ok hmA 600 ?_
      rw [gMb_some]
      have fin : ∀ (ao : Option Addr) (cap b1 : Nat), up (fun h' r => ∃ ao cap, h' = [pkA b' grpE s, ⟨.sl ao cap, .vecL 3 1 encI1 (sortI ms) 0⟩] ∧ r = .vec 1 ao (sortI ms).length cap) [⟨.blk b', .cells [.map 1 s.bg, .map 2 s.bo, .vec 3 s.ao s.notes.length s.cap] 104⟩, ⟨.blk s.bg, .map1 none encG s.gs (.s name) (some (.map 4 nb))⟩, ⟨.blk s.bo, .mapL (some .i64) encO s.of⟩, ⟨.sl s.ao s.cap, .vecL 9 1 encS s.notes ByteArray.empty⟩, ⟨.blk nb, .mapL (some .i64) encU ms⟩, pk 0 (x.map setE ++ y.map setE), ⟨.blk b1, .cells [.map 4 nb] 98⟩, ⟨.sl ao cap, .vecL 3 1 encI1 (sortI ms) 0⟩] (.vec 7 ao (sortI ms).length cap) := fun ao cap b1 => by
        refine ⟨[pkA b' grpE s, ⟨.sl ao cap, .vecL 3 1 encI1 (sortI ms) 0⟩], .vec 1 ao (sortI ms).length cap, fun W F w hr => ?_, rfl, ao, cap, rfl, rfl⟩
        have h1 := Rep.forget1 (l := 1) rfl hr
        have h2 := Rep.intoP (p := [⟨.blk b', .cells [.map 1 s.bg, .map 2 s.bo, .vec 3 s.ao s.notes.length s.cap] 104⟩, ⟨.blk s.bg, .mapL none encG s.gs⟩, ⟨.blk s.bo, .mapL (some .i64) encO s.of⟩, ⟨.sl s.ao s.cap, .vecL 9 1 encS s.notes ByteArray.empty⟩]) (t := [_, _]) (e := setE (.s name, (nb, ms))) h1
        have h3 := Rep.pick (π := [0, 1, 2, 3, 4, 6]) (by decide) rfl h2
        have e : x.map setE ++ setE (.s name, (nb, ms)) :: y.map setE = s.gs.map setE := by rw [hs]; simp
        rw [e] at h3
        exact Rep.pkA (S := grpE) (s := s) (t := [_]) h3
      repeat' first
        | exact rfl
        | exact HEq.rfl
        | exact hwf
        | exact fin _ _ _
        | apply And.intro
        | (refine fun _ => ?_)
        | fail
  · rintro h' r ⟨ao, cap, rfl, rfl⟩
    refine ⟨Nat.le_of_ble_eq_true rfl, .vec (lenN hs) ao (memG s name).length cap, rfl, ?_⟩
    have := hN ao cap
    have e0 : setN hs l (pkA b' grpE s) = hs := setN_selfA hl
    simpa [putBack, appE_eq, snoc_eq, e0] using this
theorem gNm_ok : CtrOk Tryz.prog 96 namesC := by
  intro args hs N h
  unfold namesC at h
  split at h
  case h_2 => exact h.elim
  rename_i l b
  split at h
  case h_2 => exact h.elim
  rename_i b' σ' p s hl
  obtain ⟨rfl, rfl, hp, hw, hN⟩ := h
  cases hp
  simp only [cast_eq] at hw hN
  refine Spec.at (hp := [pkA b' grpE s]) (args' := [.ptr 0 b' 0]) (Post' := fun h' r => ∃ ao cap bx, h' = [pkA b' grpE s, ⟨.sl ao cap, .vecL 9 1 encS (sortS s.gs) ByteArray.empty⟩, ⟨.blk bx, .cells [.vec (lenN hs) ao (sortS s.gs).length cap] 102⟩] ∧ r = .func (.func 119) [] [.ptr 2 bx 0]) [l] (by simp [distinct]) (by simp [pickE, hl, pkA]) ?_ rfl ?_
  · refine Spec.up ?_
    refine Spec.pre (hs' := [⟨.blk b', .cells [.map 1 s.bg, .map 2 s.bo, .vec 3 s.ao s.notes.length s.cap] 104⟩, ⟨.blk s.bg, .mapL none encG s.gs⟩, ⟨.blk s.bo, .mapL (some .i64) encO s.of⟩, ⟨.sl s.ao s.cap, .vecL 9 1 encS s.notes ByteArray.empty⟩, pk 0 (s.gs.map setE)]) (args' := [.ptr 0 b' 0]) (fun W F w hr => hr.unpkA1) rfl ?_
    refine Spec.of_G 10 Tryz.func96 (c := bodyOf Tryz.f96) (by kernel_rfl) (by kernel_rfl) (Nat.le_of_ble_eq_true rfl) fun W F => ?_
    refine G_run (kc := true) (ss := []) gnT_ok hmA 600 ?_
    rw [gNm_run]
    have fin : ∀ (ao : Option Addr) (cap b1 bx : Nat), up (fun h' r => ∃ ao cap bx, h' = [pkA b' grpE s, ⟨.sl ao cap, .vecL 9 1 encS (sortS s.gs) ByteArray.empty⟩, ⟨.blk bx, .cells [.vec (lenN hs) ao (sortS s.gs).length cap] 102⟩] ∧ r = .func (.func 119) [] [.ptr 2 bx 0]) [⟨.blk b', .cells [.map 1 s.bg, .map 2 s.bo, .vec 3 s.ao s.notes.length s.cap] 104⟩, ⟨.blk s.bg, .mapL none encG s.gs⟩, ⟨.blk s.bo, .mapL (some .i64) encO s.of⟩, ⟨.sl s.ao s.cap, .vecL 9 1 encS s.notes ByteArray.empty⟩, pk 0 (s.gs.map setE), ⟨.blk b1, .cells [.map 1 s.bg] 100⟩, ⟨.sl ao cap, .vecL 9 1 encS1 (sortS s.gs) ByteArray.empty⟩, ⟨.blk bx, .cells [.vec 6 ao (sortS s.gs).length cap] 102⟩] (.func (.func 119) [] [.ptr 7 bx 0]) := fun ao cap b1 bx => by
      refine ⟨[pkA b' grpE s, ⟨.sl ao cap, .vecL 9 1 encS (sortS s.gs) ByteArray.empty⟩, ⟨.blk bx, .cells [.vec (lenN hs) ao (sortS s.gs).length cap] 102⟩], .func (.func 119) [] [.ptr 2 bx 0], fun W F w hr => ?_, rfl, ao, cap, bx, rfl, rfl⟩
      have h2 := Rep.pick (π := [0, 1, 2, 3, 4, 6, 7]) (by decide) rfl hr
      have h3 := Rep.cellsEq (l := 6) (cs' := [.vec (lenN hs) ao (sortS s.gs).length cap]) rfl (by rfl) h2
      exact Rep.pkA (S := grpE) (s := s) (t := [_, _]) h3
    repeat' first
      | exact rfl
      | exact HEq.rfl
      | exact hw
      | exact fin _ _ _ _
      | apply And.intro
      | (refine fun _ => ?_)
      | fail
  · rintro h' r ⟨ao, cap, bx, rfl, rfl⟩
    refine ⟨by simp [lenN], .func (.func 119) [] [.ptr (lenN hs + 1) bx 0], rfl, ?_⟩
    have e0 : setN hs l (pkA b' grpE s) = hs := setN_selfA hl
    have := hN ao cap bx
    simpa [putBack, appE_eq, snoc_eq, e0] using this

def OneG (fv : Value) (s : Grp) (b : Nat) (ns : List ByteArray) (R : Nat → List Ent) (Stop : List Ent → Prop) : Prop := ∀ i x, ns[i]? = some x → ∀ (ao : Option Addr) (cap : Nat),
  VSpec Tryz.prog fv [pkA b grpE s, pk 0 (R i), ⟨.sl ao cap, .vecL 3 1 encI1 (memG s x) 0⟩] [.str x, .vec 2 ao (memG s x).length cap] fun h r =>
    (h = [pkA b grpE s, pk 0 (R (i + 1)), ⟨.sl ao cap, .vecL 3 1 encI1 (memG s x) 0⟩] ∧ r = .bool true) ∨ ∃ R', Stop R' ∧ h = [pkA b grpE s, pk 0 R', ⟨.sl ao cap, .vecL 3 1 encI1 (memG s x) 0⟩] ∧ r = .bool false
theorem allGY_ok {fv : Value} {s : Grp} {b : Nat} {ns : List ByteArray} {R : Nat → List Ent} {Stop : List Ent → Prop} (hV : OneG fv s b ns R Stop) : YOk Tryz.prog (allGY fv s b ns R Stop) := by
  rintro v args hs N ⟨rfl, h⟩
  split at h
  case h_2 => exact h.elim
  rename_i e0 e1 e2 e3 e4 e5 e6 rest
  obtain ⟨i, x, ao, cap, hx, rfl, rfl, rfl, rfl, hN1, hN2⟩ := h
  refine VSpec.at [0, 3, 6] rfl rfl (VSpec.conv (fun W F w hr => hr) (args' := [.str x, .vec 2 ao (memG s x).length cap]) rfl (hV i x hx ao cap) fun h' r hq => ⟨h', r, fun W F w hr => hr, rfl, hq⟩) fun h' r hp => ?_
  rcases hp with ⟨rfl, rfl⟩ | ⟨R', hs, rfl, rfl⟩
  · exact ⟨Nat.le_refl _, by simpa [putBack, setN, appE_eq] using hN1⟩
  · exact ⟨Nat.le_refl _, by simpa [putBack, setN, appE_eq] using hN2 R' hs⟩
def agR (s : Grp) (b bx by_ : Nat) (fv : Value) (D l : Nat) (rc : Loop) (R : Nat → List Ent) (i : Nat) : List Ent := [pkA b grpE s, ⟨.blk bx, .cells [.ptr 0 b 0] 28⟩, ⟨.blk by_, .cells [.raw fv] 171⟩, pk 0 (R i), dent D true, lp l rc .ready none]
section
variable {s : Grp} {b bx by_ D l : Nat} {fv : Value} {rc : Loop} {R : Nat → List Ent} {Stop : List Ent → Prop} {T : List SV}
theorem al9_V (hm : ∀ n, memGOk s n) (hV : OneG fv s b (sortS s.gs) R Stop) (hrt : rc.tmps = (denL T).toArray) (hrp : rc.params = rfP (codeAt (bodyOf Tryz.f95) [1, 1, 0])) (hra : rc.assign = rfA (codeAt (bodyOf Tryz.f95) [1, 1, 0])) (hrb : rc.body = rfB (codeAt (bodyOf Tryz.f95) [1, 1, 0]))
    (hl : ∀ v, lenN (setMany T [6] [v]) = 14 ∧ liveOk (setMany T [6] [v]) [(1, .ptr 1 bx 0), (2, .ptr 2 by_ 0), (6, v)]) :
    OneS (.func (.yield l) #[] #[]) (sortS s.gs) (agR s b bx by_ fv D l rc R) (fun R' => ∃ R'', Stop R'' ∧ R' = [pkA b grpE s, ⟨.blk bx, .cells [.ptr 0 b 0] 28⟩, ⟨.blk by_, .cells [.raw fv] 171⟩, pk 0 (R''), dent D true, lp l rc .done (some .ret)]) := by
  intro i x hxi
  refine VSpec.conv (hs' := agR s b bx by_ fv D l rc R i) (args' := [.str x]) (Post' := fun h r => (h = agR s b bx by_ fv D l rc R (i + 1) ∧ r = .bool true) ∨ ∃ R'', Stop R'' ∧ h = [pkA b grpE s, ⟨.blk bx, .cells [.ptr 0 b 0] 28⟩, ⟨.blk by_, .cells [.raw fv] 171⟩, pk 0 (R''), dent D true, lp l rc .done (some .ret)] ∧ r = .bool false) (fun W F w hr => by have := Rep.unpk hr; simpa using this) rfl (.inr ⟨l, rfl, ?_⟩) ?_
  · unfold agR
    refine YSpec.up (YSpec.of_GR (p := 5) (T0 := T) (ps := [6]) rfl hrt hrp hra hrb rfl rfl fun W F => ?_)
    refine GR_live 14 [(1, .ptr 1 bx 0), (2, .ptr 2 by_ 0), (6, .str x)] [pkA b grpE s, ⟨.blk bx, .cells [.ptr 0 b 0] 28⟩, ⟨.blk by_, .cells [.raw fv] 171⟩, pk 0 (R i), dent D true, lp l rc .ready none] (hl _).1 (hl _).2 (fun _ h => h) fun u => ?_
    refine runR_sound (kc := true) (ss := []) (Cs := []) (Y := noY) (K := fun _ _ => False) (fun _ _ h => h.elim) trivial (noY_ok _) hmA Ends.assign 60 _ _ ?_
    rw [al9_asg]
    refine ⟨rfl, ?_⟩
    refine GR_live 14 [(1, .ptr 1 bx 0), (2, .ptr 2 by_ 0), (3, .str x)] [pkA b grpE s, ⟨.blk bx, .cells [.ptr 0 b 0] 28⟩, ⟨.blk by_, .cells [.raw fv] 171⟩, pk 0 (R i), dent D true, lp l rc .busy none] rfl ⟨rfl, rfl, rfl, trivial⟩ (fun w hr => hr) fun u => ?_
    refine runR_sound (kc := true) (ss := []) (Cs := [(18, membersNC)]) (Y := allGY fv s b (sortS s.gs) R Stop) (K := fun _ _ => False) (fun _ _ h => h.elim) ⟨gMb_ok, trivial⟩ (allGY_ok hV) hmA (Ends.round (p := 5) (rc := rc) (j := none)) 600 _ _ ?_
    rw [al9_body]
    have c1 : ∀ (tm : List SV) (ao : Option Addr) (cap : Nat), roundE l 5 rc none (up fun h r => (h = [pkA b grpE s, ⟨.blk bx, .cells [.ptr 0 b 0] 28⟩, ⟨.blk by_, .cells [.raw fv] 171⟩, pk 0 (R (i + 1)), dent D true, lp l rc .ready none] ∧ r = .bool true) ∨ ∃ R'', Stop R'' ∧ h = [pkA b grpE s, ⟨.blk bx, .cells [.ptr 0 b 0] 28⟩, ⟨.blk by_, .cells [.raw fv] 171⟩, pk 0 (R''), dent D true, lp l rc .done (some .ret)] ∧ r = .bool false) ⟨tm, [pkA b grpE s, ⟨.blk bx, .cells [.ptr 0 b 0] 28⟩, ⟨.blk by_, .cells [.raw fv] 171⟩, pk 0 (R (i + 1)), dent D true, lp l rc .busy none, ⟨.sl ao cap, .vecL 3 1 encI1 (memG s x) 0⟩]⟩ := fun tm ao cap =>
      ⟨rfl, [pkA b grpE s, ⟨.blk bx, .cells [.ptr 0 b 0] 28⟩, ⟨.blk by_, .cells [.raw fv] 171⟩, pk 0 (R (i + 1)), dent D true, lp l rc .ready none], .bool true, fun W F w hr => Rep.dropR (h := [pkA b grpE s, ⟨.blk bx, .cells [.ptr 0 b 0] 28⟩, ⟨.blk by_, .cells [.raw fv] 171⟩, pk 0 (R (i + 1)), dent D true, lp l rc .ready none]) (t := [_]) hr, rfl, .inl ⟨rfl, rfl⟩⟩
    have c2 : ∀ (tm : List SV) (ao : Option Addr) (cap : Nat) (R' : List Ent), Stop R' → roundX l 5 rc none (up fun h r => (h = [pkA b grpE s, ⟨.blk bx, .cells [.ptr 0 b 0] 28⟩, ⟨.blk by_, .cells [.raw fv] 171⟩, pk 0 (R (i + 1)), dent D true, lp l rc .ready none] ∧ r = .bool true) ∨ ∃ R'', Stop R'' ∧ h = [pkA b grpE s, ⟨.blk bx, .cells [.ptr 0 b 0] 28⟩, ⟨.blk by_, .cells [.raw fv] 171⟩, pk 0 (R''), dent D true, lp l rc .done (some .ret)] ∧ r = .bool false) .ret ⟨tm, [pkA b grpE s, ⟨.blk bx, .cells [.ptr 0 b 0] 28⟩, ⟨.blk by_, .cells [.raw fv] 171⟩, pk 0 (R'), dent D true, lp l rc .busy none, ⟨.sl ao cap, .vecL 3 1 encI1 (memG s x) 0⟩]⟩ := fun tm ao cap R' hs =>
      ⟨rfl, [pkA b grpE s, ⟨.blk bx, .cells [.ptr 0 b 0] 28⟩, ⟨.blk by_, .cells [.raw fv] 171⟩, pk 0 (R'), dent D true, lp l rc .done (some .ret)], .bool false, fun W F w hr => Rep.dropR (h := [pkA b grpE s, ⟨.blk bx, .cells [.ptr 0 b 0] 28⟩, ⟨.blk by_, .cells [.raw fv] 171⟩, pk 0 (R'), dent D true, lp l rc .done (some .ret)]) (t := [_]) hr, rfl, .inr ⟨R', hs, rfl, rfl⟩⟩
    repeat' first
      | exact rfl
      | exact HEq.rfl
      | exact hm x
      | exact c1 _ _ _
      | exact c2 _ _ _ _ (by assumption)
      | (refine ⟨i, x, _, _, hxi, rfl, rfl, rfl, rfl, ?_, fun R' hst => ?_⟩)
      | exact trivial
      | (refine ⟨rfl, ?_⟩)
      | apply And.intro
      | (refine fun _ => ?_)
      | fail
  · rintro h' r (⟨rfl, rfl⟩ | ⟨R'', hs, rfl, rfl⟩)
    · exact ⟨[pk 0 (agR s b bx by_ fv D l rc R (i + 1))], .bool true, fun W F w hr => Rep.pk (t := []) 0 (by simpa using hr), rfl, .inl ⟨rfl, rfl⟩⟩
    · exact ⟨[pk 0 [pkA b grpE s, ⟨.blk bx, .cells [.ptr 0 b 0] 28⟩, ⟨.blk by_, .cells [.raw fv] 171⟩, pk 0 (R''), dent D true, lp l rc .done (some .ret)]], .bool false, fun W F w hr => Rep.pk (t := []) 0 (by simpa using hr), rfl, .inr ⟨_, ⟨R'', hs, rfl⟩, rfl, rfl⟩⟩
end
theorem allG_iter {fv : Value} {s : Grp} {b bx : Nat} {R : Nat → List Ent} {Stop : List Ent → Prop} (hf : ∃ fn first cap, fv = .func fn first cap) (hw : wfS s.gs) (hl6 : (sortS s.gs).length ≤ 1000000) (hm : ∀ n, memGOk s n) (hV : OneG fv s b (sortS s.gs) R Stop) :
    Spec Tryz.prog 95 [pkA b grpE s, ⟨.blk bx, .cells [.ptr 0 b 0] 28⟩, pk 0 (R 0)] [.raw fv, .ptr 1 bx 0] fun h' r => r = .tuple [] ∧ (h' = [pkA b grpE s, ⟨.blk bx, .cells [.ptr 0 b 0] 28⟩, pk 0 (R (sortS s.gs).length)] ∨ ∃ R', Stop R' ∧ h' = [pkA b grpE s, ⟨.blk bx, .cells [.ptr 0 b 0] 28⟩, pk 0 R']) := by
  refine Spec.up ?_
  refine Spec.of_GR 14 Tryz.func95 (c := bodyOf Tryz.f95) (by kernel_rfl) (by kernel_rfl) (Nat.le_of_ble_eq_true rfl) fun W F => ?_
  refine runR_sound (kc := true) (ss := []) (Cs := [(96, namesC)]) (fun _ _ h => h) ⟨gNm_ok, trivial⟩ (noY_ok _) hmA Ends.fn 300 _ _ ?_
  rw [al9_start]
  obtain ⟨ff, f1, f2, rfl⟩ := hf
  refine ⟨rfl, fun by_ => ⟨rfl, rfl, rfl, rfl, HEq.rfl, hw, fun aw cw bv => ?_⟩⟩
  generalize Value.func ff f1 f2 = fv at hV ⊢
  refine GR_rangeAt [] (bodyOf Tryz.f95) [1, 1, 0] (f := 119) (first := []) (captured := [.ptr 5 bv 0]) (by kernel_rfl) (by kernel_rfl) (by kernel_rfl) fun D l rc hrt hrp hra hrb =>
    ⟨fun h _ => h = [pkA b grpE s, ⟨.blk bx, .cells [.ptr 0 b 0] 28⟩, ⟨.blk by_, .cells [.raw fv] 171⟩, pk 0 (R (sortS s.gs).length), dent D true, lp l rc .ready none, ⟨.blk bv, .cells [.vec 1 aw (sortS s.gs).length cw] 102⟩, ⟨.sl aw cw, .vecL 9 1 encS (sortS s.gs) ByteArray.empty⟩] ∨ ∃ R'', Stop R'' ∧ h = [pkA b grpE s, ⟨.blk bx, .cells [.ptr 0 b 0] 28⟩, ⟨.blk by_, .cells [.raw fv] 171⟩, pk 0 (R''), dent D true, lp l rc .done (some .ret), ⟨.blk bv, .cells [.vec 1 aw (sortS s.gs).length cw] 102⟩, ⟨.sl aw cw, .vecL 9 1 encS (sortS s.gs) ByteArray.empty⟩], ?_, ?_⟩
  · intro W F w hr
    have hV1 := al9_V (T := _) (l := l) (D := D) (bx := bx) (by_ := by_) hm hV hrt hrp hra hrb fun v => ⟨rfl, rfl, rfl, rfl, trivial⟩
    have h1 : Rep W F [⟨.blk bv, .cells [.vec 1 aw (sortS s.gs).length cw] 102⟩, ⟨.sl aw cw, .vecL 9 1 encS (sortS s.gs) ByteArray.empty⟩, pk 0 (agR s b bx by_ fv D l rc R 0)] w := by
      refine Rep.pkAt 0 (p := [_, _]) (t := []) ?_
      have h2 := Rep.pick (π := [5, 4, 0, 1, 3, 2, 6, 7]) (by decide) rfl hr
      exact Rep.cellsEq (l := 0) (cs' := [.vec 1 aw (sortS s.gs).length cw]) rfl (by rfl) h2
    refine Calls.mono (valS_iter (ao := aw) (cap := cw) (bx := bv) hl6 hV1 W F w h1) ?_
    rintro e w' ⟨h', r, ⟨rfl, hc⟩, rfl, hr'⟩
    rcases hc with rfl | ⟨R', ⟨R'', hs, rfl⟩, rfl⟩
    · have h7 := Rep.unpkAt (p := [_, _]) (t := []) hr'
      refine ⟨_, .tuple [], .inl rfl, rfl, ?_⟩
      exact Rep.pick (π := [2, 3, 4, 5, 6, 7, 0, 1]) (by decide) rfl h7
    · have h7 := Rep.unpkAt (p := [_, _]) (t := []) hr'
      refine ⟨_, .tuple [], .inr ⟨R'', hs, rfl⟩, rfl, ?_⟩
      exact Rep.pick (π := [2, 3, 4, 5, 6, 7, 0, 1]) (by decide) rfl h7
  · have e5 : (fun (rr : List Ent) (st : LoopState) (j : Option Code) => ([pkA b grpE s, ⟨.blk bx, .cells [.ptr 0 b 0] 28⟩, ⟨.blk by_, .cells [.raw fv] 171⟩, pk 0 rr, dent D true, lp l rc st j] : List Ent)) = fun rr st j => [pkA b grpE s, ⟨.blk bx, .cells [.ptr 0 b 0] 28⟩, ⟨.blk by_, .cells [.raw fv] 171⟩, pk 0 rr, dent D true, lp l rc st j] := rfl
    rintro h' v (rfl | ⟨R'', hs, rfl⟩)
    · refine ⟨5, .ready, none, by decide, rfl, ?_⟩
      dsimp only
      refine GR_live 14 [(1, .ptr 1 bx 0), (2, .ptr 2 by_ 0)] [pkA b grpE s, ⟨.blk bx, .cells [.ptr 0 b 0] 28⟩, ⟨.blk by_, .cells [.raw fv] 171⟩, pk 0 (R (sortS s.gs).length), dent D true, lp l rc .exhausted none] rfl ⟨rfl, rfl, trivial⟩ (fun w hr => Rep.dropR (t := [_, _]) hr) fun u => ?_
      refine runR_sound (Cs := []) (Y := noY) (kc := true) (ss := []) (K := fun _ _ => False) (fun _ _ h => h.elim) trivial (noY_ok _) hmA (Ends.fnM D 4) 900 _ _ ?_
      rw [al9_end]
      exact ⟨rfl, _, .tuple [], fun W F w hr => Rep.pick (π := [0, 1, 3]) (by decide) rfl hr, rfl, rfl, .inl rfl⟩
    · refine ⟨5, .done, some .ret, by decide, rfl, ?_⟩
      dsimp only
      refine GR_live 14 [(1, .ptr 1 bx 0), (2, .ptr 2 by_ 0)] [pkA b grpE s, ⟨.blk bx, .cells [.ptr 0 b 0] 28⟩, ⟨.blk by_, .cells [.raw fv] 171⟩, pk 0 (R''), dent D true, lp l rc .exhausted (some .ret)] rfl ⟨rfl, rfl, trivial⟩ (fun w hr => Rep.dropR (t := [_, _]) hr) fun u => ?_
      refine runR_sound (Cs := []) (Y := noY) (kc := true) (ss := []) (K := fun _ _ => False) (fun _ _ h => h.elim) trivial (noY_ok _) hmA (Ends.fnM D 4) 900 _ _ ?_
      rw [al9_ret]
      exact ⟨rfl, _, .tuple [], fun W F w hr => Rep.pick (π := [0, 1, 3]) (by decide) rfl hr, rfl, rfl, .inr ⟨R'', hs, rfl⟩⟩
end Go.Proofs.YtkcmgcoppecfpaaGreat

/- slices.Values: going through a row. -/
namespace Go.Proofs.YtkcmgcoppecfpaaGreat
open Go Go.RowKit

def valIY (fv : Value) (xs : List Int) (R : Nat → List Ent) (Stop : List Ent → Prop) : YCtr := fun v args hs N => v = fv ∧ match hs with
  | e0 :: e1 :: e2 :: rest => ∃ i x, xs[i]? = some x ∧ args = [.int .i64 x] ∧ e2 = pk 0 (R i) ∧ N (e0 :: e1 :: pk 0 (R (i + 1)) :: rest) (.bool true) ∧ ∀ R', Stop R' → N (e0 :: e1 :: pk 0 R' :: rest) (.bool false)
  | _ => False
end Go.Proofs.YtkcmgcoppecfpaaGreat

namespace Go.Proofs.YtkcmgcoppecfpaaGreat
open Go Go.RowKit

theorem vI_start (K : List Frm → Sy → Prop) (X : Code → Sy → Prop) (E : Sy → Prop) (xs : List Int) (bx : Nat) (ao : Option Addr) (cap : Nat) (fv : Value) (R : Nat → List Ent) (Stop : List Ent → Prop) : (runR Tryz.prog [] (valIY fv xs R Stop) true [] K X E 300 [.code (bodyOf Tryz.f87)] ⟨padTo 16 [.raw fv, .ptr 0 bx 0], [⟨.blk bx, .cells [.vec 1 ao xs.length cap] 47⟩, ⟨.sl ao cap, .vecL 3 1 encI1 xs 0⟩, pk 0 (R 0)]⟩) = (
bx = bx ∧
 K (frm [] (bodyOf Tryz.f87) [1, 0] [])
  (Sy.mk (SV.raw fv :: (SV.ptr 0 bx 0 :: (rawE (SV.vec 1 ao (List.length xs) cap :: (SV.int IntKind.i64 (↑(List.length xs) : Int) :: (SV.int IntKind.i64 (0 : Int) :: (rawE [] 8)))) 3)))
   [Ent.mk (Loc.blk bx) (SObj.cells [SV.vec 1 ao (List.length xs) cap] 47), Ent.mk (Loc.sl ao cap) (SObj.vecL 3 1 encI1 xs (0 : Int)),
    pk 0 (R 0)])) := by kernel_rfl


theorem vI_body (K : List Frm → Sy → Prop) (X : Code → Sy → Prop) (E : Sy → Prop) (J : Act → World → Prop) (xs : List Int) (bx : Nat) (ao : Option Addr) (cap : Nat) (fv : Value) (R : Nat → List Ent) (Stop : List Ent → Prop) (i : Nat) (u : Nat → Value) : (runR Tryz.prog [] (valIY fv xs R Stop) true [] K X E 900 (frm [J] (bodyOf Tryz.f87) [1, 0, 0] []) ⟨mkT u 16 0 [(0, .raw fv), (1, .ptr 0 bx 0), (5, .vec 1 ao xs.length cap), (6, .int .i64 (xs.length : Int)), (7, .int .i64 (i : Int))], [⟨.blk bx, .cells [.vec 1 ao xs.length cap] 47⟩, ⟨.sl ao cap, .vecL 3 1 encI1 xs 0⟩, pk 0 (R i)]⟩) = (
match decide ((↑i : Int) < (↑(List.length xs) : Int)) with
| true =>
 (ao = ao ∧ cap = cap ∧ List.length xs = List.length xs ∧ (0 : Int) ≤ (↑i : Int) ∧ (↑i : Int) < (↑(List.length xs) : Int)) ∧
  (Addr.blkD ao = Addr.blkD ao ∧ Addr.offD ao = Addr.offD ao ∧ 1 = 1 ∧ Int.toNat (↑i : Int) < List.length xs) ∧
   fv = fv ∧
    ∃ (i_1 : Nat),
     ∃ (x : Int),
      xs[i_1]? = some x ∧
       [SV.int IntKind.i64 (List.getD xs (Int.toNat (↑i : Int)) (0 : Int))] = [SV.int IntKind.i64 x] ∧
        pk 0 (R i) = pk 0 (R i_1) ∧
         K [Frm.loop J, Frm.blk 0]
          (Sy.mk (SV.raw fv :: (SV.ptr 0 bx 0 :: (SV.raw (u 2) :: (SV.raw (u 3) :: (SV.int IntKind.i64 (List.getD xs (Int.toNat (↑i : Int)) (0 : Int)) :: (SV.vec 1 ao (List.length xs) cap :: (SV.int IntKind.i64 (↑(List.length xs) : Int) :: (SV.int IntKind.i64 (IntKind.wrap IntKind.i64 ((↑i : Int) + (1 : Int))) :: (SV.bool true :: (SV.eptr 1 (Addr.blkD ao) (Addr.offD ao) 1 (Int.toNat (↑i : Int)) 0 :: (SV.int IntKind.i64 (List.getD xs (Int.toNat (↑i : Int)) (0 : Int)) :: (SV.raw fv :: (SV.int IntKind.i64 (List.getD xs (Int.toNat (↑i : Int)) (0 : Int)) :: (SV.bool true :: (SV.bool false :: (SV.int IntKind.i64 (IntKind.wrap IntKind.i64 ((↑i : Int) + (1 : Int))) :: []))))))))))))))))
           [Ent.mk (Loc.blk bx) (SObj.cells [SV.vec 1 ao (List.length xs) cap] 47), Ent.mk (Loc.sl ao cap) (SObj.vecL 3 1 encI1 xs (0 : Int)),
            pk 0 (R (i_1 + 1))]) ∧
          ∀ (R' : List Ent),
           Stop R' →
            X Code.ret
             (Sy.mk (SV.raw fv :: (SV.ptr 0 bx 0 :: (SV.raw (u 2) :: (SV.raw (u 3) :: (SV.int IntKind.i64 (List.getD xs (Int.toNat (↑i : Int)) (0 : Int)) :: (SV.vec 1 ao (List.length xs) cap :: (SV.int IntKind.i64 (↑(List.length xs) : Int) :: (SV.int IntKind.i64 (↑i : Int) :: (SV.bool true :: (SV.eptr 1 (Addr.blkD ao) (Addr.offD ao) 1 (Int.toNat (↑i : Int)) 0 :: (SV.int IntKind.i64 (List.getD xs (Int.toNat (↑i : Int)) (0 : Int)) :: (SV.raw fv :: (SV.int IntKind.i64 (List.getD xs (Int.toNat (↑i : Int)) (0 : Int)) :: (SV.bool false :: (SV.bool true :: (SV.raw (u 15) :: []))))))))))))))))
              [Ent.mk (Loc.blk bx) (SObj.cells [SV.vec 1 ao (List.length xs) cap] 47), Ent.mk (Loc.sl ao cap) (SObj.vecL 3 1 encI1 xs (0 : Int)),
               pk 0 R'])
| false =>
 E
  (Sy.mk (SV.raw fv :: (SV.ptr 0 bx 0 :: (rawR u 2 (SV.vec 1 ao (List.length xs) cap :: (SV.int IntKind.i64 (↑(List.length xs) : Int) :: (SV.int IntKind.i64 (↑i : Int) :: (SV.bool false :: (rawR u 9 [] 7))))) 3)))
   [Ent.mk (Loc.blk bx) (SObj.cells [SV.vec 1 ao (List.length xs) cap] 47), Ent.mk (Loc.sl ao cap) (SObj.vecL 3 1 encI1 xs (0 : Int)), pk 0 (R i)])) := by kernel_rfl
end Go.Proofs.YtkcmgcoppecfpaaGreat

/- slices.Values: going through a row. -/
namespace Go.Proofs.YtkcmgcoppecfpaaGreat
open Go Go.RowKit
theorem hmValI : Tryz.prog.follows .mixedOrders = true := by kernel_rfl

def OneI (fv : Value) (xs : List Int) (R : Nat → List Ent) (Stop : List Ent → Prop) : Prop := ∀ i x, xs[i]? = some x → VSpec Tryz.prog fv [pk 0 (R i)] [.int .i64 x] fun h r => (h = [pk 0 (R (i + 1))] ∧ r = .bool true) ∨ ∃ R', Stop R' ∧ h = [pk 0 R'] ∧ r = .bool false
theorem valIY_ok {fv : Value} {xs : List Int} {R : Nat → List Ent} {Stop : List Ent → Prop} (hV : OneI fv xs R Stop) : YOk Tryz.prog (valIY fv xs R Stop) := by
  rintro v args hs N ⟨rfl, h⟩
  split at h
  case h_2 => exact h.elim
  rename_i e0 e1 e2 rest
  obtain ⟨i, x, hx, rfl, rfl, hN1, hN2⟩ := h
  refine VSpec.at [2] rfl rfl (hV i x hx) fun h' r hp => ?_
  rcases hp with ⟨rfl, rfl⟩ | ⟨R', hs, rfl, rfl⟩
  · exact ⟨Nat.le_refl _, by simpa [putBack, setN, appE_eq] using hN1⟩
  · exact ⟨Nat.le_refl _, by simpa [putBack, setN, appE_eq] using hN2 R' hs⟩
theorem valI_iter {fv : Value} {xs : List Int} {bx : Nat} {ao : Option Addr} {cap : Nat} {R : Nat → List Ent} {Stop : List Ent → Prop} (hx : xs.length ≤ 1000000) (hV : OneI fv xs R Stop) :
    Spec Tryz.prog 87 [⟨.blk bx, .cells [.vec 1 ao xs.length cap] 47⟩, ⟨.sl ao cap, .vecL 3 1 encI1 xs 0⟩, pk 0 (R 0)] [.raw fv, .ptr 0 bx 0] fun h' r => r = .tuple [] ∧ (h' = [⟨.blk bx, .cells [.vec 1 ao xs.length cap] 47⟩, ⟨.sl ao cap, .vecL 3 1 encI1 xs 0⟩, pk 0 (R xs.length)] ∨ ∃ R', Stop R' ∧ h' = [⟨.blk bx, .cells [.vec 1 ao xs.length cap] 47⟩, ⟨.sl ao cap, .vecL 3 1 encI1 xs 0⟩, pk 0 R']) := by
  refine Spec.up ?_
  refine Spec.of_GR 16 Tryz.func87 (c := bodyOf Tryz.f87) (by kernel_rfl) (by kernel_rfl) (Nat.le_of_ble_eq_true rfl) fun W F => ?_
  refine runR_sound (kc := true) (ss := []) (Cs := []) (fun _ _ h => h) trivial (valIY_ok hV) hmValI Ends.fn 300 _ _ ?_
  rw [vI_start]
  try refine ⟨rfl, ?_⟩
  refine GR_loopAt (ι := Nat) [] (bodyOf Tryz.f87) [1, 0] 16 (fun i => [(0, .raw fv), (1, .ptr 0 bx 0), (5, .vec 1 ao xs.length cap), (6, .int .i64 (xs.length : Int)), (7, .int .i64 (i : Int))]) (fun i => [⟨.blk bx, .cells [.vec 1 ao xs.length cap] 47⟩, ⟨.sl ao cap, .vecL 3 1 encI1 xs 0⟩, pk 0 (R i)]) (fun i => i ≤ xs.length) (fun i => xs.length - i) 0 (by kernel_rfl) (fun J => by kernel_rfl) (Nat.zero_le _) rfl ⟨rfl, rfl, rfl, rfl, rfl, trivial⟩ (fun w hw => hw) fun i hi u => ?_
  simp only [List.nil_append, List.cons_append]
  refine runR_sound (kc := true) (ss := []) (Cs := []) (fun _ _ h => h) trivial (valIY_ok hV) hmValI Ends.fn 900 _ _ ?_
  rw [vI_body]
  cases hlt : decide ((i : Int) < (xs.length : Int)) with
  | false =>
    simp only [decide_eq_false_iff_not] at hlt
    obtain rfl : i = xs.length := by omega
    exact ⟨_, _, fun W F w hr => hr, rfl, rfl, .inl rfl⟩
  | true =>
    simp only [decide_eq_true_eq] at hlt
    have hi' : i < xs.length := by omega
    have t2 : IntKind.wrap .i64 ((i : Int) + 1) = ((i + 1 : Nat) : Int) := IntWalk.i64_in _ (by omega)
    have hk : xs.getD i 0 = xs[i] := by simp [List.getD, hi']
    rw [Int.toNat_natCast, hk]
    refine ⟨⟨rfl, rfl, rfl, by omega, by omega⟩, ⟨rfl, rfl, rfl, hi'⟩, ?_⟩
    repeat' first
      | exact rfl
      | (refine ⟨i, xs[i], List.getElem?_eq_getElem hi', rfl, rfl, ?_, fun R' hst => ?_⟩)
      | (refine GR_back (i + 1) (by omega) (by omega) rfl ⟨rfl, rfl, rfl, rfl, congrArg (Value.int .i64) t2, trivial⟩ (fun w hr => hr))
      | exact ⟨_, _, fun W F w hr => hr, rfl, rfl, .inr ⟨R', hst, rfl⟩⟩
      | apply And.intro
      | fail
end Go.Proofs.YtkcmgcoppecfpaaGreat

