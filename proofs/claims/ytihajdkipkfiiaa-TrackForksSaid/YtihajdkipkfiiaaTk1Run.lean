import Derived.Test.YtihajdkipkfiiaaTrkC
import Derived.Test.YtihajdkipkfiiaaRaw
import Derived.Test.YtihajdkipkfiiaaTab
namespace Go.Proofs.Ytihajdkipkfiiaa
set_option linter.unusedVariables false
open Go Go.RowKit
set_option maxHeartbeats 0
set_option maxRecDepth 100000
set_option maxRecDepth 100000

theorem tNew_run (K : List Frm → Sy → Prop) (N : List Ent → SV → Prop) : (run Try.prog [] false [] K (retP Try.prog Try.f30.results.toList N) 600 [.code (bodyOf Try.f30)] ⟨padTo 5 [], []⟩) = (
∀ (b b_1 : Nat),
 (true = true ∧ true = true) ∧
  true = true ∧
   ∀ (b_2 : Nat),
    N
     [Ent.mk (Loc.blk b) (SObj.mapV (some IntKind.i64) []), Ent.mk (Loc.blk b_1) (SObj.mapV (@none IntKind) []),
      Ent.mk (Loc.blk b_2) (SObj.cells [SV.map 0 b, SV.map 1 b_1] 140)]
     (SV.ptr 2 b_2 0)) := by kernel_rfl


theorem tGone_none (K : List Frm → Sy → Prop) (N : List Ent → SV → Prop) (s : Trk) (b : Nat) (rest : List Ent) (pid : Int) : (run Try.prog [] false [] K (retP Try.prog Try.f33.results.toList N) 600 [.code (bodyOf Try.f33)] ⟨padTo 45 [.ptr 0 b 0, .int .i64 pid], [⟨.blk b, .cells [.map 1 s.bo, .map 2 s.bp] 140⟩, ⟨.blk s.bo, .map1 (some .i64) encO s.of (.i .i64 pid) none⟩, ⟨.blk s.bp, .mapL none encT s.ps⟩, pk 0 rest]⟩) = (
b = b ∧
 (s.1 = s.1 ∧ Key.i IntKind.i64 pid = Key.i IntKind.i64 pid ∧ some IntKind.i64 = some IntKind.i64) ∧
  N
   [Ent.mk (Loc.blk b) (SObj.cells [SV.map 1 s.1, SV.map 2 s.2] (140 : TypeId)), Ent.mk (Loc.blk s.1) (SObj.map1 (some IntKind.i64) encO s.3 (Key.i IntKind.i64 pid) (@none SV)),
    Ent.mk (Loc.blk s.2) (SObj.mapL (@none IntKind) encT s.4), pk 0 rest]
   (SV.tuple [SV.str (ByteArray.mk #[]), SV.int IntKind.i64 (190 : Int)])) := by kernel_rfl


theorem tGone_some (K : List Frm → Sy → Prop) (N : List Ent → SV → Prop) (s : Trk) (b nb : Nat) (n : ByteArray) (ms : List (Key × Unit)) (rest : List Ent) (pid : Int) : (run Try.prog [] false [] K (retP Try.prog Try.f33.results.toList N) 600 [.code (bodyOf Try.f33)] ⟨padTo 45 [.ptr 0 b 0, .int .i64 pid], [⟨.blk b, .cells [.map 1 s.bo, .map 2 s.bp] 140⟩, ⟨.blk s.bo, .map1 (some .i64) encO s.of (.i .i64 pid) (some (.str n))⟩, ⟨.blk s.bp, .map1 none encT s.ps (.s n) (some (.map 3 nb))⟩, ⟨.blk nb, .mapL (some .i64) encU ms⟩, pk 0 rest]⟩) = (
b = b ∧
 (s.1 = s.1 ∧ Key.i IntKind.i64 pid = Key.i IntKind.i64 pid ∧ some IntKind.i64 = some IntKind.i64) ∧
  b = b ∧
   (s.1 = s.1 ∧ some IntKind.i64 = some IntKind.i64 ∧ some IntKind.i64 = some IntKind.i64) ∧
    b = b ∧
     (s.2 = s.2 ∧ Key.s n = Key.s n ∧ @none IntKind = @none IntKind) ∧
      (nb = nb ∧ some IntKind.i64 = some IntKind.i64 ∧ some IntKind.i64 = some IntKind.i64) ∧
       b = b ∧
        (s.2 = s.2 ∧ Key.s n = Key.s n ∧ @none IntKind = @none IntKind) ∧
         nb = nb ∧
          match (↑(List.length (mdel ms (Key.i IntKind.i64 pid))) : Int) == (0 : Int) with
          | true =>
           b = b ∧
            (s.2 = s.2 ∧ @none IntKind = @none IntKind ∧ @none IntKind = @none IntKind) ∧
             N
              [Ent.mk (Loc.blk b) (SObj.cells [SV.map 1 s.1, SV.map 2 s.2] (140 : TypeId)),
               Ent.mk (Loc.blk s.1) (SObj.mapL (some IntKind.i64) encO (mdel s.3 (Key.i IntKind.i64 pid))), Ent.mk (Loc.blk s.2) (SObj.mapL (@none IntKind) encT (mdel s.4 (Key.s n))),
               Ent.mk (Loc.blk nb) (SObj.mapL (some IntKind.i64) encU (mdel ms (Key.i IntKind.i64 pid))), pk 0 rest]
              (SV.tuple [SV.str n, SV.int IntKind.i64 (0 : Int)])
          | false =>
           N
            [Ent.mk (Loc.blk b) (SObj.cells [SV.map 1 s.1, SV.map 2 s.2] (140 : TypeId)),
             Ent.mk (Loc.blk s.1) (SObj.mapL (some IntKind.i64) encO (mdel s.3 (Key.i IntKind.i64 pid))),
             Ent.mk (Loc.blk s.2) (SObj.map1 (@none IntKind) encT s.4 (Key.s n) (some (SV.map 3 nb))),
             Ent.mk (Loc.blk nb) (SObj.mapL (some IntKind.i64) encU (mdel ms (Key.i IntKind.i64 pid))), pk 0 rest]
            (SV.tuple [SV.str n, SV.int IntKind.i64 (0 : Int)])) := by kernel_rfl


theorem tPut_start (K : List Frm → Sy → Prop) (N : List Ent → SV → Prop) (s : Trk) (b : Nat) (n : ByteArray) (pid : Int) : (run Try.prog [(33, adtC trkE tgoneM)] false [1] K (retP Try.prog Try.f78.results.toList N) 600 [.code (bodyOf Try.f78)] ⟨padTo 36 [.ptr 0 b 0, .str n, .int .i64 pid], [pkA b trkE s]⟩) = (
true = true ∧
 b = b ∧
  ∃ (h : Trk = Trk),
   AdtIs (fun (s : Trk) (b : Nat) ↦ packs (trkE s b)) trkE ∧
    tOk s pid ∧
     K (frmR [] (bodyOf Try.f78) 1)
      (Sy.mk (SV.ptr 0 b 0 :: (SV.str n :: (SV.int IntKind.i64 pid :: (rawE (SV.ptr 0 b 0 :: (SV.int IntKind.i64 pid :: (SV.tuple [SV.str (tGone s pid).2.1, SV.int IntKind.i64 (tGone s pid).2.2] :: (rawE [] 27)))) 3))))
       [pkA b trkE (tGone s pid).1])) := by kernel_rfl


theorem tPut_none (K : List Frm → Sy → Prop) (N : List Ent → SV → Prop) (s : Trk) (b : Nat) (rest : List Ent) (n : ByteArray) (pid : Int) (u : Nat → Value) : (run Try.prog [] false [] K (retP Try.prog Try.f78.results.toList N) 900 (frmR [] (bodyOf Try.f78) 1) ⟨mkT u 36 0 [(0, .ptr 0 b 0), (1, .str n), (2, .int .i64 pid)], [⟨.blk b, .cells [.map 1 s.bo, .map 2 s.bp] 140⟩, ⟨.blk s.bo, .mapL (some .i64) encO s.of⟩, ⟨.blk s.bp, .map1 none encT s.ps (.s n) none⟩, pk 0 rest]⟩) = (
b = b ∧
 (s.1 = s.1 ∧ some IntKind.i64 = some IntKind.i64 ∧ some IntKind.i64 = some IntKind.i64) ∧
  ∃ (u : ByteArray),
   den (SV.str u) = den (SV.str n) ∧
    b = b ∧
     (s.2 = s.2 ∧ Key.s n = Key.s n ∧ @none IntKind = @none IntKind) ∧
      b = b ∧
       ∀ (b_1 : Nat),
        (s.2 = s.2 ∧ @none IntKind = @none IntKind ∧ @none IntKind = @none IntKind) ∧
         ∃ (u_1 : GSet),
          den (SV.map 3 u_1.1) = den (SV.map 4 b_1) ∧
           b = b ∧
            (s.2 = s.2 ∧ Key.s n = Key.s n ∧ @none IntKind = @none IntKind) ∧
             (true = true ∧ true = true) ∧
              (b_1 = b_1 ∧ some IntKind.i64 = some IntKind.i64 ∧ some IntKind.i64 = some IntKind.i64) ∧
               N
                [Ent.mk (Loc.blk b) (SObj.cells [SV.map 1 s.1, SV.map 2 s.2] (140 : TypeId)),
                 Ent.mk (Loc.blk s.1) (SObj.mapL (some IntKind.i64) encO (mset s.3 (Key.i IntKind.i64 pid) u)),
                 Ent.mk (Loc.blk s.2) (SObj.map1 (@none IntKind) encT (mset s.4 (Key.s n) u_1) (Key.s n) (some (SV.map 4 b_1))), pk 0 rest,
                 Ent.mk (Loc.blk b_1) (SObj.mapV (some IntKind.i64) [(Key.i IntKind.i64 pid, SV.agg [])])]
                (SV.tuple [])) := by kernel_rfl


theorem tPut_some (K : List Frm → Sy → Prop) (N : List Ent → SV → Prop) (s : Trk) (b nb : Nat) (n : ByteArray) (ms : List (Key × Unit)) (rest : List Ent) (pid : Int) (u : Nat → Value) : (run Try.prog [] false [] K (retP Try.prog Try.f78.results.toList N) 900 (frmR [] (bodyOf Try.f78) 1) ⟨mkT u 36 0 [(0, .ptr 0 b 0), (1, .str n), (2, .int .i64 pid)], [⟨.blk b, .cells [.map 1 s.bo, .map 2 s.bp] 140⟩, ⟨.blk s.bo, .mapL (some .i64) encO s.of⟩, ⟨.blk s.bp, .map1 none encT s.ps (.s n) (some (.map 3 nb))⟩, ⟨.blk nb, .mapL (some .i64) encU ms⟩, pk 0 rest]⟩) = (
b = b ∧
 (s.1 = s.1 ∧ some IntKind.i64 = some IntKind.i64 ∧ some IntKind.i64 = some IntKind.i64) ∧
  ∃ (u : ByteArray),
   den (SV.str u) = den (SV.str n) ∧
    b = b ∧
     (s.2 = s.2 ∧ Key.s n = Key.s n ∧ @none IntKind = @none IntKind) ∧
      b = b ∧
       (s.2 = s.2 ∧ Key.s n = Key.s n ∧ @none IntKind = @none IntKind) ∧
        (true = true ∧ true = true) ∧
         (nb = nb ∧ some IntKind.i64 = some IntKind.i64 ∧ some IntKind.i64 = some IntKind.i64) ∧
          ∃ (u_1 : Unit),
           den (SV.agg []) = den (SV.agg []) ∧
            N
             [Ent.mk (Loc.blk b) (SObj.cells [SV.map 1 s.1, SV.map 2 s.2] (140 : TypeId)),
              Ent.mk (Loc.blk s.1) (SObj.mapL (some IntKind.i64) encO (mset s.3 (Key.i IntKind.i64 pid) u)),
              Ent.mk (Loc.blk s.2) (SObj.map1 (@none IntKind) encT s.4 (Key.s n) (some (SV.map 3 nb))),
              Ent.mk (Loc.blk nb) (SObj.mapL (some IntKind.i64) encU (mset ms (Key.i IntKind.i64 pid) u_1)), pk 0 rest]
             (SV.tuple [])) := by kernel_rfl


theorem tAdd_start (K : List Frm → Sy → Prop) (N : List Ent → SV → Prop) (s : Trk) (b : Nat) (rest : List Ent) (n : ByteArray) (pid : Int) : (run Try.prog [] false [4] K (retP Try.prog Try.f31.results.toList N) 600 [.code (bodyOf Try.f31)] ⟨padTo 31 [.ptr 0 b 0, .str n, .int .i64 pid], [⟨.blk b, .cells [.map 1 s.bo, .map 2 s.bp] 140⟩, ⟨.blk s.bo, .map1 (some .i64) encO s.of (.i .i64 pid) none⟩, ⟨.blk s.bp, .mapL none encT s.ps⟩, pk 0 rest]⟩) = (
b = b ∧
 (s.1 = s.1 ∧ Key.i IntKind.i64 pid = Key.i IntKind.i64 pid ∧ some IntKind.i64 = some IntKind.i64) ∧
  match sEq n (ByteArray.mk #[]) with
  | true =>
   N
    [Ent.mk (Loc.blk b) (SObj.cells [SV.map 1 s.1, SV.map 2 s.2] (140 : TypeId)), Ent.mk (Loc.blk s.1) (SObj.map1 (some IntKind.i64) encO s.3 (Key.i IntKind.i64 pid) (@none SV)),
     Ent.mk (Loc.blk s.2) (SObj.mapL (@none IntKind) encT s.4), pk 0 rest]
    (SV.int IntKind.i64 (190 : Int))
  | false =>
   match decide (pid < (2 : Int)) with
   | true =>
    N
     [Ent.mk (Loc.blk b) (SObj.cells [SV.map 1 s.1, SV.map 2 s.2] (140 : TypeId)), Ent.mk (Loc.blk s.1) (SObj.map1 (some IntKind.i64) encO s.3 (Key.i IntKind.i64 pid) (@none SV)),
      Ent.mk (Loc.blk s.2) (SObj.mapL (@none IntKind) encT s.4), pk 0 rest]
     (SV.int IntKind.i64 (190 : Int))
   | false =>
    K (frmR [] (bodyOf Try.f31) 4)
     (Sy.mk (SV.ptr 0 b 0 :: (SV.str n :: (SV.int IntKind.i64 pid :: (rawE (SV.int IntKind.i64 (0 : Int) :: (SV.str (ByteArray.mk #[]) :: (SV.bool false :: (SV.tuple [SV.str (ByteArray.mk #[]), SV.bool false] :: (SV.ptr 0 b 0 :: (SV.ptr 0 b 0 :: (SV.ptr 0 b 0 :: (SV.map 1 s.1 :: (SV.int IntKind.i64 pid :: (SV.tuple [SV.str (ByteArray.mk #[]), SV.bool false] :: (SV.str (ByteArray.mk #[]) :: (SV.bool false :: (SV.bool false :: (SV.bool false :: (SV.str n :: (SV.bool (sEq n (ByteArray.mk #[])) :: (SV.bool (sEq n (ByteArray.mk #[])) :: (SV.bool false :: (SV.int IntKind.i64 pid :: (SV.bool (decide (pid < (2 : Int))) :: (SV.bool false :: (rawE [] 4)))))))))))))))))))))) 3))))
      [Ent.mk (Loc.blk b) (SObj.cells [SV.map 1 s.1, SV.map 2 s.2] (140 : TypeId)),
       Ent.mk (Loc.blk s.1) (SObj.map1 (some IntKind.i64) encO s.3 (Key.i IntKind.i64 pid) (@none SV)), Ent.mk (Loc.blk s.2) (SObj.mapL (@none IntKind) encT s.4), pk 0 rest])) := by kernel_rfl


theorem tAdd_there (K : List Frm → Sy → Prop) (N : List Ent → SV → Prop) (s : Trk) (b : Nat) (rest : List Ent) (n m : ByteArray) (pid : Int) : (run Try.prog [] false [] K (retP Try.prog Try.f31.results.toList N) 600 [.code (bodyOf Try.f31)] ⟨padTo 31 [.ptr 0 b 0, .str n, .int .i64 pid], [⟨.blk b, .cells [.map 1 s.bo, .map 2 s.bp] 140⟩, ⟨.blk s.bo, .map1 (some .i64) encO s.of (.i .i64 pid) (some (.str m))⟩, ⟨.blk s.bp, .mapL none encT s.ps⟩, pk 0 rest]⟩) = (
b = b ∧
 (s.1 = s.1 ∧ Key.i IntKind.i64 pid = Key.i IntKind.i64 pid ∧ some IntKind.i64 = some IntKind.i64) ∧
  N
   [Ent.mk (Loc.blk b) (SObj.cells [SV.map 1 s.1, SV.map 2 s.2] (140 : TypeId)),
    Ent.mk (Loc.blk s.1) (SObj.map1 (some IntKind.i64) encO s.3 (Key.i IntKind.i64 pid) (some (SV.str m))), Ent.mk (Loc.blk s.2) (SObj.mapL (@none IntKind) encT s.4), pk 0 rest]
   (SV.int IntKind.i64 (190 : Int))) := by kernel_rfl


theorem tAdd_end (K : List Frm → Sy → Prop) (N : List Ent → SV → Prop) (s : Trk) (b : Nat) (n : ByteArray) (pid : Int) (u : Nat → Value) : (run Try.prog [(78, adtC trkE tputM)] false [] K (retP Try.prog Try.f31.results.toList N) 900 (frmR [] (bodyOf Try.f31) 4) ⟨mkT u 31 0 [(0, .ptr 0 b 0), (1, .str n), (2, .int .i64 pid)], [pkA b trkE s]⟩) = (
true = true ∧
 b = b ∧
  ∃ (h : Trk = Trk),
   AdtIs (fun (s : Trk) (b : Nat) ↦ packs (trkE s b)) trkE ∧ mget s.3 (Key.i IntKind.i64 pid) = @none ByteArray ∧ ∀ (nb : Nat), N [pkA b trkE (tPut s n pid nb)] (SV.int IntKind.i64 (0 : Int))) := by kernel_rfl


theorem tFork_none (K : List Frm → Sy → Prop) (N : List Ent → SV → Prop) (s : Trk) (b : Nat) (rest : List Ent) (pid c : Int) : (run Try.prog [] false [] K (retP Try.prog Try.f32.results.toList N) 600 [.code (bodyOf Try.f32)] ⟨padTo 24 [.ptr 0 b 0, .int .i64 pid, .int .i64 c], [⟨.blk b, .cells [.map 1 s.bo, .map 2 s.bp] 140⟩, ⟨.blk s.bo, .map1 (some .i64) encO s.of (.i .i64 pid) none⟩, ⟨.blk s.bp, .mapL none encT s.ps⟩, pk 0 rest]⟩) = (
b = b ∧
 (s.1 = s.1 ∧ Key.i IntKind.i64 pid = Key.i IntKind.i64 pid ∧ some IntKind.i64 = some IntKind.i64) ∧
  N
   [Ent.mk (Loc.blk b) (SObj.cells [SV.map 1 s.1, SV.map 2 s.2] (140 : TypeId)), Ent.mk (Loc.blk s.1) (SObj.map1 (some IntKind.i64) encO s.3 (Key.i IntKind.i64 pid) (@none SV)),
    Ent.mk (Loc.blk s.2) (SObj.mapL (@none IntKind) encT s.4), pk 0 rest]
   (SV.int IntKind.i64 (190 : Int))) := by kernel_rfl


theorem tFork_some (K : List Frm → Sy → Prop) (N : List Ent → SV → Prop) (s : Trk) (b : Nat) (rest : List Ent) (n : ByteArray) (pid c : Int) : (run Try.prog [] false [4] K (retP Try.prog Try.f32.results.toList N) 600 [.code (bodyOf Try.f32)] ⟨padTo 24 [.ptr 0 b 0, .int .i64 pid, .int .i64 c], [⟨.blk b, .cells [.map 1 s.bo, .map 2 s.bp] 140⟩, ⟨.blk s.bo, .map1 (some .i64) encO s.of (.i .i64 pid) (some (.str n))⟩, ⟨.blk s.bp, .mapL none encT s.ps⟩, pk 0 rest]⟩) = (
b = b ∧
 (s.1 = s.1 ∧ Key.i IntKind.i64 pid = Key.i IntKind.i64 pid ∧ some IntKind.i64 = some IntKind.i64) ∧
  K (frmR [] (bodyOf Try.f32) 4)
   (Sy.mk (SV.ptr 0 b 0 :: (SV.int IntKind.i64 pid :: (SV.int IntKind.i64 c :: (rawE (SV.int IntKind.i64 (0 : Int) :: (SV.str n :: (SV.bool true :: (SV.tuple [SV.str n, SV.bool true] :: (SV.ptr 0 b 0 :: (SV.ptr 0 b 0 :: (SV.ptr 0 b 0 :: (SV.map 1 s.1 :: (SV.int IntKind.i64 pid :: (SV.tuple [SV.str n, SV.bool true] :: (SV.str n :: (SV.bool true :: (SV.bool true :: (SV.bool false :: (rawE [] 4))))))))))))))) 3))))
    [Ent.mk (Loc.blk b) (SObj.cells [SV.map 1 s.1, SV.map 2 s.2] (140 : TypeId)),
     Ent.mk (Loc.blk s.1) (SObj.map1 (some IntKind.i64) encO s.3 (Key.i IntKind.i64 pid) (some (SV.str n))), Ent.mk (Loc.blk s.2) (SObj.mapL (@none IntKind) encT s.4), pk 0 rest])) := by kernel_rfl


theorem tFork_end (K : List Frm → Sy → Prop) (N : List Ent → SV → Prop) (s : Trk) (b : Nat) (n : ByteArray) (c : Int) (u : Nat → Value) : (run Try.prog [(31, adtC trkE taddM)] false [] K (retP Try.prog Try.f32.results.toList N) 900 (frmR [] (bodyOf Try.f32) 4) ⟨mkT u 24 0 [(0, .ptr 0 b 0), (2, .int .i64 c), (7, .str n)], [pkA b trkE s]⟩) = (
true = true ∧ b = b ∧ ∃ (h : Trk = Trk), AdtIs (fun (s : Trk) (b : Nat) ↦ packs (trkE s b)) trkE ∧ ∀ (nb : Nat), N [pkA b trkE (tAdd s n c nb).1] (SV.int IntKind.i64 (tAdd s n c nb).2)) := by kernel_rfl


theorem tUnit_none (K : List Frm → Sy → Prop) (N : List Ent → SV → Prop) (s : Trk) (b : Nat) (rest : List Ent) (pid : Int) : (run Try.prog [] false [] K (retP Try.prog Try.f56.results.toList N) 600 [.code (bodyOf Try.f56)] ⟨padTo 19 [.ptr 0 b 0, .int .i64 pid], [⟨.blk b, .cells [.map 1 s.bo, .map 2 s.bp] 140⟩, ⟨.blk s.bo, .map1 (some .i64) encO s.of (.i .i64 pid) none⟩, ⟨.blk s.bp, .mapL none encT s.ps⟩, pk 0 rest]⟩) = (
b = b ∧
 (s.1 = s.1 ∧ Key.i IntKind.i64 pid = Key.i IntKind.i64 pid ∧ some IntKind.i64 = some IntKind.i64) ∧
  N
   [Ent.mk (Loc.blk b) (SObj.cells [SV.map 1 s.1, SV.map 2 s.2] (140 : TypeId)), Ent.mk (Loc.blk s.1) (SObj.map1 (some IntKind.i64) encO s.3 (Key.i IntKind.i64 pid) (@none SV)),
    Ent.mk (Loc.blk s.2) (SObj.mapL (@none IntKind) encT s.4), pk 0 rest]
   (SV.tuple [SV.str (ByteArray.mk #[]), SV.bool false])) := by kernel_rfl


theorem tUnit_some (K : List Frm → Sy → Prop) (N : List Ent → SV → Prop) (s : Trk) (b : Nat) (rest : List Ent) (n : ByteArray) (pid : Int) : (run Try.prog [] false [] K (retP Try.prog Try.f56.results.toList N) 600 [.code (bodyOf Try.f56)] ⟨padTo 19 [.ptr 0 b 0, .int .i64 pid], [⟨.blk b, .cells [.map 1 s.bo, .map 2 s.bp] 140⟩, ⟨.blk s.bo, .map1 (some .i64) encO s.of (.i .i64 pid) (some (.str n))⟩, ⟨.blk s.bp, .mapL none encT s.ps⟩, pk 0 rest]⟩) = (
b = b ∧
 (s.1 = s.1 ∧ Key.i IntKind.i64 pid = Key.i IntKind.i64 pid ∧ some IntKind.i64 = some IntKind.i64) ∧
  N
   [Ent.mk (Loc.blk b) (SObj.cells [SV.map 1 s.1, SV.map 2 s.2] (140 : TypeId)),
    Ent.mk (Loc.blk s.1) (SObj.map1 (some IntKind.i64) encO s.3 (Key.i IntKind.i64 pid) (some (SV.str n))), Ent.mk (Loc.blk s.2) (SObj.mapL (@none IntKind) encT s.4), pk 0 rest]
   (SV.tuple [SV.str n, SV.bool true])) := by kernel_rfl


theorem tPids_none (K : List Frm → Sy → Prop) (N : List Ent → SV → Prop) (s : Trk) (b : Nat) (rest : List Ent) (n : ByteArray) : (run Try.prog tkT0 true [] K (retP Try.prog Try.f34.results.toList N) 600 [.code (bodyOf Try.f34)] ⟨padTo 14 [.ptr 0 b 0, .str n], [⟨.blk b, .cells [.map 1 s.bo, .map 2 s.bp] 140⟩, ⟨.blk s.bo, .mapL (some .i64) encO s.of⟩, ⟨.blk s.bp, .map1 none encT s.ps (.s n) none⟩, pk 0 rest]⟩) = (
b = b ∧
 (s.2 = s.2 ∧ Key.s n = Key.s n ∧ @none IntKind = @none IntKind) ∧
  true = true ∧
   true = true ∧
    ∀ (b_1 : Nat),
     true = true ∧
      101 = 101 ∧
       b_1 = b_1 ∧
        ∀ (ao : Option Addr) (cap : Nat),
         true = true ∧
          true = true ∧
           ∀ (b_2 : Nat),
            N
             [Ent.mk (Loc.blk b) (SObj.cells [SV.map 1 s.1, SV.map 2 s.2] (140 : TypeId)), Ent.mk (Loc.blk s.1) (SObj.mapL (some IntKind.i64) encO s.3),
              Ent.mk (Loc.blk s.2) (SObj.map1 (@none IntKind) encT s.4 (Key.s n) (@none SV)), pk 0 rest,
              Ent.mk (Loc.blk b_1) (SObj.cells [SV.raw (Value.map (@none Nat))] 119), Ent.mk (Loc.sl ao cap) (SObj.vecL 3 1 encI1 [] (0 : Int)),
              Ent.mk (Loc.blk b_2) (SObj.cells [SV.vec 5 ao 0 cap] 32)]
             (SV.func (Fn.func 99) [] [SV.ptr 6 b_2 0])) := by kernel_rfl


theorem tPids_some (K : List Frm → Sy → Prop) (N : List Ent → SV → Prop) (s : Trk) (b nb : Nat) (n : ByteArray) (ms : List (Key × Unit)) (rest : List Ent) : (run Try.prog tkT0 true [] K (retP Try.prog Try.f34.results.toList N) 600 [.code (bodyOf Try.f34)] ⟨padTo 14 [.ptr 0 b 0, .str n], [⟨.blk b, .cells [.map 1 s.bo, .map 2 s.bp] 140⟩, ⟨.blk s.bo, .mapL (some .i64) encO s.of⟩, ⟨.blk s.bp, .map1 none encT s.ps (.s n) (some (.map 3 nb))⟩, ⟨.blk nb, .mapL (some .i64) encU ms⟩, pk 0 rest]⟩) = (
b = b ∧
 (s.2 = s.2 ∧ Key.s n = Key.s n ∧ @none IntKind = @none IntKind) ∧
  true = true ∧
   true = true ∧
    ∀ (b_1 : Nat),
     true = true ∧
      101 = 101 ∧
       (b_1 = b_1 ∧ nb = nb ∧ some IntKind.i64 = some IntKind.i64 ∧ wfI ms) ∧
        ∀ (ao : Option Addr) (cap : Nat),
         true = true ∧
          true = true ∧
           ∀ (b_2 : Nat),
            N
             [Ent.mk (Loc.blk b) (SObj.cells [SV.map 1 s.1, SV.map 2 s.2] (140 : TypeId)), Ent.mk (Loc.blk s.1) (SObj.mapL (some IntKind.i64) encO s.3),
              Ent.mk (Loc.blk s.2) (SObj.map1 (@none IntKind) encT s.4 (Key.s n) (some (SV.map 3 nb))), Ent.mk (Loc.blk nb) (SObj.mapL (some IntKind.i64) encU ms),
              pk 0 rest, Ent.mk (Loc.blk b_1) (SObj.cells [SV.map 3 nb] 119), Ent.mk (Loc.sl ao cap) (SObj.vecL 3 1 encI1 (sortI ms) (0 : Int)),
              Ent.mk (Loc.blk b_2) (SObj.cells [SV.vec 6 ao (List.length (sortI ms)) cap] 32)]
             (SV.func (Fn.func 99) [] [SV.ptr 7 b_2 0])) := by kernel_rfl
end Go.Proofs.Ytihajdkipkfiiaa
