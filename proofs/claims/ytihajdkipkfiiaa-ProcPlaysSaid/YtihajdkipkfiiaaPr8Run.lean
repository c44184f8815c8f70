import Derived.Test.YtihajdkipkfiiaaPrcD
import Derived.Test.YtihajdkipkfiiaaTab
namespace Go.Proofs.Ytihajdkipkfiiaa
set_option linter.unusedVariables false
open Go Go.RowKit
set_option maxHeartbeats 0
set_option maxRecDepth 100000
set_option maxRecDepth 100000

theorem rp_asg (K : List Frm → Sy → Prop) (X : Code → Sy → Prop) (E : Sy → Prop) (s : PT) (b b1 b2 b3 b4 D l : Nat) (rc : Loop) (parent : Int) (r : PR) (u : Nat → Value) : (runR Try.prog [] (noY) true [] K X E 60 ([.code (rfA (codeAt (bodyOf Try.f25) [1, 0, 1, 0]))]) ⟨mkT u 26 0 [(2, .ptr 1 b1 0), (3, .ptr 2 b2 0), (4, .ptr 3 b3 0), (5, .ptr 4 b4 0), (9, .agg (encP6 r))], [pkA b ptE s, ⟨.blk b1, .cells [.ptr 0 b 0] 38⟩, ⟨.blk b2, .cells [.int .i64 parent] 3⟩, ⟨.blk b3, .cells (encP6 PR.zero) 45⟩, ⟨.blk b4, .cells [.int .i64 0] 27⟩, dent D true, lp l rc .ready none]⟩) = (
∀ (b_1 : Nat),
 (b_1 = b_1 ∧ true = true ∧ 6 = 6 ∧ 6 ≤ 6) ∧
  E
   (Sy.mk
    [SV.raw (u 0), SV.raw (u 1), SV.ptr 1 b1 0, SV.ptr 2 b2 0, SV.ptr 3 b3 0, SV.ptr 4 b4 0,
     SV.ptr 7 b_1 0, SV.raw (u 7), SV.raw (u 8),
     SV.agg [SV.int IntKind.i64 r.1, SV.int IntKind.i64 r.2, SV.str r.3, SV.bool r.4, SV.int IntKind.i64 r.5, SV.str r.6], SV.raw (u 10), SV.raw (u 11), SV.raw (u 12),
     SV.raw (u 13), SV.raw (u 14), SV.raw (u 15), SV.raw (u 16), SV.raw (u 17), SV.raw (u 18), SV.raw (u 19), SV.raw (u 20),
     SV.raw (u 21), SV.raw (u 22), SV.raw (u 23), SV.raw (u 24), SV.raw (u 25)]
    [pkA b ptE s, Ent.mk (Loc.blk b1) (SObj.cells [SV.ptr 0 b 0] (38 : TypeId)), Ent.mk (Loc.blk b2) (SObj.cells [SV.int IntKind.i64 parent] (3 : TypeId)),
     Ent.mk (Loc.blk b3)
      (SObj.cells
       [SV.int IntKind.i64 (0 : Int), SV.int IntKind.i64 (0 : Int), SV.str (PR.mk (0 : Int) (0 : Int) (ByteArray.mk #[]) false (0 : Int) (ByteArray.mk #[]) false false).group, SV.bool false,
        SV.int IntKind.i64 (0 : Int), SV.str (PR.mk (0 : Int) (0 : Int) (ByteArray.mk #[]) false (0 : Int) (ByteArray.mk #[]) false false).cmd]
       (45 : TypeId)),
     Ent.mk (Loc.blk b4) (SObj.cells [SV.int IntKind.i64 (0 : Int)] (27 : TypeId)), dent D true, lp l rc LoopState.ready (@none Code),
     Ent.mk (Loc.blk b_1) (SObj.cells [SV.int IntKind.i64 r.1, SV.int IntKind.i64 r.2, SV.str r.3, SV.bool r.4, SV.int IntKind.i64 r.5, SV.str r.6] 45)])) := by kernel_rfl


theorem rp_body (K : List Frm → Sy → Prop) (X : Code → Sy → Prop) (E : Sy → Prop) (s : PT) (b b1 b2 b3 b4 D l : Nat) (rc : Loop) (parent : Int) (r : PR) (b6 : Nat) (rest : List Ent) (u : Nat → Value) : (runR Try.prog [] (noY) true [] K X E 600 ([.code (rfB (codeAt (bodyOf Try.f25) [1, 0, 1, 0]))]) ⟨mkT u 26 0 [(2, .ptr 1 b1 0), (3, .ptr 2 b2 0), (4, .ptr 3 b3 0), (5, .ptr 4 b4 0), (6, .ptr 7 b6 0)], [⟨.blk b, .cells [.map 8 s.bm, .int .i64 s.room, .int .i64 s.last] 130⟩, ⟨.blk b1, .cells [.ptr 0 b 0] 38⟩, ⟨.blk b2, .cells [.int .i64 parent] 3⟩, ⟨.blk b3, .cells (encP6 PR.zero) 45⟩, ⟨.blk b4, .cells [.int .i64 0] 27⟩, dent D true, lp l rc .busy none, ⟨.blk b6, .cells (encP6 r) 45⟩, ⟨.blk s.bm, .mapL (some .i64) encB1 (s.ps.map pkey)⟩, pk 0 rest]⟩) = (
b6 = b6 ∧
 match r.4 with
 | true =>
  b6 = b6 ∧
   b2 = b2 ∧
    match r.2 == parent with
    | true =>
     b6 = b6 ∧
      b1 = b1 ∧
       b = b ∧
        (s.1 = s.1 ∧ some IntKind.i64 = some IntKind.i64 ∧ some IntKind.i64 = some IntKind.i64) ∧
         (b6 = b6 ∧ 6 = 6) ∧
          (b3 = b3 ∧ true = true ∧ 6 = 6 ∧ 6 ≤ 6) ∧
           (b4 = b4 ∧ true = true ∧ 1 = 1 ∧ 1 ≤ 1) ∧
            X Code.ret
             (Sy.mk
              [SV.raw (u 0), SV.raw (u 1), SV.ptr 1 b1 0, SV.ptr 2 b2 0, SV.ptr 3 b3 0, SV.ptr 4 b4 0,
               SV.ptr 7 b6 0, SV.raw (u 7), SV.raw (u 8), SV.raw (u 9), SV.ptr 7 b6 3, SV.bool r.4, SV.bool true,
               SV.ptr 7 b6 1, SV.int IntKind.i64 r.2, SV.int IntKind.i64 parent, SV.bool (r.2 == parent), SV.bool true, SV.ptr 0 b 0,
               SV.ptr 0 b 0, SV.ptr 0 b 0, SV.map 8 s.1, SV.ptr 7 b6 0, SV.int IntKind.i64 r.1,
               SV.agg [SV.int IntKind.i64 r.1, SV.int IntKind.i64 r.2, SV.str r.3, SV.bool r.4, SV.int IntKind.i64 r.5, SV.str r.6], SV.raw (u 25)]
              [Ent.mk (Loc.blk b) (SObj.cells [SV.map 8 s.1, SV.int IntKind.i64 s.3, SV.int IntKind.i64 s.4] (130 : TypeId)),
               Ent.mk (Loc.blk b1) (SObj.cells [SV.ptr 0 b 0] (38 : TypeId)), Ent.mk (Loc.blk b2) (SObj.cells [SV.int IntKind.i64 parent] (3 : TypeId)),
               Ent.mk (Loc.blk b3) (SObj.cells [SV.int IntKind.i64 r.1, SV.int IntKind.i64 r.2, SV.str r.3, SV.bool r.4, SV.int IntKind.i64 r.5, SV.str r.6] (45 : TypeId)),
               Ent.mk (Loc.blk b4) (SObj.cells [SV.int IntKind.i64 (0 : Int)] (27 : TypeId)), dent D true, lp l rc LoopState.busy (@none Code),
               Ent.mk (Loc.blk b6) (SObj.cells [SV.int IntKind.i64 r.1, SV.int IntKind.i64 r.2, SV.str r.3, SV.bool r.4, SV.int IntKind.i64 r.5, SV.str r.6] (45 : TypeId)),
               Ent.mk (Loc.blk s.1) (SObj.mapL (some IntKind.i64) encB1 (mdel (List.map pkey s.2) (Key.i IntKind.i64 r.1))), pk 0 rest])
    | false =>
     E
      (Sy.mk
       [SV.raw (u 0), SV.raw (u 1), SV.ptr 1 b1 0, SV.ptr 2 b2 0, SV.ptr 3 b3 0, SV.ptr 4 b4 0,
        SV.ptr 7 b6 0, SV.raw (u 7), SV.raw (u 8), SV.raw (u 9), SV.ptr 7 b6 3, SV.bool r.4, SV.bool true,
        SV.ptr 7 b6 1, SV.int IntKind.i64 r.2, SV.int IntKind.i64 parent, SV.bool (r.2 == parent), SV.bool false, SV.raw (u 18), SV.raw (u 19),
        SV.raw (u 20), SV.raw (u 21), SV.raw (u 22), SV.raw (u 23), SV.raw (u 24), SV.raw (u 25)]
       [Ent.mk (Loc.blk b) (SObj.cells [SV.map 8 s.1, SV.int IntKind.i64 s.3, SV.int IntKind.i64 s.4] (130 : TypeId)),
        Ent.mk (Loc.blk b1) (SObj.cells [SV.ptr 0 b 0] (38 : TypeId)), Ent.mk (Loc.blk b2) (SObj.cells [SV.int IntKind.i64 parent] (3 : TypeId)),
        Ent.mk (Loc.blk b3)
         (SObj.cells
          [SV.int IntKind.i64 (0 : Int), SV.int IntKind.i64 (0 : Int), SV.str (PR.mk (0 : Int) (0 : Int) (ByteArray.mk #[]) false (0 : Int) (ByteArray.mk #[]) false false).group,
           SV.bool false, SV.int IntKind.i64 (0 : Int), SV.str (PR.mk (0 : Int) (0 : Int) (ByteArray.mk #[]) false (0 : Int) (ByteArray.mk #[]) false false).cmd]
          (45 : TypeId)),
        Ent.mk (Loc.blk b4) (SObj.cells [SV.int IntKind.i64 (0 : Int)] (27 : TypeId)), dent D true, lp l rc LoopState.busy (@none Code),
        Ent.mk (Loc.blk b6) (SObj.cells [SV.int IntKind.i64 r.1, SV.int IntKind.i64 r.2, SV.str r.3, SV.bool r.4, SV.int IntKind.i64 r.5, SV.str r.6] (45 : TypeId)),
        Ent.mk (Loc.blk s.1) (SObj.mapL (some IntKind.i64) encB1 (List.map pkey s.2)), pk 0 rest])
 | false =>
  E
   (Sy.mk
    [SV.raw (u 0), SV.raw (u 1), SV.ptr 1 b1 0, SV.ptr 2 b2 0, SV.ptr 3 b3 0, SV.ptr 4 b4 0,
     SV.ptr 7 b6 0, SV.raw (u 7), SV.raw (u 8), SV.raw (u 9), SV.ptr 7 b6 3, SV.bool r.4, SV.bool false, SV.raw (Value.tuple #[]),
     SV.raw (Value.tuple #[]), SV.raw (Value.tuple #[]), SV.raw (Value.tuple #[]), SV.bool false, SV.raw (u 18), SV.raw (u 19), SV.raw (u 20), SV.raw (u 21),
     SV.raw (u 22), SV.raw (u 23), SV.raw (u 24), SV.raw (u 25)]
    [Ent.mk (Loc.blk b) (SObj.cells [SV.map 8 s.1, SV.int IntKind.i64 s.3, SV.int IntKind.i64 s.4] (130 : TypeId)),
     Ent.mk (Loc.blk b1) (SObj.cells [SV.ptr 0 b 0] (38 : TypeId)), Ent.mk (Loc.blk b2) (SObj.cells [SV.int IntKind.i64 parent] (3 : TypeId)),
     Ent.mk (Loc.blk b3)
      (SObj.cells
       [SV.int IntKind.i64 (0 : Int), SV.int IntKind.i64 (0 : Int), SV.str (PR.mk (0 : Int) (0 : Int) (ByteArray.mk #[]) false (0 : Int) (ByteArray.mk #[]) false false).group, SV.bool false,
        SV.int IntKind.i64 (0 : Int), SV.str (PR.mk (0 : Int) (0 : Int) (ByteArray.mk #[]) false (0 : Int) (ByteArray.mk #[]) false false).cmd]
       (45 : TypeId)),
     Ent.mk (Loc.blk b4) (SObj.cells [SV.int IntKind.i64 (0 : Int)] (27 : TypeId)), dent D true, lp l rc LoopState.busy (@none Code),
     Ent.mk (Loc.blk b6) (SObj.cells [SV.int IntKind.i64 r.1, SV.int IntKind.i64 r.2, SV.str r.3, SV.bool r.4, SV.int IntKind.i64 r.5, SV.str r.6] (45 : TypeId)),
     Ent.mk (Loc.blk s.1) (SObj.mapL (some IntKind.i64) encB1 (List.map pkey s.2)), pk 0 rest])) := by kernel_rfl


theorem rp_end (K : List Frm → Sy → Prop) (E : Sy → Prop) (N : List Ent → SV → Prop) (s : PT) (b b1 b2 b3 b4 D l : Nat) (rc : Loop) (parent : Int) (u : Nat → Value) : (runR Try.prog [] (noY) true [] K (endMX Try.prog Try.f25.results.toList D 5 N) E 600 ((frm [] (bodyOf Try.f25) [1, 0, 1, 0] []).tail) ⟨mkT u 26 0 [(2, .ptr 1 b1 0), (3, .ptr 2 b2 0), (4, .ptr 3 b3 0), (5, .ptr 4 b4 0)], [pkA b ptE s, ⟨.blk b1, .cells [.ptr 0 b 0] 38⟩, ⟨.blk b2, .cells [.int .i64 parent] 3⟩, ⟨.blk b3, .cells (encP6 PR.zero) 45⟩, ⟨.blk b4, .cells [.int .i64 0] 27⟩, dent D true, lp l rc .exhausted none]⟩) = (
(true = true ∧ true = true) ∧
 (b3 = b3 ∧ true = true ∧ 6 = 6 ∧ 6 ≤ 6) ∧
  (b4 = b4 ∧ true = true ∧ 1 = 1 ∧ 1 ≤ 1) ∧
   some (dent D true) = some (dent D true) ∧
    (b3 = b3 ∧ 6 = 6) ∧
     b4 = b4 ∧
      N
       [pkA b ptE s, Ent.mk (Loc.blk b1) (SObj.cells [SV.ptr 0 b 0] (38 : TypeId)), Ent.mk (Loc.blk b2) (SObj.cells [SV.int IntKind.i64 parent] (3 : TypeId)),
        Ent.mk (Loc.blk b3)
         (SObj.cells [SV.int IntKind.i64 (0 : Int), SV.int IntKind.i64 (0 : Int), SV.str (ByteArray.mk #[]), SV.bool false, SV.int IntKind.i64 (0 : Int), SV.str (ByteArray.mk #[])]
          (45 : TypeId)),
        Ent.mk (Loc.blk b4) (SObj.cells [SV.int IntKind.i64 (80 : Int)] (27 : TypeId)), dent D false, lp l rc LoopState.exhausted (@none Code)]
       (SV.tuple
        [SV.agg [SV.int IntKind.i64 (0 : Int), SV.int IntKind.i64 (0 : Int), SV.str (ByteArray.mk #[]), SV.bool false, SV.int IntKind.i64 (0 : Int), SV.str (ByteArray.mk #[])],
         SV.int IntKind.i64 (80 : Int)])) := by kernel_rfl


theorem rp_ret (K : List Frm → Sy → Prop) (E : Sy → Prop) (N : List Ent → SV → Prop) (s : PT) (b b1 b2 b3 b4 D l : Nat) (rc : Loop) (parent : Int) (r : PR) (u : Nat → Value) : (runR Try.prog [] (noY) true [] K (endMX Try.prog Try.f25.results.toList D 5 N) E 600 (Frm.code .ret :: (frm [] (bodyOf Try.f25) [1, 0, 1, 0] []).tail) ⟨mkT u 26 0 [(2, .ptr 1 b1 0), (3, .ptr 2 b2 0), (4, .ptr 3 b3 0), (5, .ptr 4 b4 0)], [pkA b ptE s, ⟨.blk b1, .cells [.ptr 0 b 0] 38⟩, ⟨.blk b2, .cells [.int .i64 parent] 3⟩, ⟨.blk b3, .cells (encP6 r) 45⟩, ⟨.blk b4, .cells [.int .i64 0] 27⟩, dent D true, lp l rc .exhausted (some .ret)]⟩) = (
some (dent D true) = some (dent D true) ∧
 (b3 = b3 ∧ 6 = 6) ∧
  b4 = b4 ∧
   N
    [pkA b ptE s, Ent.mk (Loc.blk b1) (SObj.cells [SV.ptr 0 b 0] (38 : TypeId)), Ent.mk (Loc.blk b2) (SObj.cells [SV.int IntKind.i64 parent] (3 : TypeId)),
     Ent.mk (Loc.blk b3) (SObj.cells [SV.int IntKind.i64 r.1, SV.int IntKind.i64 r.2, SV.str r.3, SV.bool r.4, SV.int IntKind.i64 r.5, SV.str r.6] (45 : TypeId)),
     Ent.mk (Loc.blk b4) (SObj.cells [SV.int IntKind.i64 (0 : Int)] (27 : TypeId)), dent D false, lp l rc LoopState.exhausted (some Code.ret)]
    (SV.tuple [SV.agg [SV.int IntKind.i64 r.1, SV.int IntKind.i64 r.2, SV.str r.3, SV.bool r.4, SV.int IntKind.i64 r.5, SV.str r.6], SV.int IntKind.i64 (0 : Int)])) := by kernel_rfl
end Go.Proofs.Ytihajdkipkfiiaa
