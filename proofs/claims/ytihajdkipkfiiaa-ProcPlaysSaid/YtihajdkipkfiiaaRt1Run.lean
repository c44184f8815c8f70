import Derived.Test.YtihajdkipkfiiaaRtC
import Derived.Test.YtihajdkipkfiiaaRaw
import Derived.Test.YtihajdkipkfiiaaTab
namespace Go.Proofs.Ytihajdkipkfiiaa
set_option linter.unusedVariables false
open Go Go.RowKit
set_option maxHeartbeats 0
set_option maxRecDepth 100000
set_option maxRecDepth 100000

theorem rt_new (K : List Frm → Sy → Prop) (N : List Ent → SV → Prop) (room : Int) : (run Try.prog [] false [] K (retP Try.prog Try.f37.results.toList N) 600 [.code (bodyOf Try.f37)] ⟨padTo 11 [.int .i64 room], []⟩) = (
(true = true ∧ true = true) ∧
 (true = true ∧ true = true) ∧
  (true = true ∧ 8 = 8 ∧ 0 < 8 ∧ 8 ≤ 16777216) ∧
   ∀ (b : Nat),
    (true = true ∧ true = true) ∧
     true = true ∧
      ∀ (b_1 : Nat),
       N
        [Ent.mk (Loc.blk b)
         (SObj.cells
          [SV.int IntKind.i64 (1 : Int), SV.int IntKind.i64 (0 : Int), SV.str (ByteArray.mk #[]), SV.bool false, SV.int IntKind.i64 (0 : Int), SV.str (ByteArray.mk #[]), SV.bool false,
           SV.bool false]
          149),
         Ent.mk (Loc.blk b_1)
          (SObj.cells [SV.vec 0 (some (Addr.mk b 0 (@none Nat))) 1 1, SV.int IntKind.i64 (mxI (0 : Int) (mnI room (64 : Int))), SV.int IntKind.i64 (1 : Int)]
           152)]
        (SV.ptr 1 b_1 0)) := by kernel_rfl


theorem rt_at (K : List Frm → Sy → Prop) (N : List Ent → SV → Prop) (t : PT) (b : Nat) (ao : Option Addr) (cap : Nat) (pid : Int) : (run Try.prog [] false [] K (retP Try.prog Try.f85.results.toList N) 600 [.code (bodyOf Try.f85)] ⟨padTo 27 [.ptr 0 b 0, .int .i64 pid], [⟨.blk b, .cells [.vec 1 ao (rL t).length cap, .int .i64 t.room, .int .i64 t.last] 152⟩, ⟨.sl ao cap, .vecL 149 8 encR (rL t) PR.zero⟩]⟩) = (
K (frm [] (bodyOf Try.f85) [1, 0, 1, 0] [])
 (Sy.mk (SV.ptr 0 b 0 :: (SV.int IntKind.i64 pid :: (SV.raw (Value.tuple #[]) :: (SV.raw (Value.tuple #[]) :: (SV.int IntKind.i64 (0 : Int) :: (SV.int IntKind.i64 (0 : Int) :: (rawE [] 21)))))))
  [Ent.mk (Loc.blk b) (SObj.cells [SV.vec 1 ao (List.length (rL t)) cap, SV.int IntKind.i64 t.3, SV.int IntKind.i64 t.4] (152 : TypeId)),
   Ent.mk (Loc.sl ao cap) (SObj.vecL (149 : TypeId) 8 encR (rL t) (PR.mk (0 : Int) (0 : Int) (ByteArray.mk #[]) false (0 : Int) (ByteArray.mk #[]) false false))])) := by kernel_rfl


theorem rt_at1 (K : List Frm → Sy → Prop) (N : List Ent → SV → Prop) (J : Act → World → Prop) (t : PT) (b : Nat) (ao : Option Addr) (cap : Nat) (pid : Int) (i : Nat) (u : Nat → Value) : (run Try.prog [] false [] K (retP Try.prog Try.f85.results.toList N) 900 (frm [J] (bodyOf Try.f85) [1, 0, 1, 0, 0] []) ⟨mkT u 27 0 [(0, .ptr 0 b 0), (1, .int .i64 pid), (5, .int .i64 (i : Int))], [⟨.blk b, .cells [.vec 1 ao (rL t).length cap, .int .i64 t.room, .int .i64 t.last] 152⟩, ⟨.sl ao cap, .vecL 149 8 encR (rL t) PR.zero⟩]⟩) = (
b = b ∧
 match decide ((↑i : Int) < (↑(List.length (rL t)) : Int)) with
 | true =>
  b = b ∧
   (ao = ao ∧ cap = cap ∧ List.length (rL t) = List.length (rL t) ∧ (0 : Int) ≤ (↑i : Int) ∧ (↑i : Int) < (↑(List.length (rL t)) : Int)) ∧
    (Addr.blkD ao = Addr.blkD ao ∧ Addr.offD ao = Addr.offD ao ∧ 8 = 8 ∧ Int.toNat (↑i : Int) < List.length (rL t)) ∧
     match (List.getD (rL t) (Int.toNat (↑i : Int)) (PR.mk (0 : Int) (0 : Int) (ByteArray.mk #[]) false (0 : Int) (ByteArray.mk #[]) false false)).1 == pid with
     | true =>
      N
       [Ent.mk (Loc.blk b) (SObj.cells [SV.vec 1 ao (List.length (rL t)) cap, SV.int IntKind.i64 t.3, SV.int IntKind.i64 t.4] (152 : TypeId)),
        Ent.mk (Loc.sl ao cap) (SObj.vecL (149 : TypeId) 8 encR (rL t) (PR.mk (0 : Int) (0 : Int) (ByteArray.mk #[]) false (0 : Int) (ByteArray.mk #[]) false false))]
       (SV.int IntKind.i64 (↑i : Int))
     | false =>
      K (Frm.loop J :: Frm.blk 0 :: frm [] (bodyOf Try.f85) [1, 1] [])
       (Sy.mk (SV.ptr 0 b 0 :: (SV.int IntKind.i64 pid :: (rawR u 2 (SV.int IntKind.i64 (IntKind.wrap IntKind.i64 ((↑i : Int) + (1 : Int))) :: (SV.int IntKind.i64 (↑i : Int) :: (SV.ptr 0 b 0 :: (SV.ptr 0 b 0 :: (SV.ptr 0 b 0 :: (SV.vec 1 ao (List.length (rL t)) cap :: (SV.int IntKind.i64 (↑(List.length (rL t)) : Int) :: (SV.bool true :: (SV.int IntKind.i64 (↑i : Int) :: (SV.int IntKind.i64 (IntKind.wrap IntKind.i64 ((↑i : Int) + (1 : Int))) :: (SV.ptr 0 b 0 :: (SV.ptr 0 b 0 :: (SV.ptr 0 b 0 :: (SV.vec 1 ao (List.length (rL t)) cap :: (SV.int IntKind.i64 (↑i : Int) :: (SV.eptr 1 (Addr.blkD ao) (Addr.offD ao) 8 (Int.toNat (↑i : Int)) 0 :: (SV.eptr 1 (Addr.blkD ao) (Addr.offD ao) 8 (Int.toNat (↑i : Int)) 0 :: (SV.eptr 1 (Addr.blkD ao) (Addr.offD ao) 8 (Int.toNat (↑i : Int)) 0 :: (SV.int IntKind.i64 (List.getD (rL t) (Int.toNat (↑i : Int)) (PR.mk (0 : Int) (0 : Int) (ByteArray.mk #[]) false (0 : Int) (ByteArray.mk #[]) false false)).1 :: (SV.int IntKind.i64 pid :: (SV.bool false :: (SV.raw (u 26) :: [])))))))))))))))))))))) 3)))
        [Ent.mk (Loc.blk b) (SObj.cells [SV.vec 1 ao (List.length (rL t)) cap, SV.int IntKind.i64 t.3, SV.int IntKind.i64 t.4] (152 : TypeId)),
         Ent.mk (Loc.sl ao cap) (SObj.vecL (149 : TypeId) 8 encR (rL t) (PR.mk (0 : Int) (0 : Int) (ByteArray.mk #[]) false (0 : Int) (ByteArray.mk #[]) false false))])
 | false =>
  N
   [Ent.mk (Loc.blk b) (SObj.cells [SV.vec 1 ao (List.length (rL t)) cap, SV.int IntKind.i64 t.3, SV.int IntKind.i64 t.4] (152 : TypeId)),
    Ent.mk (Loc.sl ao cap) (SObj.vecL (149 : TypeId) 8 encR (rL t) (PR.mk (0 : Int) (0 : Int) (ByteArray.mk #[]) false (0 : Int) (ByteArray.mk #[]) false false))]
   (SV.int IntKind.i64 (-1 : Int))) := by kernel_rfl


theorem rt_lives (K : List Frm → Sy → Prop) (N : List Ent → SV → Prop) (t : PT) (b : Nat) (ao : Option Addr) (cap : Nat) (pid : Int) : (run Try.prog rtL false [] K (retP Try.prog Try.f84.results.toList N) 600 [.code (bodyOf Try.f84)] ⟨padTo 23 [.ptr 0 b 0, .int .i64 pid], [⟨.blk b, .cells [.vec 1 ao (rL t).length cap, .int .i64 t.room, .int .i64 t.last] 152⟩, ⟨.sl ao cap, .vecL 149 8 encR (rL t) PR.zero⟩]⟩) = (
true = true ∧
 ∃ (t_1 : PT),
  ∃ (l1 : Nat),
   ∃ (ao_1 : Option Addr),
    ∃ (cap_1 : Nat),
     some (Ent.mk (Loc.blk b) (SObj.cells [SV.vec 1 ao (List.length (rL t)) cap, SV.int IntKind.i64 t.3, SV.int IntKind.i64 t.4] (152 : TypeId))) =
      some (Ent.mk (Loc.blk b) (SObj.cells [SV.vec l1 ao_1 (List.length (rL t_1)) cap_1, SV.int IntKind.i64 t_1.3, SV.int IntKind.i64 t_1.4] (152 : TypeId))) ∧
      nth
       [Ent.mk (Loc.blk b) (SObj.cells [SV.vec 1 ao (List.length (rL t)) cap, SV.int IntKind.i64 t.3, SV.int IntKind.i64 t.4] (152 : TypeId)),
        Ent.mk (Loc.sl ao cap) (SObj.vecL (149 : TypeId) 8 encR (rL t) (PR.mk (0 : Int) (0 : Int) (ByteArray.mk #[]) false (0 : Int) (ByteArray.mk #[]) false false))]
       l1 =
       some (Ent.mk (Loc.sl ao_1 cap_1) (SObj.vecL (149 : TypeId) 8 encR (rL t_1) (PR.mk (0 : Int) (0 : Int) (ByteArray.mk #[]) false (0 : Int) (ByteArray.mk #[]) false false))) ∧
       (Nat.beq 0 l1 = false ∧ pOk t_1) ∧
        match decide (rAtV t_1 pid ≥ (0 : Int)) with
        | true =>
         b = b ∧
          (ao = ao ∧ cap = cap ∧ List.length (rL t) = List.length (rL t) ∧ (0 : Int) ≤ rAtV t_1 pid ∧ rAtV t_1 pid < (↑(List.length (rL t)) : Int)) ∧
           (Addr.blkD ao = Addr.blkD ao ∧ Addr.offD ao = Addr.offD ao ∧ 8 = 8 ∧ Int.toNat (rAtV t_1 pid) < List.length (rL t)) ∧
            match (List.getD (rL t) (Int.toNat (rAtV t_1 pid)) (PR.mk (0 : Int) (0 : Int) (ByteArray.mk #[]) false (0 : Int) (ByteArray.mk #[]) false false)).4 with
            | true =>
             N
              [Ent.mk (Loc.blk b) (SObj.cells [SV.vec 1 ao (List.length (rL t)) cap, SV.int IntKind.i64 t.3, SV.int IntKind.i64 t.4] (152 : TypeId)),
               Ent.mk (Loc.sl ao cap) (SObj.vecL (149 : TypeId) 8 encR (rL t) (PR.mk (0 : Int) (0 : Int) (ByteArray.mk #[]) false (0 : Int) (ByteArray.mk #[]) false false))]
              (SV.int IntKind.i64 (-1 : Int))
            | false =>
             N
              [Ent.mk (Loc.blk b) (SObj.cells [SV.vec 1 ao (List.length (rL t)) cap, SV.int IntKind.i64 t.3, SV.int IntKind.i64 t.4] (152 : TypeId)),
               Ent.mk (Loc.sl ao cap) (SObj.vecL (149 : TypeId) 8 encR (rL t) (PR.mk (0 : Int) (0 : Int) (ByteArray.mk #[]) false (0 : Int) (ByteArray.mk #[]) false false))]
              (SV.int IntKind.i64 (rAtV t_1 pid))
        | false =>
         N
          [Ent.mk (Loc.blk b) (SObj.cells [SV.vec 1 ao (List.length (rL t)) cap, SV.int IntKind.i64 t.3, SV.int IntKind.i64 t.4] (152 : TypeId)),
           Ent.mk (Loc.sl ao cap) (SObj.vecL (149 : TypeId) 8 encR (rL t) (PR.mk (0 : Int) (0 : Int) (ByteArray.mk #[]) false (0 : Int) (ByteArray.mk #[]) false false))]
          (SV.int IntKind.i64 (rAtV t_1 pid))) := by kernel_rfl


theorem rt_spawn (K : List Frm → Sy → Prop) (N : List Ent → SV → Prop) (t : PT) (b : Nat) (ao : Option Addr) (cap : Nat) (pid : Int) (group cmd : ByteArray) : (run Try.prog rtLv false [] K (retP Try.prog Try.f38.results.toList N) 900 [.code (bodyOf Try.f38)] ⟨padTo 56 [.ptr 0 b 0, .int .i64 pid, .str group, .str cmd], [⟨.blk b, .cells [.vec 1 ao (rL t).length cap, .int .i64 t.room, .int .i64 t.last] 152⟩, ⟨.sl ao cap, .vecL 149 8 encR (rL t) PR.zero⟩]⟩) = (
true = true ∧
 ∃ (t_1 : PT),
  ∃ (l1 : Nat),
   ∃ (ao_1 : Option Addr),
    ∃ (cap_1 : Nat),
     some (Ent.mk (Loc.blk b) (SObj.cells [SV.vec 1 ao (List.length (rL t)) cap, SV.int IntKind.i64 t.3, SV.int IntKind.i64 t.4] (152 : TypeId))) =
      some (Ent.mk (Loc.blk b) (SObj.cells [SV.vec l1 ao_1 (List.length (rL t_1)) cap_1, SV.int IntKind.i64 t_1.3, SV.int IntKind.i64 t_1.4] (152 : TypeId))) ∧
      nth
       [Ent.mk (Loc.blk b) (SObj.cells [SV.vec 1 ao (List.length (rL t)) cap, SV.int IntKind.i64 t.3, SV.int IntKind.i64 t.4] (152 : TypeId)),
        Ent.mk (Loc.sl ao cap) (SObj.vecL (149 : TypeId) 8 encR (rL t) (PR.mk (0 : Int) (0 : Int) (ByteArray.mk #[]) false (0 : Int) (ByteArray.mk #[]) false false))]
       l1 =
       some (Ent.mk (Loc.sl ao_1 cap_1) (SObj.vecL (149 : TypeId) 8 encR (rL t_1) (PR.mk (0 : Int) (0 : Int) (ByteArray.mk #[]) false (0 : Int) (ByteArray.mk #[]) false false))) ∧
       (Nat.beq 0 l1 = false ∧ pOk t_1) ∧
        match decide (rLivesV t_1 pid < (0 : Int)) with
        | true =>
         N
          [Ent.mk (Loc.blk b) (SObj.cells [SV.vec 1 ao (List.length (rL t)) cap, SV.int IntKind.i64 t.3, SV.int IntKind.i64 t.4] (152 : TypeId)),
           Ent.mk (Loc.sl ao cap) (SObj.vecL (149 : TypeId) 8 encR (rL t) (PR.mk (0 : Int) (0 : Int) (ByteArray.mk #[]) false (0 : Int) (ByteArray.mk #[]) false false))]
          (SV.tuple [SV.int IntKind.i64 (0 : Int), SV.int IntKind.i64 (80 : Int)])
        | false =>
         b = b ∧
          b = b ∧
           match decide (IntKind.wrap IntKind.i64 ((↑(List.length (rL t)) : Int) - (1 : Int)) ≥ t.3) with
           | true =>
            N
             [Ent.mk (Loc.blk b) (SObj.cells [SV.vec 1 ao (List.length (rL t)) cap, SV.int IntKind.i64 t.3, SV.int IntKind.i64 t.4] (152 : TypeId)),
              Ent.mk (Loc.sl ao cap) (SObj.vecL (149 : TypeId) 8 encR (rL t) (PR.mk (0 : Int) (0 : Int) (ByteArray.mk #[]) false (0 : Int) (ByteArray.mk #[]) false false))]
             (SV.tuple [SV.int IntKind.i64 (0 : Int), SV.int IntKind.i64 (81 : Int)])
           | false =>
            b = b ∧
             (b = b ∧ true = true ∧ 1 = 1 ∧ 3 ≤ 3) ∧
              b = b ∧
               b = b ∧
                (true = true ∧ true = true) ∧
                 (true = true ∧ true = true) ∧
                  (true = true ∧ 8 = 8 ∧ 0 < 8 ∧ 8 ≤ 16777216) ∧
                   ∀ (b_1 : Nat),
                    (Ent.mk (Loc.blk b)
                     (SObj.cells [SV.vec 1 ao (List.length (rL t)) cap, SV.int IntKind.i64 t.3, SV.int IntKind.i64 (IntKind.wrap IntKind.i64 (t.4 + (1 : Int)))]
                      (152 : TypeId)) =
                     Ent.mk (Loc.blk b)
                      (SObj.cells [SV.vec 1 ao (List.length (rL t)) cap, SV.int IntKind.i64 t.3, SV.int IntKind.i64 (IntKind.wrap IntKind.i64 (t.4 + (1 : Int)))]
                       (152 : TypeId)) ∧
                     Ent.mk (Loc.sl ao cap)
                      (SObj.vecL (149 : TypeId) 8 encR (rL t) (PR.mk (0 : Int) (0 : Int) (ByteArray.mk #[]) false (0 : Int) (ByteArray.mk #[]) false false)) =
                      Ent.mk (Loc.sl ao cap)
                       (SObj.vecL (149 : TypeId) 8 encR (rL t) (PR.mk (0 : Int) (0 : Int) (ByteArray.mk #[]) false (0 : Int) (ByteArray.mk #[]) false false)) ∧
                      True) ∧
                     (ao = ao ∧
                      cap = cap ∧
                       List.length (rL t) = List.length (rL t) ∧
                        some (Addr.mk b_1 0 (@none Nat)) = some (Addr.mk b_1 0 (@none Nat)) ∧
                         (149 : TypeId) = 149 ∧
                          8 = 8 ∧
                           8 = 8 ∧
                            0 < 1 ∧
                             true = true ∧
                              (List.length (rL t) + 1) * 72 ≤ 140737488355328 ∧ List.length (rL t) + 1 ≤ 9223372036854775807) ∧
                      ∃ (es : List PR),
                       List.length es = 1 ∧
                        List.flatMap encR es =
                         [SV.int IntKind.i64 (IntKind.wrap IntKind.i64 (t.4 + (1 : Int))), SV.int IntKind.i64 pid, SV.str group, SV.bool false, SV.int IntKind.i64 (0 : Int),
                          SV.str cmd, SV.bool false, SV.bool false] ∧
                         ∀ (ao2 : Option Addr) (cap2 : Nat),
                          List.length (rL t) + 1 ≤ cap2 →
                           (b = b ∧ true = true ∧ 1 = 1 ∧ 1 ≤ 3) ∧
                            b = b ∧
                             N
                              [Ent.mk (Loc.blk b)
                               (SObj.cells
                                [SV.vec 1 ao2 (List.length (rL t) + 1) cap2, SV.int IntKind.i64 t.3,
                                 SV.int IntKind.i64 (IntKind.wrap IntKind.i64 (t.4 + (1 : Int)))]
                                (152 : TypeId)),
                               Ent.mk (Loc.sl ao2 cap2)
                                (SObj.vecL (149 : TypeId) 8 encR (rL t ++ es)
                                 (PR.mk (0 : Int) (0 : Int) (ByteArray.mk #[]) false (0 : Int) (ByteArray.mk #[]) false false)),
                               Ent.mk (Loc.blk b_1)
                                (SObj.cells
                                 [SV.int IntKind.i64 (IntKind.wrap IntKind.i64 (t.4 + (1 : Int))), SV.int IntKind.i64 pid, SV.str group, SV.bool false,
                                  SV.int IntKind.i64 (0 : Int), SV.str cmd, SV.bool false, SV.bool false]
                                 149)]
                              (SV.tuple [SV.int IntKind.i64 (IntKind.wrap IntKind.i64 (t.4 + (1 : Int))), SV.int IntKind.i64 (0 : Int)])) := by kernel_rfl


theorem rt_fork (K : List Frm → Sy → Prop) (N : List Ent → SV → Prop) (t : PT) (b : Nat) (ao : Option Addr) (cap : Nat) (pid : Int) : (run Try.prog rtSp false [] K (retP Try.prog Try.f39.results.toList N) 1500 [.code (bodyOf Try.f39)] ⟨padTo 49 [.ptr 0 b 0, .int .i64 pid], [⟨.blk b, .cells [.vec 1 ao (rL t).length cap, .int .i64 t.room, .int .i64 t.last] 152⟩, ⟨.sl ao cap, .vecL 149 8 encR (rL t) PR.zero⟩]⟩) = (
true = true ∧
 ∃ (t_1 : PT),
  ∃ (l1 : Nat),
   ∃ (ao_1 : Option Addr),
    ∃ (cap_1 : Nat),
     some (Ent.mk (Loc.blk b) (SObj.cells [SV.vec 1 ao (List.length (rL t)) cap, SV.int IntKind.i64 t.3, SV.int IntKind.i64 t.4] (152 : TypeId))) =
      some (Ent.mk (Loc.blk b) (SObj.cells [SV.vec l1 ao_1 (List.length (rL t_1)) cap_1, SV.int IntKind.i64 t_1.3, SV.int IntKind.i64 t_1.4] (152 : TypeId))) ∧
      nth
       [Ent.mk (Loc.blk b) (SObj.cells [SV.vec 1 ao (List.length (rL t)) cap, SV.int IntKind.i64 t.3, SV.int IntKind.i64 t.4] (152 : TypeId)),
        Ent.mk (Loc.sl ao cap) (SObj.vecL (149 : TypeId) 8 encR (rL t) (PR.mk (0 : Int) (0 : Int) (ByteArray.mk #[]) false (0 : Int) (ByteArray.mk #[]) false false))]
       l1 =
       some (Ent.mk (Loc.sl ao_1 cap_1) (SObj.vecL (149 : TypeId) 8 encR (rL t_1) (PR.mk (0 : Int) (0 : Int) (ByteArray.mk #[]) false (0 : Int) (ByteArray.mk #[]) false false))) ∧
       (Nat.beq 0 l1 = false ∧ pOk t_1) ∧
        match decide (rLivesV t_1 pid < (0 : Int)) with
        | true =>
         N
          [Ent.mk (Loc.blk b) (SObj.cells [SV.vec 1 ao (List.length (rL t)) cap, SV.int IntKind.i64 t.3, SV.int IntKind.i64 t.4] (152 : TypeId)),
           Ent.mk (Loc.sl ao cap) (SObj.vecL (149 : TypeId) 8 encR (rL t) (PR.mk (0 : Int) (0 : Int) (ByteArray.mk #[]) false (0 : Int) (ByteArray.mk #[]) false false))]
          (SV.tuple [SV.int IntKind.i64 (0 : Int), SV.int IntKind.i64 (80 : Int)])
        | false =>
         match pid == (1 : Int) with
         | true =>
          N
           [Ent.mk (Loc.blk b) (SObj.cells [SV.vec 1 ao (List.length (rL t)) cap, SV.int IntKind.i64 t.3, SV.int IntKind.i64 t.4] (152 : TypeId)),
            Ent.mk (Loc.sl ao cap) (SObj.vecL (149 : TypeId) 8 encR (rL t) (PR.mk (0 : Int) (0 : Int) (ByteArray.mk #[]) false (0 : Int) (ByteArray.mk #[]) false false))]
           (SV.tuple [SV.int IntKind.i64 (0 : Int), SV.int IntKind.i64 (80 : Int)])
         | false =>
          b = b ∧
           (ao = ao ∧ cap = cap ∧ List.length (rL t) = List.length (rL t) ∧ (0 : Int) ≤ rLivesV t_1 pid ∧ rLivesV t_1 pid < (↑(List.length (rL t)) : Int)) ∧
            (Addr.blkD ao = Addr.blkD ao ∧ Addr.offD ao = Addr.offD ao ∧ 8 = 8 ∧ Int.toNat (rLivesV t_1 pid) < List.length (rL t)) ∧
             match (List.getD (rL t) (Int.toNat (rLivesV t_1 pid)) (PR.mk (0 : Int) (0 : Int) (ByteArray.mk #[]) false (0 : Int) (ByteArray.mk #[]) false false)).8 with
             | true =>
              N
               [Ent.mk (Loc.blk b) (SObj.cells [SV.vec 1 ao (List.length (rL t)) cap, SV.int IntKind.i64 t.3, SV.int IntKind.i64 t.4] (152 : TypeId)),
                Ent.mk (Loc.sl ao cap) (SObj.vecL (149 : TypeId) 8 encR (rL t) (PR.mk (0 : Int) (0 : Int) (ByteArray.mk #[]) false (0 : Int) (ByteArray.mk #[]) false false))]
               (SV.tuple [SV.int IntKind.i64 (0 : Int), SV.int IntKind.i64 (80 : Int)])
             | false =>
              (b = b ∧
               ((ao = ao ∧ cap = cap ∧ List.length (rL t) = List.length (rL t) ∧ (0 : Int) ≤ rLivesV t_1 pid ∧ rLivesV t_1 pid < (↑(List.length (rL t)) : Int)) ∧
                (Addr.blkD ao = Addr.blkD ao ∧ Addr.offD ao = Addr.offD ao ∧ 8 = 8 ∧ Int.toNat (rLivesV t_1 pid) < List.length (rL t)) ∧
                 b = b ∧
                  (ao = ao ∧ cap = cap ∧ List.length (rL t) = List.length (rL t) ∧ (0 : Int) ≤ rLivesV t_1 pid ∧ rLivesV t_1 pid < (↑(List.length (rL t)) : Int)) ∧
                   (Addr.blkD ao = Addr.blkD ao ∧ Addr.offD ao = Addr.offD ao ∧ 8 = 8 ∧ Int.toNat (rLivesV t_1 pid) < List.length (rL t)) ∧
                    true = true ∧
                     ∃ (t_2 : PT),
                      ∃ (l1 : Nat),
                       ∃ (ao_2 : Option Addr),
                        ∃ (cap_2 : Nat),
                         some
                          (Ent.mk (Loc.blk b)
                           (SObj.cells [SV.vec 1 ao (List.length (rL t)) cap, SV.int IntKind.i64 t.3, SV.int IntKind.i64 t.4] (152 : TypeId))) =
                          some
                           (Ent.mk (Loc.blk b)
                            (SObj.cells [SV.vec l1 ao_2 (List.length (rL t_2)) cap_2, SV.int IntKind.i64 t_2.3, SV.int IntKind.i64 t_2.4] (152 : TypeId))) ∧
                          nth
                           [Ent.mk (Loc.blk b)
                            (SObj.cells [SV.vec 1 ao (List.length (rL t)) cap, SV.int IntKind.i64 t.3, SV.int IntKind.i64 t.4] (152 : TypeId)),
                            Ent.mk (Loc.sl ao cap)
                             (SObj.vecL (149 : TypeId) 8 encR (rL t)
                              (PR.mk (0 : Int) (0 : Int) (ByteArray.mk #[]) false (0 : Int) (ByteArray.mk #[]) false false))]
                           l1 =
                           some
                            (Ent.mk (Loc.sl ao_2 cap_2)
                             (SObj.vecL (149 : TypeId) 8 encR (rL t_2)
                              (PR.mk (0 : Int) (0 : Int) (ByteArray.mk #[]) false (0 : Int) (ByteArray.mk #[]) false false))) ∧
                           (Nat.beq 0 l1 = false ∧ pOk t_2) ∧
                            ∃ (nb : Nat),
                             ∀ (ao' : Option Addr) (cap' : Nat),
                              N
                               (setN
                                [Ent.mk (Loc.blk b)
                                 (SObj.cells
                                  [SV.vec l1 ao'
                                   (List.length
                                    (rL
                                     (pSpawn t_2 pid
                                      (List.getD (rL t) (Int.toNat (rLivesV t_1 pid))
                                       (PR.mk (0 : Int) (0 : Int) (ByteArray.mk #[]) false (0 : Int) (ByteArray.mk #[]) false false)).3
                                      (List.getD (rL t) (Int.toNat (rLivesV t_1 pid))
                                       (PR.mk (0 : Int) (0 : Int) (ByteArray.mk #[]) false (0 : Int) (ByteArray.mk #[]) false false)).6
                                      nb).1))
                                   cap',
                                   SV.int IntKind.i64
                                    (pSpawn t_2 pid
                                     (List.getD (rL t) (Int.toNat (rLivesV t_1 pid))
                                      (PR.mk (0 : Int) (0 : Int) (ByteArray.mk #[]) false (0 : Int) (ByteArray.mk #[]) false false)).3
                                     (List.getD (rL t) (Int.toNat (rLivesV t_1 pid))
                                      (PR.mk (0 : Int) (0 : Int) (ByteArray.mk #[]) false (0 : Int) (ByteArray.mk #[]) false false)).6
                                     nb).1.3,
                                   SV.int IntKind.i64
                                    (pSpawn t_2 pid
                                     (List.getD (rL t) (Int.toNat (rLivesV t_1 pid))
                                      (PR.mk (0 : Int) (0 : Int) (ByteArray.mk #[]) false (0 : Int) (ByteArray.mk #[]) false false)).3
                                     (List.getD (rL t) (Int.toNat (rLivesV t_1 pid))
                                      (PR.mk (0 : Int) (0 : Int) (ByteArray.mk #[]) false (0 : Int) (ByteArray.mk #[]) false false)).6
                                     nb).1.4]
                                  (152 : TypeId)),
                                 Ent.mk (Loc.sl ao cap)
                                  (SObj.vecL (149 : TypeId) 8 encR (rL t)
                                   (PR.mk (0 : Int) (0 : Int) (ByteArray.mk #[]) false (0 : Int) (ByteArray.mk #[]) false false))]
                                l1
                                (Ent.mk (Loc.sl ao' cap')
                                 (SObj.vecL (149 : TypeId) 8 encR
                                  (rL
                                   (pSpawn t_2 pid
                                    (List.getD (rL t) (Int.toNat (rLivesV t_1 pid))
                                     (PR.mk (0 : Int) (0 : Int) (ByteArray.mk #[]) false (0 : Int) (ByteArray.mk #[]) false false)).3
                                    (List.getD (rL t) (Int.toNat (rLivesV t_1 pid))
                                     (PR.mk (0 : Int) (0 : Int) (ByteArray.mk #[]) false (0 : Int) (ByteArray.mk #[]) false false)).6
                                    nb).1)
                                  (PR.mk (0 : Int) (0 : Int) (ByteArray.mk #[]) false (0 : Int) (ByteArray.mk #[]) false false))))
                               (SV.tuple
                                [SV.int IntKind.i64
                                 (pSpawn t_2 pid
                                  (List.getD (rL t) (Int.toNat (rLivesV t_1 pid))
                                   (PR.mk (0 : Int) (0 : Int) (ByteArray.mk #[]) false (0 : Int) (ByteArray.mk #[]) false false)).3
                                  (List.getD (rL t) (Int.toNat (rLivesV t_1 pid))
                                   (PR.mk (0 : Int) (0 : Int) (ByteArray.mk #[]) false (0 : Int) (ByteArray.mk #[]) false false)).6
                                  nb).2.1,
                                 SV.int IntKind.i64
                                  (pSpawn t_2 pid
                                   (List.getD (rL t) (Int.toNat (rLivesV t_1 pid))
                                    (PR.mk (0 : Int) (0 : Int) (ByteArray.mk #[]) false (0 : Int) (ByteArray.mk #[]) false false)).3
                                   (List.getD (rL t) (Int.toNat (rLivesV t_1 pid))
                                    (PR.mk (0 : Int) (0 : Int) (ByteArray.mk #[]) false (0 : Int) (ByteArray.mk #[]) false false)).6
                                   nb).2.2])) ∧
                b = b ∧
                 ((ao = ao ∧ cap = cap ∧ List.length (rL t) = List.length (rL t) ∧ (0 : Int) ≤ rLivesV t_1 pid ∧ rLivesV t_1 pid < (↑(List.length (rL t)) : Int)) ∧
                  (Addr.blkD ao = Addr.blkD ao ∧ Addr.offD ao = Addr.offD ao ∧ 8 = 8 ∧ Int.toNat (rLivesV t_1 pid) < List.length (rL t)) ∧
                   (ao = ao ∧ cap = cap ∧ List.length (rL t) = List.length (rL t) ∧ (0 : Int) ≤ rLivesV t_1 pid ∧ rLivesV t_1 pid < (↑(List.length (rL t)) : Int)) ∧
                    (Addr.blkD ao = Addr.blkD ao ∧ Addr.offD ao = Addr.offD ao ∧ 8 = 8 ∧ Int.toNat (rLivesV t_1 pid) < List.length (rL t)) ∧
                     true = true ∧
                      ∃ (t_2 : PT),
                       ∃ (l1 : Nat),
                        ∃ (ao_2 : Option Addr),
                         ∃ (cap_2 : Nat),
                          some
                           (Ent.mk (Loc.blk b)
                            (SObj.cells [SV.vec 1 ao (List.length (rL t)) cap, SV.int IntKind.i64 t.3, SV.int IntKind.i64 t.4] (152 : TypeId))) =
                           some
                            (Ent.mk (Loc.blk b)
                             (SObj.cells [SV.vec l1 ao_2 (List.length (rL t_2)) cap_2, SV.int IntKind.i64 t_2.3, SV.int IntKind.i64 t_2.4] (152 : TypeId))) ∧
                           nth
                            [Ent.mk (Loc.blk b)
                             (SObj.cells [SV.vec 1 ao (List.length (rL t)) cap, SV.int IntKind.i64 t.3, SV.int IntKind.i64 t.4] (152 : TypeId)),
                             Ent.mk (Loc.sl ao cap)
                              (SObj.vecL (149 : TypeId) 8 encR (rL t)
                               (PR.mk (0 : Int) (0 : Int) (ByteArray.mk #[]) false (0 : Int) (ByteArray.mk #[]) false false))]
                            l1 =
                            some
                             (Ent.mk (Loc.sl ao_2 cap_2)
                              (SObj.vecL (149 : TypeId) 8 encR (rL t_2)
                               (PR.mk (0 : Int) (0 : Int) (ByteArray.mk #[]) false (0 : Int) (ByteArray.mk #[]) false false))) ∧
                            (Nat.beq 0 l1 = false ∧ pOk t_2) ∧
                             ∃ (nb : Nat),
                              ∀ (ao' : Option Addr) (cap' : Nat),
                               N
                                (setN
                                 [Ent.mk (Loc.blk b)
                                  (SObj.cells
                                   [SV.vec l1 ao'
                                    (List.length
                                     (rL
                                      (pSpawn t_2 pid
                                       (List.getD (rL t) (Int.toNat (rLivesV t_1 pid))
                                        (PR.mk (0 : Int) (0 : Int) (ByteArray.mk #[]) false (0 : Int) (ByteArray.mk #[]) false false)).3
                                       (List.getD (rL t) (Int.toNat (rLivesV t_1 pid))
                                        (PR.mk (0 : Int) (0 : Int) (ByteArray.mk #[]) false (0 : Int) (ByteArray.mk #[]) false false)).6
                                       nb).1))
                                    cap',
                                    SV.int IntKind.i64
                                     (pSpawn t_2 pid
                                      (List.getD (rL t) (Int.toNat (rLivesV t_1 pid))
                                       (PR.mk (0 : Int) (0 : Int) (ByteArray.mk #[]) false (0 : Int) (ByteArray.mk #[]) false false)).3
                                      (List.getD (rL t) (Int.toNat (rLivesV t_1 pid))
                                       (PR.mk (0 : Int) (0 : Int) (ByteArray.mk #[]) false (0 : Int) (ByteArray.mk #[]) false false)).6
                                      nb).1.3,
                                    SV.int IntKind.i64
                                     (pSpawn t_2 pid
                                      (List.getD (rL t) (Int.toNat (rLivesV t_1 pid))
                                       (PR.mk (0 : Int) (0 : Int) (ByteArray.mk #[]) false (0 : Int) (ByteArray.mk #[]) false false)).3
                                      (List.getD (rL t) (Int.toNat (rLivesV t_1 pid))
                                       (PR.mk (0 : Int) (0 : Int) (ByteArray.mk #[]) false (0 : Int) (ByteArray.mk #[]) false false)).6
                                      nb).1.4]
                                   (152 : TypeId)),
                                  Ent.mk (Loc.sl ao cap)
                                   (SObj.vecL (149 : TypeId) 8 encR (rL t)
                                    (PR.mk (0 : Int) (0 : Int) (ByteArray.mk #[]) false (0 : Int) (ByteArray.mk #[]) false false))]
                                 l1
                                 (Ent.mk (Loc.sl ao' cap')
                                  (SObj.vecL (149 : TypeId) 8 encR
                                   (rL
                                    (pSpawn t_2 pid
                                     (List.getD (rL t) (Int.toNat (rLivesV t_1 pid))
                                      (PR.mk (0 : Int) (0 : Int) (ByteArray.mk #[]) false (0 : Int) (ByteArray.mk #[]) false false)).3
                                     (List.getD (rL t) (Int.toNat (rLivesV t_1 pid))
                                      (PR.mk (0 : Int) (0 : Int) (ByteArray.mk #[]) false (0 : Int) (ByteArray.mk #[]) false false)).6
                                     nb).1)
                                   (PR.mk (0 : Int) (0 : Int) (ByteArray.mk #[]) false (0 : Int) (ByteArray.mk #[]) false false))))
                                (SV.tuple
                                 [SV.int IntKind.i64
                                  (pSpawn t_2 pid
                                   (List.getD (rL t) (Int.toNat (rLivesV t_1 pid))
                                    (PR.mk (0 : Int) (0 : Int) (ByteArray.mk #[]) false (0 : Int) (ByteArray.mk #[]) false false)).3
                                   (List.getD (rL t) (Int.toNat (rLivesV t_1 pid))
                                    (PR.mk (0 : Int) (0 : Int) (ByteArray.mk #[]) false (0 : Int) (ByteArray.mk #[]) false false)).6
                                   nb).2.1,
                                  SV.int IntKind.i64
                                   (pSpawn t_2 pid
                                    (List.getD (rL t) (Int.toNat (rLivesV t_1 pid))
                                     (PR.mk (0 : Int) (0 : Int) (ByteArray.mk #[]) false (0 : Int) (ByteArray.mk #[]) false false)).3
                                    (List.getD (rL t) (Int.toNat (rLivesV t_1 pid))
                                     (PR.mk (0 : Int) (0 : Int) (ByteArray.mk #[]) false (0 : Int) (ByteArray.mk #[]) false false)).6
                                    nb).2.2])) ∧
                  (ao = ao ∧ cap = cap ∧ List.length (rL t) = List.length (rL t) ∧ (0 : Int) ≤ rLivesV t_1 pid ∧ rLivesV t_1 pid < (↑(List.length (rL t)) : Int)) ∧
                   (Addr.blkD ao = Addr.blkD ao ∧ Addr.offD ao = Addr.offD ao ∧ 8 = 8 ∧ Int.toNat (rLivesV t_1 pid) < List.length (rL t)) ∧
                    (ao = ao ∧ cap = cap ∧ List.length (rL t) = List.length (rL t) ∧ (0 : Int) ≤ rLivesV t_1 pid ∧ rLivesV t_1 pid < (↑(List.length (rL t)) : Int)) ∧
                     (Addr.blkD ao = Addr.blkD ao ∧ Addr.offD ao = Addr.offD ao ∧ 8 = 8 ∧ Int.toNat (rLivesV t_1 pid) < List.length (rL t)) ∧
                      true = true ∧
                       ∃ (t_2 : PT),
                        ∃ (l1 : Nat),
                         ∃ (ao_2 : Option Addr),
                          ∃ (cap_2 : Nat),
                           some
                            (Ent.mk (Loc.blk b)
                             (SObj.cells [SV.vec 1 ao (List.length (rL t)) cap, SV.int IntKind.i64 t.3, SV.int IntKind.i64 t.4] (152 : TypeId))) =
                            some
                             (Ent.mk (Loc.blk b)
                              (SObj.cells [SV.vec l1 ao_2 (List.length (rL t_2)) cap_2, SV.int IntKind.i64 t_2.3, SV.int IntKind.i64 t_2.4] (152 : TypeId))) ∧
                            nth
                             [Ent.mk (Loc.blk b)
                              (SObj.cells [SV.vec 1 ao (List.length (rL t)) cap, SV.int IntKind.i64 t.3, SV.int IntKind.i64 t.4] (152 : TypeId)),
                              Ent.mk (Loc.sl ao cap)
                               (SObj.vecL (149 : TypeId) 8 encR (rL t)
                                (PR.mk (0 : Int) (0 : Int) (ByteArray.mk #[]) false (0 : Int) (ByteArray.mk #[]) false false))]
                             l1 =
                             some
                              (Ent.mk (Loc.sl ao_2 cap_2)
                               (SObj.vecL (149 : TypeId) 8 encR (rL t_2)
                                (PR.mk (0 : Int) (0 : Int) (ByteArray.mk #[]) false (0 : Int) (ByteArray.mk #[]) false false))) ∧
                             (Nat.beq 0 l1 = false ∧ pOk t_2) ∧
                              ∃ (nb : Nat),
                               ∀ (ao' : Option Addr) (cap' : Nat),
                                N
                                 (setN
                                  [Ent.mk (Loc.blk b)
                                   (SObj.cells
                                    [SV.vec l1 ao'
                                     (List.length
                                      (rL
                                       (pSpawn t_2 pid
                                        (List.getD (rL t) (Int.toNat (rLivesV t_1 pid))
                                         (PR.mk (0 : Int) (0 : Int) (ByteArray.mk #[]) false (0 : Int) (ByteArray.mk #[]) false false)).3
                                        (List.getD (rL t) (Int.toNat (rLivesV t_1 pid))
                                         (PR.mk (0 : Int) (0 : Int) (ByteArray.mk #[]) false (0 : Int) (ByteArray.mk #[]) false false)).6
                                        nb).1))
                                     cap',
                                     SV.int IntKind.i64
                                      (pSpawn t_2 pid
                                       (List.getD (rL t) (Int.toNat (rLivesV t_1 pid))
                                        (PR.mk (0 : Int) (0 : Int) (ByteArray.mk #[]) false (0 : Int) (ByteArray.mk #[]) false false)).3
                                       (List.getD (rL t) (Int.toNat (rLivesV t_1 pid))
                                        (PR.mk (0 : Int) (0 : Int) (ByteArray.mk #[]) false (0 : Int) (ByteArray.mk #[]) false false)).6
                                       nb).1.3,
                                     SV.int IntKind.i64
                                      (pSpawn t_2 pid
                                       (List.getD (rL t) (Int.toNat (rLivesV t_1 pid))
                                        (PR.mk (0 : Int) (0 : Int) (ByteArray.mk #[]) false (0 : Int) (ByteArray.mk #[]) false false)).3
                                       (List.getD (rL t) (Int.toNat (rLivesV t_1 pid))
                                        (PR.mk (0 : Int) (0 : Int) (ByteArray.mk #[]) false (0 : Int) (ByteArray.mk #[]) false false)).6
                                       nb).1.4]
                                    (152 : TypeId)),
                                   Ent.mk (Loc.sl ao cap)
                                    (SObj.vecL (149 : TypeId) 8 encR (rL t)
                                     (PR.mk (0 : Int) (0 : Int) (ByteArray.mk #[]) false (0 : Int) (ByteArray.mk #[]) false false))]
                                  l1
                                  (Ent.mk (Loc.sl ao' cap')
                                   (SObj.vecL (149 : TypeId) 8 encR
                                    (rL
                                     (pSpawn t_2 pid
                                      (List.getD (rL t) (Int.toNat (rLivesV t_1 pid))
                                       (PR.mk (0 : Int) (0 : Int) (ByteArray.mk #[]) false (0 : Int) (ByteArray.mk #[]) false false)).3
                                      (List.getD (rL t) (Int.toNat (rLivesV t_1 pid))
                                       (PR.mk (0 : Int) (0 : Int) (ByteArray.mk #[]) false (0 : Int) (ByteArray.mk #[]) false false)).6
                                      nb).1)
                                    (PR.mk (0 : Int) (0 : Int) (ByteArray.mk #[]) false (0 : Int) (ByteArray.mk #[]) false false))))
                                 (SV.tuple
                                  [SV.int IntKind.i64
                                   (pSpawn t_2 pid
                                    (List.getD (rL t) (Int.toNat (rLivesV t_1 pid))
                                     (PR.mk (0 : Int) (0 : Int) (ByteArray.mk #[]) false (0 : Int) (ByteArray.mk #[]) false false)).3
                                    (List.getD (rL t) (Int.toNat (rLivesV t_1 pid))
                                     (PR.mk (0 : Int) (0 : Int) (ByteArray.mk #[]) false (0 : Int) (ByteArray.mk #[]) false false)).6
                                    nb).2.1,
                                   SV.int IntKind.i64
                                    (pSpawn t_2 pid
                                     (List.getD (rL t) (Int.toNat (rLivesV t_1 pid))
                                      (PR.mk (0 : Int) (0 : Int) (ByteArray.mk #[]) false (0 : Int) (ByteArray.mk #[]) false false)).3
                                     (List.getD (rL t) (Int.toNat (rLivesV t_1 pid))
                                      (PR.mk (0 : Int) (0 : Int) (ByteArray.mk #[]) false (0 : Int) (ByteArray.mk #[]) false false)).6
                                     nb).2.2])) ∧
               b = b ∧
                (b = b ∧
                 ((ao = ao ∧ cap = cap ∧ List.length (rL t) = List.length (rL t) ∧ (0 : Int) ≤ rLivesV t_1 pid ∧ rLivesV t_1 pid < (↑(List.length (rL t)) : Int)) ∧
                  (Addr.blkD ao = Addr.blkD ao ∧ Addr.offD ao = Addr.offD ao ∧ 8 = 8 ∧ Int.toNat (rLivesV t_1 pid) < List.length (rL t)) ∧
                   (ao = ao ∧ cap = cap ∧ List.length (rL t) = List.length (rL t) ∧ (0 : Int) ≤ rLivesV t_1 pid ∧ rLivesV t_1 pid < (↑(List.length (rL t)) : Int)) ∧
                    (Addr.blkD ao = Addr.blkD ao ∧ Addr.offD ao = Addr.offD ao ∧ 8 = 8 ∧ Int.toNat (rLivesV t_1 pid) < List.length (rL t)) ∧
                     true = true ∧
                      ∃ (t_2 : PT),
                       ∃ (l1 : Nat),
                        ∃ (ao_2 : Option Addr),
                         ∃ (cap_2 : Nat),
                          some
                           (Ent.mk (Loc.blk b)
                            (SObj.cells [SV.vec 1 ao (List.length (rL t)) cap, SV.int IntKind.i64 t.3, SV.int IntKind.i64 t.4] (152 : TypeId))) =
                           some
                            (Ent.mk (Loc.blk b)
                             (SObj.cells [SV.vec l1 ao_2 (List.length (rL t_2)) cap_2, SV.int IntKind.i64 t_2.3, SV.int IntKind.i64 t_2.4] (152 : TypeId))) ∧
                           nth
                            [Ent.mk (Loc.blk b)
                             (SObj.cells [SV.vec 1 ao (List.length (rL t)) cap, SV.int IntKind.i64 t.3, SV.int IntKind.i64 t.4] (152 : TypeId)),
                             Ent.mk (Loc.sl ao cap)
                              (SObj.vecL (149 : TypeId) 8 encR (rL t)
                               (PR.mk (0 : Int) (0 : Int) (ByteArray.mk #[]) false (0 : Int) (ByteArray.mk #[]) false false))]
                            l1 =
                            some
                             (Ent.mk (Loc.sl ao_2 cap_2)
                              (SObj.vecL (149 : TypeId) 8 encR (rL t_2)
                               (PR.mk (0 : Int) (0 : Int) (ByteArray.mk #[]) false (0 : Int) (ByteArray.mk #[]) false false))) ∧
                            (Nat.beq 0 l1 = false ∧ pOk t_2) ∧
                             ∃ (nb : Nat),
                              ∀ (ao' : Option Addr) (cap' : Nat),
                               N
                                (setN
                                 [Ent.mk (Loc.blk b)
                                  (SObj.cells
                                   [SV.vec l1 ao'
                                    (List.length
                                     (rL
                                      (pSpawn t_2 pid
                                       (List.getD (rL t) (Int.toNat (rLivesV t_1 pid))
                                        (PR.mk (0 : Int) (0 : Int) (ByteArray.mk #[]) false (0 : Int) (ByteArray.mk #[]) false false)).3
                                       (List.getD (rL t) (Int.toNat (rLivesV t_1 pid))
                                        (PR.mk (0 : Int) (0 : Int) (ByteArray.mk #[]) false (0 : Int) (ByteArray.mk #[]) false false)).6
                                       nb).1))
                                    cap',
                                    SV.int IntKind.i64
                                     (pSpawn t_2 pid
                                      (List.getD (rL t) (Int.toNat (rLivesV t_1 pid))
                                       (PR.mk (0 : Int) (0 : Int) (ByteArray.mk #[]) false (0 : Int) (ByteArray.mk #[]) false false)).3
                                      (List.getD (rL t) (Int.toNat (rLivesV t_1 pid))
                                       (PR.mk (0 : Int) (0 : Int) (ByteArray.mk #[]) false (0 : Int) (ByteArray.mk #[]) false false)).6
                                      nb).1.3,
                                    SV.int IntKind.i64
                                     (pSpawn t_2 pid
                                      (List.getD (rL t) (Int.toNat (rLivesV t_1 pid))
                                       (PR.mk (0 : Int) (0 : Int) (ByteArray.mk #[]) false (0 : Int) (ByteArray.mk #[]) false false)).3
                                      (List.getD (rL t) (Int.toNat (rLivesV t_1 pid))
                                       (PR.mk (0 : Int) (0 : Int) (ByteArray.mk #[]) false (0 : Int) (ByteArray.mk #[]) false false)).6
                                      nb).1.4]
                                   (152 : TypeId)),
                                  Ent.mk (Loc.sl ao cap)
                                   (SObj.vecL (149 : TypeId) 8 encR (rL t)
                                    (PR.mk (0 : Int) (0 : Int) (ByteArray.mk #[]) false (0 : Int) (ByteArray.mk #[]) false false))]
                                 l1
                                 (Ent.mk (Loc.sl ao' cap')
                                  (SObj.vecL (149 : TypeId) 8 encR
                                   (rL
                                    (pSpawn t_2 pid
                                     (List.getD (rL t) (Int.toNat (rLivesV t_1 pid))
                                      (PR.mk (0 : Int) (0 : Int) (ByteArray.mk #[]) false (0 : Int) (ByteArray.mk #[]) false false)).3
                                     (List.getD (rL t) (Int.toNat (rLivesV t_1 pid))
                                      (PR.mk (0 : Int) (0 : Int) (ByteArray.mk #[]) false (0 : Int) (ByteArray.mk #[]) false false)).6
                                     nb).1)
                                   (PR.mk (0 : Int) (0 : Int) (ByteArray.mk #[]) false (0 : Int) (ByteArray.mk #[]) false false))))
                                (SV.tuple
                                 [SV.int IntKind.i64
                                  (pSpawn t_2 pid
                                   (List.getD (rL t) (Int.toNat (rLivesV t_1 pid))
                                    (PR.mk (0 : Int) (0 : Int) (ByteArray.mk #[]) false (0 : Int) (ByteArray.mk #[]) false false)).3
                                   (List.getD (rL t) (Int.toNat (rLivesV t_1 pid))
                                    (PR.mk (0 : Int) (0 : Int) (ByteArray.mk #[]) false (0 : Int) (ByteArray.mk #[]) false false)).6
                                   nb).2.1,
                                  SV.int IntKind.i64
                                   (pSpawn t_2 pid
                                    (List.getD (rL t) (Int.toNat (rLivesV t_1 pid))
                                     (PR.mk (0 : Int) (0 : Int) (ByteArray.mk #[]) false (0 : Int) (ByteArray.mk #[]) false false)).3
                                    (List.getD (rL t) (Int.toNat (rLivesV t_1 pid))
                                     (PR.mk (0 : Int) (0 : Int) (ByteArray.mk #[]) false (0 : Int) (ByteArray.mk #[]) false false)).6
                                    nb).2.2])) ∧
                  (ao = ao ∧ cap = cap ∧ List.length (rL t) = List.length (rL t) ∧ (0 : Int) ≤ rLivesV t_1 pid ∧ rLivesV t_1 pid < (↑(List.length (rL t)) : Int)) ∧
                   (Addr.blkD ao = Addr.blkD ao ∧ Addr.offD ao = Addr.offD ao ∧ 8 = 8 ∧ Int.toNat (rLivesV t_1 pid) < List.length (rL t)) ∧
                    (ao = ao ∧ cap = cap ∧ List.length (rL t) = List.length (rL t) ∧ (0 : Int) ≤ rLivesV t_1 pid ∧ rLivesV t_1 pid < (↑(List.length (rL t)) : Int)) ∧
                     (Addr.blkD ao = Addr.blkD ao ∧ Addr.offD ao = Addr.offD ao ∧ 8 = 8 ∧ Int.toNat (rLivesV t_1 pid) < List.length (rL t)) ∧
                      true = true ∧
                       ∃ (t_2 : PT),
                        ∃ (l1 : Nat),
                         ∃ (ao_2 : Option Addr),
                          ∃ (cap_2 : Nat),
                           some
                            (Ent.mk (Loc.blk b)
                             (SObj.cells [SV.vec 1 ao (List.length (rL t)) cap, SV.int IntKind.i64 t.3, SV.int IntKind.i64 t.4] (152 : TypeId))) =
                            some
                             (Ent.mk (Loc.blk b)
                              (SObj.cells [SV.vec l1 ao_2 (List.length (rL t_2)) cap_2, SV.int IntKind.i64 t_2.3, SV.int IntKind.i64 t_2.4] (152 : TypeId))) ∧
                            nth
                             [Ent.mk (Loc.blk b)
                              (SObj.cells [SV.vec 1 ao (List.length (rL t)) cap, SV.int IntKind.i64 t.3, SV.int IntKind.i64 t.4] (152 : TypeId)),
                              Ent.mk (Loc.sl ao cap)
                               (SObj.vecL (149 : TypeId) 8 encR (rL t)
                                (PR.mk (0 : Int) (0 : Int) (ByteArray.mk #[]) false (0 : Int) (ByteArray.mk #[]) false false))]
                             l1 =
                             some
                              (Ent.mk (Loc.sl ao_2 cap_2)
                               (SObj.vecL (149 : TypeId) 8 encR (rL t_2)
                                (PR.mk (0 : Int) (0 : Int) (ByteArray.mk #[]) false (0 : Int) (ByteArray.mk #[]) false false))) ∧
                             (Nat.beq 0 l1 = false ∧ pOk t_2) ∧
                              ∃ (nb : Nat),
                               ∀ (ao' : Option Addr) (cap' : Nat),
                                N
                                 (setN
                                  [Ent.mk (Loc.blk b)
                                   (SObj.cells
                                    [SV.vec l1 ao'
                                     (List.length
                                      (rL
                                       (pSpawn t_2 pid
                                        (List.getD (rL t) (Int.toNat (rLivesV t_1 pid))
                                         (PR.mk (0 : Int) (0 : Int) (ByteArray.mk #[]) false (0 : Int) (ByteArray.mk #[]) false false)).3
                                        (List.getD (rL t) (Int.toNat (rLivesV t_1 pid))
                                         (PR.mk (0 : Int) (0 : Int) (ByteArray.mk #[]) false (0 : Int) (ByteArray.mk #[]) false false)).6
                                        nb).1))
                                     cap',
                                     SV.int IntKind.i64
                                      (pSpawn t_2 pid
                                       (List.getD (rL t) (Int.toNat (rLivesV t_1 pid))
                                        (PR.mk (0 : Int) (0 : Int) (ByteArray.mk #[]) false (0 : Int) (ByteArray.mk #[]) false false)).3
                                       (List.getD (rL t) (Int.toNat (rLivesV t_1 pid))
                                        (PR.mk (0 : Int) (0 : Int) (ByteArray.mk #[]) false (0 : Int) (ByteArray.mk #[]) false false)).6
                                       nb).1.3,
                                     SV.int IntKind.i64
                                      (pSpawn t_2 pid
                                       (List.getD (rL t) (Int.toNat (rLivesV t_1 pid))
                                        (PR.mk (0 : Int) (0 : Int) (ByteArray.mk #[]) false (0 : Int) (ByteArray.mk #[]) false false)).3
                                       (List.getD (rL t) (Int.toNat (rLivesV t_1 pid))
                                        (PR.mk (0 : Int) (0 : Int) (ByteArray.mk #[]) false (0 : Int) (ByteArray.mk #[]) false false)).6
                                       nb).1.4]
                                    (152 : TypeId)),
                                   Ent.mk (Loc.sl ao cap)
                                    (SObj.vecL (149 : TypeId) 8 encR (rL t)
                                     (PR.mk (0 : Int) (0 : Int) (ByteArray.mk #[]) false (0 : Int) (ByteArray.mk #[]) false false))]
                                  l1
                                  (Ent.mk (Loc.sl ao' cap')
                                   (SObj.vecL (149 : TypeId) 8 encR
                                    (rL
                                     (pSpawn t_2 pid
                                      (List.getD (rL t) (Int.toNat (rLivesV t_1 pid))
                                       (PR.mk (0 : Int) (0 : Int) (ByteArray.mk #[]) false (0 : Int) (ByteArray.mk #[]) false false)).3
                                      (List.getD (rL t) (Int.toNat (rLivesV t_1 pid))
                                       (PR.mk (0 : Int) (0 : Int) (ByteArray.mk #[]) false (0 : Int) (ByteArray.mk #[]) false false)).6
                                      nb).1)
                                    (PR.mk (0 : Int) (0 : Int) (ByteArray.mk #[]) false (0 : Int) (ByteArray.mk #[]) false false))))
                                 (SV.tuple
                                  [SV.int IntKind.i64
                                   (pSpawn t_2 pid
                                    (List.getD (rL t) (Int.toNat (rLivesV t_1 pid))
                                     (PR.mk (0 : Int) (0 : Int) (ByteArray.mk #[]) false (0 : Int) (ByteArray.mk #[]) false false)).3
                                    (List.getD (rL t) (Int.toNat (rLivesV t_1 pid))
                                     (PR.mk (0 : Int) (0 : Int) (ByteArray.mk #[]) false (0 : Int) (ByteArray.mk #[]) false false)).6
                                    nb).2.1,
                                   SV.int IntKind.i64
                                    (pSpawn t_2 pid
                                     (List.getD (rL t) (Int.toNat (rLivesV t_1 pid))
                                      (PR.mk (0 : Int) (0 : Int) (ByteArray.mk #[]) false (0 : Int) (ByteArray.mk #[]) false false)).3
                                     (List.getD (rL t) (Int.toNat (rLivesV t_1 pid))
                                      (PR.mk (0 : Int) (0 : Int) (ByteArray.mk #[]) false (0 : Int) (ByteArray.mk #[]) false false)).6
                                     nb).2.2])) ∧
                 (ao = ao ∧ cap = cap ∧ List.length (rL t) = List.length (rL t) ∧ (0 : Int) ≤ rLivesV t_1 pid ∧ rLivesV t_1 pid < (↑(List.length (rL t)) : Int)) ∧
                  (Addr.blkD ao = Addr.blkD ao ∧ Addr.offD ao = Addr.offD ao ∧ 8 = 8 ∧ Int.toNat (rLivesV t_1 pid) < List.length (rL t)) ∧
                   b = b ∧
                    (ao = ao ∧ cap = cap ∧ List.length (rL t) = List.length (rL t) ∧ (0 : Int) ≤ rLivesV t_1 pid ∧ rLivesV t_1 pid < (↑(List.length (rL t)) : Int)) ∧
                     (Addr.blkD ao = Addr.blkD ao ∧ Addr.offD ao = Addr.offD ao ∧ 8 = 8 ∧ Int.toNat (rLivesV t_1 pid) < List.length (rL t)) ∧
                      true = true ∧
                       ∃ (t_2 : PT),
                        ∃ (l1 : Nat),
                         ∃ (ao_2 : Option Addr),
                          ∃ (cap_2 : Nat),
                           some
                            (Ent.mk (Loc.blk b)
                             (SObj.cells [SV.vec 1 ao (List.length (rL t)) cap, SV.int IntKind.i64 t.3, SV.int IntKind.i64 t.4] (152 : TypeId))) =
                            some
                             (Ent.mk (Loc.blk b)
                              (SObj.cells [SV.vec l1 ao_2 (List.length (rL t_2)) cap_2, SV.int IntKind.i64 t_2.3, SV.int IntKind.i64 t_2.4] (152 : TypeId))) ∧
                            nth
                             [Ent.mk (Loc.blk b)
                              (SObj.cells [SV.vec 1 ao (List.length (rL t)) cap, SV.int IntKind.i64 t.3, SV.int IntKind.i64 t.4] (152 : TypeId)),
                              Ent.mk (Loc.sl ao cap)
                               (SObj.vecL (149 : TypeId) 8 encR (rL t)
                                (PR.mk (0 : Int) (0 : Int) (ByteArray.mk #[]) false (0 : Int) (ByteArray.mk #[]) false false))]
                             l1 =
                             some
                              (Ent.mk (Loc.sl ao_2 cap_2)
                               (SObj.vecL (149 : TypeId) 8 encR (rL t_2)
                                (PR.mk (0 : Int) (0 : Int) (ByteArray.mk #[]) false (0 : Int) (ByteArray.mk #[]) false false))) ∧
                             (Nat.beq 0 l1 = false ∧ pOk t_2) ∧
                              ∃ (nb : Nat),
                               ∀ (ao' : Option Addr) (cap' : Nat),
                                N
                                 (setN
                                  [Ent.mk (Loc.blk b)
                                   (SObj.cells
                                    [SV.vec l1 ao'
                                     (List.length
                                      (rL
                                       (pSpawn t_2 pid
                                        (List.getD (rL t) (Int.toNat (rLivesV t_1 pid))
                                         (PR.mk (0 : Int) (0 : Int) (ByteArray.mk #[]) false (0 : Int) (ByteArray.mk #[]) false false)).3
                                        (List.getD (rL t) (Int.toNat (rLivesV t_1 pid))
                                         (PR.mk (0 : Int) (0 : Int) (ByteArray.mk #[]) false (0 : Int) (ByteArray.mk #[]) false false)).6
                                        nb).1))
                                     cap',
                                     SV.int IntKind.i64
                                      (pSpawn t_2 pid
                                       (List.getD (rL t) (Int.toNat (rLivesV t_1 pid))
                                        (PR.mk (0 : Int) (0 : Int) (ByteArray.mk #[]) false (0 : Int) (ByteArray.mk #[]) false false)).3
                                       (List.getD (rL t) (Int.toNat (rLivesV t_1 pid))
                                        (PR.mk (0 : Int) (0 : Int) (ByteArray.mk #[]) false (0 : Int) (ByteArray.mk #[]) false false)).6
                                       nb).1.3,
                                     SV.int IntKind.i64
                                      (pSpawn t_2 pid
                                       (List.getD (rL t) (Int.toNat (rLivesV t_1 pid))
                                        (PR.mk (0 : Int) (0 : Int) (ByteArray.mk #[]) false (0 : Int) (ByteArray.mk #[]) false false)).3
                                       (List.getD (rL t) (Int.toNat (rLivesV t_1 pid))
                                        (PR.mk (0 : Int) (0 : Int) (ByteArray.mk #[]) false (0 : Int) (ByteArray.mk #[]) false false)).6
                                       nb).1.4]
                                    (152 : TypeId)),
                                   Ent.mk (Loc.sl ao cap)
                                    (SObj.vecL (149 : TypeId) 8 encR (rL t)
                                     (PR.mk (0 : Int) (0 : Int) (ByteArray.mk #[]) false (0 : Int) (ByteArray.mk #[]) false false))]
                                  l1
                                  (Ent.mk (Loc.sl ao' cap')
                                   (SObj.vecL (149 : TypeId) 8 encR
                                    (rL
                                     (pSpawn t_2 pid
                                      (List.getD (rL t) (Int.toNat (rLivesV t_1 pid))
                                       (PR.mk (0 : Int) (0 : Int) (ByteArray.mk #[]) false (0 : Int) (ByteArray.mk #[]) false false)).3
                                      (List.getD (rL t) (Int.toNat (rLivesV t_1 pid))
                                       (PR.mk (0 : Int) (0 : Int) (ByteArray.mk #[]) false (0 : Int) (ByteArray.mk #[]) false false)).6
                                      nb).1)
                                    (PR.mk (0 : Int) (0 : Int) (ByteArray.mk #[]) false (0 : Int) (ByteArray.mk #[]) false false))))
                                 (SV.tuple
                                  [SV.int IntKind.i64
                                   (pSpawn t_2 pid
                                    (List.getD (rL t) (Int.toNat (rLivesV t_1 pid))
                                     (PR.mk (0 : Int) (0 : Int) (ByteArray.mk #[]) false (0 : Int) (ByteArray.mk #[]) false false)).3
                                    (List.getD (rL t) (Int.toNat (rLivesV t_1 pid))
                                     (PR.mk (0 : Int) (0 : Int) (ByteArray.mk #[]) false (0 : Int) (ByteArray.mk #[]) false false)).6
                                    nb).2.1,
                                   SV.int IntKind.i64
                                    (pSpawn t_2 pid
                                     (List.getD (rL t) (Int.toNat (rLivesV t_1 pid))
                                      (PR.mk (0 : Int) (0 : Int) (ByteArray.mk #[]) false (0 : Int) (ByteArray.mk #[]) false false)).3
                                     (List.getD (rL t) (Int.toNat (rLivesV t_1 pid))
                                      (PR.mk (0 : Int) (0 : Int) (ByteArray.mk #[]) false (0 : Int) (ByteArray.mk #[]) false false)).6
                                     nb).2.2])) := by kernel_rfl


theorem rt_exit (K : List Frm → Sy → Prop) (N : List Ent → SV → Prop) (t : PT) (b : Nat) (ao : Option Addr) (cap : Nat) (pid status : Int) : (run Try.prog rtLv false [] K (retP Try.prog Try.f40.results.toList N) 900 [.code (bodyOf Try.f40)] ⟨padTo 69 [.ptr 0 b 0, .int .i64 pid, .int .i64 status], [⟨.blk b, .cells [.vec 1 ao (rL t).length cap, .int .i64 t.room, .int .i64 t.last] 152⟩, ⟨.sl ao cap, .vecL 149 8 encR (rL t) PR.zero⟩]⟩) = (
true = true ∧
 ∃ (t_1 : PT),
  ∃ (l1 : Nat),
   ∃ (ao_1 : Option Addr),
    ∃ (cap_1 : Nat),
     some (Ent.mk (Loc.blk b) (SObj.cells [SV.vec 1 ao (List.length (rL t)) cap, SV.int IntKind.i64 t.3, SV.int IntKind.i64 t.4] (152 : TypeId))) =
      some (Ent.mk (Loc.blk b) (SObj.cells [SV.vec l1 ao_1 (List.length (rL t_1)) cap_1, SV.int IntKind.i64 t_1.3, SV.int IntKind.i64 t_1.4] (152 : TypeId))) ∧
      nth
       [Ent.mk (Loc.blk b) (SObj.cells [SV.vec 1 ao (List.length (rL t)) cap, SV.int IntKind.i64 t.3, SV.int IntKind.i64 t.4] (152 : TypeId)),
        Ent.mk (Loc.sl ao cap) (SObj.vecL (149 : TypeId) 8 encR (rL t) (PR.mk (0 : Int) (0 : Int) (ByteArray.mk #[]) false (0 : Int) (ByteArray.mk #[]) false false))]
       l1 =
       some (Ent.mk (Loc.sl ao_1 cap_1) (SObj.vecL (149 : TypeId) 8 encR (rL t_1) (PR.mk (0 : Int) (0 : Int) (ByteArray.mk #[]) false (0 : Int) (ByteArray.mk #[]) false false))) ∧
       (Nat.beq 0 l1 = false ∧ pOk t_1) ∧
        match decide (rLivesV t_1 pid < (0 : Int)) with
        | true =>
         N
          [Ent.mk (Loc.blk b) (SObj.cells [SV.vec 1 ao (List.length (rL t)) cap, SV.int IntKind.i64 t.3, SV.int IntKind.i64 t.4] (152 : TypeId)),
           Ent.mk (Loc.sl ao cap) (SObj.vecL (149 : TypeId) 8 encR (rL t) (PR.mk (0 : Int) (0 : Int) (ByteArray.mk #[]) false (0 : Int) (ByteArray.mk #[]) false false))]
          (SV.int IntKind.i64 (80 : Int))
        | false =>
         match pid == (1 : Int) with
         | true =>
          N
           [Ent.mk (Loc.blk b) (SObj.cells [SV.vec 1 ao (List.length (rL t)) cap, SV.int IntKind.i64 t.3, SV.int IntKind.i64 t.4] (152 : TypeId)),
            Ent.mk (Loc.sl ao cap) (SObj.vecL (149 : TypeId) 8 encR (rL t) (PR.mk (0 : Int) (0 : Int) (ByteArray.mk #[]) false (0 : Int) (ByteArray.mk #[]) false false))]
           (SV.int IntKind.i64 (80 : Int))
         | false =>
          match decide (status < (-64 : Int)) with
          | true =>
           b = b ∧
            b = b ∧
             (ao = ao ∧ cap = cap ∧ List.length (rL t) = List.length (rL t) ∧ (0 : Int) ≤ rLivesV t_1 pid ∧ rLivesV t_1 pid < (↑(List.length (rL t)) : Int)) ∧
              (Addr.blkD ao = Addr.blkD ao ∧
               Addr.offD ao = Addr.offD ao ∧ 8 = 8 ∧ Int.toNat (rLivesV t_1 pid) < List.length (rL t) ∧ true = true ∧ 1 = 1 ∧ 4 ≤ 8) ∧
               ∃ (e : PR),
                [SV.int IntKind.i64 e.1, SV.int IntKind.i64 e.2, SV.str e.3, SV.bool e.4, SV.int IntKind.i64 e.5, SV.str e.6, SV.bool e.7, SV.bool e.8] =
                 [SV.int IntKind.i64
                  (List.getD (rL t) (Int.toNat (rLivesV t_1 pid)) (PR.mk (0 : Int) (0 : Int) (ByteArray.mk #[]) false (0 : Int) (ByteArray.mk #[]) false false)).1,
                  SV.int IntKind.i64
                   (List.getD (rL t) (Int.toNat (rLivesV t_1 pid)) (PR.mk (0 : Int) (0 : Int) (ByteArray.mk #[]) false (0 : Int) (ByteArray.mk #[]) false false)).2,
                  SV.str (List.getD (rL t) (Int.toNat (rLivesV t_1 pid)) (PR.mk (0 : Int) (0 : Int) (ByteArray.mk #[]) false (0 : Int) (ByteArray.mk #[]) false false)).3,
                  SV.bool true,
                  SV.int IntKind.i64
                   (List.getD (rL t) (Int.toNat (rLivesV t_1 pid)) (PR.mk (0 : Int) (0 : Int) (ByteArray.mk #[]) false (0 : Int) (ByteArray.mk #[]) false false)).5,
                  SV.str (List.getD (rL t) (Int.toNat (rLivesV t_1 pid)) (PR.mk (0 : Int) (0 : Int) (ByteArray.mk #[]) false (0 : Int) (ByteArray.mk #[]) false false)).6,
                  SV.bool (List.getD (rL t) (Int.toNat (rLivesV t_1 pid)) (PR.mk (0 : Int) (0 : Int) (ByteArray.mk #[]) false (0 : Int) (ByteArray.mk #[]) false false)).7,
                  SV.bool (List.getD (rL t) (Int.toNat (rLivesV t_1 pid)) (PR.mk (0 : Int) (0 : Int) (ByteArray.mk #[]) false (0 : Int) (ByteArray.mk #[]) false false)).8] ∧
                 (ao = ao ∧
                  cap = cap ∧
                   List.length (rL t) = List.length (List.set (rL t) (Int.toNat (rLivesV t_1 pid)) e) ∧
                    (0 : Int) ≤ rLivesV t_1 pid ∧ rLivesV t_1 pid < (↑(List.length (rL t)) : Int)) ∧
                  (Addr.blkD ao = Addr.blkD ao ∧
                   Addr.offD ao = Addr.offD ao ∧
                    8 = 8 ∧
                     Int.toNat (rLivesV t_1 pid) < List.length (List.set (rL t) (Int.toNat (rLivesV t_1 pid)) e) ∧ true = true ∧ 1 = 1 ∧ 5 ≤ 8) ∧
                   ∃ (e_1 : PR),
                    [SV.int IntKind.i64 e_1.1, SV.int IntKind.i64 e_1.2, SV.str e_1.3, SV.bool e_1.4, SV.int IntKind.i64 e_1.5, SV.str e_1.6, SV.bool e_1.7, SV.bool e_1.8] =
                     [SV.int IntKind.i64
                      (List.getD (List.set (rL t) (Int.toNat (rLivesV t_1 pid)) e) (Int.toNat (rLivesV t_1 pid))
                       (PR.mk (0 : Int) (0 : Int) (ByteArray.mk #[]) false (0 : Int) (ByteArray.mk #[]) false false)).1,
                      SV.int IntKind.i64
                       (List.getD (List.set (rL t) (Int.toNat (rLivesV t_1 pid)) e) (Int.toNat (rLivesV t_1 pid))
                        (PR.mk (0 : Int) (0 : Int) (ByteArray.mk #[]) false (0 : Int) (ByteArray.mk #[]) false false)).2,
                      SV.str
                       (List.getD (List.set (rL t) (Int.toNat (rLivesV t_1 pid)) e) (Int.toNat (rLivesV t_1 pid))
                        (PR.mk (0 : Int) (0 : Int) (ByteArray.mk #[]) false (0 : Int) (ByteArray.mk #[]) false false)).3,
                      SV.bool
                       (List.getD (List.set (rL t) (Int.toNat (rLivesV t_1 pid)) e) (Int.toNat (rLivesV t_1 pid))
                        (PR.mk (0 : Int) (0 : Int) (ByteArray.mk #[]) false (0 : Int) (ByteArray.mk #[]) false false)).4,
                      SV.int IntKind.i64 (255 : Int),
                      SV.str
                       (List.getD (List.set (rL t) (Int.toNat (rLivesV t_1 pid)) e) (Int.toNat (rLivesV t_1 pid))
                        (PR.mk (0 : Int) (0 : Int) (ByteArray.mk #[]) false (0 : Int) (ByteArray.mk #[]) false false)).6,
                      SV.bool
                       (List.getD (List.set (rL t) (Int.toNat (rLivesV t_1 pid)) e) (Int.toNat (rLivesV t_1 pid))
                        (PR.mk (0 : Int) (0 : Int) (ByteArray.mk #[]) false (0 : Int) (ByteArray.mk #[]) false false)).7,
                      SV.bool
                       (List.getD (List.set (rL t) (Int.toNat (rLivesV t_1 pid)) e) (Int.toNat (rLivesV t_1 pid))
                        (PR.mk (0 : Int) (0 : Int) (ByteArray.mk #[]) false (0 : Int) (ByteArray.mk #[]) false false)).8] ∧
                     K (frm [] (bodyOf Try.f40) [1, 1, 1, 1, 1, 0, 1, 0] [])
                      (Sy.mk (SV.ptr 0 b 0 :: (SV.int IntKind.i64 pid :: (SV.int IntKind.i64 (255 : Int) :: (rawE (SV.int IntKind.i64 (0 : Int) :: (SV.int IntKind.i64 (rLivesV t_1 pid) :: (SV.int IntKind.i64 (0 : Int) :: (SV.ptr 0 b 0 :: (SV.int IntKind.i64 pid :: (SV.int IntKind.i64 (rLivesV t_1 pid) :: (SV.int IntKind.i64 (rLivesV t_1 pid) :: (SV.bool (decide (rLivesV t_1 pid < (0 : Int))) :: (SV.bool false :: (SV.int IntKind.i64 pid :: ((SV.bool (pid == (1 : Int))) :: (SV.bool false :: (SV.int IntKind.i64 status :: (SV.bool (decide (status < (-64 : Int))) :: (SV.bool true :: (SV.raw (Value.tuple #[]) :: (SV.raw (Value.tuple #[]) :: (SV.bool true :: (SV.ptr 0 b 0 :: (SV.ptr 0 b 0 :: (SV.ptr 0 b 0 :: (SV.vec 1 ao (List.length (rL t)) cap :: (SV.int IntKind.i64 (rLivesV t_1 pid) :: (SV.ptr 0 b 0 :: (SV.ptr 0 b 0 :: (SV.ptr 0 b 0 :: (SV.vec 1 ao (List.length (rL t)) cap :: (SV.int IntKind.i64 (rLivesV t_1 pid) :: (SV.int IntKind.i64 (255 : Int) :: (SV.eptr 1 (Addr.blkD ao) (Addr.offD ao) 8 (Int.toNat (rLivesV t_1 pid)) 0 :: (SV.eptr 1 (Addr.blkD ao) (Addr.offD ao) 8 (Int.toNat (rLivesV t_1 pid)) 0 :: (SV.eptr 1 (Addr.blkD ao) (Addr.offD ao) 8 (Int.toNat (rLivesV t_1 pid)) 3 :: (SV.eptr 1 (Addr.blkD ao) (Addr.offD ao) 8 (Int.toNat (rLivesV t_1 pid)) 0 :: (SV.eptr 1 (Addr.blkD ao) (Addr.offD ao) 8 (Int.toNat (rLivesV t_1 pid)) 0 :: (SV.eptr 1 (Addr.blkD ao) (Addr.offD ao) 8 (Int.toNat (rLivesV t_1 pid)) 4 :: (rawE [] 28)))))))))))))))))))))))))))))))))))) 3))))
                       [Ent.mk (Loc.blk b) (SObj.cells [SV.vec 1 ao (List.length (rL t)) cap, SV.int IntKind.i64 t.3, SV.int IntKind.i64 t.4] (152 : TypeId)),
                        Ent.mk (Loc.sl ao cap)
                         (SObj.vecL (149 : TypeId) 8 encR (List.set (List.set (rL t) (Int.toNat (rLivesV t_1 pid)) e) (Int.toNat (rLivesV t_1 pid)) e_1)
                          (PR.mk (0 : Int) (0 : Int) (ByteArray.mk #[]) false (0 : Int) (ByteArray.mk #[]) false false))])
          | false =>
           match decide (status > (255 : Int)) with
           | true =>
            b = b ∧
             b = b ∧
              (ao = ao ∧ cap = cap ∧ List.length (rL t) = List.length (rL t) ∧ (0 : Int) ≤ rLivesV t_1 pid ∧ rLivesV t_1 pid < (↑(List.length (rL t)) : Int)) ∧
               (Addr.blkD ao = Addr.blkD ao ∧
                Addr.offD ao = Addr.offD ao ∧
                 8 = 8 ∧ Int.toNat (rLivesV t_1 pid) < List.length (rL t) ∧ true = true ∧ 1 = 1 ∧ 4 ≤ 8) ∧
                ∃ (e : PR),
                 [SV.int IntKind.i64 e.1, SV.int IntKind.i64 e.2, SV.str e.3, SV.bool e.4, SV.int IntKind.i64 e.5, SV.str e.6, SV.bool e.7, SV.bool e.8] =
                  [SV.int IntKind.i64
                   (List.getD (rL t) (Int.toNat (rLivesV t_1 pid)) (PR.mk (0 : Int) (0 : Int) (ByteArray.mk #[]) false (0 : Int) (ByteArray.mk #[]) false false)).1,
                   SV.int IntKind.i64
                    (List.getD (rL t) (Int.toNat (rLivesV t_1 pid)) (PR.mk (0 : Int) (0 : Int) (ByteArray.mk #[]) false (0 : Int) (ByteArray.mk #[]) false false)).2,
                   SV.str (List.getD (rL t) (Int.toNat (rLivesV t_1 pid)) (PR.mk (0 : Int) (0 : Int) (ByteArray.mk #[]) false (0 : Int) (ByteArray.mk #[]) false false)).3,
                   SV.bool true,
                   SV.int IntKind.i64
                    (List.getD (rL t) (Int.toNat (rLivesV t_1 pid)) (PR.mk (0 : Int) (0 : Int) (ByteArray.mk #[]) false (0 : Int) (ByteArray.mk #[]) false false)).5,
                   SV.str (List.getD (rL t) (Int.toNat (rLivesV t_1 pid)) (PR.mk (0 : Int) (0 : Int) (ByteArray.mk #[]) false (0 : Int) (ByteArray.mk #[]) false false)).6,
                   SV.bool (List.getD (rL t) (Int.toNat (rLivesV t_1 pid)) (PR.mk (0 : Int) (0 : Int) (ByteArray.mk #[]) false (0 : Int) (ByteArray.mk #[]) false false)).7,
                   SV.bool (List.getD (rL t) (Int.toNat (rLivesV t_1 pid)) (PR.mk (0 : Int) (0 : Int) (ByteArray.mk #[]) false (0 : Int) (ByteArray.mk #[]) false false)).8] ∧
                  (ao = ao ∧
                   cap = cap ∧
                    List.length (rL t) = List.length (List.set (rL t) (Int.toNat (rLivesV t_1 pid)) e) ∧
                     (0 : Int) ≤ rLivesV t_1 pid ∧ rLivesV t_1 pid < (↑(List.length (rL t)) : Int)) ∧
                   (Addr.blkD ao = Addr.blkD ao ∧
                    Addr.offD ao = Addr.offD ao ∧
                     8 = 8 ∧
                      Int.toNat (rLivesV t_1 pid) < List.length (List.set (rL t) (Int.toNat (rLivesV t_1 pid)) e) ∧
                       true = true ∧ 1 = 1 ∧ 5 ≤ 8) ∧
                    ∃ (e_1 : PR),
                     [SV.int IntKind.i64 e_1.1, SV.int IntKind.i64 e_1.2, SV.str e_1.3, SV.bool e_1.4, SV.int IntKind.i64 e_1.5, SV.str e_1.6, SV.bool e_1.7, SV.bool e_1.8] =
                      [SV.int IntKind.i64
                       (List.getD (List.set (rL t) (Int.toNat (rLivesV t_1 pid)) e) (Int.toNat (rLivesV t_1 pid))
                        (PR.mk (0 : Int) (0 : Int) (ByteArray.mk #[]) false (0 : Int) (ByteArray.mk #[]) false false)).1,
                       SV.int IntKind.i64
                        (List.getD (List.set (rL t) (Int.toNat (rLivesV t_1 pid)) e) (Int.toNat (rLivesV t_1 pid))
                         (PR.mk (0 : Int) (0 : Int) (ByteArray.mk #[]) false (0 : Int) (ByteArray.mk #[]) false false)).2,
                       SV.str
                        (List.getD (List.set (rL t) (Int.toNat (rLivesV t_1 pid)) e) (Int.toNat (rLivesV t_1 pid))
                         (PR.mk (0 : Int) (0 : Int) (ByteArray.mk #[]) false (0 : Int) (ByteArray.mk #[]) false false)).3,
                       SV.bool
                        (List.getD (List.set (rL t) (Int.toNat (rLivesV t_1 pid)) e) (Int.toNat (rLivesV t_1 pid))
                         (PR.mk (0 : Int) (0 : Int) (ByteArray.mk #[]) false (0 : Int) (ByteArray.mk #[]) false false)).4,
                       SV.int IntKind.i64 (255 : Int),
                       SV.str
                        (List.getD (List.set (rL t) (Int.toNat (rLivesV t_1 pid)) e) (Int.toNat (rLivesV t_1 pid))
                         (PR.mk (0 : Int) (0 : Int) (ByteArray.mk #[]) false (0 : Int) (ByteArray.mk #[]) false false)).6,
                       SV.bool
                        (List.getD (List.set (rL t) (Int.toNat (rLivesV t_1 pid)) e) (Int.toNat (rLivesV t_1 pid))
                         (PR.mk (0 : Int) (0 : Int) (ByteArray.mk #[]) false (0 : Int) (ByteArray.mk #[]) false false)).7,
                       SV.bool
                        (List.getD (List.set (rL t) (Int.toNat (rLivesV t_1 pid)) e) (Int.toNat (rLivesV t_1 pid))
                         (PR.mk (0 : Int) (0 : Int) (ByteArray.mk #[]) false (0 : Int) (ByteArray.mk #[]) false false)).8] ∧
                      K (frm [] (bodyOf Try.f40) [1, 1, 1, 1, 1, 0, 1, 0] [])
                       (Sy.mk (SV.ptr 0 b 0 :: (SV.int IntKind.i64 pid :: (SV.int IntKind.i64 (255 : Int) :: (rawE (SV.int IntKind.i64 (0 : Int) :: (SV.int IntKind.i64 (rLivesV t_1 pid) :: (SV.int IntKind.i64 (0 : Int) :: (SV.ptr 0 b 0 :: (SV.int IntKind.i64 pid :: (SV.int IntKind.i64 (rLivesV t_1 pid) :: (SV.int IntKind.i64 (rLivesV t_1 pid) :: (SV.bool (decide (rLivesV t_1 pid < (0 : Int))) :: (SV.bool false :: (SV.int IntKind.i64 pid :: ((SV.bool (pid == (1 : Int))) :: (SV.bool false :: (SV.int IntKind.i64 status :: (SV.bool (decide (status < (-64 : Int))) :: (SV.bool false :: (SV.int IntKind.i64 status :: (SV.bool (decide (status > (255 : Int))) :: (SV.bool true :: (SV.ptr 0 b 0 :: (SV.ptr 0 b 0 :: (SV.ptr 0 b 0 :: (SV.vec 1 ao (List.length (rL t)) cap :: (SV.int IntKind.i64 (rLivesV t_1 pid) :: (SV.ptr 0 b 0 :: (SV.ptr 0 b 0 :: (SV.ptr 0 b 0 :: (SV.vec 1 ao (List.length (rL t)) cap :: (SV.int IntKind.i64 (rLivesV t_1 pid) :: (SV.int IntKind.i64 (255 : Int) :: (SV.eptr 1 (Addr.blkD ao) (Addr.offD ao) 8 (Int.toNat (rLivesV t_1 pid)) 0 :: (SV.eptr 1 (Addr.blkD ao) (Addr.offD ao) 8 (Int.toNat (rLivesV t_1 pid)) 0 :: (SV.eptr 1 (Addr.blkD ao) (Addr.offD ao) 8 (Int.toNat (rLivesV t_1 pid)) 3 :: (SV.eptr 1 (Addr.blkD ao) (Addr.offD ao) 8 (Int.toNat (rLivesV t_1 pid)) 0 :: (SV.eptr 1 (Addr.blkD ao) (Addr.offD ao) 8 (Int.toNat (rLivesV t_1 pid)) 0 :: (SV.eptr 1 (Addr.blkD ao) (Addr.offD ao) 8 (Int.toNat (rLivesV t_1 pid)) 4 :: (rawE [] 28)))))))))))))))))))))))))))))))))))) 3))))
                        [Ent.mk (Loc.blk b) (SObj.cells [SV.vec 1 ao (List.length (rL t)) cap, SV.int IntKind.i64 t.3, SV.int IntKind.i64 t.4] (152 : TypeId)),
                         Ent.mk (Loc.sl ao cap)
                          (SObj.vecL (149 : TypeId) 8 encR (List.set (List.set (rL t) (Int.toNat (rLivesV t_1 pid)) e) (Int.toNat (rLivesV t_1 pid)) e_1)
                           (PR.mk (0 : Int) (0 : Int) (ByteArray.mk #[]) false (0 : Int) (ByteArray.mk #[]) false false))])
           | false =>
            b = b ∧
             b = b ∧
              (ao = ao ∧ cap = cap ∧ List.length (rL t) = List.length (rL t) ∧ (0 : Int) ≤ rLivesV t_1 pid ∧ rLivesV t_1 pid < (↑(List.length (rL t)) : Int)) ∧
               (Addr.blkD ao = Addr.blkD ao ∧
                Addr.offD ao = Addr.offD ao ∧
                 8 = 8 ∧ Int.toNat (rLivesV t_1 pid) < List.length (rL t) ∧ true = true ∧ 1 = 1 ∧ 4 ≤ 8) ∧
                ∃ (e : PR),
                 [SV.int IntKind.i64 e.1, SV.int IntKind.i64 e.2, SV.str e.3, SV.bool e.4, SV.int IntKind.i64 e.5, SV.str e.6, SV.bool e.7, SV.bool e.8] =
                  [SV.int IntKind.i64
                   (List.getD (rL t) (Int.toNat (rLivesV t_1 pid)) (PR.mk (0 : Int) (0 : Int) (ByteArray.mk #[]) false (0 : Int) (ByteArray.mk #[]) false false)).1,
                   SV.int IntKind.i64
                    (List.getD (rL t) (Int.toNat (rLivesV t_1 pid)) (PR.mk (0 : Int) (0 : Int) (ByteArray.mk #[]) false (0 : Int) (ByteArray.mk #[]) false false)).2,
                   SV.str (List.getD (rL t) (Int.toNat (rLivesV t_1 pid)) (PR.mk (0 : Int) (0 : Int) (ByteArray.mk #[]) false (0 : Int) (ByteArray.mk #[]) false false)).3,
                   SV.bool true,
                   SV.int IntKind.i64
                    (List.getD (rL t) (Int.toNat (rLivesV t_1 pid)) (PR.mk (0 : Int) (0 : Int) (ByteArray.mk #[]) false (0 : Int) (ByteArray.mk #[]) false false)).5,
                   SV.str (List.getD (rL t) (Int.toNat (rLivesV t_1 pid)) (PR.mk (0 : Int) (0 : Int) (ByteArray.mk #[]) false (0 : Int) (ByteArray.mk #[]) false false)).6,
                   SV.bool (List.getD (rL t) (Int.toNat (rLivesV t_1 pid)) (PR.mk (0 : Int) (0 : Int) (ByteArray.mk #[]) false (0 : Int) (ByteArray.mk #[]) false false)).7,
                   SV.bool (List.getD (rL t) (Int.toNat (rLivesV t_1 pid)) (PR.mk (0 : Int) (0 : Int) (ByteArray.mk #[]) false (0 : Int) (ByteArray.mk #[]) false false)).8] ∧
                  (ao = ao ∧
                   cap = cap ∧
                    List.length (rL t) = List.length (List.set (rL t) (Int.toNat (rLivesV t_1 pid)) e) ∧
                     (0 : Int) ≤ rLivesV t_1 pid ∧ rLivesV t_1 pid < (↑(List.length (rL t)) : Int)) ∧
                   (Addr.blkD ao = Addr.blkD ao ∧
                    Addr.offD ao = Addr.offD ao ∧
                     8 = 8 ∧
                      Int.toNat (rLivesV t_1 pid) < List.length (List.set (rL t) (Int.toNat (rLivesV t_1 pid)) e) ∧
                       true = true ∧ 1 = 1 ∧ 5 ≤ 8) ∧
                    ∃ (e_1 : PR),
                     [SV.int IntKind.i64 e_1.1, SV.int IntKind.i64 e_1.2, SV.str e_1.3, SV.bool e_1.4, SV.int IntKind.i64 e_1.5, SV.str e_1.6, SV.bool e_1.7, SV.bool e_1.8] =
                      [SV.int IntKind.i64
                       (List.getD (List.set (rL t) (Int.toNat (rLivesV t_1 pid)) e) (Int.toNat (rLivesV t_1 pid))
                        (PR.mk (0 : Int) (0 : Int) (ByteArray.mk #[]) false (0 : Int) (ByteArray.mk #[]) false false)).1,
                       SV.int IntKind.i64
                        (List.getD (List.set (rL t) (Int.toNat (rLivesV t_1 pid)) e) (Int.toNat (rLivesV t_1 pid))
                         (PR.mk (0 : Int) (0 : Int) (ByteArray.mk #[]) false (0 : Int) (ByteArray.mk #[]) false false)).2,
                       SV.str
                        (List.getD (List.set (rL t) (Int.toNat (rLivesV t_1 pid)) e) (Int.toNat (rLivesV t_1 pid))
                         (PR.mk (0 : Int) (0 : Int) (ByteArray.mk #[]) false (0 : Int) (ByteArray.mk #[]) false false)).3,
                       SV.bool
                        (List.getD (List.set (rL t) (Int.toNat (rLivesV t_1 pid)) e) (Int.toNat (rLivesV t_1 pid))
                         (PR.mk (0 : Int) (0 : Int) (ByteArray.mk #[]) false (0 : Int) (ByteArray.mk #[]) false false)).4,
                       SV.int IntKind.i64 status,
                       SV.str
                        (List.getD (List.set (rL t) (Int.toNat (rLivesV t_1 pid)) e) (Int.toNat (rLivesV t_1 pid))
                         (PR.mk (0 : Int) (0 : Int) (ByteArray.mk #[]) false (0 : Int) (ByteArray.mk #[]) false false)).6,
                       SV.bool
                        (List.getD (List.set (rL t) (Int.toNat (rLivesV t_1 pid)) e) (Int.toNat (rLivesV t_1 pid))
                         (PR.mk (0 : Int) (0 : Int) (ByteArray.mk #[]) false (0 : Int) (ByteArray.mk #[]) false false)).7,
                       SV.bool
                        (List.getD (List.set (rL t) (Int.toNat (rLivesV t_1 pid)) e) (Int.toNat (rLivesV t_1 pid))
                         (PR.mk (0 : Int) (0 : Int) (ByteArray.mk #[]) false (0 : Int) (ByteArray.mk #[]) false false)).8] ∧
                      K (frm [] (bodyOf Try.f40) [1, 1, 1, 1, 1, 0, 1, 0] [])
                       (Sy.mk (SV.ptr 0 b 0 :: (SV.int IntKind.i64 pid :: (SV.int IntKind.i64 status :: (rawE (SV.int IntKind.i64 (0 : Int) :: (SV.int IntKind.i64 (rLivesV t_1 pid) :: (SV.int IntKind.i64 (0 : Int) :: (SV.ptr 0 b 0 :: (SV.int IntKind.i64 pid :: (SV.int IntKind.i64 (rLivesV t_1 pid) :: (SV.int IntKind.i64 (rLivesV t_1 pid) :: (SV.bool (decide (rLivesV t_1 pid < (0 : Int))) :: (SV.bool false :: (SV.int IntKind.i64 pid :: ((SV.bool (pid == (1 : Int))) :: (SV.bool false :: (SV.int IntKind.i64 status :: (SV.bool (decide (status < (-64 : Int))) :: (SV.bool false :: (SV.int IntKind.i64 status :: (SV.bool (decide (status > (255 : Int))) :: (SV.bool false :: (SV.ptr 0 b 0 :: (SV.ptr 0 b 0 :: (SV.ptr 0 b 0 :: (SV.vec 1 ao (List.length (rL t)) cap :: (SV.int IntKind.i64 (rLivesV t_1 pid) :: (SV.ptr 0 b 0 :: (SV.ptr 0 b 0 :: (SV.ptr 0 b 0 :: (SV.vec 1 ao (List.length (rL t)) cap :: (SV.int IntKind.i64 (rLivesV t_1 pid) :: (SV.int IntKind.i64 status :: (SV.eptr 1 (Addr.blkD ao) (Addr.offD ao) 8 (Int.toNat (rLivesV t_1 pid)) 0 :: (SV.eptr 1 (Addr.blkD ao) (Addr.offD ao) 8 (Int.toNat (rLivesV t_1 pid)) 0 :: (SV.eptr 1 (Addr.blkD ao) (Addr.offD ao) 8 (Int.toNat (rLivesV t_1 pid)) 3 :: (SV.eptr 1 (Addr.blkD ao) (Addr.offD ao) 8 (Int.toNat (rLivesV t_1 pid)) 0 :: (SV.eptr 1 (Addr.blkD ao) (Addr.offD ao) 8 (Int.toNat (rLivesV t_1 pid)) 0 :: (SV.eptr 1 (Addr.blkD ao) (Addr.offD ao) 8 (Int.toNat (rLivesV t_1 pid)) 4 :: (rawE [] 28)))))))))))))))))))))))))))))))))))) 3))))
                        [Ent.mk (Loc.blk b) (SObj.cells [SV.vec 1 ao (List.length (rL t)) cap, SV.int IntKind.i64 t.3, SV.int IntKind.i64 t.4] (152 : TypeId)),
                         Ent.mk (Loc.sl ao cap)
                          (SObj.vecL (149 : TypeId) 8 encR (List.set (List.set (rL t) (Int.toNat (rLivesV t_1 pid)) e) (Int.toNat (rLivesV t_1 pid)) e_1)
                           (PR.mk (0 : Int) (0 : Int) (ByteArray.mk #[]) false (0 : Int) (ByteArray.mk #[]) false false))])) := by kernel_rfl


theorem rt_kill (K : List Frm → Sy → Prop) (N : List Ent → SV → Prop) (t : PT) (b : Nat) (ao : Option Addr) (cap : Nat) (pid sig : Int) : (run Try.prog rtLv false [] K (retP Try.prog Try.f42.results.toList N) 900 [.code (bodyOf Try.f42)] ⟨padTo 63 [.ptr 0 b 0, .int .i64 pid, .int .i64 sig], [⟨.blk b, .cells [.vec 1 ao (rL t).length cap, .int .i64 t.room, .int .i64 t.last] 152⟩, ⟨.sl ao cap, .vecL 149 8 encR (rL t) PR.zero⟩]⟩) = (
true = true ∧
 ∃ (t_1 : PT),
  ∃ (l1 : Nat),
   ∃ (ao_1 : Option Addr),
    ∃ (cap_1 : Nat),
     some (Ent.mk (Loc.blk b) (SObj.cells [SV.vec 1 ao (List.length (rL t)) cap, SV.int IntKind.i64 t.3, SV.int IntKind.i64 t.4] (152 : TypeId))) =
      some (Ent.mk (Loc.blk b) (SObj.cells [SV.vec l1 ao_1 (List.length (rL t_1)) cap_1, SV.int IntKind.i64 t_1.3, SV.int IntKind.i64 t_1.4] (152 : TypeId))) ∧
      nth
       [Ent.mk (Loc.blk b) (SObj.cells [SV.vec 1 ao (List.length (rL t)) cap, SV.int IntKind.i64 t.3, SV.int IntKind.i64 t.4] (152 : TypeId)),
        Ent.mk (Loc.sl ao cap) (SObj.vecL (149 : TypeId) 8 encR (rL t) (PR.mk (0 : Int) (0 : Int) (ByteArray.mk #[]) false (0 : Int) (ByteArray.mk #[]) false false))]
       l1 =
       some (Ent.mk (Loc.sl ao_1 cap_1) (SObj.vecL (149 : TypeId) 8 encR (rL t_1) (PR.mk (0 : Int) (0 : Int) (ByteArray.mk #[]) false (0 : Int) (ByteArray.mk #[]) false false))) ∧
       (Nat.beq 0 l1 = false ∧ pOk t_1) ∧
        match decide (rLivesV t_1 pid < (0 : Int)) with
        | true =>
         true = true ∧
          true = true ∧
           N
            [Ent.mk (Loc.blk b) (SObj.cells [SV.vec 1 ao (List.length (rL t)) cap, SV.int IntKind.i64 t.3, SV.int IntKind.i64 t.4] (152 : TypeId)),
             Ent.mk (Loc.sl ao cap) (SObj.vecL (149 : TypeId) 8 encR (rL t) (PR.mk (0 : Int) (0 : Int) (ByteArray.mk #[]) false (0 : Int) (ByteArray.mk #[]) false false))]
            (SV.int IntKind.i64 (80 : Int))
        | false =>
         match pid == (1 : Int) with
         | true =>
          true = true ∧
           true = true ∧
            N
             [Ent.mk (Loc.blk b) (SObj.cells [SV.vec 1 ao (List.length (rL t)) cap, SV.int IntKind.i64 t.3, SV.int IntKind.i64 t.4] (152 : TypeId)),
              Ent.mk (Loc.sl ao cap) (SObj.vecL (149 : TypeId) 8 encR (rL t) (PR.mk (0 : Int) (0 : Int) (ByteArray.mk #[]) false (0 : Int) (ByteArray.mk #[]) false false))]
             (SV.int IntKind.i64 (80 : Int))
         | false =>
          match sig != (15 : Int) with
          | true =>
           match sig != (9 : Int) with
           | true =>
            N
             [Ent.mk (Loc.blk b) (SObj.cells [SV.vec 1 ao (List.length (rL t)) cap, SV.int IntKind.i64 t.3, SV.int IntKind.i64 t.4] (152 : TypeId)),
              Ent.mk (Loc.sl ao cap) (SObj.vecL (149 : TypeId) 8 encR (rL t) (PR.mk (0 : Int) (0 : Int) (ByteArray.mk #[]) false (0 : Int) (ByteArray.mk #[]) false false))]
             (SV.int IntKind.i64 (80 : Int))
           | false =>
            b = b ∧
             b = b ∧
              (ao = ao ∧ cap = cap ∧ List.length (rL t) = List.length (rL t) ∧ (0 : Int) ≤ rLivesV t_1 pid ∧ rLivesV t_1 pid < (↑(List.length (rL t)) : Int)) ∧
               (Addr.blkD ao = Addr.blkD ao ∧ Addr.offD ao = Addr.offD ao ∧ 8 = 8 ∧ Int.toNat (rLivesV t_1 pid) < List.length (rL t)) ∧
                match (List.getD (rL t) (Int.toNat (rLivesV t_1 pid)) (PR.mk (0 : Int) (0 : Int) (ByteArray.mk #[]) false (0 : Int) (ByteArray.mk #[]) false false)).7 with
                | true =>
                 (ao = ao ∧ cap = cap ∧ List.length (rL t) = List.length (rL t) ∧ (0 : Int) ≤ rLivesV t_1 pid ∧ rLivesV t_1 pid < (↑(List.length (rL t)) : Int)) ∧
                  (Addr.blkD ao = Addr.blkD ao ∧
                   Addr.offD ao = Addr.offD ao ∧
                    8 = 8 ∧ Int.toNat (rLivesV t_1 pid) < List.length (rL t) ∧ true = true ∧ 1 = 1 ∧ 7 ≤ 8) ∧
                   ∃ (e : PR),
                    [SV.int IntKind.i64 e.1, SV.int IntKind.i64 e.2, SV.str e.3, SV.bool e.4, SV.int IntKind.i64 e.5, SV.str e.6, SV.bool e.7, SV.bool e.8] =
                     [SV.int IntKind.i64
                      (List.getD (rL t) (Int.toNat (rLivesV t_1 pid)) (PR.mk (0 : Int) (0 : Int) (ByteArray.mk #[]) false (0 : Int) (ByteArray.mk #[]) false false)).1,
                      SV.int IntKind.i64
                       (List.getD (rL t) (Int.toNat (rLivesV t_1 pid)) (PR.mk (0 : Int) (0 : Int) (ByteArray.mk #[]) false (0 : Int) (ByteArray.mk #[]) false false)).2,
                      SV.str (List.getD (rL t) (Int.toNat (rLivesV t_1 pid)) (PR.mk (0 : Int) (0 : Int) (ByteArray.mk #[]) false (0 : Int) (ByteArray.mk #[]) false false)).3,
                      SV.bool (List.getD (rL t) (Int.toNat (rLivesV t_1 pid)) (PR.mk (0 : Int) (0 : Int) (ByteArray.mk #[]) false (0 : Int) (ByteArray.mk #[]) false false)).4,
                      SV.int IntKind.i64
                       (List.getD (rL t) (Int.toNat (rLivesV t_1 pid)) (PR.mk (0 : Int) (0 : Int) (ByteArray.mk #[]) false (0 : Int) (ByteArray.mk #[]) false false)).5,
                      SV.str (List.getD (rL t) (Int.toNat (rLivesV t_1 pid)) (PR.mk (0 : Int) (0 : Int) (ByteArray.mk #[]) false (0 : Int) (ByteArray.mk #[]) false false)).6,
                      SV.bool true,
                      SV.bool
                       (List.getD (rL t) (Int.toNat (rLivesV t_1 pid)) (PR.mk (0 : Int) (0 : Int) (ByteArray.mk #[]) false (0 : Int) (ByteArray.mk #[]) false false)).8] ∧
                     b = b ∧
                      b = b ∧
                       (ao = ao ∧
                        cap = cap ∧
                         List.length (rL t) = List.length (List.set (rL t) (Int.toNat (rLivesV t_1 pid)) e) ∧
                          (0 : Int) ≤ rLivesV t_1 pid ∧ rLivesV t_1 pid < (↑(List.length (rL t)) : Int)) ∧
                        (Addr.blkD ao = Addr.blkD ao ∧
                         Addr.offD ao = Addr.offD ao ∧ 8 = 8 ∧ Int.toNat (rLivesV t_1 pid) < List.length (List.set (rL t) (Int.toNat (rLivesV t_1 pid)) e)) ∧
                         match
                          (List.getD (List.set (rL t) (Int.toNat (rLivesV t_1 pid)) e) (Int.toNat (rLivesV t_1 pid))
                           (PR.mk (0 : Int) (0 : Int) (ByteArray.mk #[]) false (0 : Int) (ByteArray.mk #[]) false false)).8 with
                         | true =>
                          (ao = ao ∧
                           cap = cap ∧
                            List.length (rL t) = List.length (List.set (rL t) (Int.toNat (rLivesV t_1 pid)) e) ∧
                             (0 : Int) ≤ rLivesV t_1 pid ∧ rLivesV t_1 pid < (↑(List.length (rL t)) : Int)) ∧
                           (Addr.blkD ao = Addr.blkD ao ∧
                            Addr.offD ao = Addr.offD ao ∧
                             8 = 8 ∧
                              Int.toNat (rLivesV t_1 pid) < List.length (List.set (rL t) (Int.toNat (rLivesV t_1 pid)) e) ∧
                               true = true ∧ 1 = 1 ∧ 8 ≤ 8) ∧
                            ∃ (e_1 : PR),
                             [SV.int IntKind.i64 e_1.1, SV.int IntKind.i64 e_1.2, SV.str e_1.3, SV.bool e_1.4, SV.int IntKind.i64 e_1.5, SV.str e_1.6, SV.bool e_1.7,
                              SV.bool e_1.8] =
                              [SV.int IntKind.i64
                               (List.getD (List.set (rL t) (Int.toNat (rLivesV t_1 pid)) e) (Int.toNat (rLivesV t_1 pid))
                                (PR.mk (0 : Int) (0 : Int) (ByteArray.mk #[]) false (0 : Int) (ByteArray.mk #[]) false false)).1,
                               SV.int IntKind.i64
                                (List.getD (List.set (rL t) (Int.toNat (rLivesV t_1 pid)) e) (Int.toNat (rLivesV t_1 pid))
                                 (PR.mk (0 : Int) (0 : Int) (ByteArray.mk #[]) false (0 : Int) (ByteArray.mk #[]) false false)).2,
                               SV.str
                                (List.getD (List.set (rL t) (Int.toNat (rLivesV t_1 pid)) e) (Int.toNat (rLivesV t_1 pid))
                                 (PR.mk (0 : Int) (0 : Int) (ByteArray.mk #[]) false (0 : Int) (ByteArray.mk #[]) false false)).3,
                               SV.bool
                                (List.getD (List.set (rL t) (Int.toNat (rLivesV t_1 pid)) e) (Int.toNat (rLivesV t_1 pid))
                                 (PR.mk (0 : Int) (0 : Int) (ByteArray.mk #[]) false (0 : Int) (ByteArray.mk #[]) false false)).4,
                               SV.int IntKind.i64
                                (List.getD (List.set (rL t) (Int.toNat (rLivesV t_1 pid)) e) (Int.toNat (rLivesV t_1 pid))
                                 (PR.mk (0 : Int) (0 : Int) (ByteArray.mk #[]) false (0 : Int) (ByteArray.mk #[]) false false)).5,
                               SV.str
                                (List.getD (List.set (rL t) (Int.toNat (rLivesV t_1 pid)) e) (Int.toNat (rLivesV t_1 pid))
                                 (PR.mk (0 : Int) (0 : Int) (ByteArray.mk #[]) false (0 : Int) (ByteArray.mk #[]) false false)).6,
                               SV.bool
                                (List.getD (List.set (rL t) (Int.toNat (rLivesV t_1 pid)) e) (Int.toNat (rLivesV t_1 pid))
                                 (PR.mk (0 : Int) (0 : Int) (ByteArray.mk #[]) false (0 : Int) (ByteArray.mk #[]) false false)).7,
                               SV.bool true] ∧
                              N
                               [Ent.mk (Loc.blk b)
                                (SObj.cells [SV.vec 1 ao (List.length (rL t)) cap, SV.int IntKind.i64 t.3, SV.int IntKind.i64 t.4] (152 : TypeId)),
                                Ent.mk (Loc.sl ao cap)
                                 (SObj.vecL (149 : TypeId) 8 encR
                                  (List.set (List.set (rL t) (Int.toNat (rLivesV t_1 pid)) e) (Int.toNat (rLivesV t_1 pid)) e_1)
                                  (PR.mk (0 : Int) (0 : Int) (ByteArray.mk #[]) false (0 : Int) (ByteArray.mk #[]) false false))]
                               (SV.int IntKind.i64 (0 : Int))
                         | false =>
                          (ao = ao ∧
                           cap = cap ∧
                            List.length (rL t) = List.length (List.set (rL t) (Int.toNat (rLivesV t_1 pid)) e) ∧
                             (0 : Int) ≤ rLivesV t_1 pid ∧ rLivesV t_1 pid < (↑(List.length (rL t)) : Int)) ∧
                           (Addr.blkD ao = Addr.blkD ao ∧
                            Addr.offD ao = Addr.offD ao ∧
                             8 = 8 ∧
                              Int.toNat (rLivesV t_1 pid) < List.length (List.set (rL t) (Int.toNat (rLivesV t_1 pid)) e) ∧
                               true = true ∧ 1 = 1 ∧ 8 ≤ 8) ∧
                            ∃ (e_1 : PR),
                             [SV.int IntKind.i64 e_1.1, SV.int IntKind.i64 e_1.2, SV.str e_1.3, SV.bool e_1.4, SV.int IntKind.i64 e_1.5, SV.str e_1.6, SV.bool e_1.7,
                              SV.bool e_1.8] =
                              [SV.int IntKind.i64
                               (List.getD (List.set (rL t) (Int.toNat (rLivesV t_1 pid)) e) (Int.toNat (rLivesV t_1 pid))
                                (PR.mk (0 : Int) (0 : Int) (ByteArray.mk #[]) false (0 : Int) (ByteArray.mk #[]) false false)).1,
                               SV.int IntKind.i64
                                (List.getD (List.set (rL t) (Int.toNat (rLivesV t_1 pid)) e) (Int.toNat (rLivesV t_1 pid))
                                 (PR.mk (0 : Int) (0 : Int) (ByteArray.mk #[]) false (0 : Int) (ByteArray.mk #[]) false false)).2,
                               SV.str
                                (List.getD (List.set (rL t) (Int.toNat (rLivesV t_1 pid)) e) (Int.toNat (rLivesV t_1 pid))
                                 (PR.mk (0 : Int) (0 : Int) (ByteArray.mk #[]) false (0 : Int) (ByteArray.mk #[]) false false)).3,
                               SV.bool
                                (List.getD (List.set (rL t) (Int.toNat (rLivesV t_1 pid)) e) (Int.toNat (rLivesV t_1 pid))
                                 (PR.mk (0 : Int) (0 : Int) (ByteArray.mk #[]) false (0 : Int) (ByteArray.mk #[]) false false)).4,
                               SV.int IntKind.i64
                                (List.getD (List.set (rL t) (Int.toNat (rLivesV t_1 pid)) e) (Int.toNat (rLivesV t_1 pid))
                                 (PR.mk (0 : Int) (0 : Int) (ByteArray.mk #[]) false (0 : Int) (ByteArray.mk #[]) false false)).5,
                               SV.str
                                (List.getD (List.set (rL t) (Int.toNat (rLivesV t_1 pid)) e) (Int.toNat (rLivesV t_1 pid))
                                 (PR.mk (0 : Int) (0 : Int) (ByteArray.mk #[]) false (0 : Int) (ByteArray.mk #[]) false false)).6,
                               SV.bool
                                (List.getD (List.set (rL t) (Int.toNat (rLivesV t_1 pid)) e) (Int.toNat (rLivesV t_1 pid))
                                 (PR.mk (0 : Int) (0 : Int) (ByteArray.mk #[]) false (0 : Int) (ByteArray.mk #[]) false false)).7,
                               SV.bool (sig == (9 : Int))] ∧
                              N
                               [Ent.mk (Loc.blk b)
                                (SObj.cells [SV.vec 1 ao (List.length (rL t)) cap, SV.int IntKind.i64 t.3, SV.int IntKind.i64 t.4] (152 : TypeId)),
                                Ent.mk (Loc.sl ao cap)
                                 (SObj.vecL (149 : TypeId) 8 encR
                                  (List.set (List.set (rL t) (Int.toNat (rLivesV t_1 pid)) e) (Int.toNat (rLivesV t_1 pid)) e_1)
                                  (PR.mk (0 : Int) (0 : Int) (ByteArray.mk #[]) false (0 : Int) (ByteArray.mk #[]) false false))]
                               (SV.int IntKind.i64 (0 : Int))
                | false =>
                 (ao = ao ∧ cap = cap ∧ List.length (rL t) = List.length (rL t) ∧ (0 : Int) ≤ rLivesV t_1 pid ∧ rLivesV t_1 pid < (↑(List.length (rL t)) : Int)) ∧
                  (Addr.blkD ao = Addr.blkD ao ∧
                   Addr.offD ao = Addr.offD ao ∧
                    8 = 8 ∧ Int.toNat (rLivesV t_1 pid) < List.length (rL t) ∧ true = true ∧ 1 = 1 ∧ 7 ≤ 8) ∧
                   ∃ (e : PR),
                    [SV.int IntKind.i64 e.1, SV.int IntKind.i64 e.2, SV.str e.3, SV.bool e.4, SV.int IntKind.i64 e.5, SV.str e.6, SV.bool e.7, SV.bool e.8] =
                     [SV.int IntKind.i64
                      (List.getD (rL t) (Int.toNat (rLivesV t_1 pid)) (PR.mk (0 : Int) (0 : Int) (ByteArray.mk #[]) false (0 : Int) (ByteArray.mk #[]) false false)).1,
                      SV.int IntKind.i64
                       (List.getD (rL t) (Int.toNat (rLivesV t_1 pid)) (PR.mk (0 : Int) (0 : Int) (ByteArray.mk #[]) false (0 : Int) (ByteArray.mk #[]) false false)).2,
                      SV.str (List.getD (rL t) (Int.toNat (rLivesV t_1 pid)) (PR.mk (0 : Int) (0 : Int) (ByteArray.mk #[]) false (0 : Int) (ByteArray.mk #[]) false false)).3,
                      SV.bool (List.getD (rL t) (Int.toNat (rLivesV t_1 pid)) (PR.mk (0 : Int) (0 : Int) (ByteArray.mk #[]) false (0 : Int) (ByteArray.mk #[]) false false)).4,
                      SV.int IntKind.i64
                       (List.getD (rL t) (Int.toNat (rLivesV t_1 pid)) (PR.mk (0 : Int) (0 : Int) (ByteArray.mk #[]) false (0 : Int) (ByteArray.mk #[]) false false)).5,
                      SV.str (List.getD (rL t) (Int.toNat (rLivesV t_1 pid)) (PR.mk (0 : Int) (0 : Int) (ByteArray.mk #[]) false (0 : Int) (ByteArray.mk #[]) false false)).6,
                      SV.bool (sig == (15 : Int)),
                      SV.bool
                       (List.getD (rL t) (Int.toNat (rLivesV t_1 pid)) (PR.mk (0 : Int) (0 : Int) (ByteArray.mk #[]) false (0 : Int) (ByteArray.mk #[]) false false)).8] ∧
                     b = b ∧
                      b = b ∧
                       (ao = ao ∧
                        cap = cap ∧
                         List.length (rL t) = List.length (List.set (rL t) (Int.toNat (rLivesV t_1 pid)) e) ∧
                          (0 : Int) ≤ rLivesV t_1 pid ∧ rLivesV t_1 pid < (↑(List.length (rL t)) : Int)) ∧
                        (Addr.blkD ao = Addr.blkD ao ∧
                         Addr.offD ao = Addr.offD ao ∧ 8 = 8 ∧ Int.toNat (rLivesV t_1 pid) < List.length (List.set (rL t) (Int.toNat (rLivesV t_1 pid)) e)) ∧
                         match
                          (List.getD (List.set (rL t) (Int.toNat (rLivesV t_1 pid)) e) (Int.toNat (rLivesV t_1 pid))
                           (PR.mk (0 : Int) (0 : Int) (ByteArray.mk #[]) false (0 : Int) (ByteArray.mk #[]) false false)).8 with
                         | true =>
                          (ao = ao ∧
                           cap = cap ∧
                            List.length (rL t) = List.length (List.set (rL t) (Int.toNat (rLivesV t_1 pid)) e) ∧
                             (0 : Int) ≤ rLivesV t_1 pid ∧ rLivesV t_1 pid < (↑(List.length (rL t)) : Int)) ∧
                           (Addr.blkD ao = Addr.blkD ao ∧
                            Addr.offD ao = Addr.offD ao ∧
                             8 = 8 ∧
                              Int.toNat (rLivesV t_1 pid) < List.length (List.set (rL t) (Int.toNat (rLivesV t_1 pid)) e) ∧
                               true = true ∧ 1 = 1 ∧ 8 ≤ 8) ∧
                            ∃ (e_1 : PR),
                             [SV.int IntKind.i64 e_1.1, SV.int IntKind.i64 e_1.2, SV.str e_1.3, SV.bool e_1.4, SV.int IntKind.i64 e_1.5, SV.str e_1.6, SV.bool e_1.7,
                              SV.bool e_1.8] =
                              [SV.int IntKind.i64
                               (List.getD (List.set (rL t) (Int.toNat (rLivesV t_1 pid)) e) (Int.toNat (rLivesV t_1 pid))
                                (PR.mk (0 : Int) (0 : Int) (ByteArray.mk #[]) false (0 : Int) (ByteArray.mk #[]) false false)).1,
                               SV.int IntKind.i64
                                (List.getD (List.set (rL t) (Int.toNat (rLivesV t_1 pid)) e) (Int.toNat (rLivesV t_1 pid))
                                 (PR.mk (0 : Int) (0 : Int) (ByteArray.mk #[]) false (0 : Int) (ByteArray.mk #[]) false false)).2,
                               SV.str
                                (List.getD (List.set (rL t) (Int.toNat (rLivesV t_1 pid)) e) (Int.toNat (rLivesV t_1 pid))
                                 (PR.mk (0 : Int) (0 : Int) (ByteArray.mk #[]) false (0 : Int) (ByteArray.mk #[]) false false)).3,
                               SV.bool
                                (List.getD (List.set (rL t) (Int.toNat (rLivesV t_1 pid)) e) (Int.toNat (rLivesV t_1 pid))
                                 (PR.mk (0 : Int) (0 : Int) (ByteArray.mk #[]) false (0 : Int) (ByteArray.mk #[]) false false)).4,
                               SV.int IntKind.i64
                                (List.getD (List.set (rL t) (Int.toNat (rLivesV t_1 pid)) e) (Int.toNat (rLivesV t_1 pid))
                                 (PR.mk (0 : Int) (0 : Int) (ByteArray.mk #[]) false (0 : Int) (ByteArray.mk #[]) false false)).5,
                               SV.str
                                (List.getD (List.set (rL t) (Int.toNat (rLivesV t_1 pid)) e) (Int.toNat (rLivesV t_1 pid))
                                 (PR.mk (0 : Int) (0 : Int) (ByteArray.mk #[]) false (0 : Int) (ByteArray.mk #[]) false false)).6,
                               SV.bool
                                (List.getD (List.set (rL t) (Int.toNat (rLivesV t_1 pid)) e) (Int.toNat (rLivesV t_1 pid))
                                 (PR.mk (0 : Int) (0 : Int) (ByteArray.mk #[]) false (0 : Int) (ByteArray.mk #[]) false false)).7,
                               SV.bool true] ∧
                              N
                               [Ent.mk (Loc.blk b)
                                (SObj.cells [SV.vec 1 ao (List.length (rL t)) cap, SV.int IntKind.i64 t.3, SV.int IntKind.i64 t.4] (152 : TypeId)),
                                Ent.mk (Loc.sl ao cap)
                                 (SObj.vecL (149 : TypeId) 8 encR
                                  (List.set (List.set (rL t) (Int.toNat (rLivesV t_1 pid)) e) (Int.toNat (rLivesV t_1 pid)) e_1)
                                  (PR.mk (0 : Int) (0 : Int) (ByteArray.mk #[]) false (0 : Int) (ByteArray.mk #[]) false false))]
                               (SV.int IntKind.i64 (0 : Int))
                         | false =>
                          (ao = ao ∧
                           cap = cap ∧
                            List.length (rL t) = List.length (List.set (rL t) (Int.toNat (rLivesV t_1 pid)) e) ∧
                             (0 : Int) ≤ rLivesV t_1 pid ∧ rLivesV t_1 pid < (↑(List.length (rL t)) : Int)) ∧
                           (Addr.blkD ao = Addr.blkD ao ∧
                            Addr.offD ao = Addr.offD ao ∧
                             8 = 8 ∧
                              Int.toNat (rLivesV t_1 pid) < List.length (List.set (rL t) (Int.toNat (rLivesV t_1 pid)) e) ∧
                               true = true ∧ 1 = 1 ∧ 8 ≤ 8) ∧
                            ∃ (e_1 : PR),
                             [SV.int IntKind.i64 e_1.1, SV.int IntKind.i64 e_1.2, SV.str e_1.3, SV.bool e_1.4, SV.int IntKind.i64 e_1.5, SV.str e_1.6, SV.bool e_1.7,
                              SV.bool e_1.8] =
                              [SV.int IntKind.i64
                               (List.getD (List.set (rL t) (Int.toNat (rLivesV t_1 pid)) e) (Int.toNat (rLivesV t_1 pid))
                                (PR.mk (0 : Int) (0 : Int) (ByteArray.mk #[]) false (0 : Int) (ByteArray.mk #[]) false false)).1,
                               SV.int IntKind.i64
                                (List.getD (List.set (rL t) (Int.toNat (rLivesV t_1 pid)) e) (Int.toNat (rLivesV t_1 pid))
                                 (PR.mk (0 : Int) (0 : Int) (ByteArray.mk #[]) false (0 : Int) (ByteArray.mk #[]) false false)).2,
                               SV.str
                                (List.getD (List.set (rL t) (Int.toNat (rLivesV t_1 pid)) e) (Int.toNat (rLivesV t_1 pid))
                                 (PR.mk (0 : Int) (0 : Int) (ByteArray.mk #[]) false (0 : Int) (ByteArray.mk #[]) false false)).3,
                               SV.bool
                                (List.getD (List.set (rL t) (Int.toNat (rLivesV t_1 pid)) e) (Int.toNat (rLivesV t_1 pid))
                                 (PR.mk (0 : Int) (0 : Int) (ByteArray.mk #[]) false (0 : Int) (ByteArray.mk #[]) false false)).4,
                               SV.int IntKind.i64
                                (List.getD (List.set (rL t) (Int.toNat (rLivesV t_1 pid)) e) (Int.toNat (rLivesV t_1 pid))
                                 (PR.mk (0 : Int) (0 : Int) (ByteArray.mk #[]) false (0 : Int) (ByteArray.mk #[]) false false)).5,
                               SV.str
                                (List.getD (List.set (rL t) (Int.toNat (rLivesV t_1 pid)) e) (Int.toNat (rLivesV t_1 pid))
                                 (PR.mk (0 : Int) (0 : Int) (ByteArray.mk #[]) false (0 : Int) (ByteArray.mk #[]) false false)).6,
                               SV.bool
                                (List.getD (List.set (rL t) (Int.toNat (rLivesV t_1 pid)) e) (Int.toNat (rLivesV t_1 pid))
                                 (PR.mk (0 : Int) (0 : Int) (ByteArray.mk #[]) false (0 : Int) (ByteArray.mk #[]) false false)).7,
                               SV.bool (sig == (9 : Int))] ∧
                              N
                               [Ent.mk (Loc.blk b)
                                (SObj.cells [SV.vec 1 ao (List.length (rL t)) cap, SV.int IntKind.i64 t.3, SV.int IntKind.i64 t.4] (152 : TypeId)),
                                Ent.mk (Loc.sl ao cap)
                                 (SObj.vecL (149 : TypeId) 8 encR
                                  (List.set (List.set (rL t) (Int.toNat (rLivesV t_1 pid)) e) (Int.toNat (rLivesV t_1 pid)) e_1)
                                  (PR.mk (0 : Int) (0 : Int) (ByteArray.mk #[]) false (0 : Int) (ByteArray.mk #[]) false false))]
                               (SV.int IntKind.i64 (0 : Int))
          | false =>
           b = b ∧
            b = b ∧
             (ao = ao ∧ cap = cap ∧ List.length (rL t) = List.length (rL t) ∧ (0 : Int) ≤ rLivesV t_1 pid ∧ rLivesV t_1 pid < (↑(List.length (rL t)) : Int)) ∧
              (Addr.blkD ao = Addr.blkD ao ∧ Addr.offD ao = Addr.offD ao ∧ 8 = 8 ∧ Int.toNat (rLivesV t_1 pid) < List.length (rL t)) ∧
               match (List.getD (rL t) (Int.toNat (rLivesV t_1 pid)) (PR.mk (0 : Int) (0 : Int) (ByteArray.mk #[]) false (0 : Int) (ByteArray.mk #[]) false false)).7 with
               | true =>
                (ao = ao ∧ cap = cap ∧ List.length (rL t) = List.length (rL t) ∧ (0 : Int) ≤ rLivesV t_1 pid ∧ rLivesV t_1 pid < (↑(List.length (rL t)) : Int)) ∧
                 (Addr.blkD ao = Addr.blkD ao ∧
                  Addr.offD ao = Addr.offD ao ∧
                   8 = 8 ∧ Int.toNat (rLivesV t_1 pid) < List.length (rL t) ∧ true = true ∧ 1 = 1 ∧ 7 ≤ 8) ∧
                  ∃ (e : PR),
                   [SV.int IntKind.i64 e.1, SV.int IntKind.i64 e.2, SV.str e.3, SV.bool e.4, SV.int IntKind.i64 e.5, SV.str e.6, SV.bool e.7, SV.bool e.8] =
                    [SV.int IntKind.i64
                     (List.getD (rL t) (Int.toNat (rLivesV t_1 pid)) (PR.mk (0 : Int) (0 : Int) (ByteArray.mk #[]) false (0 : Int) (ByteArray.mk #[]) false false)).1,
                     SV.int IntKind.i64
                      (List.getD (rL t) (Int.toNat (rLivesV t_1 pid)) (PR.mk (0 : Int) (0 : Int) (ByteArray.mk #[]) false (0 : Int) (ByteArray.mk #[]) false false)).2,
                     SV.str (List.getD (rL t) (Int.toNat (rLivesV t_1 pid)) (PR.mk (0 : Int) (0 : Int) (ByteArray.mk #[]) false (0 : Int) (ByteArray.mk #[]) false false)).3,
                     SV.bool (List.getD (rL t) (Int.toNat (rLivesV t_1 pid)) (PR.mk (0 : Int) (0 : Int) (ByteArray.mk #[]) false (0 : Int) (ByteArray.mk #[]) false false)).4,
                     SV.int IntKind.i64
                      (List.getD (rL t) (Int.toNat (rLivesV t_1 pid)) (PR.mk (0 : Int) (0 : Int) (ByteArray.mk #[]) false (0 : Int) (ByteArray.mk #[]) false false)).5,
                     SV.str (List.getD (rL t) (Int.toNat (rLivesV t_1 pid)) (PR.mk (0 : Int) (0 : Int) (ByteArray.mk #[]) false (0 : Int) (ByteArray.mk #[]) false false)).6,
                     SV.bool true,
                     SV.bool (List.getD (rL t) (Int.toNat (rLivesV t_1 pid)) (PR.mk (0 : Int) (0 : Int) (ByteArray.mk #[]) false (0 : Int) (ByteArray.mk #[]) false false)).8] ∧
                    b = b ∧
                     b = b ∧
                      (ao = ao ∧
                       cap = cap ∧
                        List.length (rL t) = List.length (List.set (rL t) (Int.toNat (rLivesV t_1 pid)) e) ∧
                         (0 : Int) ≤ rLivesV t_1 pid ∧ rLivesV t_1 pid < (↑(List.length (rL t)) : Int)) ∧
                       (Addr.blkD ao = Addr.blkD ao ∧
                        Addr.offD ao = Addr.offD ao ∧ 8 = 8 ∧ Int.toNat (rLivesV t_1 pid) < List.length (List.set (rL t) (Int.toNat (rLivesV t_1 pid)) e)) ∧
                        match
                         (List.getD (List.set (rL t) (Int.toNat (rLivesV t_1 pid)) e) (Int.toNat (rLivesV t_1 pid))
                          (PR.mk (0 : Int) (0 : Int) (ByteArray.mk #[]) false (0 : Int) (ByteArray.mk #[]) false false)).8 with
                        | true =>
                         (ao = ao ∧
                          cap = cap ∧
                           List.length (rL t) = List.length (List.set (rL t) (Int.toNat (rLivesV t_1 pid)) e) ∧
                            (0 : Int) ≤ rLivesV t_1 pid ∧ rLivesV t_1 pid < (↑(List.length (rL t)) : Int)) ∧
                          (Addr.blkD ao = Addr.blkD ao ∧
                           Addr.offD ao = Addr.offD ao ∧
                            8 = 8 ∧
                             Int.toNat (rLivesV t_1 pid) < List.length (List.set (rL t) (Int.toNat (rLivesV t_1 pid)) e) ∧
                              true = true ∧ 1 = 1 ∧ 8 ≤ 8) ∧
                           ∃ (e_1 : PR),
                            [SV.int IntKind.i64 e_1.1, SV.int IntKind.i64 e_1.2, SV.str e_1.3, SV.bool e_1.4, SV.int IntKind.i64 e_1.5, SV.str e_1.6, SV.bool e_1.7,
                             SV.bool e_1.8] =
                             [SV.int IntKind.i64
                              (List.getD (List.set (rL t) (Int.toNat (rLivesV t_1 pid)) e) (Int.toNat (rLivesV t_1 pid))
                               (PR.mk (0 : Int) (0 : Int) (ByteArray.mk #[]) false (0 : Int) (ByteArray.mk #[]) false false)).1,
                              SV.int IntKind.i64
                               (List.getD (List.set (rL t) (Int.toNat (rLivesV t_1 pid)) e) (Int.toNat (rLivesV t_1 pid))
                                (PR.mk (0 : Int) (0 : Int) (ByteArray.mk #[]) false (0 : Int) (ByteArray.mk #[]) false false)).2,
                              SV.str
                               (List.getD (List.set (rL t) (Int.toNat (rLivesV t_1 pid)) e) (Int.toNat (rLivesV t_1 pid))
                                (PR.mk (0 : Int) (0 : Int) (ByteArray.mk #[]) false (0 : Int) (ByteArray.mk #[]) false false)).3,
                              SV.bool
                               (List.getD (List.set (rL t) (Int.toNat (rLivesV t_1 pid)) e) (Int.toNat (rLivesV t_1 pid))
                                (PR.mk (0 : Int) (0 : Int) (ByteArray.mk #[]) false (0 : Int) (ByteArray.mk #[]) false false)).4,
                              SV.int IntKind.i64
                               (List.getD (List.set (rL t) (Int.toNat (rLivesV t_1 pid)) e) (Int.toNat (rLivesV t_1 pid))
                                (PR.mk (0 : Int) (0 : Int) (ByteArray.mk #[]) false (0 : Int) (ByteArray.mk #[]) false false)).5,
                              SV.str
                               (List.getD (List.set (rL t) (Int.toNat (rLivesV t_1 pid)) e) (Int.toNat (rLivesV t_1 pid))
                                (PR.mk (0 : Int) (0 : Int) (ByteArray.mk #[]) false (0 : Int) (ByteArray.mk #[]) false false)).6,
                              SV.bool
                               (List.getD (List.set (rL t) (Int.toNat (rLivesV t_1 pid)) e) (Int.toNat (rLivesV t_1 pid))
                                (PR.mk (0 : Int) (0 : Int) (ByteArray.mk #[]) false (0 : Int) (ByteArray.mk #[]) false false)).7,
                              SV.bool true] ∧
                             N
                              [Ent.mk (Loc.blk b)
                               (SObj.cells [SV.vec 1 ao (List.length (rL t)) cap, SV.int IntKind.i64 t.3, SV.int IntKind.i64 t.4] (152 : TypeId)),
                               Ent.mk (Loc.sl ao cap)
                                (SObj.vecL (149 : TypeId) 8 encR (List.set (List.set (rL t) (Int.toNat (rLivesV t_1 pid)) e) (Int.toNat (rLivesV t_1 pid)) e_1)
                                 (PR.mk (0 : Int) (0 : Int) (ByteArray.mk #[]) false (0 : Int) (ByteArray.mk #[]) false false))]
                              (SV.int IntKind.i64 (0 : Int))
                        | false =>
                         (ao = ao ∧
                          cap = cap ∧
                           List.length (rL t) = List.length (List.set (rL t) (Int.toNat (rLivesV t_1 pid)) e) ∧
                            (0 : Int) ≤ rLivesV t_1 pid ∧ rLivesV t_1 pid < (↑(List.length (rL t)) : Int)) ∧
                          (Addr.blkD ao = Addr.blkD ao ∧
                           Addr.offD ao = Addr.offD ao ∧
                            8 = 8 ∧
                             Int.toNat (rLivesV t_1 pid) < List.length (List.set (rL t) (Int.toNat (rLivesV t_1 pid)) e) ∧
                              true = true ∧ 1 = 1 ∧ 8 ≤ 8) ∧
                           ∃ (e_1 : PR),
                            [SV.int IntKind.i64 e_1.1, SV.int IntKind.i64 e_1.2, SV.str e_1.3, SV.bool e_1.4, SV.int IntKind.i64 e_1.5, SV.str e_1.6, SV.bool e_1.7,
                             SV.bool e_1.8] =
                             [SV.int IntKind.i64
                              (List.getD (List.set (rL t) (Int.toNat (rLivesV t_1 pid)) e) (Int.toNat (rLivesV t_1 pid))
                               (PR.mk (0 : Int) (0 : Int) (ByteArray.mk #[]) false (0 : Int) (ByteArray.mk #[]) false false)).1,
                              SV.int IntKind.i64
                               (List.getD (List.set (rL t) (Int.toNat (rLivesV t_1 pid)) e) (Int.toNat (rLivesV t_1 pid))
                                (PR.mk (0 : Int) (0 : Int) (ByteArray.mk #[]) false (0 : Int) (ByteArray.mk #[]) false false)).2,
                              SV.str
                               (List.getD (List.set (rL t) (Int.toNat (rLivesV t_1 pid)) e) (Int.toNat (rLivesV t_1 pid))
                                (PR.mk (0 : Int) (0 : Int) (ByteArray.mk #[]) false (0 : Int) (ByteArray.mk #[]) false false)).3,
                              SV.bool
                               (List.getD (List.set (rL t) (Int.toNat (rLivesV t_1 pid)) e) (Int.toNat (rLivesV t_1 pid))
                                (PR.mk (0 : Int) (0 : Int) (ByteArray.mk #[]) false (0 : Int) (ByteArray.mk #[]) false false)).4,
                              SV.int IntKind.i64
                               (List.getD (List.set (rL t) (Int.toNat (rLivesV t_1 pid)) e) (Int.toNat (rLivesV t_1 pid))
                                (PR.mk (0 : Int) (0 : Int) (ByteArray.mk #[]) false (0 : Int) (ByteArray.mk #[]) false false)).5,
                              SV.str
                               (List.getD (List.set (rL t) (Int.toNat (rLivesV t_1 pid)) e) (Int.toNat (rLivesV t_1 pid))
                                (PR.mk (0 : Int) (0 : Int) (ByteArray.mk #[]) false (0 : Int) (ByteArray.mk #[]) false false)).6,
                              SV.bool
                               (List.getD (List.set (rL t) (Int.toNat (rLivesV t_1 pid)) e) (Int.toNat (rLivesV t_1 pid))
                                (PR.mk (0 : Int) (0 : Int) (ByteArray.mk #[]) false (0 : Int) (ByteArray.mk #[]) false false)).7,
                              SV.bool (sig == (9 : Int))] ∧
                             N
                              [Ent.mk (Loc.blk b)
                               (SObj.cells [SV.vec 1 ao (List.length (rL t)) cap, SV.int IntKind.i64 t.3, SV.int IntKind.i64 t.4] (152 : TypeId)),
                               Ent.mk (Loc.sl ao cap)
                                (SObj.vecL (149 : TypeId) 8 encR (List.set (List.set (rL t) (Int.toNat (rLivesV t_1 pid)) e) (Int.toNat (rLivesV t_1 pid)) e_1)
                                 (PR.mk (0 : Int) (0 : Int) (ByteArray.mk #[]) false (0 : Int) (ByteArray.mk #[]) false false))]
                              (SV.int IntKind.i64 (0 : Int))
               | false =>
                (ao = ao ∧ cap = cap ∧ List.length (rL t) = List.length (rL t) ∧ (0 : Int) ≤ rLivesV t_1 pid ∧ rLivesV t_1 pid < (↑(List.length (rL t)) : Int)) ∧
                 (Addr.blkD ao = Addr.blkD ao ∧
                  Addr.offD ao = Addr.offD ao ∧
                   8 = 8 ∧ Int.toNat (rLivesV t_1 pid) < List.length (rL t) ∧ true = true ∧ 1 = 1 ∧ 7 ≤ 8) ∧
                  ∃ (e : PR),
                   [SV.int IntKind.i64 e.1, SV.int IntKind.i64 e.2, SV.str e.3, SV.bool e.4, SV.int IntKind.i64 e.5, SV.str e.6, SV.bool e.7, SV.bool e.8] =
                    [SV.int IntKind.i64
                     (List.getD (rL t) (Int.toNat (rLivesV t_1 pid)) (PR.mk (0 : Int) (0 : Int) (ByteArray.mk #[]) false (0 : Int) (ByteArray.mk #[]) false false)).1,
                     SV.int IntKind.i64
                      (List.getD (rL t) (Int.toNat (rLivesV t_1 pid)) (PR.mk (0 : Int) (0 : Int) (ByteArray.mk #[]) false (0 : Int) (ByteArray.mk #[]) false false)).2,
                     SV.str (List.getD (rL t) (Int.toNat (rLivesV t_1 pid)) (PR.mk (0 : Int) (0 : Int) (ByteArray.mk #[]) false (0 : Int) (ByteArray.mk #[]) false false)).3,
                     SV.bool (List.getD (rL t) (Int.toNat (rLivesV t_1 pid)) (PR.mk (0 : Int) (0 : Int) (ByteArray.mk #[]) false (0 : Int) (ByteArray.mk #[]) false false)).4,
                     SV.int IntKind.i64
                      (List.getD (rL t) (Int.toNat (rLivesV t_1 pid)) (PR.mk (0 : Int) (0 : Int) (ByteArray.mk #[]) false (0 : Int) (ByteArray.mk #[]) false false)).5,
                     SV.str (List.getD (rL t) (Int.toNat (rLivesV t_1 pid)) (PR.mk (0 : Int) (0 : Int) (ByteArray.mk #[]) false (0 : Int) (ByteArray.mk #[]) false false)).6,
                     SV.bool (sig == (15 : Int)),
                     SV.bool (List.getD (rL t) (Int.toNat (rLivesV t_1 pid)) (PR.mk (0 : Int) (0 : Int) (ByteArray.mk #[]) false (0 : Int) (ByteArray.mk #[]) false false)).8] ∧
                    b = b ∧
                     b = b ∧
                      (ao = ao ∧
                       cap = cap ∧
                        List.length (rL t) = List.length (List.set (rL t) (Int.toNat (rLivesV t_1 pid)) e) ∧
                         (0 : Int) ≤ rLivesV t_1 pid ∧ rLivesV t_1 pid < (↑(List.length (rL t)) : Int)) ∧
                       (Addr.blkD ao = Addr.blkD ao ∧
                        Addr.offD ao = Addr.offD ao ∧ 8 = 8 ∧ Int.toNat (rLivesV t_1 pid) < List.length (List.set (rL t) (Int.toNat (rLivesV t_1 pid)) e)) ∧
                        match
                         (List.getD (List.set (rL t) (Int.toNat (rLivesV t_1 pid)) e) (Int.toNat (rLivesV t_1 pid))
                          (PR.mk (0 : Int) (0 : Int) (ByteArray.mk #[]) false (0 : Int) (ByteArray.mk #[]) false false)).8 with
                        | true =>
                         (ao = ao ∧
                          cap = cap ∧
                           List.length (rL t) = List.length (List.set (rL t) (Int.toNat (rLivesV t_1 pid)) e) ∧
                            (0 : Int) ≤ rLivesV t_1 pid ∧ rLivesV t_1 pid < (↑(List.length (rL t)) : Int)) ∧
                          (Addr.blkD ao = Addr.blkD ao ∧
                           Addr.offD ao = Addr.offD ao ∧
                            8 = 8 ∧
                             Int.toNat (rLivesV t_1 pid) < List.length (List.set (rL t) (Int.toNat (rLivesV t_1 pid)) e) ∧
                              true = true ∧ 1 = 1 ∧ 8 ≤ 8) ∧
                           ∃ (e_1 : PR),
                            [SV.int IntKind.i64 e_1.1, SV.int IntKind.i64 e_1.2, SV.str e_1.3, SV.bool e_1.4, SV.int IntKind.i64 e_1.5, SV.str e_1.6, SV.bool e_1.7,
                             SV.bool e_1.8] =
                             [SV.int IntKind.i64
                              (List.getD (List.set (rL t) (Int.toNat (rLivesV t_1 pid)) e) (Int.toNat (rLivesV t_1 pid))
                               (PR.mk (0 : Int) (0 : Int) (ByteArray.mk #[]) false (0 : Int) (ByteArray.mk #[]) false false)).1,
                              SV.int IntKind.i64
                               (List.getD (List.set (rL t) (Int.toNat (rLivesV t_1 pid)) e) (Int.toNat (rLivesV t_1 pid))
                                (PR.mk (0 : Int) (0 : Int) (ByteArray.mk #[]) false (0 : Int) (ByteArray.mk #[]) false false)).2,
                              SV.str
                               (List.getD (List.set (rL t) (Int.toNat (rLivesV t_1 pid)) e) (Int.toNat (rLivesV t_1 pid))
                                (PR.mk (0 : Int) (0 : Int) (ByteArray.mk #[]) false (0 : Int) (ByteArray.mk #[]) false false)).3,
                              SV.bool
                               (List.getD (List.set (rL t) (Int.toNat (rLivesV t_1 pid)) e) (Int.toNat (rLivesV t_1 pid))
                                (PR.mk (0 : Int) (0 : Int) (ByteArray.mk #[]) false (0 : Int) (ByteArray.mk #[]) false false)).4,
                              SV.int IntKind.i64
                               (List.getD (List.set (rL t) (Int.toNat (rLivesV t_1 pid)) e) (Int.toNat (rLivesV t_1 pid))
                                (PR.mk (0 : Int) (0 : Int) (ByteArray.mk #[]) false (0 : Int) (ByteArray.mk #[]) false false)).5,
                              SV.str
                               (List.getD (List.set (rL t) (Int.toNat (rLivesV t_1 pid)) e) (Int.toNat (rLivesV t_1 pid))
                                (PR.mk (0 : Int) (0 : Int) (ByteArray.mk #[]) false (0 : Int) (ByteArray.mk #[]) false false)).6,
                              SV.bool
                               (List.getD (List.set (rL t) (Int.toNat (rLivesV t_1 pid)) e) (Int.toNat (rLivesV t_1 pid))
                                (PR.mk (0 : Int) (0 : Int) (ByteArray.mk #[]) false (0 : Int) (ByteArray.mk #[]) false false)).7,
                              SV.bool true] ∧
                             N
                              [Ent.mk (Loc.blk b)
                               (SObj.cells [SV.vec 1 ao (List.length (rL t)) cap, SV.int IntKind.i64 t.3, SV.int IntKind.i64 t.4] (152 : TypeId)),
                               Ent.mk (Loc.sl ao cap)
                                (SObj.vecL (149 : TypeId) 8 encR (List.set (List.set (rL t) (Int.toNat (rLivesV t_1 pid)) e) (Int.toNat (rLivesV t_1 pid)) e_1)
                                 (PR.mk (0 : Int) (0 : Int) (ByteArray.mk #[]) false (0 : Int) (ByteArray.mk #[]) false false))]
                              (SV.int IntKind.i64 (0 : Int))
                        | false =>
                         (ao = ao ∧
                          cap = cap ∧
                           List.length (rL t) = List.length (List.set (rL t) (Int.toNat (rLivesV t_1 pid)) e) ∧
                            (0 : Int) ≤ rLivesV t_1 pid ∧ rLivesV t_1 pid < (↑(List.length (rL t)) : Int)) ∧
                          (Addr.blkD ao = Addr.blkD ao ∧
                           Addr.offD ao = Addr.offD ao ∧
                            8 = 8 ∧
                             Int.toNat (rLivesV t_1 pid) < List.length (List.set (rL t) (Int.toNat (rLivesV t_1 pid)) e) ∧
                              true = true ∧ 1 = 1 ∧ 8 ≤ 8) ∧
                           ∃ (e_1 : PR),
                            [SV.int IntKind.i64 e_1.1, SV.int IntKind.i64 e_1.2, SV.str e_1.3, SV.bool e_1.4, SV.int IntKind.i64 e_1.5, SV.str e_1.6, SV.bool e_1.7,
                             SV.bool e_1.8] =
                             [SV.int IntKind.i64
                              (List.getD (List.set (rL t) (Int.toNat (rLivesV t_1 pid)) e) (Int.toNat (rLivesV t_1 pid))
                               (PR.mk (0 : Int) (0 : Int) (ByteArray.mk #[]) false (0 : Int) (ByteArray.mk #[]) false false)).1,
                              SV.int IntKind.i64
                               (List.getD (List.set (rL t) (Int.toNat (rLivesV t_1 pid)) e) (Int.toNat (rLivesV t_1 pid))
                                (PR.mk (0 : Int) (0 : Int) (ByteArray.mk #[]) false (0 : Int) (ByteArray.mk #[]) false false)).2,
                              SV.str
                               (List.getD (List.set (rL t) (Int.toNat (rLivesV t_1 pid)) e) (Int.toNat (rLivesV t_1 pid))
                                (PR.mk (0 : Int) (0 : Int) (ByteArray.mk #[]) false (0 : Int) (ByteArray.mk #[]) false false)).3,
                              SV.bool
                               (List.getD (List.set (rL t) (Int.toNat (rLivesV t_1 pid)) e) (Int.toNat (rLivesV t_1 pid))
                                (PR.mk (0 : Int) (0 : Int) (ByteArray.mk #[]) false (0 : Int) (ByteArray.mk #[]) false false)).4,
                              SV.int IntKind.i64
                               (List.getD (List.set (rL t) (Int.toNat (rLivesV t_1 pid)) e) (Int.toNat (rLivesV t_1 pid))
                                (PR.mk (0 : Int) (0 : Int) (ByteArray.mk #[]) false (0 : Int) (ByteArray.mk #[]) false false)).5,
                              SV.str
                               (List.getD (List.set (rL t) (Int.toNat (rLivesV t_1 pid)) e) (Int.toNat (rLivesV t_1 pid))
                                (PR.mk (0 : Int) (0 : Int) (ByteArray.mk #[]) false (0 : Int) (ByteArray.mk #[]) false false)).6,
                              SV.bool
                               (List.getD (List.set (rL t) (Int.toNat (rLivesV t_1 pid)) e) (Int.toNat (rLivesV t_1 pid))
                                (PR.mk (0 : Int) (0 : Int) (ByteArray.mk #[]) false (0 : Int) (ByteArray.mk #[]) false false)).7,
                              SV.bool (sig == (9 : Int))] ∧
                             N
                              [Ent.mk (Loc.blk b)
                               (SObj.cells [SV.vec 1 ao (List.length (rL t)) cap, SV.int IntKind.i64 t.3, SV.int IntKind.i64 t.4] (152 : TypeId)),
                               Ent.mk (Loc.sl ao cap)
                                (SObj.vecL (149 : TypeId) 8 encR (List.set (List.set (rL t) (Int.toNat (rLivesV t_1 pid)) e) (Int.toNat (rLivesV t_1 pid)) e_1)
                                 (PR.mk (0 : Int) (0 : Int) (ByteArray.mk #[]) false (0 : Int) (ByteArray.mk #[]) false false))]
                              (SV.int IntKind.i64 (0 : Int))) := by kernel_rfl


theorem rt_reap (K : List Frm → Sy → Prop) (N : List Ent → SV → Prop) (t : PT) (b : Nat) (ao : Option Addr) (cap : Nat) (parent : Int) : (run Try.prog [] false [] K (retP Try.prog Try.f43.results.toList N) 900 [.code (bodyOf Try.f43)] ⟨padTo 53 [.ptr 0 b 0, .int .i64 parent], [⟨.blk b, .cells [.vec 1 ao (rL t).length cap, .int .i64 t.room, .int .i64 t.last] 152⟩, ⟨.sl ao cap, .vecL 149 8 encR (rL t) PR.zero⟩]⟩) = (
∀ (b_1 : Nat),
 K (frm [] (bodyOf Try.f43) [1, 0, 1, 0] [])
  (Sy.mk (SV.ptr 0 b 0 :: (SV.int IntKind.i64 parent :: (SV.raw (Value.tuple #[]) :: (SV.raw (Value.tuple #[]) :: (SV.ptr 2 b_1 0 :: (SV.int IntKind.i64 (0 : Int) :: (SV.int IntKind.i64 (0 : Int) :: (rawE [] 46))))))))
   [Ent.mk (Loc.blk b) (SObj.cells [SV.vec 1 ao (List.length (rL t)) cap, SV.int IntKind.i64 t.3, SV.int IntKind.i64 t.4] (152 : TypeId)),
    Ent.mk (Loc.sl ao cap) (SObj.vecL (149 : TypeId) 8 encR (rL t) (PR.mk (0 : Int) (0 : Int) (ByteArray.mk #[]) false (0 : Int) (ByteArray.mk #[]) false false)),
    Ent.mk (Loc.blk b_1)
     (SObj.cells [SV.int IntKind.i64 (0 : Int), SV.int IntKind.i64 (0 : Int), SV.str (ByteArray.mk #[]), SV.bool false, SV.int IntKind.i64 (0 : Int), SV.str (ByteArray.mk #[])] 45)])) := by kernel_rfl


theorem rt_get (K : List Frm → Sy → Prop) (N : List Ent → SV → Prop) (t : PT) (b : Nat) (ao : Option Addr) (cap : Nat) (pid : Int) : (run Try.prog rtL false [] K (retP Try.prog Try.f44.results.toList N) 600 [.code (bodyOf Try.f44)] ⟨padTo 21 [.ptr 0 b 0, .int .i64 pid], [⟨.blk b, .cells [.vec 1 ao (rL t).length cap, .int .i64 t.room, .int .i64 t.last] 152⟩, ⟨.sl ao cap, .vecL 149 8 encR (rL t) PR.zero⟩]⟩) = (
∀ (b_1 : Nat),
 true = true ∧
  ∃ (t_1 : PT),
   ∃ (l1 : Nat),
    ∃ (ao_1 : Option Addr),
     ∃ (cap_1 : Nat),
      some (Ent.mk (Loc.blk b) (SObj.cells [SV.vec 1 ao (List.length (rL t)) cap, SV.int IntKind.i64 t.3, SV.int IntKind.i64 t.4] (152 : TypeId))) =
       some (Ent.mk (Loc.blk b) (SObj.cells [SV.vec l1 ao_1 (List.length (rL t_1)) cap_1, SV.int IntKind.i64 t_1.3, SV.int IntKind.i64 t_1.4] (152 : TypeId))) ∧
       nth
        [Ent.mk (Loc.blk b) (SObj.cells [SV.vec 1 ao (List.length (rL t)) cap, SV.int IntKind.i64 t.3, SV.int IntKind.i64 t.4] (152 : TypeId)),
         Ent.mk (Loc.sl ao cap) (SObj.vecL (149 : TypeId) 8 encR (rL t) (PR.mk (0 : Int) (0 : Int) (ByteArray.mk #[]) false (0 : Int) (ByteArray.mk #[]) false false)),
         Ent.mk (Loc.blk b_1)
          (SObj.cells [SV.int IntKind.i64 (0 : Int), SV.int IntKind.i64 (0 : Int), SV.str (ByteArray.mk #[]), SV.bool false, SV.int IntKind.i64 (0 : Int), SV.str (ByteArray.mk #[])]
           45)]
        l1 =
        some (Ent.mk (Loc.sl ao_1 cap_1) (SObj.vecL (149 : TypeId) 8 encR (rL t_1) (PR.mk (0 : Int) (0 : Int) (ByteArray.mk #[]) false (0 : Int) (ByteArray.mk #[]) false false))) ∧
        (Nat.beq 0 l1 = false ∧ pOk t_1) ∧
         match decide (rAtV t_1 pid < (0 : Int)) with
         | true =>
          (true = true ∧ true = true) ∧
           (b_1 = b_1 ∧ true = true ∧ 6 = 6 ∧ 6 ≤ 6) ∧
            (b_1 = b_1 ∧ 6 = 6) ∧
             N
              [Ent.mk (Loc.blk b) (SObj.cells [SV.vec 1 ao (List.length (rL t)) cap, SV.int IntKind.i64 t.3, SV.int IntKind.i64 t.4] (152 : TypeId)),
               Ent.mk (Loc.sl ao cap) (SObj.vecL (149 : TypeId) 8 encR (rL t) (PR.mk (0 : Int) (0 : Int) (ByteArray.mk #[]) false (0 : Int) (ByteArray.mk #[]) false false)),
               Ent.mk (Loc.blk b_1)
                (SObj.cells
                 [SV.int IntKind.i64 (0 : Int), SV.int IntKind.i64 (0 : Int), SV.str (ByteArray.mk #[]), SV.bool false, SV.int IntKind.i64 (0 : Int), SV.str (ByteArray.mk #[])]
                 45)]
              (SV.tuple
               [SV.agg [SV.int IntKind.i64 (0 : Int), SV.int IntKind.i64 (0 : Int), SV.str (ByteArray.mk #[]), SV.bool false, SV.int IntKind.i64 (0 : Int), SV.str (ByteArray.mk #[])],
                SV.bool false])
         | false =>
          b = b ∧
           (ao = ao ∧ cap = cap ∧ List.length (rL t) = List.length (rL t) ∧ (0 : Int) ≤ rAtV t_1 pid ∧ rAtV t_1 pid < (↑(List.length (rL t)) : Int)) ∧
            (Addr.blkD ao = Addr.blkD ao ∧ Addr.offD ao = Addr.offD ao ∧ 8 = 8 ∧ Int.toNat (rAtV t_1 pid) < List.length (rL t) ∧ 6 = 6) ∧
             (b_1 = b_1 ∧ true = true ∧ 6 = 6 ∧ 6 ≤ 6) ∧
              (b_1 = b_1 ∧ 6 = 6) ∧
               N
                [Ent.mk (Loc.blk b) (SObj.cells [SV.vec 1 ao (List.length (rL t)) cap, SV.int IntKind.i64 t.3, SV.int IntKind.i64 t.4] (152 : TypeId)),
                 Ent.mk (Loc.sl ao cap) (SObj.vecL (149 : TypeId) 8 encR (rL t) (PR.mk (0 : Int) (0 : Int) (ByteArray.mk #[]) false (0 : Int) (ByteArray.mk #[]) false false)),
                 Ent.mk (Loc.blk b_1)
                  (SObj.cells
                   [SV.int IntKind.i64 (List.getD (rL t) (Int.toNat (rAtV t_1 pid)) (PR.mk (0 : Int) (0 : Int) (ByteArray.mk #[]) false (0 : Int) (ByteArray.mk #[]) false false)).1,
                    SV.int IntKind.i64
                     (List.getD (rL t) (Int.toNat (rAtV t_1 pid)) (PR.mk (0 : Int) (0 : Int) (ByteArray.mk #[]) false (0 : Int) (ByteArray.mk #[]) false false)).2,
                    SV.str (List.getD (rL t) (Int.toNat (rAtV t_1 pid)) (PR.mk (0 : Int) (0 : Int) (ByteArray.mk #[]) false (0 : Int) (ByteArray.mk #[]) false false)).3,
                    SV.bool (List.getD (rL t) (Int.toNat (rAtV t_1 pid)) (PR.mk (0 : Int) (0 : Int) (ByteArray.mk #[]) false (0 : Int) (ByteArray.mk #[]) false false)).4,
                    SV.int IntKind.i64
                     (List.getD (rL t) (Int.toNat (rAtV t_1 pid)) (PR.mk (0 : Int) (0 : Int) (ByteArray.mk #[]) false (0 : Int) (ByteArray.mk #[]) false false)).5,
                    SV.str (List.getD (rL t) (Int.toNat (rAtV t_1 pid)) (PR.mk (0 : Int) (0 : Int) (ByteArray.mk #[]) false (0 : Int) (ByteArray.mk #[]) false false)).6]
                   45)]
                (SV.tuple
                 [SV.agg
                  [SV.int IntKind.i64 (List.getD (rL t) (Int.toNat (rAtV t_1 pid)) (PR.mk (0 : Int) (0 : Int) (ByteArray.mk #[]) false (0 : Int) (ByteArray.mk #[]) false false)).1,
                   SV.int IntKind.i64
                    (List.getD (rL t) (Int.toNat (rAtV t_1 pid)) (PR.mk (0 : Int) (0 : Int) (ByteArray.mk #[]) false (0 : Int) (ByteArray.mk #[]) false false)).2,
                   SV.str (List.getD (rL t) (Int.toNat (rAtV t_1 pid)) (PR.mk (0 : Int) (0 : Int) (ByteArray.mk #[]) false (0 : Int) (ByteArray.mk #[]) false false)).3,
                   SV.bool (List.getD (rL t) (Int.toNat (rAtV t_1 pid)) (PR.mk (0 : Int) (0 : Int) (ByteArray.mk #[]) false (0 : Int) (ByteArray.mk #[]) false false)).4,
                   SV.int IntKind.i64
                    (List.getD (rL t) (Int.toNat (rAtV t_1 pid)) (PR.mk (0 : Int) (0 : Int) (ByteArray.mk #[]) false (0 : Int) (ByteArray.mk #[]) false false)).5,
                   SV.str (List.getD (rL t) (Int.toNat (rAtV t_1 pid)) (PR.mk (0 : Int) (0 : Int) (ByteArray.mk #[]) false (0 : Int) (ByteArray.mk #[]) false false)).6],
                  SV.bool true])) := by kernel_rfl


theorem rt_sig (K : List Frm → Sy → Prop) (N : List Ent → SV → Prop) (t : PT) (b : Nat) (ao : Option Addr) (cap : Nat) (pid : Int) : (run Try.prog rtL false [] K (retP Try.prog Try.f46.results.toList N) 600 [.code (bodyOf Try.f46)] ⟨padTo 28 [.ptr 0 b 0, .int .i64 pid], [⟨.blk b, .cells [.vec 1 ao (rL t).length cap, .int .i64 t.room, .int .i64 t.last] 152⟩, ⟨.sl ao cap, .vecL 149 8 encR (rL t) PR.zero⟩]⟩) = (
true = true ∧
 ∃ (t_1 : PT),
  ∃ (l1 : Nat),
   ∃ (ao_1 : Option Addr),
    ∃ (cap_1 : Nat),
     some (Ent.mk (Loc.blk b) (SObj.cells [SV.vec 1 ao (List.length (rL t)) cap, SV.int IntKind.i64 t.3, SV.int IntKind.i64 t.4] (152 : TypeId))) =
      some (Ent.mk (Loc.blk b) (SObj.cells [SV.vec l1 ao_1 (List.length (rL t_1)) cap_1, SV.int IntKind.i64 t_1.3, SV.int IntKind.i64 t_1.4] (152 : TypeId))) ∧
      nth
       [Ent.mk (Loc.blk b) (SObj.cells [SV.vec 1 ao (List.length (rL t)) cap, SV.int IntKind.i64 t.3, SV.int IntKind.i64 t.4] (152 : TypeId)),
        Ent.mk (Loc.sl ao cap) (SObj.vecL (149 : TypeId) 8 encR (rL t) (PR.mk (0 : Int) (0 : Int) (ByteArray.mk #[]) false (0 : Int) (ByteArray.mk #[]) false false))]
       l1 =
       some (Ent.mk (Loc.sl ao_1 cap_1) (SObj.vecL (149 : TypeId) 8 encR (rL t_1) (PR.mk (0 : Int) (0 : Int) (ByteArray.mk #[]) false (0 : Int) (ByteArray.mk #[]) false false))) ∧
       (Nat.beq 0 l1 = false ∧ pOk t_1) ∧
        match decide (rAtV t_1 pid < (0 : Int)) with
        | true =>
         N
          [Ent.mk (Loc.blk b) (SObj.cells [SV.vec 1 ao (List.length (rL t)) cap, SV.int IntKind.i64 t.3, SV.int IntKind.i64 t.4] (152 : TypeId)),
           Ent.mk (Loc.sl ao cap) (SObj.vecL (149 : TypeId) 8 encR (rL t) (PR.mk (0 : Int) (0 : Int) (ByteArray.mk #[]) false (0 : Int) (ByteArray.mk #[]) false false))]
          (SV.tuple [SV.bool false, SV.bool false])
        | false =>
         b = b ∧
          (ao = ao ∧ cap = cap ∧ List.length (rL t) = List.length (rL t) ∧ (0 : Int) ≤ rAtV t_1 pid ∧ rAtV t_1 pid < (↑(List.length (rL t)) : Int)) ∧
           (Addr.blkD ao = Addr.blkD ao ∧ Addr.offD ao = Addr.offD ao ∧ 8 = 8 ∧ Int.toNat (rAtV t_1 pid) < List.length (rL t)) ∧
            b = b ∧
             (ao = ao ∧ cap = cap ∧ List.length (rL t) = List.length (rL t) ∧ (0 : Int) ≤ rAtV t_1 pid ∧ rAtV t_1 pid < (↑(List.length (rL t)) : Int)) ∧
              (Addr.blkD ao = Addr.blkD ao ∧ Addr.offD ao = Addr.offD ao ∧ 8 = 8 ∧ Int.toNat (rAtV t_1 pid) < List.length (rL t)) ∧
               N
                [Ent.mk (Loc.blk b) (SObj.cells [SV.vec 1 ao (List.length (rL t)) cap, SV.int IntKind.i64 t.3, SV.int IntKind.i64 t.4] (152 : TypeId)),
                 Ent.mk (Loc.sl ao cap) (SObj.vecL (149 : TypeId) 8 encR (rL t) (PR.mk (0 : Int) (0 : Int) (ByteArray.mk #[]) false (0 : Int) (ByteArray.mk #[]) false false))]
                (SV.tuple
                 [SV.bool (List.getD (rL t) (Int.toNat (rAtV t_1 pid)) (PR.mk (0 : Int) (0 : Int) (ByteArray.mk #[]) false (0 : Int) (ByteArray.mk #[]) false false)).7,
                  SV.bool (List.getD (rL t) (Int.toNat (rAtV t_1 pid)) (PR.mk (0 : Int) (0 : Int) (ByteArray.mk #[]) false (0 : Int) (ByteArray.mk #[]) false false)).8])) := by kernel_rfl


theorem rt_len (K : List Frm → Sy → Prop) (N : List Ent → SV → Prop) (t : PT) (b : Nat) (ao : Option Addr) (cap : Nat) : (run Try.prog [] false [] K (retP Try.prog Try.f47.results.toList N) 600 [.code (bodyOf Try.f47)] ⟨padTo 9 [.ptr 0 b 0], [⟨.blk b, .cells [.vec 1 ao (rL t).length cap, .int .i64 t.room, .int .i64 t.last] 152⟩, ⟨.sl ao cap, .vecL 149 8 encR (rL t) PR.zero⟩]⟩) = (
b = b ∧
 N
  [Ent.mk (Loc.blk b) (SObj.cells [SV.vec 1 ao (List.length (rL t)) cap, SV.int IntKind.i64 t.3, SV.int IntKind.i64 t.4] (152 : TypeId)),
   Ent.mk (Loc.sl ao cap) (SObj.vecL (149 : TypeId) 8 encR (rL t) (PR.mk (0 : Int) (0 : Int) (ByteArray.mk #[]) false (0 : Int) (ByteArray.mk #[]) false false))]
  (SV.int IntKind.i64 (IntKind.wrap IntKind.i64 ((↑(List.length (rL t)) : Int) - (1 : Int))))) := by kernel_rfl


theorem rt_all (K : List Frm → Sy → Prop) (N : List Ent → SV → Prop) (t : PT) (b : Nat) (ao : Option Addr) (cap : Nat) : (run Try.prog [] false [] K (retP Try.prog Try.f49.results.toList N) 600 [.code (bodyOf Try.f49)] ⟨padTo 26 [.ptr 0 b 0], [⟨.blk b, .cells [.vec 1 ao (rL t).length cap, .int .i64 t.room, .int .i64 t.last] 152⟩, ⟨.sl ao cap, .vecL 149 8 encR (rL t) PR.zero⟩]⟩) = (
K (frm [] (bodyOf Try.f49) [1, 1, 0, 1, 0] [])
 (Sy.mk (SV.ptr 0 b 0 :: (SV.raw (Value.tuple #[]) :: (SV.raw (Value.slice (@none Addr) 0 0) :: (SV.raw (Value.slice (@none Addr) 0 0) :: (SV.int IntKind.i64 (0 : Int) :: (rawE [] 21))))))
  [Ent.mk (Loc.blk b) (SObj.cells [SV.vec 1 ao (List.length (rL t)) cap, SV.int IntKind.i64 t.3, SV.int IntKind.i64 t.4] (152 : TypeId)),
   Ent.mk (Loc.sl ao cap) (SObj.vecL (149 : TypeId) 8 encR (rL t) (PR.mk (0 : Int) (0 : Int) (ByteArray.mk #[]) false (0 : Int) (ByteArray.mk #[]) false false))])) := by kernel_rfl


theorem rps_run (K : List Frm → Sy → Prop) (N : List Ent → SV → Prop) (xs : List PR) (ao ao' : Option Addr) (cap cap' : Nat) : (run Try.prog [] false [] K (retP Try.prog Try.f48.results.toList N) 600 [.code (bodyOf Try.f48)] ⟨padTo 26 [.vec 0 ao xs.length cap, .vec 1 ao' xs.length cap'], [⟨.sl ao cap, .vecL 45 6 encP6 xs PR.zero⟩, ⟨.sl ao' cap', .vecL 45 6 encP6 xs PR.zero⟩]⟩) = (
match (↑(List.length xs) : Int) != (↑(List.length xs) : Int) with
| true =>
 N
  [Ent.mk (Loc.sl ao cap) (SObj.vecL (45 : TypeId) 6 encP6 xs (PR.mk (0 : Int) (0 : Int) (ByteArray.mk #[]) false (0 : Int) (ByteArray.mk #[]) false false)),
   Ent.mk (Loc.sl ao' cap') (SObj.vecL (45 : TypeId) 6 encP6 xs (PR.mk (0 : Int) (0 : Int) (ByteArray.mk #[]) false (0 : Int) (ByteArray.mk #[]) false false))]
  (SV.bool false)
| false =>
 K (frm [] (bodyOf Try.f48) [1, 1, 0, 1, 0] [])
  (Sy.mk (SV.vec 0 ao (List.length xs) cap :: (SV.vec 1 ao' (List.length xs) cap' :: (SV.raw (Value.tuple #[]) :: (SV.raw (Value.tuple #[]) :: (SV.bool false :: (SV.int IntKind.i64 (0 : Int) :: (SV.vec 0 ao (List.length xs) cap :: (SV.int IntKind.i64 (↑(List.length xs) : Int) :: (SV.vec 1 ao' (List.length xs) cap' :: (SV.int IntKind.i64 (↑(List.length xs) : Int) :: (SV.bool false :: (rawE [] 15))))))))))))
   [Ent.mk (Loc.sl ao cap) (SObj.vecL (45 : TypeId) 6 encP6 xs (PR.mk (0 : Int) (0 : Int) (ByteArray.mk #[]) false (0 : Int) (ByteArray.mk #[]) false false)),
    Ent.mk (Loc.sl ao' cap') (SObj.vecL (45 : TypeId) 6 encP6 xs (PR.mk (0 : Int) (0 : Int) (ByteArray.mk #[]) false (0 : Int) (ByteArray.mk #[]) false false))])) := by kernel_rfl


theorem rt_exit1 (K : List Frm → Sy → Prop) (N : List Ent → SV → Prop) (J : Act → World → Prop) (room last : Int) (xs : List PR) (b : Nat) (ao : Option Addr) (cap : Nat) (pid : Int) (i : Nat) (u : Nat → Value) : (run Try.prog [] false [] K (retP Try.prog Try.f40.results.toList N) 900 (frm [J] (bodyOf Try.f40) [1, 1, 1, 1, 1, 0, 1, 0, 0] []) ⟨mkT u 69 0 [(0, .ptr 0 b 0), (1, .int .i64 pid), (8, .int .i64 (i : Int))], [⟨.blk b, .cells [.vec 1 ao xs.length cap, .int .i64 room, .int .i64 last] 152⟩, ⟨.sl ao cap, .vecL 149 8 encR xs PR.zero⟩]⟩) = (
b = b ∧
 match decide ((↑i : Int) < (↑(List.length xs) : Int)) with
 | true =>
  b = b ∧
   (ao = ao ∧ cap = cap ∧ List.length xs = List.length xs ∧ (0 : Int) ≤ (↑i : Int) ∧ (↑i : Int) < (↑(List.length xs) : Int)) ∧
    (Addr.blkD ao = Addr.blkD ao ∧ Addr.offD ao = Addr.offD ao ∧ 8 = 8 ∧ Int.toNat (↑i : Int) < List.length xs) ∧
     match (List.getD xs (Int.toNat (↑i : Int)) (PR.mk (0 : Int) (0 : Int) (ByteArray.mk #[]) false (0 : Int) (ByteArray.mk #[]) false false)).2 == pid with
     | true =>
      b = b ∧
       (ao = ao ∧ cap = cap ∧ List.length xs = List.length xs ∧ (0 : Int) ≤ (↑i : Int) ∧ (↑i : Int) < (↑(List.length xs) : Int)) ∧
        (Addr.blkD ao = Addr.blkD ao ∧
         Addr.offD ao = Addr.offD ao ∧ 8 = 8 ∧ Int.toNat (↑i : Int) < List.length xs ∧ true = true ∧ 1 = 1 ∧ 2 ≤ 8) ∧
         ∃ (e : PR),
          [SV.int IntKind.i64 e.1, SV.int IntKind.i64 e.2, SV.str e.3, SV.bool e.4, SV.int IntKind.i64 e.5, SV.str e.6, SV.bool e.7, SV.bool e.8] =
           [SV.int IntKind.i64 (List.getD xs (Int.toNat (↑i : Int)) (PR.mk (0 : Int) (0 : Int) (ByteArray.mk #[]) false (0 : Int) (ByteArray.mk #[]) false false)).1,
            SV.int IntKind.i64 (1 : Int), SV.str (List.getD xs (Int.toNat (↑i : Int)) (PR.mk (0 : Int) (0 : Int) (ByteArray.mk #[]) false (0 : Int) (ByteArray.mk #[]) false false)).3,
            SV.bool (List.getD xs (Int.toNat (↑i : Int)) (PR.mk (0 : Int) (0 : Int) (ByteArray.mk #[]) false (0 : Int) (ByteArray.mk #[]) false false)).4,
            SV.int IntKind.i64 (List.getD xs (Int.toNat (↑i : Int)) (PR.mk (0 : Int) (0 : Int) (ByteArray.mk #[]) false (0 : Int) (ByteArray.mk #[]) false false)).5,
            SV.str (List.getD xs (Int.toNat (↑i : Int)) (PR.mk (0 : Int) (0 : Int) (ByteArray.mk #[]) false (0 : Int) (ByteArray.mk #[]) false false)).6,
            SV.bool (List.getD xs (Int.toNat (↑i : Int)) (PR.mk (0 : Int) (0 : Int) (ByteArray.mk #[]) false (0 : Int) (ByteArray.mk #[]) false false)).7,
            SV.bool (List.getD xs (Int.toNat (↑i : Int)) (PR.mk (0 : Int) (0 : Int) (ByteArray.mk #[]) false (0 : Int) (ByteArray.mk #[]) false false)).8] ∧
           K (Frm.loop J :: Frm.blk 0 :: frm [] (bodyOf Try.f40) [1, 1, 1, 1, 1, 1] [])
            (Sy.mk (SV.ptr 0 b 0 :: (SV.int IntKind.i64 pid :: (rawR u 2 (SV.int IntKind.i64 (IntKind.wrap IntKind.i64 ((↑i : Int) + (1 : Int))) :: (rawR u 9 (SV.int IntKind.i64 (↑i : Int) :: (SV.ptr 0 b 0 :: (SV.ptr 0 b 0 :: (SV.ptr 0 b 0 :: (SV.vec 1 ao (List.length xs) cap :: (SV.int IntKind.i64 (↑(List.length xs) : Int) :: (SV.bool true :: (SV.int IntKind.i64 (↑i : Int) :: (SV.int IntKind.i64 (IntKind.wrap IntKind.i64 ((↑i : Int) + (1 : Int))) :: (SV.ptr 0 b 0 :: (SV.ptr 0 b 0 :: (SV.ptr 0 b 0 :: (SV.vec 1 ao (List.length xs) cap :: (SV.int IntKind.i64 (↑i : Int) :: (SV.eptr 1 (Addr.blkD ao) (Addr.offD ao) 8 (Int.toNat (↑i : Int)) 0 :: (SV.eptr 1 (Addr.blkD ao) (Addr.offD ao) 8 (Int.toNat (↑i : Int)) 0 :: (SV.eptr 1 (Addr.blkD ao) (Addr.offD ao) 8 (Int.toNat (↑i : Int)) 1 :: (SV.int IntKind.i64 (List.getD xs (Int.toNat (↑i : Int)) (PR.mk (0 : Int) (0 : Int) (ByteArray.mk #[]) false (0 : Int) (ByteArray.mk #[]) false false)).2 :: (SV.int IntKind.i64 pid :: (SV.bool true :: (SV.ptr 0 b 0 :: (SV.ptr 0 b 0 :: (SV.ptr 0 b 0 :: (SV.vec 1 ao (List.length xs) cap :: (SV.int IntKind.i64 (↑i : Int) :: (SV.eptr 1 (Addr.blkD ao) (Addr.offD ao) 8 (Int.toNat (↑i : Int)) 0 :: (SV.eptr 1 (Addr.blkD ao) (Addr.offD ao) 8 (Int.toNat (↑i : Int)) 0 :: (SV.eptr 1 (Addr.blkD ao) (Addr.offD ao) 8 (Int.toNat (↑i : Int)) 1 :: [])))))))))))))))))))))))))))) 32)) 6)))
             [Ent.mk (Loc.blk b) (SObj.cells [SV.vec 1 ao (List.length xs) cap, SV.int IntKind.i64 room, SV.int IntKind.i64 last] (152 : TypeId)),
              Ent.mk (Loc.sl ao cap)
               (SObj.vecL (149 : TypeId) 8 encR (List.set xs (Int.toNat (↑i : Int)) e)
                (PR.mk (0 : Int) (0 : Int) (ByteArray.mk #[]) false (0 : Int) (ByteArray.mk #[]) false false))])
     | false =>
      K (Frm.loop J :: Frm.blk 0 :: frm [] (bodyOf Try.f40) [1, 1, 1, 1, 1, 1] [])
       (Sy.mk (SV.ptr 0 b 0 :: (SV.int IntKind.i64 pid :: (rawR u 2 (SV.int IntKind.i64 (IntKind.wrap IntKind.i64 ((↑i : Int) + (1 : Int))) :: (rawR u 9 (SV.int IntKind.i64 (↑i : Int) :: (SV.ptr 0 b 0 :: (SV.ptr 0 b 0 :: (SV.ptr 0 b 0 :: (SV.vec 1 ao (List.length xs) cap :: (SV.int IntKind.i64 (↑(List.length xs) : Int) :: (SV.bool true :: (SV.int IntKind.i64 (↑i : Int) :: (SV.int IntKind.i64 (IntKind.wrap IntKind.i64 ((↑i : Int) + (1 : Int))) :: (SV.ptr 0 b 0 :: (SV.ptr 0 b 0 :: (SV.ptr 0 b 0 :: (SV.vec 1 ao (List.length xs) cap :: (SV.int IntKind.i64 (↑i : Int) :: (SV.eptr 1 (Addr.blkD ao) (Addr.offD ao) 8 (Int.toNat (↑i : Int)) 0 :: (SV.eptr 1 (Addr.blkD ao) (Addr.offD ao) 8 (Int.toNat (↑i : Int)) 0 :: (SV.eptr 1 (Addr.blkD ao) (Addr.offD ao) 8 (Int.toNat (↑i : Int)) 1 :: (SV.int IntKind.i64 (List.getD xs (Int.toNat (↑i : Int)) (PR.mk (0 : Int) (0 : Int) (ByteArray.mk #[]) false (0 : Int) (ByteArray.mk #[]) false false)).2 :: (SV.int IntKind.i64 pid :: (SV.bool false :: (rawR u 61 [] 8))))))))))))))))))))) 32)) 6)))
        [Ent.mk (Loc.blk b) (SObj.cells [SV.vec 1 ao (List.length xs) cap, SV.int IntKind.i64 room, SV.int IntKind.i64 last] (152 : TypeId)),
         Ent.mk (Loc.sl ao cap) (SObj.vecL (149 : TypeId) 8 encR xs (PR.mk (0 : Int) (0 : Int) (ByteArray.mk #[]) false (0 : Int) (ByteArray.mk #[]) false false))])
 | false =>
  N
   [Ent.mk (Loc.blk b) (SObj.cells [SV.vec 1 ao (List.length xs) cap, SV.int IntKind.i64 room, SV.int IntKind.i64 last] (152 : TypeId)),
    Ent.mk (Loc.sl ao cap) (SObj.vecL (149 : TypeId) 8 encR xs (PR.mk (0 : Int) (0 : Int) (ByteArray.mk #[]) false (0 : Int) (ByteArray.mk #[]) false false))]
   (SV.int IntKind.i64 (0 : Int))) := by kernel_rfl


theorem rt_reap1 (K : List Frm → Sy → Prop) (N : List Ent → SV → Prop) (J : Act → World → Prop) (t : PT) (b : Nat) (ao : Option Addr) (cap : Nat) (parent : Int) (b1 : Nat) (i : Nat) (u : Nat → Value) : (run Try.prog [] false [] K (retP Try.prog Try.f43.results.toList N) 900 (frm [J] (bodyOf Try.f43) [1, 0, 1, 0, 0] []) ⟨mkT u 53 0 [(0, .ptr 0 b 0), (1, .int .i64 parent), (4, .ptr 2 b1 0), (5, .int .i64 0), (6, .int .i64 (i : Int))], [⟨.blk b, .cells [.vec 1 ao (rL t).length cap, .int .i64 t.room, .int .i64 t.last] 152⟩, ⟨.sl ao cap, .vecL 149 8 encR (rL t) PR.zero⟩, ⟨.blk b1, .cells [.int .i64 0, .int .i64 0, .str ⟨#[]⟩, .bool false, .int .i64 0, .str ⟨#[]⟩] 45⟩]⟩) = (
b = b ∧
 match decide ((↑i : Int) < (↑(List.length (rL t)) : Int)) with
 | true =>
  b = b ∧
   (ao = ao ∧ cap = cap ∧ List.length (rL t) = List.length (rL t) ∧ (0 : Int) ≤ (↑i : Int) ∧ (↑i : Int) < (↑(List.length (rL t)) : Int)) ∧
    (Addr.blkD ao = Addr.blkD ao ∧ Addr.offD ao = Addr.offD ao ∧ 8 = 8 ∧ Int.toNat (↑i : Int) < List.length (rL t) ∧ 6 = 6) ∧
     ∀ (b_1 : Nat),
      (b_1 = b_1 ∧ true = true ∧ 6 = 6 ∧ 6 ≤ 6) ∧
       b_1 = b_1 ∧
        match (List.getD (rL t) (Int.toNat (↑i : Int)) (PR.mk (0 : Int) (0 : Int) (ByteArray.mk #[]) false (0 : Int) (ByteArray.mk #[]) false false)).4 with
        | true =>
         b_1 = b_1 ∧
          match (List.getD (rL t) (Int.toNat (↑i : Int)) (PR.mk (0 : Int) (0 : Int) (ByteArray.mk #[]) false (0 : Int) (ByteArray.mk #[]) false false)).2 == parent with
          | true =>
           (b = b ∧
            ((0 : Int) ≤ (↑i : Int) ∧ (↑i : Int) ≤ (↑cap : Int)) ∧
             ((ao = ao ∧
              cap = cap ∧
               8 = 8 ∧
                8 = 8 ∧
                 0 ≤ Int.toNat (↑i : Int) ∧
                  Int.toNat (↑i : Int) ≤ List.length (rL t) ∧
                   (Int.toNat (↑i : Int) - 0) * 72 ≤ 140737488355328 ∧ Int.toNat (↑i : Int) - 0 ≤ 9223372036854775807) ∧
              ∀ (ao2 : Option Addr) (cap2 : Nat),
               Int.toNat (↑i : Int) - 0 ≤ cap2 →
                b = b ∧
                 ((0 : Int) ≤ IntKind.wrap IntKind.i64 ((↑i : Int) + (1 : Int)) ∧
                  IntKind.wrap IntKind.i64 ((↑i : Int) + (1 : Int)) ≤ (↑(List.length (rL t)) : Int) ∧ List.length (rL t) ≤ cap) ∧
                  (ao2 = ao2 ∧
                   cap2 = cap2 ∧
                    Int.toNat (↑i : Int) - 0 = List.length (List.take (Int.toNat (↑i : Int) - 0) (List.drop 0 (rL t))) ∧
                     149 = 149 ∧
                      8 = 8 ∧
                       ao = ao ∧
                        cap = cap ∧
                         8 = 8 ∧
                          8 = 8 ∧
                           Int.toNat (IntKind.wrap IntKind.i64 ((↑i : Int) + (1 : Int))) ≤ List.length (rL t) ∧
                            List.length (rL t) ≤ List.length (rL t) ∧
                             (∀ (y : PR), true = true) ∧
                              (Int.toNat (↑i : Int) - 0 + (List.length (rL t) - Int.toNat (IntKind.wrap IntKind.i64 ((↑i : Int) + (1 : Int))))) *
                               72 ≤
                               140737488355328 ∧
                               Int.toNat (↑i : Int) - 0 + (List.length (rL t) - Int.toNat (IntKind.wrap IntKind.i64 ((↑i : Int) + (1 : Int)))) ≤
                                9223372036854775807) ∧
                   ∃ (es : List PR),
                    List.length es = List.length (rL t) - Int.toNat (IntKind.wrap IntKind.i64 ((↑i : Int) + (1 : Int))) ∧
                     List.flatMap encR es =
                      List.flatMap encR
                       (List.take (List.length (rL t) - Int.toNat (IntKind.wrap IntKind.i64 ((↑i : Int) + (1 : Int))))
                        (List.drop (Int.toNat (IntKind.wrap IntKind.i64 ((↑i : Int) + (1 : Int)))) (rL t))) ∧
                      ∀ (ao2 : Option Addr) (cap2 : Nat),
                       Int.toNat (↑i : Int) - 0 + (List.length (rL t) - Int.toNat (IntKind.wrap IntKind.i64 ((↑i : Int) + (1 : Int)))) ≤ cap2 →
                        (b = b ∧ true = true ∧ 1 = 1 ∧ 1 ≤ 3) ∧
                         (b_1 = b_1 ∧ 6 = 6) ∧
                          (b1 = b1 ∧ true = true ∧ 6 = 6 ∧ 6 ≤ 6) ∧
                           (b1 = b1 ∧ 6 = 6) ∧
                            N
                             [Ent.mk (Loc.blk b)
                              (SObj.cells
                               [SV.vec 4 ao2
                                (Int.toNat (↑i : Int) - 0 + (List.length (rL t) - Int.toNat (IntKind.wrap IntKind.i64 ((↑i : Int) + (1 : Int))))) cap2,
                                SV.int IntKind.i64 t.3, SV.int IntKind.i64 t.4]
                               (152 : TypeId)),
                              Ent.mk (Loc.sl ao cap)
                               (SObj.vecL (149 : TypeId) 8 encR (rL t)
                                (PR.mk (0 : Int) (0 : Int) (ByteArray.mk #[]) false (0 : Int) (ByteArray.mk #[]) false false)),
                              Ent.mk (Loc.blk b1)
                               (SObj.cells
                                [SV.int IntKind.i64
                                 (List.getD (rL t) (Int.toNat (↑i : Int))
                                  (PR.mk (0 : Int) (0 : Int) (ByteArray.mk #[]) false (0 : Int) (ByteArray.mk #[]) false false)).1,
                                 SV.int IntKind.i64
                                  (List.getD (rL t) (Int.toNat (↑i : Int))
                                   (PR.mk (0 : Int) (0 : Int) (ByteArray.mk #[]) false (0 : Int) (ByteArray.mk #[]) false false)).2,
                                 SV.str
                                  (List.getD (rL t) (Int.toNat (↑i : Int))
                                   (PR.mk (0 : Int) (0 : Int) (ByteArray.mk #[]) false (0 : Int) (ByteArray.mk #[]) false false)).3,
                                 SV.bool
                                  (List.getD (rL t) (Int.toNat (↑i : Int))
                                   (PR.mk (0 : Int) (0 : Int) (ByteArray.mk #[]) false (0 : Int) (ByteArray.mk #[]) false false)).4,
                                 SV.int IntKind.i64
                                  (List.getD (rL t) (Int.toNat (↑i : Int))
                                   (PR.mk (0 : Int) (0 : Int) (ByteArray.mk #[]) false (0 : Int) (ByteArray.mk #[]) false false)).5,
                                 SV.str
                                  (List.getD (rL t) (Int.toNat (↑i : Int))
                                   (PR.mk (0 : Int) (0 : Int) (ByteArray.mk #[]) false (0 : Int) (ByteArray.mk #[]) false false)).6]
                                (45 : TypeId)),
                              Ent.mk (Loc.blk b_1)
                               (SObj.cells
                                [SV.int IntKind.i64
                                 (List.getD (rL t) (Int.toNat (↑i : Int))
                                  (PR.mk (0 : Int) (0 : Int) (ByteArray.mk #[]) false (0 : Int) (ByteArray.mk #[]) false false)).1,
                                 SV.int IntKind.i64
                                  (List.getD (rL t) (Int.toNat (↑i : Int))
                                   (PR.mk (0 : Int) (0 : Int) (ByteArray.mk #[]) false (0 : Int) (ByteArray.mk #[]) false false)).2,
                                 SV.str
                                  (List.getD (rL t) (Int.toNat (↑i : Int))
                                   (PR.mk (0 : Int) (0 : Int) (ByteArray.mk #[]) false (0 : Int) (ByteArray.mk #[]) false false)).3,
                                 SV.bool
                                  (List.getD (rL t) (Int.toNat (↑i : Int))
                                   (PR.mk (0 : Int) (0 : Int) (ByteArray.mk #[]) false (0 : Int) (ByteArray.mk #[]) false false)).4,
                                 SV.int IntKind.i64
                                  (List.getD (rL t) (Int.toNat (↑i : Int))
                                   (PR.mk (0 : Int) (0 : Int) (ByteArray.mk #[]) false (0 : Int) (ByteArray.mk #[]) false false)).5,
                                 SV.str
                                  (List.getD (rL t) (Int.toNat (↑i : Int))
                                   (PR.mk (0 : Int) (0 : Int) (ByteArray.mk #[]) false (0 : Int) (ByteArray.mk #[]) false false)).6]
                                45),
                              Ent.mk (Loc.sl ao2 cap2)
                               (SObj.vecL 149 8 encR (List.take (Int.toNat (↑i : Int) - 0) (List.drop 0 (rL t)) ++ es)
                                (PR.mk (0 : Int) (0 : Int) (ByteArray.mk #[]) false (0 : Int) (ByteArray.mk #[]) false false))]
                             (SV.tuple
                              [SV.agg
                               [SV.int IntKind.i64
                                (List.getD (rL t) (Int.toNat (↑i : Int))
                                 (PR.mk (0 : Int) (0 : Int) (ByteArray.mk #[]) false (0 : Int) (ByteArray.mk #[]) false false)).1,
                                SV.int IntKind.i64
                                 (List.getD (rL t) (Int.toNat (↑i : Int))
                                  (PR.mk (0 : Int) (0 : Int) (ByteArray.mk #[]) false (0 : Int) (ByteArray.mk #[]) false false)).2,
                                SV.str
                                 (List.getD (rL t) (Int.toNat (↑i : Int))
                                  (PR.mk (0 : Int) (0 : Int) (ByteArray.mk #[]) false (0 : Int) (ByteArray.mk #[]) false false)).3,
                                SV.bool
                                 (List.getD (rL t) (Int.toNat (↑i : Int))
                                  (PR.mk (0 : Int) (0 : Int) (ByteArray.mk #[]) false (0 : Int) (ByteArray.mk #[]) false false)).4,
                                SV.int IntKind.i64
                                 (List.getD (rL t) (Int.toNat (↑i : Int))
                                  (PR.mk (0 : Int) (0 : Int) (ByteArray.mk #[]) false (0 : Int) (ByteArray.mk #[]) false false)).5,
                                SV.str
                                 (List.getD (rL t) (Int.toNat (↑i : Int))
                                  (PR.mk (0 : Int) (0 : Int) (ByteArray.mk #[]) false (0 : Int) (ByteArray.mk #[]) false false)).6],
                               SV.int IntKind.i64 (0 : Int)])) ∧
              b = b ∧
               ((0 : Int) ≤ IntKind.wrap IntKind.i64 ((↑i : Int) + (1 : Int)) ∧
                IntKind.wrap IntKind.i64 ((↑i : Int) + (1 : Int)) ≤ (↑(List.length (rL t)) : Int) ∧ List.length (rL t) ≤ cap) ∧
                (ao = ao ∧
                 cap = cap ∧
                  8 = 8 ∧
                   8 = 8 ∧
                    0 ≤ Int.toNat (↑i : Int) ∧
                     Int.toNat (↑i : Int) ≤ List.length (rL t) ∧
                      (Int.toNat (↑i : Int) - 0) * 72 ≤ 140737488355328 ∧ Int.toNat (↑i : Int) - 0 ≤ 9223372036854775807) ∧
                 ∀ (ao2 : Option Addr) (cap2 : Nat),
                  Int.toNat (↑i : Int) - 0 ≤ cap2 →
                   (ao2 = ao2 ∧
                    cap2 = cap2 ∧
                     Int.toNat (↑i : Int) - 0 = List.length (List.take (Int.toNat (↑i : Int) - 0) (List.drop 0 (rL t))) ∧
                      149 = 149 ∧
                       8 = 8 ∧
                        ao = ao ∧
                         cap = cap ∧
                          8 = 8 ∧
                           8 = 8 ∧
                            Int.toNat (IntKind.wrap IntKind.i64 ((↑i : Int) + (1 : Int))) ≤ List.length (rL t) ∧
                             List.length (rL t) ≤ List.length (rL t) ∧
                              (∀ (y : PR), true = true) ∧
                               (Int.toNat (↑i : Int) - 0 + (List.length (rL t) - Int.toNat (IntKind.wrap IntKind.i64 ((↑i : Int) + (1 : Int))))) *
                                72 ≤
                                140737488355328 ∧
                                Int.toNat (↑i : Int) - 0 + (List.length (rL t) - Int.toNat (IntKind.wrap IntKind.i64 ((↑i : Int) + (1 : Int)))) ≤
                                 9223372036854775807) ∧
                    ∃ (es : List PR),
                     List.length es = List.length (rL t) - Int.toNat (IntKind.wrap IntKind.i64 ((↑i : Int) + (1 : Int))) ∧
                      List.flatMap encR es =
                       List.flatMap encR
                        (List.take (List.length (rL t) - Int.toNat (IntKind.wrap IntKind.i64 ((↑i : Int) + (1 : Int))))
                         (List.drop (Int.toNat (IntKind.wrap IntKind.i64 ((↑i : Int) + (1 : Int)))) (rL t))) ∧
                       ∀ (ao2 : Option Addr) (cap2 : Nat),
                        Int.toNat (↑i : Int) - 0 + (List.length (rL t) - Int.toNat (IntKind.wrap IntKind.i64 ((↑i : Int) + (1 : Int)))) ≤ cap2 →
                         (b = b ∧ true = true ∧ 1 = 1 ∧ 1 ≤ 3) ∧
                          (b_1 = b_1 ∧ 6 = 6) ∧
                           (b1 = b1 ∧ true = true ∧ 6 = 6 ∧ 6 ≤ 6) ∧
                            (b1 = b1 ∧ 6 = 6) ∧
                             N
                              [Ent.mk (Loc.blk b)
                               (SObj.cells
                                [SV.vec 4 ao2
                                 (Int.toNat (↑i : Int) - 0 + (List.length (rL t) - Int.toNat (IntKind.wrap IntKind.i64 ((↑i : Int) + (1 : Int))))) cap2,
                                 SV.int IntKind.i64 t.3, SV.int IntKind.i64 t.4]
                                (152 : TypeId)),
                               Ent.mk (Loc.sl ao cap)
                                (SObj.vecL (149 : TypeId) 8 encR (rL t)
                                 (PR.mk (0 : Int) (0 : Int) (ByteArray.mk #[]) false (0 : Int) (ByteArray.mk #[]) false false)),
                               Ent.mk (Loc.blk b1)
                                (SObj.cells
                                 [SV.int IntKind.i64
                                  (List.getD (rL t) (Int.toNat (↑i : Int))
                                   (PR.mk (0 : Int) (0 : Int) (ByteArray.mk #[]) false (0 : Int) (ByteArray.mk #[]) false false)).1,
                                  SV.int IntKind.i64
                                   (List.getD (rL t) (Int.toNat (↑i : Int))
                                    (PR.mk (0 : Int) (0 : Int) (ByteArray.mk #[]) false (0 : Int) (ByteArray.mk #[]) false false)).2,
                                  SV.str
                                   (List.getD (rL t) (Int.toNat (↑i : Int))
                                    (PR.mk (0 : Int) (0 : Int) (ByteArray.mk #[]) false (0 : Int) (ByteArray.mk #[]) false false)).3,
                                  SV.bool
                                   (List.getD (rL t) (Int.toNat (↑i : Int))
                                    (PR.mk (0 : Int) (0 : Int) (ByteArray.mk #[]) false (0 : Int) (ByteArray.mk #[]) false false)).4,
                                  SV.int IntKind.i64
                                   (List.getD (rL t) (Int.toNat (↑i : Int))
                                    (PR.mk (0 : Int) (0 : Int) (ByteArray.mk #[]) false (0 : Int) (ByteArray.mk #[]) false false)).5,
                                  SV.str
                                   (List.getD (rL t) (Int.toNat (↑i : Int))
                                    (PR.mk (0 : Int) (0 : Int) (ByteArray.mk #[]) false (0 : Int) (ByteArray.mk #[]) false false)).6]
                                 (45 : TypeId)),
                               Ent.mk (Loc.blk b_1)
                                (SObj.cells
                                 [SV.int IntKind.i64
                                  (List.getD (rL t) (Int.toNat (↑i : Int))
                                   (PR.mk (0 : Int) (0 : Int) (ByteArray.mk #[]) false (0 : Int) (ByteArray.mk #[]) false false)).1,
                                  SV.int IntKind.i64
                                   (List.getD (rL t) (Int.toNat (↑i : Int))
                                    (PR.mk (0 : Int) (0 : Int) (ByteArray.mk #[]) false (0 : Int) (ByteArray.mk #[]) false false)).2,
                                  SV.str
                                   (List.getD (rL t) (Int.toNat (↑i : Int))
                                    (PR.mk (0 : Int) (0 : Int) (ByteArray.mk #[]) false (0 : Int) (ByteArray.mk #[]) false false)).3,
                                  SV.bool
                                   (List.getD (rL t) (Int.toNat (↑i : Int))
                                    (PR.mk (0 : Int) (0 : Int) (ByteArray.mk #[]) false (0 : Int) (ByteArray.mk #[]) false false)).4,
                                  SV.int IntKind.i64
                                   (List.getD (rL t) (Int.toNat (↑i : Int))
                                    (PR.mk (0 : Int) (0 : Int) (ByteArray.mk #[]) false (0 : Int) (ByteArray.mk #[]) false false)).5,
                                  SV.str
                                   (List.getD (rL t) (Int.toNat (↑i : Int))
                                    (PR.mk (0 : Int) (0 : Int) (ByteArray.mk #[]) false (0 : Int) (ByteArray.mk #[]) false false)).6]
                                 45),
                               Ent.mk (Loc.sl ao2 cap2)
                                (SObj.vecL 149 8 encR (List.take (Int.toNat (↑i : Int) - 0) (List.drop 0 (rL t)) ++ es)
                                 (PR.mk (0 : Int) (0 : Int) (ByteArray.mk #[]) false (0 : Int) (ByteArray.mk #[]) false false))]
                              (SV.tuple
                               [SV.agg
                                [SV.int IntKind.i64
                                 (List.getD (rL t) (Int.toNat (↑i : Int))
                                  (PR.mk (0 : Int) (0 : Int) (ByteArray.mk #[]) false (0 : Int) (ByteArray.mk #[]) false false)).1,
                                 SV.int IntKind.i64
                                  (List.getD (rL t) (Int.toNat (↑i : Int))
                                   (PR.mk (0 : Int) (0 : Int) (ByteArray.mk #[]) false (0 : Int) (ByteArray.mk #[]) false false)).2,
                                 SV.str
                                  (List.getD (rL t) (Int.toNat (↑i : Int))
                                   (PR.mk (0 : Int) (0 : Int) (ByteArray.mk #[]) false (0 : Int) (ByteArray.mk #[]) false false)).3,
                                 SV.bool
                                  (List.getD (rL t) (Int.toNat (↑i : Int))
                                   (PR.mk (0 : Int) (0 : Int) (ByteArray.mk #[]) false (0 : Int) (ByteArray.mk #[]) false false)).4,
                                 SV.int IntKind.i64
                                  (List.getD (rL t) (Int.toNat (↑i : Int))
                                   (PR.mk (0 : Int) (0 : Int) (ByteArray.mk #[]) false (0 : Int) (ByteArray.mk #[]) false false)).5,
                                 SV.str
                                  (List.getD (rL t) (Int.toNat (↑i : Int))
                                   (PR.mk (0 : Int) (0 : Int) (ByteArray.mk #[]) false (0 : Int) (ByteArray.mk #[]) false false)).6],
                                SV.int IntKind.i64 (0 : Int)])) ∧
            b = b ∧
             ((0 : Int) ≤ IntKind.wrap IntKind.i64 ((↑i : Int) + (1 : Int)) ∧
              IntKind.wrap IntKind.i64 ((↑i : Int) + (1 : Int)) ≤ (↑(List.length (rL t)) : Int) ∧ List.length (rL t) ≤ cap) ∧
              b = b ∧
               ((0 : Int) ≤ (↑i : Int) ∧ (↑i : Int) ≤ (↑cap : Int)) ∧
                (ao = ao ∧
                 cap = cap ∧
                  8 = 8 ∧
                   8 = 8 ∧
                    0 ≤ Int.toNat (↑i : Int) ∧
                     Int.toNat (↑i : Int) ≤ List.length (rL t) ∧
                      (Int.toNat (↑i : Int) - 0) * 72 ≤ 140737488355328 ∧ Int.toNat (↑i : Int) - 0 ≤ 9223372036854775807) ∧
                 ∀ (ao2 : Option Addr) (cap2 : Nat),
                  Int.toNat (↑i : Int) - 0 ≤ cap2 →
                   (ao2 = ao2 ∧
                    cap2 = cap2 ∧
                     Int.toNat (↑i : Int) - 0 = List.length (List.take (Int.toNat (↑i : Int) - 0) (List.drop 0 (rL t))) ∧
                      149 = 149 ∧
                       8 = 8 ∧
                        ao = ao ∧
                         cap = cap ∧
                          8 = 8 ∧
                           8 = 8 ∧
                            Int.toNat (IntKind.wrap IntKind.i64 ((↑i : Int) + (1 : Int))) ≤ List.length (rL t) ∧
                             List.length (rL t) ≤ List.length (rL t) ∧
                              (∀ (y : PR), true = true) ∧
                               (Int.toNat (↑i : Int) - 0 + (List.length (rL t) - Int.toNat (IntKind.wrap IntKind.i64 ((↑i : Int) + (1 : Int))))) * 72 ≤
                                140737488355328 ∧
                                Int.toNat (↑i : Int) - 0 + (List.length (rL t) - Int.toNat (IntKind.wrap IntKind.i64 ((↑i : Int) + (1 : Int)))) ≤
                                 9223372036854775807) ∧
                    ∃ (es : List PR),
                     List.length es = List.length (rL t) - Int.toNat (IntKind.wrap IntKind.i64 ((↑i : Int) + (1 : Int))) ∧
                      List.flatMap encR es =
                       List.flatMap encR
                        (List.take (List.length (rL t) - Int.toNat (IntKind.wrap IntKind.i64 ((↑i : Int) + (1 : Int))))
                         (List.drop (Int.toNat (IntKind.wrap IntKind.i64 ((↑i : Int) + (1 : Int)))) (rL t))) ∧
                       ∀ (ao2 : Option Addr) (cap2 : Nat),
                        Int.toNat (↑i : Int) - 0 + (List.length (rL t) - Int.toNat (IntKind.wrap IntKind.i64 ((↑i : Int) + (1 : Int)))) ≤ cap2 →
                         (b = b ∧ true = true ∧ 1 = 1 ∧ 1 ≤ 3) ∧
                          (b_1 = b_1 ∧ 6 = 6) ∧
                           (b1 = b1 ∧ true = true ∧ 6 = 6 ∧ 6 ≤ 6) ∧
                            (b1 = b1 ∧ 6 = 6) ∧
                             N
                              [Ent.mk (Loc.blk b)
                               (SObj.cells
                                [SV.vec 4 ao2
                                 (Int.toNat (↑i : Int) - 0 + (List.length (rL t) - Int.toNat (IntKind.wrap IntKind.i64 ((↑i : Int) + (1 : Int))))) cap2,
                                 SV.int IntKind.i64 t.3, SV.int IntKind.i64 t.4]
                                (152 : TypeId)),
                               Ent.mk (Loc.sl ao cap)
                                (SObj.vecL (149 : TypeId) 8 encR (rL t)
                                 (PR.mk (0 : Int) (0 : Int) (ByteArray.mk #[]) false (0 : Int) (ByteArray.mk #[]) false false)),
                               Ent.mk (Loc.blk b1)
                                (SObj.cells
                                 [SV.int IntKind.i64
                                  (List.getD (rL t) (Int.toNat (↑i : Int))
                                   (PR.mk (0 : Int) (0 : Int) (ByteArray.mk #[]) false (0 : Int) (ByteArray.mk #[]) false false)).1,
                                  SV.int IntKind.i64
                                   (List.getD (rL t) (Int.toNat (↑i : Int))
                                    (PR.mk (0 : Int) (0 : Int) (ByteArray.mk #[]) false (0 : Int) (ByteArray.mk #[]) false false)).2,
                                  SV.str
                                   (List.getD (rL t) (Int.toNat (↑i : Int))
                                    (PR.mk (0 : Int) (0 : Int) (ByteArray.mk #[]) false (0 : Int) (ByteArray.mk #[]) false false)).3,
                                  SV.bool
                                   (List.getD (rL t) (Int.toNat (↑i : Int))
                                    (PR.mk (0 : Int) (0 : Int) (ByteArray.mk #[]) false (0 : Int) (ByteArray.mk #[]) false false)).4,
                                  SV.int IntKind.i64
                                   (List.getD (rL t) (Int.toNat (↑i : Int))
                                    (PR.mk (0 : Int) (0 : Int) (ByteArray.mk #[]) false (0 : Int) (ByteArray.mk #[]) false false)).5,
                                  SV.str
                                   (List.getD (rL t) (Int.toNat (↑i : Int))
                                    (PR.mk (0 : Int) (0 : Int) (ByteArray.mk #[]) false (0 : Int) (ByteArray.mk #[]) false false)).6]
                                 (45 : TypeId)),
                               Ent.mk (Loc.blk b_1)
                                (SObj.cells
                                 [SV.int IntKind.i64
                                  (List.getD (rL t) (Int.toNat (↑i : Int))
                                   (PR.mk (0 : Int) (0 : Int) (ByteArray.mk #[]) false (0 : Int) (ByteArray.mk #[]) false false)).1,
                                  SV.int IntKind.i64
                                   (List.getD (rL t) (Int.toNat (↑i : Int))
                                    (PR.mk (0 : Int) (0 : Int) (ByteArray.mk #[]) false (0 : Int) (ByteArray.mk #[]) false false)).2,
                                  SV.str
                                   (List.getD (rL t) (Int.toNat (↑i : Int))
                                    (PR.mk (0 : Int) (0 : Int) (ByteArray.mk #[]) false (0 : Int) (ByteArray.mk #[]) false false)).3,
                                  SV.bool
                                   (List.getD (rL t) (Int.toNat (↑i : Int))
                                    (PR.mk (0 : Int) (0 : Int) (ByteArray.mk #[]) false (0 : Int) (ByteArray.mk #[]) false false)).4,
                                  SV.int IntKind.i64
                                   (List.getD (rL t) (Int.toNat (↑i : Int))
                                    (PR.mk (0 : Int) (0 : Int) (ByteArray.mk #[]) false (0 : Int) (ByteArray.mk #[]) false false)).5,
                                  SV.str
                                   (List.getD (rL t) (Int.toNat (↑i : Int))
                                    (PR.mk (0 : Int) (0 : Int) (ByteArray.mk #[]) false (0 : Int) (ByteArray.mk #[]) false false)).6]
                                 45),
                               Ent.mk (Loc.sl ao2 cap2)
                                (SObj.vecL 149 8 encR (List.take (Int.toNat (↑i : Int) - 0) (List.drop 0 (rL t)) ++ es)
                                 (PR.mk (0 : Int) (0 : Int) (ByteArray.mk #[]) false (0 : Int) (ByteArray.mk #[]) false false))]
                              (SV.tuple
                               [SV.agg
                                [SV.int IntKind.i64
                                 (List.getD (rL t) (Int.toNat (↑i : Int))
                                  (PR.mk (0 : Int) (0 : Int) (ByteArray.mk #[]) false (0 : Int) (ByteArray.mk #[]) false false)).1,
                                 SV.int IntKind.i64
                                  (List.getD (rL t) (Int.toNat (↑i : Int))
                                   (PR.mk (0 : Int) (0 : Int) (ByteArray.mk #[]) false (0 : Int) (ByteArray.mk #[]) false false)).2,
                                 SV.str
                                  (List.getD (rL t) (Int.toNat (↑i : Int))
                                   (PR.mk (0 : Int) (0 : Int) (ByteArray.mk #[]) false (0 : Int) (ByteArray.mk #[]) false false)).3,
                                 SV.bool
                                  (List.getD (rL t) (Int.toNat (↑i : Int))
                                   (PR.mk (0 : Int) (0 : Int) (ByteArray.mk #[]) false (0 : Int) (ByteArray.mk #[]) false false)).4,
                                 SV.int IntKind.i64
                                  (List.getD (rL t) (Int.toNat (↑i : Int))
                                   (PR.mk (0 : Int) (0 : Int) (ByteArray.mk #[]) false (0 : Int) (ByteArray.mk #[]) false false)).5,
                                 SV.str
                                  (List.getD (rL t) (Int.toNat (↑i : Int))
                                   (PR.mk (0 : Int) (0 : Int) (ByteArray.mk #[]) false (0 : Int) (ByteArray.mk #[]) false false)).6],
                                SV.int IntKind.i64 (0 : Int)])
          | false =>
           K (Frm.loop J :: Frm.blk 0 :: frm [] (bodyOf Try.f43) [1, 1] [])
            (Sy.mk (SV.ptr 0 b 0 :: (SV.int IntKind.i64 parent :: (SV.raw (u 2) :: (SV.raw (u 3) :: (SV.ptr 2 b1 0 :: (SV.int IntKind.i64 (0 : Int) :: (SV.int IntKind.i64 (IntKind.wrap IntKind.i64 ((↑i : Int) + (1 : Int))) :: (SV.ptr 3 b_1 0 :: (SV.int IntKind.i64 (↑i : Int) :: (SV.ptr 0 b 0 :: (SV.ptr 0 b 0 :: (SV.ptr 0 b 0 :: (SV.vec 1 ao (List.length (rL t)) cap :: (SV.int IntKind.i64 (↑(List.length (rL t)) : Int) :: (SV.bool true :: (SV.int IntKind.i64 (↑i : Int) :: (SV.int IntKind.i64 (IntKind.wrap IntKind.i64 ((↑i : Int) + (1 : Int))) :: (SV.ptr 0 b 0 :: (SV.ptr 0 b 0 :: (SV.ptr 0 b 0 :: (SV.vec 1 ao (List.length (rL t)) cap :: (SV.int IntKind.i64 (↑i : Int) :: (SV.eptr 1 (Addr.blkD ao) (Addr.offD ao) 8 (Int.toNat (↑i : Int)) 0 :: (SV.eptr 1 (Addr.blkD ao) (Addr.offD ao) 8 (Int.toNat (↑i : Int)) 0 :: (SV.agg [SV.int IntKind.i64 (List.getD (rL t) (Int.toNat (↑i : Int)) (PR.mk (0 : Int) (0 : Int) (ByteArray.mk #[]) false (0 : Int) (ByteArray.mk #[]) false false)).1, SV.int IntKind.i64 (List.getD (rL t) (Int.toNat (↑i : Int)) (PR.mk (0 : Int) (0 : Int) (ByteArray.mk #[]) false (0 : Int) (ByteArray.mk #[]) false false)).2, SV.str (List.getD (rL t) (Int.toNat (↑i : Int)) (PR.mk (0 : Int) (0 : Int) (ByteArray.mk #[]) false (0 : Int) (ByteArray.mk #[]) false false)).3, SV.bool (List.getD (rL t) (Int.toNat (↑i : Int)) (PR.mk (0 : Int) (0 : Int) (ByteArray.mk #[]) false (0 : Int) (ByteArray.mk #[]) false false)).4, SV.int IntKind.i64 (List.getD (rL t) (Int.toNat (↑i : Int)) (PR.mk (0 : Int) (0 : Int) (ByteArray.mk #[]) false (0 : Int) (ByteArray.mk #[]) false false)).5, SV.str (List.getD (rL t) (Int.toNat (↑i : Int)) (PR.mk (0 : Int) (0 : Int) (ByteArray.mk #[]) false (0 : Int) (ByteArray.mk #[]) false false)).6] :: (SV.ptr 3 b_1 3 :: (SV.bool (List.getD (rL t) (Int.toNat (↑i : Int)) (PR.mk (0 : Int) (0 : Int) (ByteArray.mk #[]) false (0 : Int) (ByteArray.mk #[]) false false)).4 :: (SV.bool true :: (SV.ptr 3 b_1 1 :: (SV.int IntKind.i64 (List.getD (rL t) (Int.toNat (↑i : Int)) (PR.mk (0 : Int) (0 : Int) (ByteArray.mk #[]) false (0 : Int) (ByteArray.mk #[]) false false)).2 :: (SV.int IntKind.i64 parent :: ((SV.bool ((List.getD (rL t) (Int.toNat (↑i : Int)) (PR.mk (0 : Int) (0 : Int) (ByteArray.mk #[]) false (0 : Int) (ByteArray.mk #[]) false false)).2 == parent)) :: (SV.bool false :: (rawR u 33 [] 20))))))))))))))))))))))))))))))))))
             [Ent.mk (Loc.blk b) (SObj.cells [SV.vec 1 ao (List.length (rL t)) cap, SV.int IntKind.i64 t.3, SV.int IntKind.i64 t.4] (152 : TypeId)),
              Ent.mk (Loc.sl ao cap) (SObj.vecL (149 : TypeId) 8 encR (rL t) (PR.mk (0 : Int) (0 : Int) (ByteArray.mk #[]) false (0 : Int) (ByteArray.mk #[]) false false)),
              Ent.mk (Loc.blk b1)
               (SObj.cells
                [SV.int IntKind.i64 (0 : Int), SV.int IntKind.i64 (0 : Int), SV.str (ByteArray.mk #[]), SV.bool false, SV.int IntKind.i64 (0 : Int), SV.str (ByteArray.mk #[])]
                (45 : TypeId)),
              Ent.mk (Loc.blk b_1)
               (SObj.cells
                [SV.int IntKind.i64 (List.getD (rL t) (Int.toNat (↑i : Int)) (PR.mk (0 : Int) (0 : Int) (ByteArray.mk #[]) false (0 : Int) (ByteArray.mk #[]) false false)).1,
                 SV.int IntKind.i64 (List.getD (rL t) (Int.toNat (↑i : Int)) (PR.mk (0 : Int) (0 : Int) (ByteArray.mk #[]) false (0 : Int) (ByteArray.mk #[]) false false)).2,
                 SV.str (List.getD (rL t) (Int.toNat (↑i : Int)) (PR.mk (0 : Int) (0 : Int) (ByteArray.mk #[]) false (0 : Int) (ByteArray.mk #[]) false false)).3,
                 SV.bool (List.getD (rL t) (Int.toNat (↑i : Int)) (PR.mk (0 : Int) (0 : Int) (ByteArray.mk #[]) false (0 : Int) (ByteArray.mk #[]) false false)).4,
                 SV.int IntKind.i64 (List.getD (rL t) (Int.toNat (↑i : Int)) (PR.mk (0 : Int) (0 : Int) (ByteArray.mk #[]) false (0 : Int) (ByteArray.mk #[]) false false)).5,
                 SV.str (List.getD (rL t) (Int.toNat (↑i : Int)) (PR.mk (0 : Int) (0 : Int) (ByteArray.mk #[]) false (0 : Int) (ByteArray.mk #[]) false false)).6]
                45)])
        | false =>
         K (Frm.loop J :: Frm.blk 0 :: frm [] (bodyOf Try.f43) [1, 1] [])
          (Sy.mk (SV.ptr 0 b 0 :: (SV.int IntKind.i64 parent :: (SV.raw (u 2) :: (SV.raw (u 3) :: (SV.ptr 2 b1 0 :: (SV.int IntKind.i64 (0 : Int) :: (SV.int IntKind.i64 (IntKind.wrap IntKind.i64 ((↑i : Int) + (1 : Int))) :: (SV.ptr 3 b_1 0 :: (SV.int IntKind.i64 (↑i : Int) :: (SV.ptr 0 b 0 :: (SV.ptr 0 b 0 :: (SV.ptr 0 b 0 :: (SV.vec 1 ao (List.length (rL t)) cap :: (SV.int IntKind.i64 (↑(List.length (rL t)) : Int) :: (SV.bool true :: (SV.int IntKind.i64 (↑i : Int) :: (SV.int IntKind.i64 (IntKind.wrap IntKind.i64 ((↑i : Int) + (1 : Int))) :: (SV.ptr 0 b 0 :: (SV.ptr 0 b 0 :: (SV.ptr 0 b 0 :: (SV.vec 1 ao (List.length (rL t)) cap :: (SV.int IntKind.i64 (↑i : Int) :: (SV.eptr 1 (Addr.blkD ao) (Addr.offD ao) 8 (Int.toNat (↑i : Int)) 0 :: (SV.eptr 1 (Addr.blkD ao) (Addr.offD ao) 8 (Int.toNat (↑i : Int)) 0 :: (SV.agg [SV.int IntKind.i64 (List.getD (rL t) (Int.toNat (↑i : Int)) (PR.mk (0 : Int) (0 : Int) (ByteArray.mk #[]) false (0 : Int) (ByteArray.mk #[]) false false)).1, SV.int IntKind.i64 (List.getD (rL t) (Int.toNat (↑i : Int)) (PR.mk (0 : Int) (0 : Int) (ByteArray.mk #[]) false (0 : Int) (ByteArray.mk #[]) false false)).2, SV.str (List.getD (rL t) (Int.toNat (↑i : Int)) (PR.mk (0 : Int) (0 : Int) (ByteArray.mk #[]) false (0 : Int) (ByteArray.mk #[]) false false)).3, SV.bool (List.getD (rL t) (Int.toNat (↑i : Int)) (PR.mk (0 : Int) (0 : Int) (ByteArray.mk #[]) false (0 : Int) (ByteArray.mk #[]) false false)).4, SV.int IntKind.i64 (List.getD (rL t) (Int.toNat (↑i : Int)) (PR.mk (0 : Int) (0 : Int) (ByteArray.mk #[]) false (0 : Int) (ByteArray.mk #[]) false false)).5, SV.str (List.getD (rL t) (Int.toNat (↑i : Int)) (PR.mk (0 : Int) (0 : Int) (ByteArray.mk #[]) false (0 : Int) (ByteArray.mk #[]) false false)).6] :: (SV.ptr 3 b_1 3 :: (SV.bool (List.getD (rL t) (Int.toNat (↑i : Int)) (PR.mk (0 : Int) (0 : Int) (ByteArray.mk #[]) false (0 : Int) (ByteArray.mk #[]) false false)).4 :: (SV.bool false :: (rawE (SV.bool false :: (rawR u 33 [] 20)) 4)))))))))))))))))))))))))))))
           [Ent.mk (Loc.blk b) (SObj.cells [SV.vec 1 ao (List.length (rL t)) cap, SV.int IntKind.i64 t.3, SV.int IntKind.i64 t.4] (152 : TypeId)),
            Ent.mk (Loc.sl ao cap) (SObj.vecL (149 : TypeId) 8 encR (rL t) (PR.mk (0 : Int) (0 : Int) (ByteArray.mk #[]) false (0 : Int) (ByteArray.mk #[]) false false)),
            Ent.mk (Loc.blk b1)
             (SObj.cells [SV.int IntKind.i64 (0 : Int), SV.int IntKind.i64 (0 : Int), SV.str (ByteArray.mk #[]), SV.bool false, SV.int IntKind.i64 (0 : Int), SV.str (ByteArray.mk #[])]
              (45 : TypeId)),
            Ent.mk (Loc.blk b_1)
             (SObj.cells
              [SV.int IntKind.i64 (List.getD (rL t) (Int.toNat (↑i : Int)) (PR.mk (0 : Int) (0 : Int) (ByteArray.mk #[]) false (0 : Int) (ByteArray.mk #[]) false false)).1,
               SV.int IntKind.i64 (List.getD (rL t) (Int.toNat (↑i : Int)) (PR.mk (0 : Int) (0 : Int) (ByteArray.mk #[]) false (0 : Int) (ByteArray.mk #[]) false false)).2,
               SV.str (List.getD (rL t) (Int.toNat (↑i : Int)) (PR.mk (0 : Int) (0 : Int) (ByteArray.mk #[]) false (0 : Int) (ByteArray.mk #[]) false false)).3,
               SV.bool (List.getD (rL t) (Int.toNat (↑i : Int)) (PR.mk (0 : Int) (0 : Int) (ByteArray.mk #[]) false (0 : Int) (ByteArray.mk #[]) false false)).4,
               SV.int IntKind.i64 (List.getD (rL t) (Int.toNat (↑i : Int)) (PR.mk (0 : Int) (0 : Int) (ByteArray.mk #[]) false (0 : Int) (ByteArray.mk #[]) false false)).5,
               SV.str (List.getD (rL t) (Int.toNat (↑i : Int)) (PR.mk (0 : Int) (0 : Int) (ByteArray.mk #[]) false (0 : Int) (ByteArray.mk #[]) false false)).6]
              45)])
 | false =>
  (true = true ∧ true = true) ∧
   (b1 = b1 ∧ true = true ∧ 6 = 6 ∧ 6 ≤ 6) ∧
    (b1 = b1 ∧ 6 = 6) ∧
     N
      [Ent.mk (Loc.blk b) (SObj.cells [SV.vec 1 ao (List.length (rL t)) cap, SV.int IntKind.i64 t.3, SV.int IntKind.i64 t.4] (152 : TypeId)),
       Ent.mk (Loc.sl ao cap) (SObj.vecL (149 : TypeId) 8 encR (rL t) (PR.mk (0 : Int) (0 : Int) (ByteArray.mk #[]) false (0 : Int) (ByteArray.mk #[]) false false)),
       Ent.mk (Loc.blk b1)
        (SObj.cells [SV.int IntKind.i64 (0 : Int), SV.int IntKind.i64 (0 : Int), SV.str (ByteArray.mk #[]), SV.bool false, SV.int IntKind.i64 (0 : Int), SV.str (ByteArray.mk #[])]
         (45 : TypeId))]
      (SV.tuple
       [SV.agg [SV.int IntKind.i64 (0 : Int), SV.int IntKind.i64 (0 : Int), SV.str (ByteArray.mk #[]), SV.bool false, SV.int IntKind.i64 (0 : Int), SV.str (ByteArray.mk #[])],
        SV.int IntKind.i64 (80 : Int)])) := by kernel_rfl


theorem rt_all1 (K : List Frm → Sy → Prop) (N : List Ent → SV → Prop) (J : Act → World → Prop) (t : PT) (b : Nat) (ao : Option Addr) (cap : Nat) (ys : List PR) (ay : Option Addr) (cy : Nat) (i : Nat) (u : Nat → Value) : (run Try.prog [] false [] K (retP Try.prog Try.f49.results.toList N) 900 (frm [J] (bodyOf Try.f49) [1, 1, 0, 1, 0, 0] []) ⟨mkT u 26 0 [(0, .ptr 0 b 0), (3, .vec 2 ay ys.length cy), (4, .int .i64 (i : Int))], [⟨.blk b, .cells [.vec 1 ao (rL t).length cap, .int .i64 t.room, .int .i64 t.last] 152⟩, ⟨.sl ao cap, .vecL 149 8 encR (rL t) PR.zero⟩, ⟨.sl ay cy, .vecL 45 6 encP6 ys PR.zero⟩]⟩) = (
b = b ∧
 match decide ((↑i : Int) < (↑(List.length (rL t)) : Int)) with
 | true =>
  b = b ∧
   (ao = ao ∧ cap = cap ∧ List.length (rL t) = List.length (rL t) ∧ (0 : Int) ≤ (↑i : Int) ∧ (↑i : Int) < (↑(List.length (rL t)) : Int)) ∧
    (Addr.blkD ao = Addr.blkD ao ∧ Addr.offD ao = Addr.offD ao ∧ 8 = 8 ∧ Int.toNat (↑i : Int) < List.length (rL t) ∧ 6 = 6) ∧
     (true = true ∧ 6 = 6 ∧ 0 < 6 ∧ 6 ≤ 16777216) ∧
      ∀ (b_1 : Nat),
       (ay = ay ∧
        cy = cy ∧
         List.length ys = List.length ys ∧
          some (Addr.mk b_1 0 (@none Nat)) = some (Addr.mk b_1 0 (@none Nat)) ∧
           (45 : TypeId) = 45 ∧
            6 = 6 ∧
             6 = 6 ∧
              0 < 1 ∧ true = true ∧ (List.length ys + 1) * 64 ≤ 140737488355328 ∧ List.length ys + 1 ≤ 9223372036854775807) ∧
        ∃ (es : List PR),
         List.length es = 1 ∧
          List.flatMap encP6 es =
           [SV.int IntKind.i64 (List.getD (rL t) (Int.toNat (↑i : Int)) (PR.mk (0 : Int) (0 : Int) (ByteArray.mk #[]) false (0 : Int) (ByteArray.mk #[]) false false)).1,
            SV.int IntKind.i64 (List.getD (rL t) (Int.toNat (↑i : Int)) (PR.mk (0 : Int) (0 : Int) (ByteArray.mk #[]) false (0 : Int) (ByteArray.mk #[]) false false)).2,
            SV.str (List.getD (rL t) (Int.toNat (↑i : Int)) (PR.mk (0 : Int) (0 : Int) (ByteArray.mk #[]) false (0 : Int) (ByteArray.mk #[]) false false)).3,
            SV.bool (List.getD (rL t) (Int.toNat (↑i : Int)) (PR.mk (0 : Int) (0 : Int) (ByteArray.mk #[]) false (0 : Int) (ByteArray.mk #[]) false false)).4,
            SV.int IntKind.i64 (List.getD (rL t) (Int.toNat (↑i : Int)) (PR.mk (0 : Int) (0 : Int) (ByteArray.mk #[]) false (0 : Int) (ByteArray.mk #[]) false false)).5,
            SV.str (List.getD (rL t) (Int.toNat (↑i : Int)) (PR.mk (0 : Int) (0 : Int) (ByteArray.mk #[]) false (0 : Int) (ByteArray.mk #[]) false false)).6] ∧
           ∀ (ao2 : Option Addr) (cap2 : Nat),
            List.length ys + 1 ≤ cap2 →
             K (Frm.loop J :: Frm.blk 0 :: frm [] (bodyOf Try.f49) [1, 1, 1] [])
              (Sy.mk (SV.ptr 0 b 0 :: (SV.raw (u 1) :: (SV.raw (u 2) :: (SV.vec 2 ao2 (List.length ys + 1) cap2 :: (SV.int IntKind.i64 (IntKind.wrap IntKind.i64 ((↑i : Int) + (1 : Int))) :: (SV.int IntKind.i64 (↑i : Int) :: (SV.ptr 0 b 0 :: (SV.ptr 0 b 0 :: (SV.ptr 0 b 0 :: (SV.vec 1 ao (List.length (rL t)) cap :: (SV.int IntKind.i64 (↑(List.length (rL t)) : Int) :: (SV.bool true :: (SV.int IntKind.i64 (↑i : Int) :: (SV.int IntKind.i64 (IntKind.wrap IntKind.i64 ((↑i : Int) + (1 : Int))) :: (SV.vec 2 ay (List.length ys) cy :: (SV.ptr 0 b 0 :: (SV.ptr 0 b 0 :: (SV.ptr 0 b 0 :: (SV.vec 1 ao (List.length (rL t)) cap :: (SV.int IntKind.i64 (↑i : Int) :: (SV.eptr 1 (Addr.blkD ao) (Addr.offD ao) 8 (Int.toNat (↑i : Int)) 0 :: (SV.eptr 1 (Addr.blkD ao) (Addr.offD ao) 8 (Int.toNat (↑i : Int)) 0 :: (SV.agg [SV.int IntKind.i64 (List.getD (rL t) (Int.toNat (↑i : Int)) (PR.mk (0 : Int) (0 : Int) (ByteArray.mk #[]) false (0 : Int) (ByteArray.mk #[]) false false)).1, SV.int IntKind.i64 (List.getD (rL t) (Int.toNat (↑i : Int)) (PR.mk (0 : Int) (0 : Int) (ByteArray.mk #[]) false (0 : Int) (ByteArray.mk #[]) false false)).2, SV.str (List.getD (rL t) (Int.toNat (↑i : Int)) (PR.mk (0 : Int) (0 : Int) (ByteArray.mk #[]) false (0 : Int) (ByteArray.mk #[]) false false)).3, SV.bool (List.getD (rL t) (Int.toNat (↑i : Int)) (PR.mk (0 : Int) (0 : Int) (ByteArray.mk #[]) false (0 : Int) (ByteArray.mk #[]) false false)).4, SV.int IntKind.i64 (List.getD (rL t) (Int.toNat (↑i : Int)) (PR.mk (0 : Int) (0 : Int) (ByteArray.mk #[]) false (0 : Int) (ByteArray.mk #[]) false false)).5, SV.str (List.getD (rL t) (Int.toNat (↑i : Int)) (PR.mk (0 : Int) (0 : Int) (ByteArray.mk #[]) false (0 : Int) (ByteArray.mk #[]) false false)).6] :: (SV.vec 3 (some (Addr.mk b_1 0 (@none Nat))) 1 1 :: (SV.vec 2 ao2 (List.length ys + 1) cap2 :: (SV.raw (u 25) :: []))))))))))))))))))))))))))
               [Ent.mk (Loc.blk b) (SObj.cells [SV.vec 1 ao (List.length (rL t)) cap, SV.int IntKind.i64 t.3, SV.int IntKind.i64 t.4] (152 : TypeId)),
                Ent.mk (Loc.sl ao cap) (SObj.vecL (149 : TypeId) 8 encR (rL t) (PR.mk (0 : Int) (0 : Int) (ByteArray.mk #[]) false (0 : Int) (ByteArray.mk #[]) false false)),
                Ent.mk (Loc.sl ao2 cap2)
                 (SObj.vecL (45 : TypeId) 6 encP6 (ys ++ es) (PR.mk (0 : Int) (0 : Int) (ByteArray.mk #[]) false (0 : Int) (ByteArray.mk #[]) false false)),
                Ent.mk (Loc.blk b_1)
                 (SObj.cells
                  [SV.int IntKind.i64 (List.getD (rL t) (Int.toNat (↑i : Int)) (PR.mk (0 : Int) (0 : Int) (ByteArray.mk #[]) false (0 : Int) (ByteArray.mk #[]) false false)).1,
                   SV.int IntKind.i64 (List.getD (rL t) (Int.toNat (↑i : Int)) (PR.mk (0 : Int) (0 : Int) (ByteArray.mk #[]) false (0 : Int) (ByteArray.mk #[]) false false)).2,
                   SV.str (List.getD (rL t) (Int.toNat (↑i : Int)) (PR.mk (0 : Int) (0 : Int) (ByteArray.mk #[]) false (0 : Int) (ByteArray.mk #[]) false false)).3,
                   SV.bool (List.getD (rL t) (Int.toNat (↑i : Int)) (PR.mk (0 : Int) (0 : Int) (ByteArray.mk #[]) false (0 : Int) (ByteArray.mk #[]) false false)).4,
                   SV.int IntKind.i64 (List.getD (rL t) (Int.toNat (↑i : Int)) (PR.mk (0 : Int) (0 : Int) (ByteArray.mk #[]) false (0 : Int) (ByteArray.mk #[]) false false)).5,
                   SV.str (List.getD (rL t) (Int.toNat (↑i : Int)) (PR.mk (0 : Int) (0 : Int) (ByteArray.mk #[]) false (0 : Int) (ByteArray.mk #[]) false false)).6]
                  45)])
 | false =>
  N
   [Ent.mk (Loc.blk b) (SObj.cells [SV.vec 1 ao (List.length (rL t)) cap, SV.int IntKind.i64 t.3, SV.int IntKind.i64 t.4] (152 : TypeId)),
    Ent.mk (Loc.sl ao cap) (SObj.vecL (149 : TypeId) 8 encR (rL t) (PR.mk (0 : Int) (0 : Int) (ByteArray.mk #[]) false (0 : Int) (ByteArray.mk #[]) false false)),
    Ent.mk (Loc.sl ay cy) (SObj.vecL (45 : TypeId) 6 encP6 ys (PR.mk (0 : Int) (0 : Int) (ByteArray.mk #[]) false (0 : Int) (ByteArray.mk #[]) false false))]
   (SV.vec 2 ay (List.length ys) cy)) := by kernel_rfl


theorem rps_body (K : List Frm → Sy → Prop) (N : List Ent → SV → Prop) (J : Act → World → Prop) (xs : List PR) (ao ao' : Option Addr) (cap cap' : Nat) (i : Nat) (u : Nat → Value) : (run Try.prog [] false [] K (retP Try.prog Try.f48.results.toList N) 900 (frm [J] (bodyOf Try.f48) [1, 1, 0, 1, 0, 0] []) ⟨mkT u 26 0 [(0, .vec 0 ao xs.length cap), (1, .vec 1 ao' xs.length cap'), (5, .int .i64 (i : Int))], [⟨.sl ao cap, .vecL 45 6 encP6 xs PR.zero⟩, ⟨.sl ao' cap', .vecL 45 6 encP6 xs PR.zero⟩]⟩) = (
match decide ((↑i : Int) < (↑(List.length xs) : Int)) with
| true =>
 (ao = ao ∧ cap = cap ∧ List.length xs = List.length xs ∧ (0 : Int) ≤ (↑i : Int) ∧ (↑i : Int) < (↑(List.length xs) : Int)) ∧
  (Addr.blkD ao = Addr.blkD ao ∧ Addr.offD ao = Addr.offD ao ∧ 6 = 6 ∧ Int.toNat (↑i : Int) < List.length xs ∧ 6 = 6) ∧
   (ao' = ao' ∧ cap' = cap' ∧ List.length xs = List.length xs ∧ (0 : Int) ≤ (↑i : Int) ∧ (↑i : Int) < (↑(List.length xs) : Int)) ∧
    (Addr.blkD ao' = Addr.blkD ao' ∧ Addr.offD ao' = Addr.offD ao' ∧ 6 = 6 ∧ Int.toNat (↑i : Int) < List.length xs ∧ 6 = 6) ∧
     match
      !((List.getD xs (Int.toNat (↑i : Int)) (PR.mk (0 : Int) (0 : Int) (ByteArray.mk #[]) false (0 : Int) (ByteArray.mk #[]) false false)).1 ==
       (List.getD xs (Int.toNat (↑i : Int)) (PR.mk (0 : Int) (0 : Int) (ByteArray.mk #[]) false (0 : Int) (ByteArray.mk #[]) false false)).1 &&
       ((List.getD xs (Int.toNat (↑i : Int)) (PR.mk (0 : Int) (0 : Int) (ByteArray.mk #[]) false (0 : Int) (ByteArray.mk #[]) false false)).2 ==
        (List.getD xs (Int.toNat (↑i : Int)) (PR.mk (0 : Int) (0 : Int) (ByteArray.mk #[]) false (0 : Int) (ByteArray.mk #[]) false false)).2 &&
        (sEq (List.getD xs (Int.toNat (↑i : Int)) (PR.mk (0 : Int) (0 : Int) (ByteArray.mk #[]) false (0 : Int) (ByteArray.mk #[]) false false)).3
         (List.getD xs (Int.toNat (↑i : Int)) (PR.mk (0 : Int) (0 : Int) (ByteArray.mk #[]) false (0 : Int) (ByteArray.mk #[]) false false)).3 &&
         ((List.getD xs (Int.toNat (↑i : Int)) (PR.mk (0 : Int) (0 : Int) (ByteArray.mk #[]) false (0 : Int) (ByteArray.mk #[]) false false)).4 ==
          (List.getD xs (Int.toNat (↑i : Int)) (PR.mk (0 : Int) (0 : Int) (ByteArray.mk #[]) false (0 : Int) (ByteArray.mk #[]) false false)).4 &&
          ((List.getD xs (Int.toNat (↑i : Int)) (PR.mk (0 : Int) (0 : Int) (ByteArray.mk #[]) false (0 : Int) (ByteArray.mk #[]) false false)).5 ==
           (List.getD xs (Int.toNat (↑i : Int)) (PR.mk (0 : Int) (0 : Int) (ByteArray.mk #[]) false (0 : Int) (ByteArray.mk #[]) false false)).5 &&
           (sEq (List.getD xs (Int.toNat (↑i : Int)) (PR.mk (0 : Int) (0 : Int) (ByteArray.mk #[]) false (0 : Int) (ByteArray.mk #[]) false false)).6
            (List.getD xs (Int.toNat (↑i : Int)) (PR.mk (0 : Int) (0 : Int) (ByteArray.mk #[]) false (0 : Int) (ByteArray.mk #[]) false false)).6 &&
            true)))))) with
     | true =>
      N
       [Ent.mk (Loc.sl ao cap) (SObj.vecL (45 : TypeId) 6 encP6 xs (PR.mk (0 : Int) (0 : Int) (ByteArray.mk #[]) false (0 : Int) (ByteArray.mk #[]) false false)),
        Ent.mk (Loc.sl ao' cap') (SObj.vecL (45 : TypeId) 6 encP6 xs (PR.mk (0 : Int) (0 : Int) (ByteArray.mk #[]) false (0 : Int) (ByteArray.mk #[]) false false))]
       (SV.bool false)
     | false =>
      K (Frm.loop J :: Frm.blk 0 :: frm [] (bodyOf Try.f48) [1, 1, 1] [])
       (Sy.mk (SV.vec 0 ao (List.length xs) cap :: (SV.vec 1 ao' (List.length xs) cap' :: (rawR u 2 (SV.int IntKind.i64 (IntKind.wrap IntKind.i64 ((↑i : Int) + (1 : Int))) :: (rawR u 6 (SV.int IntKind.i64 (↑i : Int) :: (SV.vec 0 ao (List.length xs) cap :: (SV.int IntKind.i64 (↑(List.length xs) : Int) :: (SV.bool true :: (SV.int IntKind.i64 (↑i : Int) :: (SV.int IntKind.i64 (IntKind.wrap IntKind.i64 ((↑i : Int) + (1 : Int))) :: (SV.vec 0 ao (List.length xs) cap :: (SV.int IntKind.i64 (↑i : Int) :: (SV.eptr 0 (Addr.blkD ao) (Addr.offD ao) 6 (Int.toNat (↑i : Int)) 0 :: (SV.agg [SV.int IntKind.i64 (List.getD xs (Int.toNat (↑i : Int)) (PR.mk (0 : Int) (0 : Int) (ByteArray.mk #[]) false (0 : Int) (ByteArray.mk #[]) false false)).1, SV.int IntKind.i64 (List.getD xs (Int.toNat (↑i : Int)) (PR.mk (0 : Int) (0 : Int) (ByteArray.mk #[]) false (0 : Int) (ByteArray.mk #[]) false false)).2, SV.str (List.getD xs (Int.toNat (↑i : Int)) (PR.mk (0 : Int) (0 : Int) (ByteArray.mk #[]) false (0 : Int) (ByteArray.mk #[]) false false)).3, SV.bool (List.getD xs (Int.toNat (↑i : Int)) (PR.mk (0 : Int) (0 : Int) (ByteArray.mk #[]) false (0 : Int) (ByteArray.mk #[]) false false)).4, SV.int IntKind.i64 (List.getD xs (Int.toNat (↑i : Int)) (PR.mk (0 : Int) (0 : Int) (ByteArray.mk #[]) false (0 : Int) (ByteArray.mk #[]) false false)).5, SV.str (List.getD xs (Int.toNat (↑i : Int)) (PR.mk (0 : Int) (0 : Int) (ByteArray.mk #[]) false (0 : Int) (ByteArray.mk #[]) false false)).6] :: (SV.vec 1 ao' (List.length xs) cap' :: (SV.int IntKind.i64 (↑i : Int) :: (SV.eptr 1 (Addr.blkD ao') (Addr.offD ao') 6 (Int.toNat (↑i : Int)) 0 :: (SV.agg [SV.int IntKind.i64 (List.getD xs (Int.toNat (↑i : Int)) (PR.mk (0 : Int) (0 : Int) (ByteArray.mk #[]) false (0 : Int) (ByteArray.mk #[]) false false)).1, SV.int IntKind.i64 (List.getD xs (Int.toNat (↑i : Int)) (PR.mk (0 : Int) (0 : Int) (ByteArray.mk #[]) false (0 : Int) (ByteArray.mk #[]) false false)).2, SV.str (List.getD xs (Int.toNat (↑i : Int)) (PR.mk (0 : Int) (0 : Int) (ByteArray.mk #[]) false (0 : Int) (ByteArray.mk #[]) false false)).3, SV.bool (List.getD xs (Int.toNat (↑i : Int)) (PR.mk (0 : Int) (0 : Int) (ByteArray.mk #[]) false (0 : Int) (ByteArray.mk #[]) false false)).4, SV.int IntKind.i64 (List.getD xs (Int.toNat (↑i : Int)) (PR.mk (0 : Int) (0 : Int) (ByteArray.mk #[]) false (0 : Int) (ByteArray.mk #[]) false false)).5, SV.str (List.getD xs (Int.toNat (↑i : Int)) (PR.mk (0 : Int) (0 : Int) (ByteArray.mk #[]) false (0 : Int) (ByteArray.mk #[]) false false)).6] :: (SV.bool false :: []))))))))))))))) 5)) 3)))
        [Ent.mk (Loc.sl ao cap) (SObj.vecL (45 : TypeId) 6 encP6 xs (PR.mk (0 : Int) (0 : Int) (ByteArray.mk #[]) false (0 : Int) (ByteArray.mk #[]) false false)),
         Ent.mk (Loc.sl ao' cap') (SObj.vecL (45 : TypeId) 6 encP6 xs (PR.mk (0 : Int) (0 : Int) (ByteArray.mk #[]) false (0 : Int) (ByteArray.mk #[]) false false))])
| false =>
 N
  [Ent.mk (Loc.sl ao cap) (SObj.vecL (45 : TypeId) 6 encP6 xs (PR.mk (0 : Int) (0 : Int) (ByteArray.mk #[]) false (0 : Int) (ByteArray.mk #[]) false false)),
   Ent.mk (Loc.sl ao' cap') (SObj.vecL (45 : TypeId) 6 encP6 xs (PR.mk (0 : Int) (0 : Int) (ByteArray.mk #[]) false (0 : Int) (ByteArray.mk #[]) false false))]
  (SV.bool true)) := by kernel_rfl
end Go.Proofs.Ytihajdkipkfiiaa
