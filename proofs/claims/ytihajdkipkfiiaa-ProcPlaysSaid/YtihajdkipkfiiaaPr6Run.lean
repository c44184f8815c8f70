import Derived.Test.YtihajdkipkfiiaaPrcD
import Derived.Test.YtihajdkipkfiiaaTab
namespace Go.Proofs.Ytihajdkipkfiiaa
set_option linter.unusedVariables false
open Go Go.RowKit
set_option maxHeartbeats 0
set_option maxRecDepth 100000
set_option maxRecDepth 100000

theorem la_run (K : List Frm → Sy → Prop) (N : List Ent → SV → Prop) (s : PT) (b : Nat) (stop : Int) : (run Try.prog ptA true [] K (retP Try.prog Try.f27.results.toList N) 600 [.code (bodyOf Try.f27)] ⟨padTo 11 [.ptr 0 b 0, .int .i64 stop], [pkA b ptE s]⟩) = (
true = true ∧
 ∀ (b_1 b_2 : Nat),
  true = true ∧
   true = true ∧
    ∀ (b_3 : Nat),
     true = true ∧
      77 = (77 : FuncId) ∧
       ∃ (s_1 : PT),
        ∃ (stop_1 : Int),
         ∃ (b_4 : Nat),
          [pkA b ptE s, Ent.mk (Loc.blk b_1) (SObj.cells [SV.int IntKind.i64 stop] 3),
           Ent.mk (Loc.blk b_2) (SObj.cells [SV.raw (Value.slice (@none Addr) 0 0)] 50),
           Ent.mk (Loc.blk b_3) (SObj.cells [SV.ptr 0 b 0] 38)] =
           [pkA b_4 ptE s_1, Ent.mk (Loc.blk b_1) (SObj.cells [SV.int IntKind.i64 stop_1] (3 : TypeId)),
            Ent.mk (Loc.blk b_2) (SObj.cells [SV.raw (Value.slice (@none Addr) 0 0)] (50 : TypeId)),
            Ent.mk (Loc.blk b_3) (SObj.cells [SV.ptr 0 b_4 0] (38 : TypeId))] ∧
           (pOk s_1 ∧ List.length s_1.2 ≤ 200) ∧
            ∀ (ao : Option Addr) (cap : Nat),
             b_2 = b_2 ∧
              N
               [pkA b_4 ptE s_1, Ent.mk (Loc.blk b_1) (SObj.cells [SV.int IntKind.i64 stop_1] (3 : TypeId)),
                Ent.mk (Loc.blk b_2) (SObj.cells [SV.vec 3 ao (List.length (upto stop_1 (List.map (fun (x : Nat × PR) ↦ x.snd) s_1.2))) cap] (50 : TypeId)),
                Ent.mk (Loc.sl ao cap)
                 (SObj.vecL (45 : TypeId) 6 encP6 (upto stop_1 (List.map (fun (x : Nat × PR) ↦ x.snd) s_1.2))
                  (PR.mk (0 : Int) (0 : Int) (ByteArray.mk #[]) false (0 : Int) (ByteArray.mk #[]) false false))]
               (SV.vec 3 ao (List.length (upto stop_1 (List.map (fun (x : Nat × PR) ↦ x.snd) s_1.2))) cap)) := by kernel_rfl


theorem la1_run (K : List Frm → Sy → Prop) (N : List Ent → SV → Prop) (s : PT) (b bs bl : Nat) (stop : Int) (ao : Option Addr) (cap : Nat) (xs : List PR) (r : PR) : (run Try.prog [] true [] K (retP Try.prog Try.f77.results.toList N) 600 [.code (bodyOf Try.f77)] ⟨padTo 18 [.agg (encP6 r), .ptr 2 bl 0, .ptr 1 bs 0], [pkA b ptE s, ⟨.blk bs, .cells [.int .i64 stop] 3⟩, ⟨.blk bl, .cells [.vec 3 ao xs.length cap] 50⟩, ⟨.sl ao cap, .vecL 45 6 encP6 xs PR.zero⟩]⟩) = (
true = true ∧
 ∀ (b_1 : Nat),
  bl = bl ∧
   (b_1 = b_1 ∧ 6 = 6) ∧
    (true = true ∧ 6 = 6 ∧ 0 < 6 ∧ 6 ≤ 16777216) ∧
     ∀ (b_2 : Nat),
      (ao = ao ∧
       cap = cap ∧
        List.length xs = List.length xs ∧
         some (Addr.mk b_2 0 (@none Nat)) = some (Addr.mk b_2 0 (@none Nat)) ∧
          (45 : TypeId) = 45 ∧
           6 = 6 ∧
            6 = 6 ∧
             0 < 1 ∧ true = true ∧ (List.length xs + 1) * 64 ≤ 140737488355328 ∧ List.length xs + 1 ≤ 9223372036854775807) ∧
       ∃ (es : List PR),
        List.length es = 1 ∧
         List.flatMap encP6 es = [SV.int IntKind.i64 r.1, SV.int IntKind.i64 r.2, SV.str r.3, SV.bool r.4, SV.int IntKind.i64 r.5, SV.str r.6] ∧
          ∀ (ao2 : Option Addr) (cap2 : Nat),
           List.length xs + 1 ≤ cap2 →
            (bl = bl ∧ true = true ∧ 1 = 1 ∧ 1 ≤ 1) ∧
             bl = bl ∧
              bs = bs ∧
               match (↑(List.length xs + 1) : Int) != stop with
               | true =>
                bl = bl ∧
                 N
                  [pkA b ptE s, Ent.mk (Loc.blk bs) (SObj.cells [SV.int IntKind.i64 stop] (3 : TypeId)),
                   Ent.mk (Loc.blk bl) (SObj.cells [SV.vec 3 ao2 (List.length xs + 1) cap2] (50 : TypeId)),
                   Ent.mk (Loc.sl ao2 cap2)
                    (SObj.vecL (45 : TypeId) 6 encP6 (xs ++ es) (PR.mk (0 : Int) (0 : Int) (ByteArray.mk #[]) false (0 : Int) (ByteArray.mk #[]) false false)),
                   Ent.mk (Loc.blk b_1) (SObj.cells [SV.int IntKind.i64 r.1, SV.int IntKind.i64 r.2, SV.str r.3, SV.bool r.4, SV.int IntKind.i64 r.5, SV.str r.6] 45),
                   Ent.mk (Loc.blk b_2) (SObj.cells [SV.int IntKind.i64 r.1, SV.int IntKind.i64 r.2, SV.str r.3, SV.bool r.4, SV.int IntKind.i64 r.5, SV.str r.6] 45)]
                  (SV.bool (decide ((↑(List.length xs + 1) : Int) ≤ (200 : Int))))
               | false =>
                N
                 [pkA b ptE s, Ent.mk (Loc.blk bs) (SObj.cells [SV.int IntKind.i64 stop] (3 : TypeId)),
                  Ent.mk (Loc.blk bl) (SObj.cells [SV.vec 3 ao2 (List.length xs + 1) cap2] (50 : TypeId)),
                  Ent.mk (Loc.sl ao2 cap2)
                   (SObj.vecL (45 : TypeId) 6 encP6 (xs ++ es) (PR.mk (0 : Int) (0 : Int) (ByteArray.mk #[]) false (0 : Int) (ByteArray.mk #[]) false false)),
                  Ent.mk (Loc.blk b_1) (SObj.cells [SV.int IntKind.i64 r.1, SV.int IntKind.i64 r.2, SV.str r.3, SV.bool r.4, SV.int IntKind.i64 r.5, SV.str r.6] 45),
                  Ent.mk (Loc.blk b_2) (SObj.cells [SV.int IntKind.i64 r.1, SV.int IntKind.i64 r.2, SV.str r.3, SV.bool r.4, SV.int IntKind.i64 r.5, SV.str r.6] 45)]
                 (SV.bool false)) := by kernel_rfl
end Go.Proofs.Ytihajdkipkfiiaa
