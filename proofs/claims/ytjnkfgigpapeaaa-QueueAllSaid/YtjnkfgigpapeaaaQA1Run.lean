import Derived.Test.YtjnkfgigpapeaaaQAC
import Derived.Test.YtjnkfgigpapeaaaTab
namespace Go.Proofs.Ytjnkfgigpapeaaa
set_option linter.unusedVariables false
open Go Go.RowKit
set_option maxHeartbeats 0
set_option maxRecDepth 100000
set_option linter.unusedVariables false
set_option maxRecDepth 100000

theorem qclone_run (K : List Frm → Sy → Prop) (N : List Ent → SV → Prop) (α : Type) (enc : α → List SV) (xs : List α) (d : α) (ao : Option Addr) (cap : Nat) : (run Try.prog [] false [] K (retP Try.prog Try.f88.results.toList N) 300 [.code (bodyOf Try.f88)] ⟨padTo 8 [.vec 0 ao xs.length cap], [⟨.sl ao cap, .vecL 149 2 enc xs d⟩]⟩) = (
match Option.isNone ao with
| true => N [Ent.mk (Loc.sl ao cap) (SObj.vecL (149 : TypeId) 2 enc xs d)] (SV.raw (Value.slice (@none Addr) 0 0))
| false =>
 ∀ (b : Nat),
  (some (Addr.mk b 0 (@none Nat)) = some (Addr.mk b 0 (@none Nat)) ∧
   0 = 0 ∧
    0 = 0 ∧
     0 = 0 ∧
      0 = 0 ∧
       ao = ao ∧
        149 = 149 ∧
         2 = 2 ∧
          2 = 2 ∧ List.length xs = List.length xs ∧ List.length xs * 16 ≤ 140737488355328 ∧ List.length xs ≤ 9223372036854775807) ∧
   ∀ (ao2 : Option Addr) (cap2 : Nat),
    List.length xs ≤ cap2 →
     N [Ent.mk (Loc.sl ao cap) (SObj.vecL (149 : TypeId) 2 enc xs d), Ent.mk (Loc.sl ao2 cap2) (SObj.vecL 149 2 enc xs d)] (SV.vec 1 ao2 (List.length xs) cap2)) := by kernel_rfl


theorem qa_all1 (K : List Frm → Sy → Prop) (X : Code → Sy → Prop) (E : Sy → Prop) (ao : Option Addr) (cap : Nat) (bs : List Int) (ao' : Option Addr) (cap' : Nat) (ss : List Int) (bl q : Nat) (aoq : Option Addr) (capq : Nat) (xs : List (Int × Int)) (na : Int) (b7 : Nat) (aof : Option Addr) (capf : Nat) (bq : Nat) : (runR Try.prog qaT1 noY true [] K X E 600 [.code (bodyOf Try.f87)] ⟨padTo 25 [(.func (.func 55) [] [.ptr 5 b7 0, .ptr 2 bl 0]), .ptr 7 bq 0], qaH1 ao cap bs ao' cap' ss bl q aoq capq xs na b7 none 0 bq 0⟩) = (
true = true ∧
 ∀ (b : Nat),
  bq = bq ∧
   q = q ∧
    bq = bq ∧
     q = q ∧
      true = true ∧
       (aoq = aoq ∧
        capq = capq ∧
         List.length xs = List.length xs ∧
          (149 : TypeId) = (149 : TypeId) ∧ 2 = 2 ∧ List.length xs * 16 ≤ 140737488355328 ∧ List.length xs ≤ 9223372036854775807) ∧
        ∀ (ao2 : Option Addr) (cap2 : Nat),
         List.length xs ≤ cap2 →
          (Ent.mk (Loc.sl ao cap) (SObj.roL 1 encI16 bs (0 : Int)) = Ent.mk (Loc.sl ao cap) (SObj.roL 1 encI16 bs (0 : Int)) ∧
           Ent.mk (Loc.sl ao' cap') (SObj.roL 1 encU8 ss (0 : Int)) = Ent.mk (Loc.sl ao' cap') (SObj.roL 1 encU8 ss (0 : Int)) ∧
            Ent.mk (Loc.blk bl) (SObj.cells [SV.vec 0 ao (List.length bs) cap] (75 : TypeId)) =
             Ent.mk (Loc.blk bl) (SObj.cells [SV.vec 0 ao (List.length bs) cap] (75 : TypeId)) ∧
             Ent.mk (Loc.blk q) (SObj.cells [SV.vec 4 aoq (List.length xs) capq, SV.func (Fn.func (53 : FuncId)) [] [], SV.int IntKind.i64 na] (146 : TypeId)) =
              Ent.mk (Loc.blk q) (SObj.cells [SV.vec 4 aoq (List.length xs) capq, SV.func (Fn.func (53 : FuncId)) [] [], SV.int IntKind.i64 na] (146 : TypeId)) ∧
              Ent.mk (Loc.sl aoq capq) (SObj.vecL (149 : TypeId) 2 encItI xs ((0 : Int), (0 : Int))) =
               Ent.mk (Loc.sl aoq capq) (SObj.vecL (149 : TypeId) 2 encItI xs ((0 : Int), (0 : Int))) ∧
               Ent.mk (Loc.blk b7) (SObj.cells [SV.vec 6 (@none Addr) 0 0] (39 : TypeId)) =
                Ent.mk (Loc.blk b7) (SObj.cells [SV.vec 6 (@none Addr) 0 0] (39 : TypeId)) ∧
                Ent.mk (Loc.sl (@none Addr) 0) (SObj.vecL (3 : TypeId) 1 encI1 (firsts xs 0) (0 : Int)) =
                 Ent.mk (Loc.sl (@none Addr) 0) (SObj.vecL (3 : TypeId) 1 encI1 (firsts xs 0) (0 : Int)) ∧
                 Ent.mk (Loc.blk bq) (SObj.cells [SV.ptr 3 q 0] (77 : TypeId)) = Ent.mk (Loc.blk bq) (SObj.cells [SV.ptr 3 q 0] (77 : TypeId)) ∧
                  Ent.mk (Loc.blk b) (SObj.cells [SV.func (Fn.func (55 : FuncId)) [] [SV.ptr 5 b7 0, SV.ptr 2 bl 0]] 30) =
                   Ent.mk (Loc.blk b) (SObj.cells [SV.func (Fn.func (55 : FuncId)) [] [SV.ptr 5 b7 0, SV.ptr 2 bl 0]] 30) ∧
                   True) ∧
           (true = true ∧ true = true) ∧
            true = true ∧
             ∀ (b_1 : Nat),
              (Ent.mk (Loc.sl ao cap) (SObj.roL 1 encI16 bs (0 : Int)) = Ent.mk (Loc.sl ao cap) (SObj.roL 1 encI16 bs (0 : Int)) ∧
               Ent.mk (Loc.sl ao' cap') (SObj.roL 1 encU8 ss (0 : Int)) = Ent.mk (Loc.sl ao' cap') (SObj.roL 1 encU8 ss (0 : Int)) ∧
                Ent.mk (Loc.blk bl) (SObj.cells [SV.vec 0 ao (List.length bs) cap] (75 : TypeId)) =
                 Ent.mk (Loc.blk bl) (SObj.cells [SV.vec 0 ao (List.length bs) cap] (75 : TypeId)) ∧
                 Ent.mk (Loc.blk q) (SObj.cells [SV.vec 4 aoq (List.length xs) capq, SV.func (Fn.func (53 : FuncId)) [] [], SV.int IntKind.i64 na] (146 : TypeId)) =
                  Ent.mk (Loc.blk q) (SObj.cells [SV.vec 4 aoq (List.length xs) capq, SV.func (Fn.func (53 : FuncId)) [] [], SV.int IntKind.i64 na] (146 : TypeId)) ∧
                  Ent.mk (Loc.sl aoq capq) (SObj.vecL (149 : TypeId) 2 encItI xs ((0 : Int), (0 : Int))) =
                   Ent.mk (Loc.sl aoq capq) (SObj.vecL (149 : TypeId) 2 encItI xs ((0 : Int), (0 : Int))) ∧
                   Ent.mk (Loc.blk b7) (SObj.cells [SV.vec 6 (@none Addr) 0 0] (39 : TypeId)) =
                    Ent.mk (Loc.blk b7) (SObj.cells [SV.vec 6 (@none Addr) 0 0] (39 : TypeId)) ∧
                    Ent.mk (Loc.sl (@none Addr) 0) (SObj.vecL (3 : TypeId) 1 encI1 (firsts xs 0) (0 : Int)) =
                     Ent.mk (Loc.sl (@none Addr) 0) (SObj.vecL (3 : TypeId) 1 encI1 (firsts xs 0) (0 : Int)) ∧
                     Ent.mk (Loc.blk bq) (SObj.cells [SV.ptr 3 q 0] (77 : TypeId)) =
                      Ent.mk (Loc.blk bq) (SObj.cells [SV.ptr 3 q 0] (77 : TypeId)) ∧
                      Ent.mk (Loc.blk b) (SObj.cells [SV.func (Fn.func (55 : FuncId)) [] [SV.ptr 5 b7 0, SV.ptr 2 bl 0]] 30) =
                       Ent.mk (Loc.blk b) (SObj.cells [SV.func (Fn.func (55 : FuncId)) [] [SV.ptr 5 b7 0, SV.ptr 2 bl 0]] 30) ∧
                       True) ∧
               true = true ∧
                true = true ∧
                 ∀ (b_2 : Nat),
                  K (frm [] (bodyOf Try.f87) [1, 1, 1, 0] [])
                   (Sy.mk
                    [SV.func (Fn.func (55 : FuncId)) [] [SV.ptr 5 b7 0, SV.ptr 2 bl 0], SV.ptr 7 bq 0, SV.ptr 8 b 0,
                     SV.ptr 10 b_1 0, SV.raw (Value.tuple #[]), SV.ptr 3 q 0, SV.ptr 3 q 0, SV.ptr 3 q 0,
                     SV.ptr 3 q 0, SV.vec 4 aoq (List.length xs) capq, SV.vec 9 ao2 (List.length xs) cap2, SV.ptr 3 q 0,
                     SV.ptr 3 q 0, SV.ptr 3 q 0, SV.ptr 3 q 1, SV.func (Fn.func 53) [] [],
                     SV.agg [SV.vec 9 ao2 (List.length xs) cap2, SV.func (Fn.func 53) [] []], SV.ptr 10 b_1 0, SV.ptr 10 b_1 0,
                     SV.func (Fn.func 103) [] [SV.ptr 11 b_2 0], SV.raw (Value.tuple #[]), SV.raw (Value.tuple #[]), SV.raw (Value.tuple #[]),
                     SV.raw (Value.tuple #[]), SV.raw (Value.tuple #[])]
                    [Ent.mk (Loc.sl ao cap) (SObj.roL 1 encI16 bs (0 : Int)), Ent.mk (Loc.sl ao' cap') (SObj.roL 1 encU8 ss (0 : Int)),
                     Ent.mk (Loc.blk bl) (SObj.cells [SV.vec 0 ao (List.length bs) cap] (75 : TypeId)),
                     Ent.mk (Loc.blk q) (SObj.cells [SV.vec 4 aoq (List.length xs) capq, SV.func (Fn.func (53 : FuncId)) [] [], SV.int IntKind.i64 na] (146 : TypeId)),
                     Ent.mk (Loc.sl aoq capq) (SObj.vecL (149 : TypeId) 2 encItI xs ((0 : Int), (0 : Int))),
                     Ent.mk (Loc.blk b7) (SObj.cells [SV.vec 6 (@none Addr) 0 0] (39 : TypeId)),
                     Ent.mk (Loc.sl (@none Addr) 0) (SObj.vecL (3 : TypeId) 1 encI1 (firsts xs 0) (0 : Int)),
                     Ent.mk (Loc.blk bq) (SObj.cells [SV.ptr 3 q 0] (77 : TypeId)),
                     Ent.mk (Loc.blk b) (SObj.cells [SV.func (Fn.func (55 : FuncId)) [] [SV.ptr 5 b7 0, SV.ptr 2 bl 0]] 30),
                     Ent.mk (Loc.sl ao2 cap2) (SObj.vecL (149 : TypeId) 2 encItI xs ((0 : Int), (0 : Int))),
                     Ent.mk (Loc.blk b_1) (SObj.cells [SV.vec 9 ao2 (List.length xs) cap2, SV.func (Fn.func 53) [] []] 144),
                     Ent.mk (Loc.blk b_2) (SObj.cells [SV.ptr 10 b_1 0] 147)])) := by kernel_rfl


theorem qa_asg1 (K : List Frm → Sy → Prop) (X : Code → Sy → Prop) (E : Sy → Prop) (u : Nat → Value) (ao : Option Addr) (cap : Nat) (bs : List Int) (ao' : Option Addr) (cap' : Nat) (ss : List Int) (bl q : Nat) (aoq : Option Addr) (capq : Nat) (xs : List (Int × Int)) (na : Int) (b7 : Nat) (aof : Option Addr) (capf : Nat) (bq : Nat) (k j : Nat) (bt : Nat) (aoc : Option Addr) (capc bP bp D l : Nat) (rc : Loop) (v : Int) : (runR Try.prog qaT1 noY true [] K X E 60 [.code (rfA (codeAt (bodyOf Try.f87) [1, 1, 1, 0]))] ⟨mkT u 25 0 [(2, .ptr 8 bt 0), (20, .int .i64 v)], qaR1 ao cap bs ao' cap' ss bl q aoq capq xs na b7 aof capf bq k bt aoc capc j bP bp D l rc .ready none⟩) = (
E
 (Sy.mk
  [SV.raw (u 0), SV.raw (u 1), SV.ptr 8 bt 0, SV.raw (u 3), SV.int IntKind.i64 v, SV.raw (u 5), SV.raw (u 6), SV.raw (u 7),
   SV.raw (u 8), SV.raw (u 9), SV.raw (u 10), SV.raw (u 11), SV.raw (u 12), SV.raw (u 13), SV.raw (u 14), SV.raw (u 15),
   SV.raw (u 16), SV.raw (u 17), SV.raw (u 18), SV.raw (u 19), SV.int IntKind.i64 v, SV.raw (u 21), SV.raw (u 22), SV.raw (u 23),
   SV.raw (u 24)]
  [Ent.mk (Loc.sl ao cap) (SObj.roL 1 encI16 bs (0 : Int)), Ent.mk (Loc.sl ao' cap') (SObj.roL 1 encU8 ss (0 : Int)),
   Ent.mk (Loc.blk bl) (SObj.cells [SV.vec 0 ao (List.length bs) cap] (75 : TypeId)),
   Ent.mk (Loc.blk q) (SObj.cells [SV.vec 4 aoq (List.length xs) capq, SV.func (Fn.func (53 : FuncId)) [] [], SV.int IntKind.i64 na] (146 : TypeId)),
   Ent.mk (Loc.sl aoq capq) (SObj.vecL (149 : TypeId) 2 encItI xs ((0 : Int), (0 : Int))), Ent.mk (Loc.blk b7) (SObj.cells [SV.vec 6 aof k capf] (39 : TypeId)),
   Ent.mk (Loc.sl aof capf) (SObj.vecL (3 : TypeId) 1 encI1 (firsts xs k) (0 : Int)), Ent.mk (Loc.blk bq) (SObj.cells [SV.ptr 3 q 0] (77 : TypeId)),
   Ent.mk (Loc.blk bt) (SObj.cells [SV.func (Fn.func (55 : FuncId)) [] [SV.ptr 5 b7 0, SV.ptr 2 bl 0]] (30 : TypeId)),
   Ent.mk (Loc.sl aoc capc) (SObj.vecL (149 : TypeId) 2 encItI (popN xs j) ((0 : Int), (0 : Int))),
   Ent.mk (Loc.blk bP) (SObj.cells [SV.vec 9 aoc (List.length (popN xs j)) capc, SV.func (Fn.func (53 : FuncId)) [] []] (144 : TypeId)),
   Ent.mk (Loc.blk bp) (SObj.cells [SV.ptr 10 bP 0] (147 : TypeId)), dent D true, lp l rc LoopState.ready (@none Code)])) := by kernel_rfl


theorem qa_body1 (K : List Frm → Sy → Prop) (X : Code → Sy → Prop) (E : Sy → Prop) (u : Nat → Value) (ao : Option Addr) (cap : Nat) (bs : List Int) (ao' : Option Addr) (cap' : Nat) (ss : List Int) (bl q : Nat) (aoq : Option Addr) (capq : Nat) (xs : List (Int × Int)) (na : Int) (b7 : Nat) (aof : Option Addr) (capf : Nat) (bq : Nat) (k j : Nat) (bt : Nat) (aoc : Option Addr) (capc bP bp D l : Nat) (rc : Loop) (v : Int) : (runR Try.prog qaT1 noY true [] K X E 600 [.code (rfB (codeAt (bodyOf Try.f87) [1, 1, 1, 0]))] ⟨mkT u 25 0 [(2, .ptr 8 bt 0), (4, .int .i64 v)], qaR1 ao cap bs ao' cap' ss bl q aoq capq xs na b7 aof capf bq k bt aoc capc j bP bp D l rc .busy none⟩) = (
bt = bt ∧
 true = true ∧
  b7 = b7 ∧
   (true = true ∧ 1 = 1 ∧ 0 < 1 ∧ 1 ≤ 16777216) ∧
    ∀ (b : Nat),
     (aof = aof ∧
      capf = capf ∧
       k = List.length (firsts xs k) ∧
        some (Addr.mk b 0 (@none Nat)) = some (Addr.mk b 0 (@none Nat)) ∧
         (3 : TypeId) = 3 ∧
          1 = 1 ∧
           1 = 1 ∧ 0 < 1 ∧ true = true ∧ (k + 1) * 8 ≤ 140737488355328 ∧ k + 1 ≤ 9223372036854775807) ∧
      ∃ (es : List Int),
       List.length es = 1 ∧
        List.flatMap encI1 es = [SV.int IntKind.i64 v] ∧
         ∀ (ao2 : Option Addr) (cap2 : Nat),
          k + 1 ≤ cap2 →
           (b7 = b7 ∧ true = true ∧ 1 = 1 ∧ 1 ≤ 1) ∧
            b7 = b7 ∧
             bl = bl ∧
              match !decide ((↑(k + 1) : Int) ≤ (↑(List.length bs) : Int)) with
              | true =>
               X Code.ret
                (Sy.mk
                 [SV.raw (u 0), SV.raw (u 1), SV.ptr 8 bt 0, SV.raw (u 3), SV.int IntKind.i64 v, SV.raw (u 5), SV.raw (u 6),
                  SV.raw (u 7), SV.raw (u 8), SV.raw (u 9), SV.raw (u 10), SV.raw (u 11), SV.raw (u 12), SV.raw (u 13),
                  SV.raw (u 14), SV.raw (u 15), SV.raw (u 16), SV.raw (u 17), SV.raw (u 18), SV.raw (u 19), SV.raw (u 20),
                  SV.func (Fn.func (55 : FuncId)) [] [SV.ptr 5 b7 0, SV.ptr 2 bl 0], SV.int IntKind.i64 v,
                  SV.bool (decide ((↑(k + 1) : Int) ≤ (↑(List.length bs) : Int))), SV.bool true]
                 [Ent.mk (Loc.sl ao cap) (SObj.roL 1 encI16 bs (0 : Int)), Ent.mk (Loc.sl ao' cap') (SObj.roL 1 encU8 ss (0 : Int)),
                  Ent.mk (Loc.blk bl) (SObj.cells [SV.vec 0 ao (List.length bs) cap] (75 : TypeId)),
                  Ent.mk (Loc.blk q) (SObj.cells [SV.vec 4 aoq (List.length xs) capq, SV.func (Fn.func (53 : FuncId)) [] [], SV.int IntKind.i64 na] (146 : TypeId)),
                  Ent.mk (Loc.sl aoq capq) (SObj.vecL (149 : TypeId) 2 encItI xs ((0 : Int), (0 : Int))),
                  Ent.mk (Loc.blk b7) (SObj.cells [SV.vec 6 ao2 (k + 1) cap2] (39 : TypeId)),
                  Ent.mk (Loc.sl ao2 cap2) (SObj.vecL (3 : TypeId) 1 encI1 (firsts xs k ++ es) (0 : Int)),
                  Ent.mk (Loc.blk bq) (SObj.cells [SV.ptr 3 q 0] (77 : TypeId)),
                  Ent.mk (Loc.blk bt) (SObj.cells [SV.func (Fn.func (55 : FuncId)) [] [SV.ptr 5 b7 0, SV.ptr 2 bl 0]] (30 : TypeId)),
                  Ent.mk (Loc.sl aoc capc) (SObj.vecL (149 : TypeId) 2 encItI (popN xs j) ((0 : Int), (0 : Int))),
                  Ent.mk (Loc.blk bP) (SObj.cells [SV.vec 9 aoc (List.length (popN xs j)) capc, SV.func (Fn.func (53 : FuncId)) [] []] (144 : TypeId)),
                  Ent.mk (Loc.blk bp) (SObj.cells [SV.ptr 10 bP 0] (147 : TypeId)), dent D true, lp l rc LoopState.busy (@none Code),
                  Ent.mk (Loc.blk b) (SObj.cells [SV.int IntKind.i64 v] 3)])
              | false =>
               E
                (Sy.mk
                 [SV.raw (u 0), SV.raw (u 1), SV.ptr 8 bt 0, SV.raw (u 3), SV.int IntKind.i64 v, SV.raw (u 5), SV.raw (u 6),
                  SV.raw (u 7), SV.raw (u 8), SV.raw (u 9), SV.raw (u 10), SV.raw (u 11), SV.raw (u 12), SV.raw (u 13),
                  SV.raw (u 14), SV.raw (u 15), SV.raw (u 16), SV.raw (u 17), SV.raw (u 18), SV.raw (u 19), SV.raw (u 20),
                  SV.func (Fn.func (55 : FuncId)) [] [SV.ptr 5 b7 0, SV.ptr 2 bl 0], SV.int IntKind.i64 v,
                  SV.bool (decide ((↑(k + 1) : Int) ≤ (↑(List.length bs) : Int))), SV.bool false]
                 [Ent.mk (Loc.sl ao cap) (SObj.roL 1 encI16 bs (0 : Int)), Ent.mk (Loc.sl ao' cap') (SObj.roL 1 encU8 ss (0 : Int)),
                  Ent.mk (Loc.blk bl) (SObj.cells [SV.vec 0 ao (List.length bs) cap] (75 : TypeId)),
                  Ent.mk (Loc.blk q) (SObj.cells [SV.vec 4 aoq (List.length xs) capq, SV.func (Fn.func (53 : FuncId)) [] [], SV.int IntKind.i64 na] (146 : TypeId)),
                  Ent.mk (Loc.sl aoq capq) (SObj.vecL (149 : TypeId) 2 encItI xs ((0 : Int), (0 : Int))),
                  Ent.mk (Loc.blk b7) (SObj.cells [SV.vec 6 ao2 (k + 1) cap2] (39 : TypeId)),
                  Ent.mk (Loc.sl ao2 cap2) (SObj.vecL (3 : TypeId) 1 encI1 (firsts xs k ++ es) (0 : Int)),
                  Ent.mk (Loc.blk bq) (SObj.cells [SV.ptr 3 q 0] (77 : TypeId)),
                  Ent.mk (Loc.blk bt) (SObj.cells [SV.func (Fn.func (55 : FuncId)) [] [SV.ptr 5 b7 0, SV.ptr 2 bl 0]] (30 : TypeId)),
                  Ent.mk (Loc.sl aoc capc) (SObj.vecL (149 : TypeId) 2 encItI (popN xs j) ((0 : Int), (0 : Int))),
                  Ent.mk (Loc.blk bP) (SObj.cells [SV.vec 9 aoc (List.length (popN xs j)) capc, SV.func (Fn.func (53 : FuncId)) [] []] (144 : TypeId)),
                  Ent.mk (Loc.blk bp) (SObj.cells [SV.ptr 10 bP 0] (147 : TypeId)), dent D true, lp l rc LoopState.busy (@none Code),
                  Ent.mk (Loc.blk b) (SObj.cells [SV.int IntKind.i64 v] 3)])) := by kernel_rfl


theorem qa_pops1 (K : List Frm → Sy → Prop) (X : Code → Sy → Prop) (E : Sy → Prop) (J : Act → World → Prop) (u : Nat → Value) (ao : Option Addr) (cap : Nat) (bs : List Int) (ao' : Option Addr) (cap' : Nat) (ss : List Int) (bl q : Nat) (aoq : Option Addr) (capq : Nat) (xs : List (Int × Int)) (na : Int) (b7 : Nat) (aof : Option Addr) (capf : Nat) (bq : Nat) (k j : Nat) (bt : Nat) (aoc : Option Addr) (capc bP bp D l : Nat) (rc : Loop) : (runR Try.prog qaT1 (qaY1 ao cap bs ao' cap' ss bl q aoq capq xs na b7 bq bt aoc capc bP bp D l rc) true [] K X E 600 (frm [J] (bodyOf Try.f103) [0, 0] []) ⟨mkT u 14 0 [(0, .func (.yield l) [] []), (1, .ptr 11 bp 0)], qaR1 ao cap bs ao' cap' ss bl q aoq capq xs na b7 aof capf bq k bt aoc capc j bP bp D l rc .ready none⟩) = (
bp = bp ∧
 true = true ∧
  bP = bP ∧
   match decide ((↑(List.length (popN xs j)) : Int) > (0 : Int)) with
   | true =>
    bp = bp ∧
     true = true ∧
      ∃ (xs_1 : List (Int × Int)),
       (Ent.mk (Loc.sl aoc capc) (SObj.vecL (149 : TypeId) 2 encItI (popN xs j) ((0 : Int), (0 : Int))) =
        Ent.mk (Loc.sl aoc capc) (SObj.vecL (149 : TypeId) 2 encItI xs_1 ((0 : Int), (0 : Int))) ∧
        bP = bP ∧ List.length (popN xs j) = List.length xs_1 ∧ false = false) ∧
        (147 = (147 : TypeId) ∧ 0 < List.length xs_1 ∧ List.length xs_1 ≤ 2305843009213693952) ∧
         ∃ (bef : Int → Int → Bool),
          RI (53 : FuncId) bef ∧
           l = l ∧
            ∃ (k_1 : Nat),
             ∃ (aof_1 : Option Addr),
              ∃ (capf_1 : Nat),
               k_1 < List.length xs ∧
                [SV.int IntKind.i64 (List.getD xs_1 0 ((0 : Int), (0 : Int))).1] = [SV.int IntKind.i64 (topI xs k_1)] ∧
                 [Ent.mk (Loc.sl ao cap) (SObj.roL 1 encI16 bs (0 : Int)), Ent.mk (Loc.sl ao' cap') (SObj.roL 1 encU8 ss (0 : Int)),
                  Ent.mk (Loc.blk bl) (SObj.cells [SV.vec 0 ao (List.length bs) cap] (75 : TypeId)),
                  Ent.mk (Loc.blk q) (SObj.cells [SV.vec 4 aoq (List.length xs) capq, SV.func (Fn.func (53 : FuncId)) [] [], SV.int IntKind.i64 na] (146 : TypeId)),
                  Ent.mk (Loc.sl aoq capq) (SObj.vecL (149 : TypeId) 2 encItI xs ((0 : Int), (0 : Int))),
                  Ent.mk (Loc.blk b7) (SObj.cells [SV.vec 6 aof k capf] (39 : TypeId)),
                  Ent.mk (Loc.sl aof capf) (SObj.vecL (3 : TypeId) 1 encI1 (firsts xs k) (0 : Int)),
                  Ent.mk (Loc.blk bq) (SObj.cells [SV.ptr 3 q 0] (77 : TypeId)),
                  Ent.mk (Loc.blk bt) (SObj.cells [SV.func (Fn.func (55 : FuncId)) [] [SV.ptr 5 b7 0, SV.ptr 2 bl 0]] (30 : TypeId)),
                  Ent.mk (Loc.sl aoc capc) (SObj.vecL (149 : TypeId) 2 encItI (popL (lessI bef) ((0 : Int), (0 : Int)) xs_1) ((0 : Int), (0 : Int))),
                  Ent.mk (Loc.blk bP)
                   (SObj.cells [SV.vec 9 aoc (List.length (popL (lessI bef) ((0 : Int), (0 : Int)) xs_1)) capc, SV.func (Fn.func (53 : FuncId)) [] []] (144 : TypeId)),
                  Ent.mk (Loc.blk bp) (SObj.cells [SV.ptr 10 bP 0] (147 : TypeId)), dent D true, lp l rc LoopState.ready (@none Code)] =
                  [Ent.mk (Loc.sl ao cap) (SObj.roL 1 encI16 bs (0 : Int)), Ent.mk (Loc.sl ao' cap') (SObj.roL 1 encU8 ss (0 : Int)),
                   Ent.mk (Loc.blk bl) (SObj.cells [SV.vec 0 ao (List.length bs) cap] (75 : TypeId)),
                   Ent.mk (Loc.blk q) (SObj.cells [SV.vec 4 aoq (List.length xs) capq, SV.func (Fn.func (53 : FuncId)) [] [], SV.int IntKind.i64 na] (146 : TypeId)),
                   Ent.mk (Loc.sl aoq capq) (SObj.vecL (149 : TypeId) 2 encItI xs ((0 : Int), (0 : Int))),
                   Ent.mk (Loc.blk b7) (SObj.cells [SV.vec 6 aof_1 k_1 capf_1] (39 : TypeId)),
                   Ent.mk (Loc.sl aof_1 capf_1) (SObj.vecL (3 : TypeId) 1 encI1 (firsts xs k_1) (0 : Int)),
                   Ent.mk (Loc.blk bq) (SObj.cells [SV.ptr 3 q 0] (77 : TypeId)),
                   Ent.mk (Loc.blk bt) (SObj.cells [SV.func (Fn.func (55 : FuncId)) [] [SV.ptr 5 b7 0, SV.ptr 2 bl 0]] (30 : TypeId)),
                   Ent.mk (Loc.sl aoc capc) (SObj.vecL (149 : TypeId) 2 encItI (popN xs (k_1 + 1)) ((0 : Int), (0 : Int))),
                   Ent.mk (Loc.blk bP) (SObj.cells [SV.vec 9 aoc (List.length (popN xs (k_1 + 1))) capc, SV.func (Fn.func (53 : FuncId)) [] []] (144 : TypeId)),
                   Ent.mk (Loc.blk bp) (SObj.cells [SV.ptr 10 bP 0] (147 : TypeId)), dent D true, lp l rc LoopState.ready (@none Code)] ∧
                  ∀ (aof' : Option Addr) (capf' : Nat),
                   K [Frm.loop J, Frm.blk 0]
                    (Sy.mk
                     [SV.func (Fn.yield l) [] [], SV.ptr 11 bp 0, SV.raw (u 2), SV.ptr 10 bP 0,
                      SV.int IntKind.i64 (↑(List.length (popN xs j)) : Int), SV.bool true, SV.func (Fn.yield l) [] [], SV.ptr 10 bP 0,
                      SV.iface 147 (SV.ptr 10 bP 0),
                      SV.iface (149 : TypeId)
                       (SV.agg [SV.int IntKind.i64 (List.getD xs_1 0 ((0 : Int), (0 : Int))).1, SV.int IntKind.i64 (List.getD xs_1 0 ((0 : Int), (0 : Int))).2]),
                      SV.agg [SV.int IntKind.i64 (List.getD xs_1 0 ((0 : Int), (0 : Int))).1, SV.int IntKind.i64 (List.getD xs_1 0 ((0 : Int), (0 : Int))).2],
                      SV.int IntKind.i64 (List.getD xs_1 0 ((0 : Int), (0 : Int))).1, SV.bool true, SV.bool false]
                     [Ent.mk (Loc.sl ao cap) (SObj.roL 1 encI16 bs (0 : Int)), Ent.mk (Loc.sl ao' cap') (SObj.roL 1 encU8 ss (0 : Int)),
                      Ent.mk (Loc.blk bl) (SObj.cells [SV.vec 0 ao (List.length bs) cap] (75 : TypeId)),
                      Ent.mk (Loc.blk q) (SObj.cells [SV.vec 4 aoq (List.length xs) capq, SV.func (Fn.func (53 : FuncId)) [] [], SV.int IntKind.i64 na] (146 : TypeId)),
                      Ent.mk (Loc.sl aoq capq) (SObj.vecL (149 : TypeId) 2 encItI xs ((0 : Int), (0 : Int))),
                      Ent.mk (Loc.blk b7) (SObj.cells [SV.vec 6 aof' (k_1 + 1) capf'] (39 : TypeId)),
                      Ent.mk (Loc.sl aof' capf') (SObj.vecL (3 : TypeId) 1 encI1 (firsts xs (k_1 + 1)) (0 : Int)),
                      Ent.mk (Loc.blk bq) (SObj.cells [SV.ptr 3 q 0] (77 : TypeId)),
                      Ent.mk (Loc.blk bt) (SObj.cells [SV.func (Fn.func (55 : FuncId)) [] [SV.ptr 5 b7 0, SV.ptr 2 bl 0]] (30 : TypeId)),
                      Ent.mk (Loc.sl aoc capc) (SObj.vecL (149 : TypeId) 2 encItI (popN xs (k_1 + 1)) ((0 : Int), (0 : Int))),
                      Ent.mk (Loc.blk bP)
                       (SObj.cells [SV.vec 9 aoc (List.length (popN xs (k_1 + 1))) capc, SV.func (Fn.func (53 : FuncId)) [] []] (144 : TypeId)),
                      Ent.mk (Loc.blk bp) (SObj.cells [SV.ptr 10 bP 0] (147 : TypeId)), dent D true, lp l rc LoopState.ready (@none Code)])
   | false =>
    E
     (Sy.mk
      [SV.func (Fn.yield l) [] [], SV.ptr 11 bp 0, SV.raw (u 2), SV.ptr 10 bP 0, SV.int IntKind.i64 (↑(List.length (popN xs j)) : Int), SV.bool false,
       SV.raw (u 6), SV.raw (u 7), SV.raw (u 8), SV.raw (u 9), SV.raw (u 10), SV.raw (u 11), SV.raw (u 12), SV.raw (u 13)]
      [Ent.mk (Loc.sl ao cap) (SObj.roL 1 encI16 bs (0 : Int)), Ent.mk (Loc.sl ao' cap') (SObj.roL 1 encU8 ss (0 : Int)),
       Ent.mk (Loc.blk bl) (SObj.cells [SV.vec 0 ao (List.length bs) cap] (75 : TypeId)),
       Ent.mk (Loc.blk q) (SObj.cells [SV.vec 4 aoq (List.length xs) capq, SV.func (Fn.func (53 : FuncId)) [] [], SV.int IntKind.i64 na] (146 : TypeId)),
       Ent.mk (Loc.sl aoq capq) (SObj.vecL (149 : TypeId) 2 encItI xs ((0 : Int), (0 : Int))), Ent.mk (Loc.blk b7) (SObj.cells [SV.vec 6 aof k capf] (39 : TypeId)),
       Ent.mk (Loc.sl aof capf) (SObj.vecL (3 : TypeId) 1 encI1 (firsts xs k) (0 : Int)), Ent.mk (Loc.blk bq) (SObj.cells [SV.ptr 3 q 0] (77 : TypeId)),
       Ent.mk (Loc.blk bt) (SObj.cells [SV.func (Fn.func (55 : FuncId)) [] [SV.ptr 5 b7 0, SV.ptr 2 bl 0]] (30 : TypeId)),
       Ent.mk (Loc.sl aoc capc) (SObj.vecL (149 : TypeId) 2 encItI (popN xs j) ((0 : Int), (0 : Int))),
       Ent.mk (Loc.blk bP) (SObj.cells [SV.vec 9 aoc (List.length (popN xs j)) capc, SV.func (Fn.func (53 : FuncId)) [] []] (144 : TypeId)),
       Ent.mk (Loc.blk bp) (SObj.cells [SV.ptr 10 bP 0] (147 : TypeId)), dent D true, lp l rc LoopState.ready (@none Code)])) := by kernel_rfl


theorem qa_all2 (K : List Frm → Sy → Prop) (X : Code → Sy → Prop) (E : Sy → Prop) (ao : Option Addr) (cap : Nat) (bs : List Int) (ao' : Option Addr) (cap' : Nat) (ss : List Int) (bl q : Nat) (aoq : Option Addr) (capq : Nat) (xs : List (Int × Int)) (na : Int) (b7 : Nat) (aof : Option Addr) (capf : Nat) (b8 : Nat) (o : Bool) (b10 : Nat) (n : Int) (b11 a : Nat) (bq : Nat) : (runR Try.prog qaT1 noY true [] K X E 600 [.code (bodyOf Try.f87)] ⟨padTo 25 [(.func (.func 56) [] [.ptr 7 b8 0, .ptr 9 b11 0, .ptr 5 b7 0, .ptr 8 b10 0]), .ptr 10 bq 0], qaH2 ao cap bs ao' cap' ss bl q aoq capq xs na b7 aof capf b8 o b10 n b11 0 bq⟩) = (
true = true ∧
 ∀ (b : Nat),
  bq = bq ∧
   q = q ∧
    bq = bq ∧
     q = q ∧
      true = true ∧
       (aoq = aoq ∧
        capq = capq ∧
         List.length xs = List.length xs ∧
          (149 : TypeId) = (149 : TypeId) ∧ 2 = 2 ∧ List.length xs * 16 ≤ 140737488355328 ∧ List.length xs ≤ 9223372036854775807) ∧
        ∀ (ao2 : Option Addr) (cap2 : Nat),
         List.length xs ≤ cap2 →
          (Ent.mk (Loc.sl ao cap) (SObj.roL 1 encI16 bs (0 : Int)) = Ent.mk (Loc.sl ao cap) (SObj.roL 1 encI16 bs (0 : Int)) ∧
           Ent.mk (Loc.sl ao' cap') (SObj.roL 1 encU8 ss (0 : Int)) = Ent.mk (Loc.sl ao' cap') (SObj.roL 1 encU8 ss (0 : Int)) ∧
            Ent.mk (Loc.blk bl) (SObj.cells [SV.vec 0 ao (List.length bs) cap] (75 : TypeId)) =
             Ent.mk (Loc.blk bl) (SObj.cells [SV.vec 0 ao (List.length bs) cap] (75 : TypeId)) ∧
             Ent.mk (Loc.blk q) (SObj.cells [SV.vec 4 aoq (List.length xs) capq, SV.func (Fn.func (53 : FuncId)) [] [], SV.int IntKind.i64 na] (146 : TypeId)) =
              Ent.mk (Loc.blk q) (SObj.cells [SV.vec 4 aoq (List.length xs) capq, SV.func (Fn.func (53 : FuncId)) [] [], SV.int IntKind.i64 na] (146 : TypeId)) ∧
              Ent.mk (Loc.sl aoq capq) (SObj.vecL (149 : TypeId) 2 encItI xs ((0 : Int), (0 : Int))) =
               Ent.mk (Loc.sl aoq capq) (SObj.vecL (149 : TypeId) 2 encItI xs ((0 : Int), (0 : Int))) ∧
               Ent.mk (Loc.blk b7) (SObj.cells [SV.vec 6 aof (List.length xs) capf] (39 : TypeId)) =
                Ent.mk (Loc.blk b7) (SObj.cells [SV.vec 6 aof (List.length xs) capf] (39 : TypeId)) ∧
                Ent.mk (Loc.sl aof capf) (SObj.vecL (3 : TypeId) 1 encI1 (firsts xs (List.length xs)) (0 : Int)) =
                 Ent.mk (Loc.sl aof capf) (SObj.vecL (3 : TypeId) 1 encI1 (firsts xs (List.length xs)) (0 : Int)) ∧
                 Ent.mk (Loc.blk b8) (SObj.cells [SV.bool o] (4 : TypeId)) = Ent.mk (Loc.blk b8) (SObj.cells [SV.bool o] (4 : TypeId)) ∧
                  Ent.mk (Loc.blk b10) (SObj.cells [SV.int IntKind.i64 n] (3 : TypeId)) = Ent.mk (Loc.blk b10) (SObj.cells [SV.int IntKind.i64 n] (3 : TypeId)) ∧
                   Ent.mk (Loc.blk b11) (SObj.cells [SV.int IntKind.i64 (↑0 : Int)] (3 : TypeId)) =
                    Ent.mk (Loc.blk b11) (SObj.cells [SV.int IntKind.i64 (↑0 : Int)] (3 : TypeId)) ∧
                    Ent.mk (Loc.blk bq) (SObj.cells [SV.ptr 3 q 0] (77 : TypeId)) =
                     Ent.mk (Loc.blk bq) (SObj.cells [SV.ptr 3 q 0] (77 : TypeId)) ∧
                     Ent.mk (Loc.blk b)
                      (SObj.cells
                       [SV.func (Fn.func (56 : FuncId)) []
                        [SV.ptr 7 b8 0, SV.ptr 9 b11 0, SV.ptr 5 b7 0, SV.ptr 8 b10 0]]
                       30) =
                      Ent.mk (Loc.blk b)
                       (SObj.cells
                        [SV.func (Fn.func (56 : FuncId)) []
                         [SV.ptr 7 b8 0, SV.ptr 9 b11 0, SV.ptr 5 b7 0, SV.ptr 8 b10 0]]
                        30) ∧
                      True) ∧
           (true = true ∧ true = true) ∧
            true = true ∧
             ∀ (b_1 : Nat),
              (Ent.mk (Loc.sl ao cap) (SObj.roL 1 encI16 bs (0 : Int)) = Ent.mk (Loc.sl ao cap) (SObj.roL 1 encI16 bs (0 : Int)) ∧
               Ent.mk (Loc.sl ao' cap') (SObj.roL 1 encU8 ss (0 : Int)) = Ent.mk (Loc.sl ao' cap') (SObj.roL 1 encU8 ss (0 : Int)) ∧
                Ent.mk (Loc.blk bl) (SObj.cells [SV.vec 0 ao (List.length bs) cap] (75 : TypeId)) =
                 Ent.mk (Loc.blk bl) (SObj.cells [SV.vec 0 ao (List.length bs) cap] (75 : TypeId)) ∧
                 Ent.mk (Loc.blk q) (SObj.cells [SV.vec 4 aoq (List.length xs) capq, SV.func (Fn.func (53 : FuncId)) [] [], SV.int IntKind.i64 na] (146 : TypeId)) =
                  Ent.mk (Loc.blk q) (SObj.cells [SV.vec 4 aoq (List.length xs) capq, SV.func (Fn.func (53 : FuncId)) [] [], SV.int IntKind.i64 na] (146 : TypeId)) ∧
                  Ent.mk (Loc.sl aoq capq) (SObj.vecL (149 : TypeId) 2 encItI xs ((0 : Int), (0 : Int))) =
                   Ent.mk (Loc.sl aoq capq) (SObj.vecL (149 : TypeId) 2 encItI xs ((0 : Int), (0 : Int))) ∧
                   Ent.mk (Loc.blk b7) (SObj.cells [SV.vec 6 aof (List.length xs) capf] (39 : TypeId)) =
                    Ent.mk (Loc.blk b7) (SObj.cells [SV.vec 6 aof (List.length xs) capf] (39 : TypeId)) ∧
                    Ent.mk (Loc.sl aof capf) (SObj.vecL (3 : TypeId) 1 encI1 (firsts xs (List.length xs)) (0 : Int)) =
                     Ent.mk (Loc.sl aof capf) (SObj.vecL (3 : TypeId) 1 encI1 (firsts xs (List.length xs)) (0 : Int)) ∧
                     Ent.mk (Loc.blk b8) (SObj.cells [SV.bool o] (4 : TypeId)) = Ent.mk (Loc.blk b8) (SObj.cells [SV.bool o] (4 : TypeId)) ∧
                      Ent.mk (Loc.blk b10) (SObj.cells [SV.int IntKind.i64 n] (3 : TypeId)) = Ent.mk (Loc.blk b10) (SObj.cells [SV.int IntKind.i64 n] (3 : TypeId)) ∧
                       Ent.mk (Loc.blk b11) (SObj.cells [SV.int IntKind.i64 (↑0 : Int)] (3 : TypeId)) =
                        Ent.mk (Loc.blk b11) (SObj.cells [SV.int IntKind.i64 (↑0 : Int)] (3 : TypeId)) ∧
                        Ent.mk (Loc.blk bq) (SObj.cells [SV.ptr 3 q 0] (77 : TypeId)) =
                         Ent.mk (Loc.blk bq) (SObj.cells [SV.ptr 3 q 0] (77 : TypeId)) ∧
                         Ent.mk (Loc.blk b)
                          (SObj.cells
                           [SV.func (Fn.func (56 : FuncId)) []
                            [SV.ptr 7 b8 0, SV.ptr 9 b11 0, SV.ptr 5 b7 0, SV.ptr 8 b10 0]]
                           30) =
                          Ent.mk (Loc.blk b)
                           (SObj.cells
                            [SV.func (Fn.func (56 : FuncId)) []
                             [SV.ptr 7 b8 0, SV.ptr 9 b11 0, SV.ptr 5 b7 0, SV.ptr 8 b10 0]]
                            30) ∧
                          True) ∧
               true = true ∧
                true = true ∧
                 ∀ (b_2 : Nat),
                  K (frm [] (bodyOf Try.f87) [1, 1, 1, 0] [])
                   (Sy.mk
                    [SV.func (Fn.func (56 : FuncId)) []
                     [SV.ptr 7 b8 0, SV.ptr 9 b11 0, SV.ptr 5 b7 0, SV.ptr 8 b10 0],
                     SV.ptr 10 bq 0, SV.ptr 11 b 0, SV.ptr 13 b_1 0, SV.raw (Value.tuple #[]), SV.ptr 3 q 0,
                     SV.ptr 3 q 0, SV.ptr 3 q 0, SV.ptr 3 q 0, SV.vec 4 aoq (List.length xs) capq,
                     SV.vec 12 ao2 (List.length xs) cap2, SV.ptr 3 q 0, SV.ptr 3 q 0, SV.ptr 3 q 0,
                     SV.ptr 3 q 1, SV.func (Fn.func 53) [] [], SV.agg [SV.vec 12 ao2 (List.length xs) cap2, SV.func (Fn.func 53) [] []],
                     SV.ptr 13 b_1 0, SV.ptr 13 b_1 0, SV.func (Fn.func 103) [] [SV.ptr 14 b_2 0],
                     SV.raw (Value.tuple #[]), SV.raw (Value.tuple #[]), SV.raw (Value.tuple #[]), SV.raw (Value.tuple #[]), SV.raw (Value.tuple #[])]
                    [Ent.mk (Loc.sl ao cap) (SObj.roL 1 encI16 bs (0 : Int)), Ent.mk (Loc.sl ao' cap') (SObj.roL 1 encU8 ss (0 : Int)),
                     Ent.mk (Loc.blk bl) (SObj.cells [SV.vec 0 ao (List.length bs) cap] (75 : TypeId)),
                     Ent.mk (Loc.blk q) (SObj.cells [SV.vec 4 aoq (List.length xs) capq, SV.func (Fn.func (53 : FuncId)) [] [], SV.int IntKind.i64 na] (146 : TypeId)),
                     Ent.mk (Loc.sl aoq capq) (SObj.vecL (149 : TypeId) 2 encItI xs ((0 : Int), (0 : Int))),
                     Ent.mk (Loc.blk b7) (SObj.cells [SV.vec 6 aof (List.length xs) capf] (39 : TypeId)),
                     Ent.mk (Loc.sl aof capf) (SObj.vecL (3 : TypeId) 1 encI1 (firsts xs (List.length xs)) (0 : Int)),
                     Ent.mk (Loc.blk b8) (SObj.cells [SV.bool o] (4 : TypeId)), Ent.mk (Loc.blk b10) (SObj.cells [SV.int IntKind.i64 n] (3 : TypeId)),
                     Ent.mk (Loc.blk b11) (SObj.cells [SV.int IntKind.i64 (↑0 : Int)] (3 : TypeId)),
                     Ent.mk (Loc.blk bq) (SObj.cells [SV.ptr 3 q 0] (77 : TypeId)),
                     Ent.mk (Loc.blk b)
                      (SObj.cells
                       [SV.func (Fn.func (56 : FuncId)) []
                        [SV.ptr 7 b8 0, SV.ptr 9 b11 0, SV.ptr 5 b7 0, SV.ptr 8 b10 0]]
                       30),
                     Ent.mk (Loc.sl ao2 cap2) (SObj.vecL (149 : TypeId) 2 encItI xs ((0 : Int), (0 : Int))),
                     Ent.mk (Loc.blk b_1) (SObj.cells [SV.vec 12 ao2 (List.length xs) cap2, SV.func (Fn.func 53) [] []] 144),
                     Ent.mk (Loc.blk b_2) (SObj.cells [SV.ptr 13 b_1 0] 147)])) := by kernel_rfl


theorem qa_asg2 (K : List Frm → Sy → Prop) (X : Code → Sy → Prop) (E : Sy → Prop) (u : Nat → Value) (ao : Option Addr) (cap : Nat) (bs : List Int) (ao' : Option Addr) (cap' : Nat) (ss : List Int) (bl q : Nat) (aoq : Option Addr) (capq : Nat) (xs : List (Int × Int)) (na : Int) (b7 : Nat) (aof : Option Addr) (capf : Nat) (b8 : Nat) (o : Bool) (b10 : Nat) (n : Int) (b11 a : Nat) (bq : Nat) (j : Nat) (bt : Nat) (aoc : Option Addr) (capc bP bp D l : Nat) (rc : Loop) (v : Int) : (runR Try.prog qaT1 noY true [] K X E 60 [.code (rfA (codeAt (bodyOf Try.f87) [1, 1, 1, 0]))] ⟨mkT u 25 0 [(2, .ptr 11 bt 0), (20, .int .i64 v)], qaR2 ao cap bs ao' cap' ss bl q aoq capq xs na b7 aof capf b8 o b10 n b11 a bq bt aoc capc j bP bp D l rc .ready none⟩) = (
E
 (Sy.mk
  [SV.raw (u 0), SV.raw (u 1), SV.ptr 11 bt 0, SV.raw (u 3), SV.int IntKind.i64 v, SV.raw (u 5), SV.raw (u 6), SV.raw (u 7),
   SV.raw (u 8), SV.raw (u 9), SV.raw (u 10), SV.raw (u 11), SV.raw (u 12), SV.raw (u 13), SV.raw (u 14), SV.raw (u 15),
   SV.raw (u 16), SV.raw (u 17), SV.raw (u 18), SV.raw (u 19), SV.int IntKind.i64 v, SV.raw (u 21), SV.raw (u 22), SV.raw (u 23),
   SV.raw (u 24)]
  [Ent.mk (Loc.sl ao cap) (SObj.roL 1 encI16 bs (0 : Int)), Ent.mk (Loc.sl ao' cap') (SObj.roL 1 encU8 ss (0 : Int)),
   Ent.mk (Loc.blk bl) (SObj.cells [SV.vec 0 ao (List.length bs) cap] (75 : TypeId)),
   Ent.mk (Loc.blk q) (SObj.cells [SV.vec 4 aoq (List.length xs) capq, SV.func (Fn.func (53 : FuncId)) [] [], SV.int IntKind.i64 na] (146 : TypeId)),
   Ent.mk (Loc.sl aoq capq) (SObj.vecL (149 : TypeId) 2 encItI xs ((0 : Int), (0 : Int))), Ent.mk (Loc.blk b7) (SObj.cells [SV.vec 6 aof (List.length xs) capf] (39 : TypeId)),
   Ent.mk (Loc.sl aof capf) (SObj.vecL (3 : TypeId) 1 encI1 (firsts xs (List.length xs)) (0 : Int)), Ent.mk (Loc.blk b8) (SObj.cells [SV.bool o] (4 : TypeId)),
   Ent.mk (Loc.blk b10) (SObj.cells [SV.int IntKind.i64 n] (3 : TypeId)), Ent.mk (Loc.blk b11) (SObj.cells [SV.int IntKind.i64 (↑a : Int)] (3 : TypeId)),
   Ent.mk (Loc.blk bq) (SObj.cells [SV.ptr 3 q 0] (77 : TypeId)),
   Ent.mk (Loc.blk bt)
    (SObj.cells [SV.func (Fn.func (56 : FuncId)) [] [SV.ptr 7 b8 0, SV.ptr 9 b11 0, SV.ptr 5 b7 0, SV.ptr 8 b10 0]] (30 : TypeId)),
   Ent.mk (Loc.sl aoc capc) (SObj.vecL (149 : TypeId) 2 encItI (popN xs j) ((0 : Int), (0 : Int))),
   Ent.mk (Loc.blk bP) (SObj.cells [SV.vec 12 aoc (List.length (popN xs j)) capc, SV.func (Fn.func (53 : FuncId)) [] []] (144 : TypeId)),
   Ent.mk (Loc.blk bp) (SObj.cells [SV.ptr 13 bP 0] (147 : TypeId)), dent D true, lp l rc LoopState.ready (@none Code)])) := by kernel_rfl


theorem qa_body2 (K : List Frm → Sy → Prop) (X : Code → Sy → Prop) (E : Sy → Prop) (u : Nat → Value) (ao : Option Addr) (cap : Nat) (bs : List Int) (ao' : Option Addr) (cap' : Nat) (ss : List Int) (bl q : Nat) (aoq : Option Addr) (capq : Nat) (xs : List (Int × Int)) (na : Int) (b7 : Nat) (aof : Option Addr) (capf : Nat) (b8 : Nat) (o : Bool) (b10 : Nat) (n : Int) (b11 a : Nat) (bq : Nat) (j : Nat) (bt : Nat) (aoc : Option Addr) (capc bP bp D l : Nat) (rc : Loop) (v : Int) : (runR Try.prog qaT1 noY true [] K X E 600 [.code (rfB (codeAt (bodyOf Try.f87) [1, 1, 1, 0]))] ⟨mkT u 25 0 [(2, .ptr 11 bt 0), (4, .int .i64 v)], qaR2 ao cap bs ao' cap' ss bl q aoq capq xs na b7 aof capf b8 o b10 n b11 a bq bt aoc capc j bP bp D l rc .busy none⟩) = (
bt = bt ∧
 true = true ∧
  b8 = b8 ∧
   match o with
   | true =>
    b11 = b11 ∧
     b7 = b7 ∧
      match decide ((↑a : Int) < (↑(List.length xs) : Int)) with
      | true =>
       b7 = b7 ∧
        b11 = b11 ∧
         (aof = aof ∧ capf = capf ∧ List.length xs = List.length (firsts xs (List.length xs)) ∧ (0 : Int) ≤ (↑a : Int) ∧ (↑a : Int) < (↑(List.length xs) : Int)) ∧
          (Addr.blkD aof = Addr.blkD aof ∧ Addr.offD aof = Addr.offD aof ∧ 1 = 1 ∧ Int.toNat (↑a : Int) < List.length (firsts xs (List.length xs))) ∧
           (b8 = b8 ∧ true = true ∧ 1 = 1 ∧ 1 ≤ 1) ∧
            b11 = b11 ∧
             (b11 = b11 ∧ true = true ∧ 1 = 1 ∧ 1 ≤ 1) ∧
              b11 = b11 ∧
               b10 = b10 ∧
                match !decide (IntKind.wrap IntKind.i64 ((↑a : Int) + (1 : Int)) < n) with
                | true =>
                 X Code.ret
                  (Sy.mk
                   [SV.raw (u 0), SV.raw (u 1), SV.ptr 11 bt 0, SV.raw (u 3), SV.int IntKind.i64 v, SV.raw (u 5),
                    SV.raw (u 6), SV.raw (u 7), SV.raw (u 8), SV.raw (u 9), SV.raw (u 10), SV.raw (u 11), SV.raw (u 12),
                    SV.raw (u 13), SV.raw (u 14), SV.raw (u 15), SV.raw (u 16), SV.raw (u 17), SV.raw (u 18), SV.raw (u 19),
                    SV.raw (u 20),
                    SV.func (Fn.func (56 : FuncId)) []
                     [SV.ptr 7 b8 0, SV.ptr 9 b11 0, SV.ptr 5 b7 0, SV.ptr 8 b10 0],
                    SV.int IntKind.i64 v, SV.bool (decide (IntKind.wrap IntKind.i64 ((↑a : Int) + (1 : Int)) < n)), SV.bool true]
                   [Ent.mk (Loc.sl ao cap) (SObj.roL 1 encI16 bs (0 : Int)), Ent.mk (Loc.sl ao' cap') (SObj.roL 1 encU8 ss (0 : Int)),
                    Ent.mk (Loc.blk bl) (SObj.cells [SV.vec 0 ao (List.length bs) cap] (75 : TypeId)),
                    Ent.mk (Loc.blk q) (SObj.cells [SV.vec 4 aoq (List.length xs) capq, SV.func (Fn.func (53 : FuncId)) [] [], SV.int IntKind.i64 na] (146 : TypeId)),
                    Ent.mk (Loc.sl aoq capq) (SObj.vecL (149 : TypeId) 2 encItI xs ((0 : Int), (0 : Int))),
                    Ent.mk (Loc.blk b7) (SObj.cells [SV.vec 6 aof (List.length xs) capf] (39 : TypeId)),
                    Ent.mk (Loc.sl aof capf) (SObj.vecL (3 : TypeId) 1 encI1 (firsts xs (List.length xs)) (0 : Int)),
                    Ent.mk (Loc.blk b8) (SObj.cells [SV.bool (v == List.getD (firsts xs (List.length xs)) (Int.toNat (↑a : Int)) (0 : Int))] (4 : TypeId)),
                    Ent.mk (Loc.blk b10) (SObj.cells [SV.int IntKind.i64 n] (3 : TypeId)),
                    Ent.mk (Loc.blk b11) (SObj.cells [SV.int IntKind.i64 (IntKind.wrap IntKind.i64 ((↑a : Int) + (1 : Int)))] (3 : TypeId)),
                    Ent.mk (Loc.blk bq) (SObj.cells [SV.ptr 3 q 0] (77 : TypeId)),
                    Ent.mk (Loc.blk bt)
                     (SObj.cells
                      [SV.func (Fn.func (56 : FuncId)) []
                       [SV.ptr 7 b8 0, SV.ptr 9 b11 0, SV.ptr 5 b7 0, SV.ptr 8 b10 0]]
                      (30 : TypeId)),
                    Ent.mk (Loc.sl aoc capc) (SObj.vecL (149 : TypeId) 2 encItI (popN xs j) ((0 : Int), (0 : Int))),
                    Ent.mk (Loc.blk bP) (SObj.cells [SV.vec 12 aoc (List.length (popN xs j)) capc, SV.func (Fn.func (53 : FuncId)) [] []] (144 : TypeId)),
                    Ent.mk (Loc.blk bp) (SObj.cells [SV.ptr 13 bP 0] (147 : TypeId)), dent D true, lp l rc LoopState.busy (@none Code)])
                | false =>
                 E
                  (Sy.mk
                   [SV.raw (u 0), SV.raw (u 1), SV.ptr 11 bt 0, SV.raw (u 3), SV.int IntKind.i64 v, SV.raw (u 5),
                    SV.raw (u 6), SV.raw (u 7), SV.raw (u 8), SV.raw (u 9), SV.raw (u 10), SV.raw (u 11), SV.raw (u 12),
                    SV.raw (u 13), SV.raw (u 14), SV.raw (u 15), SV.raw (u 16), SV.raw (u 17), SV.raw (u 18), SV.raw (u 19),
                    SV.raw (u 20),
                    SV.func (Fn.func (56 : FuncId)) []
                     [SV.ptr 7 b8 0, SV.ptr 9 b11 0, SV.ptr 5 b7 0, SV.ptr 8 b10 0],
                    SV.int IntKind.i64 v, SV.bool (decide (IntKind.wrap IntKind.i64 ((↑a : Int) + (1 : Int)) < n)), SV.bool false]
                   [Ent.mk (Loc.sl ao cap) (SObj.roL 1 encI16 bs (0 : Int)), Ent.mk (Loc.sl ao' cap') (SObj.roL 1 encU8 ss (0 : Int)),
                    Ent.mk (Loc.blk bl) (SObj.cells [SV.vec 0 ao (List.length bs) cap] (75 : TypeId)),
                    Ent.mk (Loc.blk q) (SObj.cells [SV.vec 4 aoq (List.length xs) capq, SV.func (Fn.func (53 : FuncId)) [] [], SV.int IntKind.i64 na] (146 : TypeId)),
                    Ent.mk (Loc.sl aoq capq) (SObj.vecL (149 : TypeId) 2 encItI xs ((0 : Int), (0 : Int))),
                    Ent.mk (Loc.blk b7) (SObj.cells [SV.vec 6 aof (List.length xs) capf] (39 : TypeId)),
                    Ent.mk (Loc.sl aof capf) (SObj.vecL (3 : TypeId) 1 encI1 (firsts xs (List.length xs)) (0 : Int)),
                    Ent.mk (Loc.blk b8) (SObj.cells [SV.bool (v == List.getD (firsts xs (List.length xs)) (Int.toNat (↑a : Int)) (0 : Int))] (4 : TypeId)),
                    Ent.mk (Loc.blk b10) (SObj.cells [SV.int IntKind.i64 n] (3 : TypeId)),
                    Ent.mk (Loc.blk b11) (SObj.cells [SV.int IntKind.i64 (IntKind.wrap IntKind.i64 ((↑a : Int) + (1 : Int)))] (3 : TypeId)),
                    Ent.mk (Loc.blk bq) (SObj.cells [SV.ptr 3 q 0] (77 : TypeId)),
                    Ent.mk (Loc.blk bt)
                     (SObj.cells
                      [SV.func (Fn.func (56 : FuncId)) []
                       [SV.ptr 7 b8 0, SV.ptr 9 b11 0, SV.ptr 5 b7 0, SV.ptr 8 b10 0]]
                      (30 : TypeId)),
                    Ent.mk (Loc.sl aoc capc) (SObj.vecL (149 : TypeId) 2 encItI (popN xs j) ((0 : Int), (0 : Int))),
                    Ent.mk (Loc.blk bP) (SObj.cells [SV.vec 12 aoc (List.length (popN xs j)) capc, SV.func (Fn.func (53 : FuncId)) [] []] (144 : TypeId)),
                    Ent.mk (Loc.blk bp) (SObj.cells [SV.ptr 13 bP 0] (147 : TypeId)), dent D true, lp l rc LoopState.busy (@none Code)])
      | false =>
       (b8 = b8 ∧ true = true ∧ 1 = 1 ∧ 1 ≤ 1) ∧
        b11 = b11 ∧
         (b11 = b11 ∧ true = true ∧ 1 = 1 ∧ 1 ≤ 1) ∧
          b11 = b11 ∧
           b10 = b10 ∧
            match !decide (IntKind.wrap IntKind.i64 ((↑a : Int) + (1 : Int)) < n) with
            | true =>
             X Code.ret
              (Sy.mk
               [SV.raw (u 0), SV.raw (u 1), SV.ptr 11 bt 0, SV.raw (u 3), SV.int IntKind.i64 v, SV.raw (u 5), SV.raw (u 6),
                SV.raw (u 7), SV.raw (u 8), SV.raw (u 9), SV.raw (u 10), SV.raw (u 11), SV.raw (u 12), SV.raw (u 13),
                SV.raw (u 14), SV.raw (u 15), SV.raw (u 16), SV.raw (u 17), SV.raw (u 18), SV.raw (u 19), SV.raw (u 20),
                SV.func (Fn.func (56 : FuncId)) [] [SV.ptr 7 b8 0, SV.ptr 9 b11 0, SV.ptr 5 b7 0, SV.ptr 8 b10 0],
                SV.int IntKind.i64 v, SV.bool (decide (IntKind.wrap IntKind.i64 ((↑a : Int) + (1 : Int)) < n)), SV.bool true]
               [Ent.mk (Loc.sl ao cap) (SObj.roL 1 encI16 bs (0 : Int)), Ent.mk (Loc.sl ao' cap') (SObj.roL 1 encU8 ss (0 : Int)),
                Ent.mk (Loc.blk bl) (SObj.cells [SV.vec 0 ao (List.length bs) cap] (75 : TypeId)),
                Ent.mk (Loc.blk q) (SObj.cells [SV.vec 4 aoq (List.length xs) capq, SV.func (Fn.func (53 : FuncId)) [] [], SV.int IntKind.i64 na] (146 : TypeId)),
                Ent.mk (Loc.sl aoq capq) (SObj.vecL (149 : TypeId) 2 encItI xs ((0 : Int), (0 : Int))),
                Ent.mk (Loc.blk b7) (SObj.cells [SV.vec 6 aof (List.length xs) capf] (39 : TypeId)),
                Ent.mk (Loc.sl aof capf) (SObj.vecL (3 : TypeId) 1 encI1 (firsts xs (List.length xs)) (0 : Int)), Ent.mk (Loc.blk b8) (SObj.cells [SV.bool false] (4 : TypeId)),
                Ent.mk (Loc.blk b10) (SObj.cells [SV.int IntKind.i64 n] (3 : TypeId)),
                Ent.mk (Loc.blk b11) (SObj.cells [SV.int IntKind.i64 (IntKind.wrap IntKind.i64 ((↑a : Int) + (1 : Int)))] (3 : TypeId)),
                Ent.mk (Loc.blk bq) (SObj.cells [SV.ptr 3 q 0] (77 : TypeId)),
                Ent.mk (Loc.blk bt)
                 (SObj.cells
                  [SV.func (Fn.func (56 : FuncId)) [] [SV.ptr 7 b8 0, SV.ptr 9 b11 0, SV.ptr 5 b7 0, SV.ptr 8 b10 0]]
                  (30 : TypeId)),
                Ent.mk (Loc.sl aoc capc) (SObj.vecL (149 : TypeId) 2 encItI (popN xs j) ((0 : Int), (0 : Int))),
                Ent.mk (Loc.blk bP) (SObj.cells [SV.vec 12 aoc (List.length (popN xs j)) capc, SV.func (Fn.func (53 : FuncId)) [] []] (144 : TypeId)),
                Ent.mk (Loc.blk bp) (SObj.cells [SV.ptr 13 bP 0] (147 : TypeId)), dent D true, lp l rc LoopState.busy (@none Code)])
            | false =>
             E
              (Sy.mk
               [SV.raw (u 0), SV.raw (u 1), SV.ptr 11 bt 0, SV.raw (u 3), SV.int IntKind.i64 v, SV.raw (u 5), SV.raw (u 6),
                SV.raw (u 7), SV.raw (u 8), SV.raw (u 9), SV.raw (u 10), SV.raw (u 11), SV.raw (u 12), SV.raw (u 13),
                SV.raw (u 14), SV.raw (u 15), SV.raw (u 16), SV.raw (u 17), SV.raw (u 18), SV.raw (u 19), SV.raw (u 20),
                SV.func (Fn.func (56 : FuncId)) [] [SV.ptr 7 b8 0, SV.ptr 9 b11 0, SV.ptr 5 b7 0, SV.ptr 8 b10 0],
                SV.int IntKind.i64 v, SV.bool (decide (IntKind.wrap IntKind.i64 ((↑a : Int) + (1 : Int)) < n)), SV.bool false]
               [Ent.mk (Loc.sl ao cap) (SObj.roL 1 encI16 bs (0 : Int)), Ent.mk (Loc.sl ao' cap') (SObj.roL 1 encU8 ss (0 : Int)),
                Ent.mk (Loc.blk bl) (SObj.cells [SV.vec 0 ao (List.length bs) cap] (75 : TypeId)),
                Ent.mk (Loc.blk q) (SObj.cells [SV.vec 4 aoq (List.length xs) capq, SV.func (Fn.func (53 : FuncId)) [] [], SV.int IntKind.i64 na] (146 : TypeId)),
                Ent.mk (Loc.sl aoq capq) (SObj.vecL (149 : TypeId) 2 encItI xs ((0 : Int), (0 : Int))),
                Ent.mk (Loc.blk b7) (SObj.cells [SV.vec 6 aof (List.length xs) capf] (39 : TypeId)),
                Ent.mk (Loc.sl aof capf) (SObj.vecL (3 : TypeId) 1 encI1 (firsts xs (List.length xs)) (0 : Int)), Ent.mk (Loc.blk b8) (SObj.cells [SV.bool false] (4 : TypeId)),
                Ent.mk (Loc.blk b10) (SObj.cells [SV.int IntKind.i64 n] (3 : TypeId)),
                Ent.mk (Loc.blk b11) (SObj.cells [SV.int IntKind.i64 (IntKind.wrap IntKind.i64 ((↑a : Int) + (1 : Int)))] (3 : TypeId)),
                Ent.mk (Loc.blk bq) (SObj.cells [SV.ptr 3 q 0] (77 : TypeId)),
                Ent.mk (Loc.blk bt)
                 (SObj.cells
                  [SV.func (Fn.func (56 : FuncId)) [] [SV.ptr 7 b8 0, SV.ptr 9 b11 0, SV.ptr 5 b7 0, SV.ptr 8 b10 0]]
                  (30 : TypeId)),
                Ent.mk (Loc.sl aoc capc) (SObj.vecL (149 : TypeId) 2 encItI (popN xs j) ((0 : Int), (0 : Int))),
                Ent.mk (Loc.blk bP) (SObj.cells [SV.vec 12 aoc (List.length (popN xs j)) capc, SV.func (Fn.func (53 : FuncId)) [] []] (144 : TypeId)),
                Ent.mk (Loc.blk bp) (SObj.cells [SV.ptr 13 bP 0] (147 : TypeId)), dent D true, lp l rc LoopState.busy (@none Code)])
   | false =>
    (b8 = b8 ∧ true = true ∧ 1 = 1 ∧ 1 ≤ 1) ∧
     b11 = b11 ∧
      (b11 = b11 ∧ true = true ∧ 1 = 1 ∧ 1 ≤ 1) ∧
       b11 = b11 ∧
        b10 = b10 ∧
         match !decide (IntKind.wrap IntKind.i64 ((↑a : Int) + (1 : Int)) < n) with
         | true =>
          X Code.ret
           (Sy.mk
            [SV.raw (u 0), SV.raw (u 1), SV.ptr 11 bt 0, SV.raw (u 3), SV.int IntKind.i64 v, SV.raw (u 5), SV.raw (u 6),
             SV.raw (u 7), SV.raw (u 8), SV.raw (u 9), SV.raw (u 10), SV.raw (u 11), SV.raw (u 12), SV.raw (u 13),
             SV.raw (u 14), SV.raw (u 15), SV.raw (u 16), SV.raw (u 17), SV.raw (u 18), SV.raw (u 19), SV.raw (u 20),
             SV.func (Fn.func (56 : FuncId)) [] [SV.ptr 7 b8 0, SV.ptr 9 b11 0, SV.ptr 5 b7 0, SV.ptr 8 b10 0],
             SV.int IntKind.i64 v, SV.bool (decide (IntKind.wrap IntKind.i64 ((↑a : Int) + (1 : Int)) < n)), SV.bool true]
            [Ent.mk (Loc.sl ao cap) (SObj.roL 1 encI16 bs (0 : Int)), Ent.mk (Loc.sl ao' cap') (SObj.roL 1 encU8 ss (0 : Int)),
             Ent.mk (Loc.blk bl) (SObj.cells [SV.vec 0 ao (List.length bs) cap] (75 : TypeId)),
             Ent.mk (Loc.blk q) (SObj.cells [SV.vec 4 aoq (List.length xs) capq, SV.func (Fn.func (53 : FuncId)) [] [], SV.int IntKind.i64 na] (146 : TypeId)),
             Ent.mk (Loc.sl aoq capq) (SObj.vecL (149 : TypeId) 2 encItI xs ((0 : Int), (0 : Int))),
             Ent.mk (Loc.blk b7) (SObj.cells [SV.vec 6 aof (List.length xs) capf] (39 : TypeId)),
             Ent.mk (Loc.sl aof capf) (SObj.vecL (3 : TypeId) 1 encI1 (firsts xs (List.length xs)) (0 : Int)), Ent.mk (Loc.blk b8) (SObj.cells [SV.bool false] (4 : TypeId)),
             Ent.mk (Loc.blk b10) (SObj.cells [SV.int IntKind.i64 n] (3 : TypeId)),
             Ent.mk (Loc.blk b11) (SObj.cells [SV.int IntKind.i64 (IntKind.wrap IntKind.i64 ((↑a : Int) + (1 : Int)))] (3 : TypeId)),
             Ent.mk (Loc.blk bq) (SObj.cells [SV.ptr 3 q 0] (77 : TypeId)),
             Ent.mk (Loc.blk bt)
              (SObj.cells
               [SV.func (Fn.func (56 : FuncId)) [] [SV.ptr 7 b8 0, SV.ptr 9 b11 0, SV.ptr 5 b7 0, SV.ptr 8 b10 0]]
               (30 : TypeId)),
             Ent.mk (Loc.sl aoc capc) (SObj.vecL (149 : TypeId) 2 encItI (popN xs j) ((0 : Int), (0 : Int))),
             Ent.mk (Loc.blk bP) (SObj.cells [SV.vec 12 aoc (List.length (popN xs j)) capc, SV.func (Fn.func (53 : FuncId)) [] []] (144 : TypeId)),
             Ent.mk (Loc.blk bp) (SObj.cells [SV.ptr 13 bP 0] (147 : TypeId)), dent D true, lp l rc LoopState.busy (@none Code)])
         | false =>
          E
           (Sy.mk
            [SV.raw (u 0), SV.raw (u 1), SV.ptr 11 bt 0, SV.raw (u 3), SV.int IntKind.i64 v, SV.raw (u 5), SV.raw (u 6),
             SV.raw (u 7), SV.raw (u 8), SV.raw (u 9), SV.raw (u 10), SV.raw (u 11), SV.raw (u 12), SV.raw (u 13),
             SV.raw (u 14), SV.raw (u 15), SV.raw (u 16), SV.raw (u 17), SV.raw (u 18), SV.raw (u 19), SV.raw (u 20),
             SV.func (Fn.func (56 : FuncId)) [] [SV.ptr 7 b8 0, SV.ptr 9 b11 0, SV.ptr 5 b7 0, SV.ptr 8 b10 0],
             SV.int IntKind.i64 v, SV.bool (decide (IntKind.wrap IntKind.i64 ((↑a : Int) + (1 : Int)) < n)), SV.bool false]
            [Ent.mk (Loc.sl ao cap) (SObj.roL 1 encI16 bs (0 : Int)), Ent.mk (Loc.sl ao' cap') (SObj.roL 1 encU8 ss (0 : Int)),
             Ent.mk (Loc.blk bl) (SObj.cells [SV.vec 0 ao (List.length bs) cap] (75 : TypeId)),
             Ent.mk (Loc.blk q) (SObj.cells [SV.vec 4 aoq (List.length xs) capq, SV.func (Fn.func (53 : FuncId)) [] [], SV.int IntKind.i64 na] (146 : TypeId)),
             Ent.mk (Loc.sl aoq capq) (SObj.vecL (149 : TypeId) 2 encItI xs ((0 : Int), (0 : Int))),
             Ent.mk (Loc.blk b7) (SObj.cells [SV.vec 6 aof (List.length xs) capf] (39 : TypeId)),
             Ent.mk (Loc.sl aof capf) (SObj.vecL (3 : TypeId) 1 encI1 (firsts xs (List.length xs)) (0 : Int)), Ent.mk (Loc.blk b8) (SObj.cells [SV.bool false] (4 : TypeId)),
             Ent.mk (Loc.blk b10) (SObj.cells [SV.int IntKind.i64 n] (3 : TypeId)),
             Ent.mk (Loc.blk b11) (SObj.cells [SV.int IntKind.i64 (IntKind.wrap IntKind.i64 ((↑a : Int) + (1 : Int)))] (3 : TypeId)),
             Ent.mk (Loc.blk bq) (SObj.cells [SV.ptr 3 q 0] (77 : TypeId)),
             Ent.mk (Loc.blk bt)
              (SObj.cells
               [SV.func (Fn.func (56 : FuncId)) [] [SV.ptr 7 b8 0, SV.ptr 9 b11 0, SV.ptr 5 b7 0, SV.ptr 8 b10 0]]
               (30 : TypeId)),
             Ent.mk (Loc.sl aoc capc) (SObj.vecL (149 : TypeId) 2 encItI (popN xs j) ((0 : Int), (0 : Int))),
             Ent.mk (Loc.blk bP) (SObj.cells [SV.vec 12 aoc (List.length (popN xs j)) capc, SV.func (Fn.func (53 : FuncId)) [] []] (144 : TypeId)),
             Ent.mk (Loc.blk bp) (SObj.cells [SV.ptr 13 bP 0] (147 : TypeId)), dent D true, lp l rc LoopState.busy (@none Code)])) := by kernel_rfl


theorem qa_pops2 (K : List Frm → Sy → Prop) (X : Code → Sy → Prop) (E : Sy → Prop) (J : Act → World → Prop) (u : Nat → Value) (ao : Option Addr) (cap : Nat) (bs : List Int) (ao' : Option Addr) (cap' : Nat) (ss : List Int) (bl q : Nat) (aoq : Option Addr) (capq : Nat) (xs : List (Int × Int)) (na : Int) (b7 : Nat) (aof : Option Addr) (capf : Nat) (b8 : Nat) (o : Bool) (b10 : Nat) (n : Int) (b11 a : Nat) (bq : Nat) (j : Nat) (bt : Nat) (aoc : Option Addr) (capc bP bp D l : Nat) (rc : Loop) : (runR Try.prog qaT1 (qaY2 ao cap bs ao' cap' ss bl q aoq capq xs na b7 aof capf b8 o b10 n b11 bq bt aoc capc bP bp D l rc) true [] K X E 600 (frm [J] (bodyOf Try.f103) [0, 0] []) ⟨mkT u 14 0 [(0, .func (.yield l) [] []), (1, .ptr 14 bp 0)], qaR2 ao cap bs ao' cap' ss bl q aoq capq xs na b7 aof capf b8 o b10 n b11 a bq bt aoc capc j bP bp D l rc .ready none⟩) = (
bp = bp ∧
 true = true ∧
  bP = bP ∧
   match decide ((↑(List.length (popN xs j)) : Int) > (0 : Int)) with
   | true =>
    bp = bp ∧
     true = true ∧
      ∃ (xs_1 : List (Int × Int)),
       (Ent.mk (Loc.sl aoc capc) (SObj.vecL (149 : TypeId) 2 encItI (popN xs j) ((0 : Int), (0 : Int))) =
        Ent.mk (Loc.sl aoc capc) (SObj.vecL (149 : TypeId) 2 encItI xs_1 ((0 : Int), (0 : Int))) ∧
        bP = bP ∧ List.length (popN xs j) = List.length xs_1 ∧ false = false) ∧
        (147 = (147 : TypeId) ∧ 0 < List.length xs_1 ∧ List.length xs_1 ≤ 2305843009213693952) ∧
         ∃ (bef : Int → Int → Bool),
          RI (53 : FuncId) bef ∧
           l = l ∧
            ∃ (k : Nat),
             k < List.length xs ∧
              [SV.int IntKind.i64 (List.getD xs_1 0 ((0 : Int), (0 : Int))).1] = [SV.int IntKind.i64 (topI xs k)] ∧
               [Ent.mk (Loc.sl ao cap) (SObj.roL 1 encI16 bs (0 : Int)), Ent.mk (Loc.sl ao' cap') (SObj.roL 1 encU8 ss (0 : Int)),
                Ent.mk (Loc.blk bl) (SObj.cells [SV.vec 0 ao (List.length bs) cap] (75 : TypeId)),
                Ent.mk (Loc.blk q) (SObj.cells [SV.vec 4 aoq (List.length xs) capq, SV.func (Fn.func (53 : FuncId)) [] [], SV.int IntKind.i64 na] (146 : TypeId)),
                Ent.mk (Loc.sl aoq capq) (SObj.vecL (149 : TypeId) 2 encItI xs ((0 : Int), (0 : Int))),
                Ent.mk (Loc.blk b7) (SObj.cells [SV.vec 6 aof (List.length xs) capf] (39 : TypeId)),
                Ent.mk (Loc.sl aof capf) (SObj.vecL (3 : TypeId) 1 encI1 (firsts xs (List.length xs)) (0 : Int)), Ent.mk (Loc.blk b8) (SObj.cells [SV.bool o] (4 : TypeId)),
                Ent.mk (Loc.blk b10) (SObj.cells [SV.int IntKind.i64 n] (3 : TypeId)), Ent.mk (Loc.blk b11) (SObj.cells [SV.int IntKind.i64 (↑a : Int)] (3 : TypeId)),
                Ent.mk (Loc.blk bq) (SObj.cells [SV.ptr 3 q 0] (77 : TypeId)),
                Ent.mk (Loc.blk bt)
                 (SObj.cells
                  [SV.func (Fn.func (56 : FuncId)) []
                   [SV.ptr 7 b8 0, SV.ptr 9 b11 0, SV.ptr 5 b7 0, SV.ptr 8 b10 0]]
                  (30 : TypeId)),
                Ent.mk (Loc.sl aoc capc) (SObj.vecL (149 : TypeId) 2 encItI (popL (lessI bef) ((0 : Int), (0 : Int)) xs_1) ((0 : Int), (0 : Int))),
                Ent.mk (Loc.blk bP)
                 (SObj.cells [SV.vec 12 aoc (List.length (popL (lessI bef) ((0 : Int), (0 : Int)) xs_1)) capc, SV.func (Fn.func (53 : FuncId)) [] []] (144 : TypeId)),
                Ent.mk (Loc.blk bp) (SObj.cells [SV.ptr 13 bP 0] (147 : TypeId)), dent D true, lp l rc LoopState.ready (@none Code)] =
                [Ent.mk (Loc.sl ao cap) (SObj.roL 1 encI16 bs (0 : Int)), Ent.mk (Loc.sl ao' cap') (SObj.roL 1 encU8 ss (0 : Int)),
                 Ent.mk (Loc.blk bl) (SObj.cells [SV.vec 0 ao (List.length bs) cap] (75 : TypeId)),
                 Ent.mk (Loc.blk q) (SObj.cells [SV.vec 4 aoq (List.length xs) capq, SV.func (Fn.func (53 : FuncId)) [] [], SV.int IntKind.i64 na] (146 : TypeId)),
                 Ent.mk (Loc.sl aoq capq) (SObj.vecL (149 : TypeId) 2 encItI xs ((0 : Int), (0 : Int))),
                 Ent.mk (Loc.blk b7) (SObj.cells [SV.vec 6 aof (List.length xs) capf] (39 : TypeId)),
                 Ent.mk (Loc.sl aof capf) (SObj.vecL (3 : TypeId) 1 encI1 (firsts xs (List.length xs)) (0 : Int)), Ent.mk (Loc.blk b8) (SObj.cells [SV.bool o] (4 : TypeId)),
                 Ent.mk (Loc.blk b10) (SObj.cells [SV.int IntKind.i64 n] (3 : TypeId)), Ent.mk (Loc.blk b11) (SObj.cells [SV.int IntKind.i64 (↑k : Int)] (3 : TypeId)),
                 Ent.mk (Loc.blk bq) (SObj.cells [SV.ptr 3 q 0] (77 : TypeId)),
                 Ent.mk (Loc.blk bt)
                  (SObj.cells
                   [SV.func (Fn.func (56 : FuncId)) []
                    [SV.ptr 7 b8 0, SV.ptr 9 b11 0, SV.ptr 5 b7 0, SV.ptr 8 b10 0]]
                   (30 : TypeId)),
                 Ent.mk (Loc.sl aoc capc) (SObj.vecL (149 : TypeId) 2 encItI (popN xs (k + 1)) ((0 : Int), (0 : Int))),
                 Ent.mk (Loc.blk bP) (SObj.cells [SV.vec 12 aoc (List.length (popN xs (k + 1))) capc, SV.func (Fn.func (53 : FuncId)) [] []] (144 : TypeId)),
                 Ent.mk (Loc.blk bp) (SObj.cells [SV.ptr 13 bP 0] (147 : TypeId)), dent D true, lp l rc LoopState.ready (@none Code)] ∧
                ((↑k : Int) + (1 : Int) < n →
                 K [Frm.loop J, Frm.blk 0]
                  (Sy.mk
                   [SV.func (Fn.yield l) [] [], SV.ptr 14 bp 0, SV.raw (u 2), SV.ptr 13 bP 0,
                    SV.int IntKind.i64 (↑(List.length (popN xs j)) : Int), SV.bool true, SV.func (Fn.yield l) [] [], SV.ptr 13 bP 0,
                    SV.iface 147 (SV.ptr 13 bP 0),
                    SV.iface (149 : TypeId)
                     (SV.agg [SV.int IntKind.i64 (List.getD xs_1 0 ((0 : Int), (0 : Int))).1, SV.int IntKind.i64 (List.getD xs_1 0 ((0 : Int), (0 : Int))).2]),
                    SV.agg [SV.int IntKind.i64 (List.getD xs_1 0 ((0 : Int), (0 : Int))).1, SV.int IntKind.i64 (List.getD xs_1 0 ((0 : Int), (0 : Int))).2],
                    SV.int IntKind.i64 (List.getD xs_1 0 ((0 : Int), (0 : Int))).1, SV.bool true, SV.bool false]
                   [Ent.mk (Loc.sl ao cap) (SObj.roL 1 encI16 bs (0 : Int)), Ent.mk (Loc.sl ao' cap') (SObj.roL 1 encU8 ss (0 : Int)),
                    Ent.mk (Loc.blk bl) (SObj.cells [SV.vec 0 ao (List.length bs) cap] (75 : TypeId)),
                    Ent.mk (Loc.blk q) (SObj.cells [SV.vec 4 aoq (List.length xs) capq, SV.func (Fn.func (53 : FuncId)) [] [], SV.int IntKind.i64 na] (146 : TypeId)),
                    Ent.mk (Loc.sl aoq capq) (SObj.vecL (149 : TypeId) 2 encItI xs ((0 : Int), (0 : Int))),
                    Ent.mk (Loc.blk b7) (SObj.cells [SV.vec 6 aof (List.length xs) capf] (39 : TypeId)),
                    Ent.mk (Loc.sl aof capf) (SObj.vecL (3 : TypeId) 1 encI1 (firsts xs (List.length xs)) (0 : Int)),
                    Ent.mk (Loc.blk b8) (SObj.cells [SV.bool o] (4 : TypeId)), Ent.mk (Loc.blk b10) (SObj.cells [SV.int IntKind.i64 n] (3 : TypeId)),
                    Ent.mk (Loc.blk b11) (SObj.cells [SV.int IntKind.i64 (↑(k + 1) : Int)] (3 : TypeId)),
                    Ent.mk (Loc.blk bq) (SObj.cells [SV.ptr 3 q 0] (77 : TypeId)),
                    Ent.mk (Loc.blk bt)
                     (SObj.cells
                      [SV.func (Fn.func (56 : FuncId)) []
                       [SV.ptr 7 b8 0, SV.ptr 9 b11 0, SV.ptr 5 b7 0, SV.ptr 8 b10 0]]
                      (30 : TypeId)),
                    Ent.mk (Loc.sl aoc capc) (SObj.vecL (149 : TypeId) 2 encItI (popN xs (k + 1)) ((0 : Int), (0 : Int))),
                    Ent.mk (Loc.blk bP) (SObj.cells [SV.vec 12 aoc (List.length (popN xs (k + 1))) capc, SV.func (Fn.func (53 : FuncId)) [] []] (144 : TypeId)),
                    Ent.mk (Loc.blk bp) (SObj.cells [SV.ptr 13 bP 0] (147 : TypeId)), dent D true, lp l rc LoopState.ready (@none Code)])) ∧
                 (n ≤ (↑k : Int) + (1 : Int) →
                  X Code.ret
                   (Sy.mk
                    [SV.func (Fn.yield l) [] [], SV.ptr 14 bp 0, SV.raw (u 2), SV.ptr 13 bP 0,
                     SV.int IntKind.i64 (↑(List.length (popN xs j)) : Int), SV.bool true, SV.func (Fn.yield l) [] [], SV.ptr 13 bP 0,
                     SV.iface 147 (SV.ptr 13 bP 0),
                     SV.iface (149 : TypeId)
                      (SV.agg [SV.int IntKind.i64 (List.getD xs_1 0 ((0 : Int), (0 : Int))).1, SV.int IntKind.i64 (List.getD xs_1 0 ((0 : Int), (0 : Int))).2]),
                     SV.agg [SV.int IntKind.i64 (List.getD xs_1 0 ((0 : Int), (0 : Int))).1, SV.int IntKind.i64 (List.getD xs_1 0 ((0 : Int), (0 : Int))).2],
                     SV.int IntKind.i64 (List.getD xs_1 0 ((0 : Int), (0 : Int))).1, SV.bool false, SV.bool true]
                    [Ent.mk (Loc.sl ao cap) (SObj.roL 1 encI16 bs (0 : Int)), Ent.mk (Loc.sl ao' cap') (SObj.roL 1 encU8 ss (0 : Int)),
                     Ent.mk (Loc.blk bl) (SObj.cells [SV.vec 0 ao (List.length bs) cap] (75 : TypeId)),
                     Ent.mk (Loc.blk q) (SObj.cells [SV.vec 4 aoq (List.length xs) capq, SV.func (Fn.func (53 : FuncId)) [] [], SV.int IntKind.i64 na] (146 : TypeId)),
                     Ent.mk (Loc.sl aoq capq) (SObj.vecL (149 : TypeId) 2 encItI xs ((0 : Int), (0 : Int))),
                     Ent.mk (Loc.blk b7) (SObj.cells [SV.vec 6 aof (List.length xs) capf] (39 : TypeId)),
                     Ent.mk (Loc.sl aof capf) (SObj.vecL (3 : TypeId) 1 encI1 (firsts xs (List.length xs)) (0 : Int)),
                     Ent.mk (Loc.blk b8) (SObj.cells [SV.bool o] (4 : TypeId)), Ent.mk (Loc.blk b10) (SObj.cells [SV.int IntKind.i64 n] (3 : TypeId)),
                     Ent.mk (Loc.blk b11) (SObj.cells [SV.int IntKind.i64 (↑(k + 1) : Int)] (3 : TypeId)),
                     Ent.mk (Loc.blk bq) (SObj.cells [SV.ptr 3 q 0] (77 : TypeId)),
                     Ent.mk (Loc.blk bt)
                      (SObj.cells
                       [SV.func (Fn.func (56 : FuncId)) []
                        [SV.ptr 7 b8 0, SV.ptr 9 b11 0, SV.ptr 5 b7 0, SV.ptr 8 b10 0]]
                       (30 : TypeId)),
                     Ent.mk (Loc.sl aoc capc) (SObj.vecL (149 : TypeId) 2 encItI (popN xs (k + 1)) ((0 : Int), (0 : Int))),
                     Ent.mk (Loc.blk bP) (SObj.cells [SV.vec 12 aoc (List.length (popN xs (k + 1))) capc, SV.func (Fn.func (53 : FuncId)) [] []] (144 : TypeId)),
                     Ent.mk (Loc.blk bp) (SObj.cells [SV.ptr 13 bP 0] (147 : TypeId)), dent D true, lp l rc LoopState.done (some Code.ret)]))
   | false =>
    E
     (Sy.mk
      [SV.func (Fn.yield l) [] [], SV.ptr 14 bp 0, SV.raw (u 2), SV.ptr 13 bP 0, SV.int IntKind.i64 (↑(List.length (popN xs j)) : Int), SV.bool false,
       SV.raw (u 6), SV.raw (u 7), SV.raw (u 8), SV.raw (u 9), SV.raw (u 10), SV.raw (u 11), SV.raw (u 12), SV.raw (u 13)]
      [Ent.mk (Loc.sl ao cap) (SObj.roL 1 encI16 bs (0 : Int)), Ent.mk (Loc.sl ao' cap') (SObj.roL 1 encU8 ss (0 : Int)),
       Ent.mk (Loc.blk bl) (SObj.cells [SV.vec 0 ao (List.length bs) cap] (75 : TypeId)),
       Ent.mk (Loc.blk q) (SObj.cells [SV.vec 4 aoq (List.length xs) capq, SV.func (Fn.func (53 : FuncId)) [] [], SV.int IntKind.i64 na] (146 : TypeId)),
       Ent.mk (Loc.sl aoq capq) (SObj.vecL (149 : TypeId) 2 encItI xs ((0 : Int), (0 : Int))),
       Ent.mk (Loc.blk b7) (SObj.cells [SV.vec 6 aof (List.length xs) capf] (39 : TypeId)),
       Ent.mk (Loc.sl aof capf) (SObj.vecL (3 : TypeId) 1 encI1 (firsts xs (List.length xs)) (0 : Int)), Ent.mk (Loc.blk b8) (SObj.cells [SV.bool o] (4 : TypeId)),
       Ent.mk (Loc.blk b10) (SObj.cells [SV.int IntKind.i64 n] (3 : TypeId)), Ent.mk (Loc.blk b11) (SObj.cells [SV.int IntKind.i64 (↑a : Int)] (3 : TypeId)),
       Ent.mk (Loc.blk bq) (SObj.cells [SV.ptr 3 q 0] (77 : TypeId)),
       Ent.mk (Loc.blk bt)
        (SObj.cells [SV.func (Fn.func (56 : FuncId)) [] [SV.ptr 7 b8 0, SV.ptr 9 b11 0, SV.ptr 5 b7 0, SV.ptr 8 b10 0]]
         (30 : TypeId)),
       Ent.mk (Loc.sl aoc capc) (SObj.vecL (149 : TypeId) 2 encItI (popN xs j) ((0 : Int), (0 : Int))),
       Ent.mk (Loc.blk bP) (SObj.cells [SV.vec 12 aoc (List.length (popN xs j)) capc, SV.func (Fn.func (53 : FuncId)) [] []] (144 : TypeId)),
       Ent.mk (Loc.blk bp) (SObj.cells [SV.ptr 13 bP 0] (147 : TypeId)), dent D true, lp l rc LoopState.ready (@none Code)])) := by kernel_rfl


theorem qa_pst (K : List Frm → Sy → Prop) (X : Code → Sy → Prop) (E : Sy → Prop) (Y : YCtr) (l bp a : Nat) (hp : List Ent) : (runR Try.prog qaT1 Y true [] K X E 10 [.code (bodyOf Try.f103)] ⟨padTo 14 [.func (.yield l) [] [], .ptr a bp 0], hp⟩) = (
K (frm [] (bodyOf Try.f103) [0] [])
 (Sy.mk
  [SV.func (Fn.yield l) [] [], SV.ptr a bp 0, SV.raw (Value.tuple #[]), SV.raw (Value.tuple #[]), SV.raw (Value.tuple #[]), SV.raw (Value.tuple #[]), SV.raw (Value.tuple #[]),
   SV.raw (Value.tuple #[]), SV.raw (Value.tuple #[]), SV.raw (Value.tuple #[]), SV.raw (Value.tuple #[]), SV.raw (Value.tuple #[]), SV.raw (Value.tuple #[]), SV.raw (Value.tuple #[])]
  hp)) := by kernel_rfl
end Go.Proofs.Ytjnkfgigpapeaaa
