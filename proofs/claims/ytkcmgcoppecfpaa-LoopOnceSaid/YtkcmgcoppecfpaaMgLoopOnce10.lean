import Derived.Test.YtkcmgcoppecfpaaMgLoopOnce8
import Derived.Test.YtkcmgcoppecfpaaMgLoopOnce5
import Derived.Test.YtkcmgcoppecfpaaMgLoopOnce9
import Derived.Test.YtkcmgcoppecfpaaMgLoopOnce7
import Derived.Shelf.SlSortCmp.NoneTotal
set_option linter.unusedVariables false
set_option linter.unusedSimpArgs false
set_option linter.unnecessarySimpa false
set_option maxHeartbeats 0
set_option maxRecDepth 100000
namespace Go.Proofs.Ytkcmgcoppecfpaa
open Go Go.RowKit

theorem qEnew_run (K : List Frm → Sy → Prop) (N : List Ent → SV → Prop) : (run Try.prog [] true [] K (retP Try.prog Try.f78.results.toList N) 600 [.code (bodyOf Try.f78)] ⟨padTo 7 [.func (.func 79) [] []], []⟩) = (
(true = true ∧ true = true) ∧
 (true = true ∧ true = true) ∧
  true = true ∧
   ∀ (b : Nat),
    N [Ent.mk (Loc.blk b) (SObj.cells [SV.raw (Value.slice (@none Addr) 0 0), SV.func (Fn.func 79) [] [], SV.int IntKind.i64 (0 : Int)] 209)]
     (SV.ptr 0 b 0)) := by kernel_rfl


theorem qEpush_run (K : List Frm → Sy → Prop) (N : List Ent → SV → Prop) (q : Nat) (ao : Option Addr) (cap : Nat) (xs : List (EV × Int)) (n : Nat) (v : EV) : (run Try.prog qTE3 false [] K (retP Try.prog Try.f82.results.toList N) 600 [.code (bodyOf Try.f82)] ⟨padTo 23 [.ptr 0 q 0, .agg (encEV v)], [⟨.blk q, .cells [.vec 1 ao xs.length cap, .func (.func 79) [] [], .int .i64 (n : Int)] 209⟩, ⟨.sl ao cap, .vecL 214 6 encItE xs ((⟨0, 0, 0, ByteArray.empty, ByteArray.empty⟩ : EV), (0 : Int))⟩]⟩) = (
true = true ∧
 ∀ (b : Nat),
  ((b = b ∧ 5 = 5) ∧
   q = q ∧
    (true = true ∧ true = true) ∧
     true = true ∧
      ∃ (xs_1 : List (EV × Int)),
       (Ent.mk (Loc.sl ao cap) (SObj.vecL (214 : TypeId) 6 encItE xs (EV.mk (0 : Int) (0 : Int) (0 : Int) ByteArray.empty ByteArray.empty, (0 : Int))) =
        Ent.mk (Loc.sl ao cap) (SObj.vecL (214 : TypeId) 6 encItE xs_1 (EV.mk (0 : Int) (0 : Int) (0 : Int) ByteArray.empty ByteArray.empty, (0 : Int))) ∧
        q = q ∧ List.length xs = List.length xs_1 ∧ false = false) ∧
        ∃ (x : EV × Int),
         (212 = (212 : TypeId) ∧
          214 = (214 : TypeId) ∧
           [SV.int IntKind.i64 x.1.1, SV.int IntKind.i64 x.1.2, SV.int IntKind.i64 x.1.3, SV.str x.1.4, SV.str x.1.5, SV.int IntKind.i64 x.2] =
            [SV.int IntKind.i64 v.1, SV.int IntKind.i64 v.2, SV.int IntKind.i64 v.3, SV.str v.4, SV.str v.5, SV.int IntKind.i64 (↑n : Int)] ∧
            (List.length xs_1 + 1) * 64 ≤ 140737488355328 ∧ List.length xs_1 < 2305843009213693952) ∧
          ∃ (bef : EV → EV → Bool),
           RE (79 : FuncId) bef ∧
            ∀ (ao2 : Option Addr) (cap2 : Nat),
             q = q ∧
              (q = q ∧ true = true ∧ 1 = 1 ∧ 3 ≤ 3) ∧
               N
                [Ent.mk (Loc.blk q)
                 (SObj.cells
                  [SV.vec 1 ao2 (List.length (pushL (lessI bef) (EV.mk (0 : Int) (0 : Int) (0 : Int) ByteArray.empty ByteArray.empty, (0 : Int)) xs_1 x)) cap2,
                   SV.func (Fn.func (79 : FuncId)) [] [], SV.int IntKind.i64 (IntKind.wrap IntKind.i64 ((↑n : Int) + (1 : Int)))]
                  (209 : TypeId)),
                 Ent.mk (Loc.sl ao2 cap2)
                  (SObj.vecL (214 : TypeId) 6 encItE (pushL (lessI bef) (EV.mk (0 : Int) (0 : Int) (0 : Int) ByteArray.empty ByteArray.empty, (0 : Int)) xs_1 x)
                   (EV.mk (0 : Int) (0 : Int) (0 : Int) ByteArray.empty ByteArray.empty, (0 : Int))),
                 Ent.mk (Loc.blk b) (SObj.cells [SV.int IntKind.i64 v.1, SV.int IntKind.i64 v.2, SV.int IntKind.i64 v.3, SV.str v.4, SV.str v.5] 79)]
                (SV.tuple [])) ∧
   q = q ∧
    (b = b ∧ 5 = 5) ∧
     (true = true ∧ true = true) ∧
      true = true ∧
       ∃ (xs_1 : List (EV × Int)),
        (Ent.mk (Loc.sl ao cap) (SObj.vecL (214 : TypeId) 6 encItE xs (EV.mk (0 : Int) (0 : Int) (0 : Int) ByteArray.empty ByteArray.empty, (0 : Int))) =
         Ent.mk (Loc.sl ao cap) (SObj.vecL (214 : TypeId) 6 encItE xs_1 (EV.mk (0 : Int) (0 : Int) (0 : Int) ByteArray.empty ByteArray.empty, (0 : Int))) ∧
         q = q ∧ List.length xs = List.length xs_1 ∧ false = false) ∧
         ∃ (x : EV × Int),
          (212 = (212 : TypeId) ∧
           214 = (214 : TypeId) ∧
            [SV.int IntKind.i64 x.1.1, SV.int IntKind.i64 x.1.2, SV.int IntKind.i64 x.1.3, SV.str x.1.4, SV.str x.1.5, SV.int IntKind.i64 x.2] =
             [SV.int IntKind.i64 v.1, SV.int IntKind.i64 v.2, SV.int IntKind.i64 v.3, SV.str v.4, SV.str v.5, SV.int IntKind.i64 (↑n : Int)] ∧
             (List.length xs_1 + 1) * 64 ≤ 140737488355328 ∧ List.length xs_1 < 2305843009213693952) ∧
           ∃ (bef : EV → EV → Bool),
            RE (79 : FuncId) bef ∧
             ∀ (ao2 : Option Addr) (cap2 : Nat),
              q = q ∧
               (q = q ∧ true = true ∧ 1 = 1 ∧ 3 ≤ 3) ∧
                N
                 [Ent.mk (Loc.blk q)
                  (SObj.cells
                   [SV.vec 1 ao2 (List.length (pushL (lessI bef) (EV.mk (0 : Int) (0 : Int) (0 : Int) ByteArray.empty ByteArray.empty, (0 : Int)) xs_1 x)) cap2,
                    SV.func (Fn.func (79 : FuncId)) [] [], SV.int IntKind.i64 (IntKind.wrap IntKind.i64 ((↑n : Int) + (1 : Int)))]
                   (209 : TypeId)),
                  Ent.mk (Loc.sl ao2 cap2)
                   (SObj.vecL (214 : TypeId) 6 encItE (pushL (lessI bef) (EV.mk (0 : Int) (0 : Int) (0 : Int) ByteArray.empty ByteArray.empty, (0 : Int)) xs_1 x)
                    (EV.mk (0 : Int) (0 : Int) (0 : Int) ByteArray.empty ByteArray.empty, (0 : Int))),
                  Ent.mk (Loc.blk b) (SObj.cells [SV.int IntKind.i64 v.1, SV.int IntKind.i64 v.2, SV.int IntKind.i64 v.3, SV.str v.4, SV.str v.5] 79)]
                 (SV.tuple [])) := by kernel_rfl


theorem qEpop_run (K : List Frm → Sy → Prop) (N : List Ent → SV → Prop) (q : Nat) (ao : Option Addr) (cap : Nat) (xs : List (EV × Int)) (n : Nat) : (run Try.prog qTE3 false [] K (retP Try.prog Try.f83.results.toList N) 600 [.code (bodyOf Try.f83)] ⟨padTo 16 [.ptr 0 q 0], [⟨.blk q, .cells [.vec 1 ao xs.length cap, .func (.func 79) [] [], .int .i64 (n : Int)] 209⟩, ⟨.sl ao cap, .vecL 214 6 encItE xs ((⟨0, 0, 0, ByteArray.empty, ByteArray.empty⟩ : EV), (0 : Int))⟩]⟩) = (
∀ (b : Nat),
 true = true ∧
  q = q ∧
   match (↑(List.length xs) : Int) == (0 : Int) with
   | true =>
    ∀ (b_1 : Nat),
     (b_1 = b_1 ∧ 5 = 5) ∧
      (b = b ∧ true = true ∧ 5 = 5 ∧ 5 ≤ 5) ∧
       (b = b ∧ 5 = 5) ∧
        N
         [Ent.mk (Loc.blk q) (SObj.cells [SV.vec 1 ao (List.length xs) cap, SV.func (Fn.func (79 : FuncId)) [] [], SV.int IntKind.i64 (↑n : Int)] (209 : TypeId)),
          Ent.mk (Loc.sl ao cap) (SObj.vecL (214 : TypeId) 6 encItE xs (EV.mk (0 : Int) (0 : Int) (0 : Int) ByteArray.empty ByteArray.empty, (0 : Int))),
          Ent.mk (Loc.blk b)
           (SObj.cells [SV.int IntKind.i64 (0 : Int), SV.int IntKind.i64 (0 : Int), SV.int IntKind.i64 (0 : Int), SV.str (ByteArray.mk #[]), SV.str (ByteArray.mk #[])] 79),
          Ent.mk (Loc.blk b_1)
           (SObj.cells [SV.int IntKind.i64 (0 : Int), SV.int IntKind.i64 (0 : Int), SV.int IntKind.i64 (0 : Int), SV.str (ByteArray.mk #[]), SV.str (ByteArray.mk #[])] 79)]
         (SV.tuple
          [SV.agg [SV.int IntKind.i64 (0 : Int), SV.int IntKind.i64 (0 : Int), SV.int IntKind.i64 (0 : Int), SV.str (ByteArray.mk #[]), SV.str (ByteArray.mk #[])],
           SV.int IntKind.i64 (130 : Int)])
   | false =>
    true = true ∧
     ∃ (xs_1 : List (EV × Int)),
      (Ent.mk (Loc.sl ao cap) (SObj.vecL (214 : TypeId) 6 encItE xs (EV.mk (0 : Int) (0 : Int) (0 : Int) ByteArray.empty ByteArray.empty, (0 : Int))) =
       Ent.mk (Loc.sl ao cap) (SObj.vecL (214 : TypeId) 6 encItE xs_1 (EV.mk (0 : Int) (0 : Int) (0 : Int) ByteArray.empty ByteArray.empty, (0 : Int))) ∧
       q = q ∧ List.length xs = List.length xs_1 ∧ false = false) ∧
       (212 = (212 : TypeId) ∧ 0 < List.length xs_1 ∧ List.length xs_1 ≤ 2305843009213693952) ∧
        ∃ (bef : EV → EV → Bool),
         RE (79 : FuncId) bef ∧
          (b = b ∧ true = true ∧ 5 = 5 ∧ 5 ≤ 5) ∧
           (b = b ∧ 5 = 5) ∧
            N
             [Ent.mk (Loc.blk q)
              (SObj.cells
               [SV.vec 1 ao (List.length (popL (lessI bef) (EV.mk (0 : Int) (0 : Int) (0 : Int) ByteArray.empty ByteArray.empty, (0 : Int)) xs_1)) cap,
                SV.func (Fn.func (79 : FuncId)) [] [], SV.int IntKind.i64 (↑n : Int)]
               (209 : TypeId)),
              Ent.mk (Loc.sl ao cap)
               (SObj.vecL (214 : TypeId) 6 encItE (popL (lessI bef) (EV.mk (0 : Int) (0 : Int) (0 : Int) ByteArray.empty ByteArray.empty, (0 : Int)) xs_1)
                (EV.mk (0 : Int) (0 : Int) (0 : Int) ByteArray.empty ByteArray.empty, (0 : Int))),
              Ent.mk (Loc.blk b)
               (SObj.cells
                [SV.int IntKind.i64 (List.getD xs_1 0 (EV.mk (0 : Int) (0 : Int) (0 : Int) ByteArray.empty ByteArray.empty, (0 : Int))).1.1,
                 SV.int IntKind.i64 (List.getD xs_1 0 (EV.mk (0 : Int) (0 : Int) (0 : Int) ByteArray.empty ByteArray.empty, (0 : Int))).1.2,
                 SV.int IntKind.i64 (List.getD xs_1 0 (EV.mk (0 : Int) (0 : Int) (0 : Int) ByteArray.empty ByteArray.empty, (0 : Int))).1.3,
                 SV.str (List.getD xs_1 0 (EV.mk (0 : Int) (0 : Int) (0 : Int) ByteArray.empty ByteArray.empty, (0 : Int))).1.4,
                 SV.str (List.getD xs_1 0 (EV.mk (0 : Int) (0 : Int) (0 : Int) ByteArray.empty ByteArray.empty, (0 : Int))).1.5]
                79)]
             (SV.tuple
              [SV.agg
               [SV.int IntKind.i64 (List.getD xs_1 0 (EV.mk (0 : Int) (0 : Int) (0 : Int) ByteArray.empty ByteArray.empty, (0 : Int))).1.1,
                SV.int IntKind.i64 (List.getD xs_1 0 (EV.mk (0 : Int) (0 : Int) (0 : Int) ByteArray.empty ByteArray.empty, (0 : Int))).1.2,
                SV.int IntKind.i64 (List.getD xs_1 0 (EV.mk (0 : Int) (0 : Int) (0 : Int) ByteArray.empty ByteArray.empty, (0 : Int))).1.3,
                SV.str (List.getD xs_1 0 (EV.mk (0 : Int) (0 : Int) (0 : Int) ByteArray.empty ByteArray.empty, (0 : Int))).1.4,
                SV.str (List.getD xs_1 0 (EV.mk (0 : Int) (0 : Int) (0 : Int) ByteArray.empty ByteArray.empty, (0 : Int))).1.5],
               SV.int IntKind.i64 (0 : Int)])) := by kernel_rfl


theorem qElen_run (K : List Frm → Sy → Prop) (N : List Ent → SV → Prop) (q : Nat) (ao : Option Addr) (cap : Nat) (xs : List (EV × Int)) (n : Nat) : (run Try.prog [] true [] K (retP Try.prog Try.f84.results.toList N) 600 [.code (bodyOf Try.f84)] ⟨padTo 9 [.ptr 0 q 0], [⟨.blk q, .cells [.vec 1 ao xs.length cap, .func (.func 79) [] [], .int .i64 (n : Int)] 209⟩, ⟨.sl ao cap, .vecL 214 6 encItE xs ((⟨0, 0, 0, ByteArray.empty, ByteArray.empty⟩ : EV), (0 : Int))⟩]⟩) = (
q = q ∧
 N
  [Ent.mk (Loc.blk q) (SObj.cells [SV.vec 1 ao (List.length xs) cap, SV.func (Fn.func (79 : FuncId)) [] [], SV.int IntKind.i64 (↑n : Int)] (209 : TypeId)),
   Ent.mk (Loc.sl ao cap) (SObj.vecL (214 : TypeId) 6 encItE xs (EV.mk (0 : Int) (0 : Int) (0 : Int) ByteArray.empty ByteArray.empty, (0 : Int)))]
  (SV.int IntKind.i64 (↑(List.length xs) : Int))) := by kernel_rfl


theorem qEdrop_run (K : List Frm → Sy → Prop) (N : List Ent → SV → Prop) (q : Nat) (ao : Option Addr) (cap : Nat) (xs : List (EV × Int)) (n : Nat) (br : Nat) (un : ByteArray) : (run Try.prog qTE4 false [] K (retP Try.prog Try.f85.results.toList N) 900 [.code (bodyOf Try.f85)] ⟨padTo 28 [.ptr 0 q 0, .func (.func 86) [] [.ptr 2 br 0]], [⟨.blk q, .cells [.vec 1 ao xs.length cap, .func (.func 79) [] [], .int .i64 (n : Int)] 209⟩, ⟨.sl ao cap, .vecL 214 6 encItE xs ((⟨0, 0, 0, ByteArray.empty, ByteArray.empty⟩ : EV), (0 : Int))⟩, ⟨.blk br, .cells [.str un] 9⟩]⟩) = (
true = true ∧
 ∀ (b : Nat),
  true = true ∧
   q = q ∧
    q = q ∧
     true = true ∧
      117 = (117 : FuncId) ∧
       ∃ (xs_1 : List (EV × Int)),
        ∃ (lr : Nat),
         ∃ (br_1 : Nat),
          ∃ (un_1 : ByteArray),
           some (Ent.mk (Loc.sl ao cap) (SObj.vecL (214 : TypeId) 6 encItE xs (EV.mk (0 : Int) (0 : Int) (0 : Int) ByteArray.empty ByteArray.empty, (0 : Int)))) =
            some (Ent.mk (Loc.sl ao cap) (SObj.vecL (214 : TypeId) 6 encItE xs_1 (EV.mk (0 : Int) (0 : Int) (0 : Int) ByteArray.empty ByteArray.empty, (0 : Int)))) ∧
            some (Ent.mk (Loc.blk b) (SObj.cells [SV.func (Fn.func (86 : FuncId)) [] [SV.ptr 2 br 0]] 160)) =
             some (Ent.mk (Loc.blk b) (SObj.cells [SV.func (Fn.func (86 : FuncId)) [] [SV.ptr lr br_1 0]] (160 : TypeId))) ∧
             nth
              [Ent.mk (Loc.blk q) (SObj.cells [SV.vec 1 ao (List.length xs) cap, SV.func (Fn.func (79 : FuncId)) [] [], SV.int IntKind.i64 (↑n : Int)] (209 : TypeId)),
               Ent.mk (Loc.sl ao cap) (SObj.vecL (214 : TypeId) 6 encItE xs (EV.mk (0 : Int) (0 : Int) (0 : Int) ByteArray.empty ByteArray.empty, (0 : Int))),
               Ent.mk (Loc.blk br) (SObj.cells [SV.str un] (9 : TypeId)),
               Ent.mk (Loc.blk b) (SObj.cells [SV.func (Fn.func (86 : FuncId)) [] [SV.ptr 2 br 0]] 160)]
              lr =
              some (Ent.mk (Loc.blk br_1) (SObj.cells [SV.str un_1] (9 : TypeId))) ∧
              (distinct [1, 3, lr] = true ∧ List.length xs = List.length xs_1 ∧ List.length xs_1 ≤ 1000000000) ∧
               (q = q ∧ true = true ∧ 1 = 1 ∧ 1 ≤ 3) ∧
                true = true ∧
                 ∃ (xs_2 : List (EV × Int)),
                  (Ent.mk (Loc.sl ao cap)
                   (SObj.vecL (214 : TypeId) 6 encItE (List.filter (fun (x : EV × Int) ↦ !qEpred un_1 x.fst) xs_1)
                    (EV.mk (0 : Int) (0 : Int) (0 : Int) ByteArray.empty ByteArray.empty, (0 : Int))) =
                   Ent.mk (Loc.sl ao cap) (SObj.vecL (214 : TypeId) 6 encItE xs_2 (EV.mk (0 : Int) (0 : Int) (0 : Int) ByteArray.empty ByteArray.empty, (0 : Int))) ∧
                   q = q ∧ List.length (List.filter (fun (x : EV × Int) ↦ !qEpred un_1 x.fst) xs_1) = List.length xs_2 ∧ false = false) ∧
                   (212 = (212 : TypeId) ∧ List.length xs_2 ≤ 1000000000) ∧
                    ∃ (bef : EV → EV → Bool),
                     RE (79 : FuncId) bef ∧
                      true = true ∧
                       q = q ∧
                        N
                         [Ent.mk (Loc.blk q)
                          (SObj.cells
                           [SV.vec 1 ao
                            (List.length
                             (initL (lessI bef) (EV.mk (0 : Int) (0 : Int) (0 : Int) ByteArray.empty ByteArray.empty, (0 : Int)) (List.length xs_2 / 2) xs_2))
                            cap,
                            SV.func (Fn.func (79 : FuncId)) [] [], SV.int IntKind.i64 (↑n : Int)]
                           (209 : TypeId)),
                          Ent.mk (Loc.sl ao cap)
                           (SObj.vecL (214 : TypeId) 6 encItE
                            (initL (lessI bef) (EV.mk (0 : Int) (0 : Int) (0 : Int) ByteArray.empty ByteArray.empty, (0 : Int)) (List.length xs_2 / 2) xs_2)
                            (EV.mk (0 : Int) (0 : Int) (0 : Int) ByteArray.empty ByteArray.empty, (0 : Int))),
                          Ent.mk (Loc.blk br) (SObj.cells [SV.str un] (9 : TypeId)),
                          Ent.mk (Loc.blk b) (SObj.cells [SV.func (Fn.func (86 : FuncId)) [] [SV.ptr 2 br 0]] 160)]
                         (SV.int IntKind.i64
                          (IntKind.wrap IntKind.i64
                           ((↑(List.length xs) : Int) -
                            (↑(List.length
                             (initL (lessI bef) (EV.mk (0 : Int) (0 : Int) (0 : Int) ByteArray.empty ByteArray.empty, (0 : Int)) (List.length xs_2 / 2)
                              xs_2)) :
                             Int))))) := by kernel_rfl
end Go.Proofs.Ytkcmgcoppecfpaa

/- queue.Queue[reveille/api.Event]: what its methods do. -/
namespace Go.Proofs.Ytkcmgcoppecfpaa
open Go Go.RowKit

theorem ordE : Ordered (lessI (fun a b : EV => decide (a.kind < b.kind))) := ordL (key := EV.kind)
theorem qTE3_ok : AllOk Try.prog qTE3 := ⟨qEhpush_ok, qEhpop_ok, inl_ok trivial hmQE Try.func84 (by kernel_rfl), trivial⟩
theorem qTE4_ok : AllOk Try.prog qTE4 := ⟨inl_ok trivial hmQE Try.func84 (by kernel_rfl), dlfE_ok, qEhinit_ok, trivial⟩
theorem qu_inE {W w : World} {F : List Ch} {q : Nat} {ao : Option Addr} {cap : Nat} {xs : List (EV × Int)} {l : List EV} {n : Nat} {t : List Ent} (h : QRep (fun a b : EV => decide (a.kind < b.kind)) ((⟨0, 0, 0, ByteArray.empty, ByteArray.empty⟩ : EV), (0 : Int)) xs l n) (hr : Rep W F (quFE q ao cap xs n ++ t) w) : Rep W F (quEE ⟨l, n⟩ q ++ t) w :=
  Rep.ex (f := fun i : quIE ⟨l, n⟩ => quFE q i.1.1.1 i.1.1.2 i.1.2 n) ⟨((ao, cap), xs), h⟩ hr
theorem qu_dropE {W w : World} {F : List Ch} {q : Nat} {ao : Option Addr} {cap : Nat} {xs : List (EV × Int)} {l : List EV} {n : Nat} {t : List Ent} (h : QRep (fun a b : EV => decide (a.kind < b.kind)) ((⟨0, 0, 0, ByteArray.empty, ByteArray.empty⟩ : EV), (0 : Int)) xs l n) (hr : Rep W F (quFE q ao cap xs n ++ t) w) : Rep W F (quEE ⟨l, n⟩ q) w :=
  Rep.dropR (t := t) (qu_inE h hr)
theorem qEnew_ok : CtrOk Try.prog 78 qnewEC := by
  intro args hs N h
  unfold qnewEC at h
  split at h
  case h_2 => exact h.elim
  rename_i g
  obtain ⟨rfl, hN⟩ := h
  refine Spec.at (hp := []) (args' := [.func (.func 79) [] []]) (Post' := fun h' r => ∃ q, h' = [pkA q quEE ⟨[], 0⟩] ∧ r = .ptr 0 q 0) [] rfl rfl ?_ rfl ?_
  · refine Spec.up ?_
    refine Spec.of_G 7 Try.func78 (c := bodyOf Try.f78) (by kernel_rfl) (by kernel_rfl) (Nat.le_of_ble_eq_true rfl) fun W F => ?_
    refine G_run (kc := true) (ss := []) (Cs := []) trivial hmQE 600 ?_
    rw [qEnew_run]
    refine ⟨⟨rfl, rfl⟩, ⟨rfl, rfl⟩, rfl, fun q => ⟨[pkA q quEE ⟨[], 0⟩], .ptr 0 q 0, fun W F w hr => ?_, rfl, q, rfl, rfl⟩⟩
    have h1 := Rep.cellsEq (l := 0) (cs' := [.vec 1 none 0 0, .func (.func 79) [] [], .int .i64 0]) rfl (by rfl) hr
    have h2 := Rep.nilvec 214 (sz := 6) (enc := encItE) ((⟨0, 0, 0, ByteArray.empty, ByteArray.empty⟩ : EV), (0 : Int)) (fun _ => rfl) h1
    exact Rep.pkA1 (qu_dropE (t := []) QRep.nil h2)
  · rintro h' r ⟨q, rfl, rfl⟩
    refine ⟨Nat.zero_le _, .ptr (lenN hs) q 0, rfl, ?_⟩
    have := hN q
    simpa [putBack, appE_eq, snoc_eq] using this
theorem qEpush_ok : CtrOk Try.prog 82 (adtC quEE qpushEM) := adt_ok fun b s rest N h => by
  unfold qpushEM at h
  split at h
  case h_2 => exact h.elim
  rename_i cs
  obtain ⟨ho, v, rfl, hN⟩ := h
  refine Spec.ex (ι := quIE s) (hs' := fun i => quFE b i.1.1.1 i.1.1.2 i.1.2 s.n) (fun W F w hr => by obtain ⟨i, hi⟩ := Rep.unex (t := []) hr; exact ⟨i, by simpa using hi⟩) ?_
  rintro ⟨⟨⟨ao, cap⟩, xs⟩, hq⟩
  have hq : QRep (fun a b : EV => decide (a.kind < b.kind)) ((⟨0, 0, 0, ByteArray.empty, ByteArray.empty⟩ : EV), (0 : Int)) xs s.l s.n := hq
  have hlen := hq.length
  have hn1 := ho.n
  have hl1 := ho.l
  show Spec _ _ (quFE b ao cap xs s.n) _ _
  refine Spec.of_G 23 Try.func82 (c := bodyOf Try.f82) (by kernel_rfl) (by kernel_rfl) (Nat.le_of_ble_eq_true rfl) fun W F => ?_
  refine G_run (kc := false) (ss := []) qTE3_ok hmQE 600 ?_
  rw [qEpush_run]
  have w1 : IntKind.wrap .i64 ((s.n : Int) + 1) = ((s.n + 1 : Nat) : Int) := IntWalk.i64_in _ (by omega)
  rw [w1]
  have hq2 := hq.push ordE v
  have fin : ∀ (ao2 : Option Addr) (cap2 : Nat) (t : List Ent), (fun h' r => ∃ s', (∀ W F w, Rep W F h' w → Rep W F (quEE s' b) w) ∧ N s' r) (⟨.blk b, .cells [.vec 1 ao2 (pushL (lessI (fun a b : EV => decide (a.kind < b.kind))) ((⟨0, 0, 0, ByteArray.empty, ByteArray.empty⟩ : EV), (0 : Int)) xs (v, (s.n : Int))).length cap2, .func (.func 79) [] [], .int .i64 ((s.n + 1 : Nat) : Int)] 209⟩ :: ⟨.sl ao2 cap2, .vecL 214 6 encItE (pushL (lessI (fun a b : EV => decide (a.kind < b.kind))) ((⟨0, 0, 0, ByteArray.empty, ByteArray.empty⟩ : EV), (0 : Int)) xs (v, (s.n : Int))) ((⟨0, 0, 0, ByteArray.empty, ByteArray.empty⟩ : EV), (0 : Int))⟩ :: t) (.tuple []) := fun ao2 cap2 t =>
    ⟨_, fun W F w hr => qu_dropE hq2 hr, hN⟩
  repeat' first
    | exact rfl
    | exact trivial
    | exact fin _ _ _
    | (refine ⟨xs, ⟨rfl, rfl, rfl, rfl⟩, (v, (s.n : Int)), ⟨rfl, rfl, rfl, by omega, by omega⟩, _, ⟨rfl, rfl⟩, fun ao2 cap2 => ?_⟩)
    | apply And.intro
    | (show _ ≤ _; omega)
    | (show _ < _; omega)
    | decide
    | (refine fun _ => ?_)
    | fail
theorem qEpop_ok : CtrOk Try.prog 83 (adtC quEE qpopEM) := adt_ok fun b s rest N h => by
  unfold qpopEM at h
  split at h
  case h_2 => exact h.elim
  obtain ⟨ho, hN⟩ := h
  refine Spec.ex (ι := quIE s) (hs' := fun i => quFE b i.1.1.1 i.1.1.2 i.1.2 s.n) (fun W F w hr => by obtain ⟨i, hi⟩ := Rep.unex (t := []) hr; exact ⟨i, by simpa using hi⟩) ?_
  rintro ⟨⟨⟨ao, cap⟩, xs⟩, hq⟩
  have hq : QRep (fun a b : EV => decide (a.kind < b.kind)) ((⟨0, 0, 0, ByteArray.empty, ByteArray.empty⟩ : EV), (0 : Int)) xs s.l s.n := hq
  have hlen := hq.length
  have hn1 := ho.n
  have hl1 := ho.l
  show Spec _ _ (quFE b ao cap xs s.n) _ _
  refine Spec.of_G 16 Try.func83 (c := bodyOf Try.f83) (by kernel_rfl) (by kernel_rfl) (Nat.le_of_ble_eq_true rfl) fun W F => ?_
  refine G_run (kc := false) (ss := []) qTE3_ok hmQE 600 ?_
  rw [qEpop_run]
  cases hc : s.l with
  | nil =>
    rw [hc] at hlen hq hN hl1
    have h0 : ((xs.length : Int) == 0) = true := by rw [hlen]; rfl
    rw [h0]
    have fin : ∀ (t : List Ent), (fun h' r => ∃ s', (∀ W F w, Rep W F h' w → Rep W F (quEE s' b) w) ∧ N s' r) (⟨.blk b, .cells [.vec 1 ao xs.length cap, .func (.func 79) [] [], .int .i64 (s.n : Int)] 209⟩ :: ⟨.sl ao cap, .vecL 214 6 encItE (xs) ((⟨0, 0, 0, ByteArray.empty, ByteArray.empty⟩ : EV), (0 : Int))⟩ :: t) (.tuple [.agg (encEV EV.zero), .int .i64 130]) := fun t => ⟨⟨[], s.n⟩, fun W F w hr => qu_dropE hq hr, hN⟩
    repeat' first
      | exact rfl
      | exact trivial
      | exact fin _
      | apply And.intro
      | (show _ ≤ _; omega)
      | (show _ < _; omega)
      | decide
      | (refine fun _ => ?_)
      | fail
  | cons v l =>
    rw [hc] at hlen hq hN hl1
    have h0 : ((xs.length : Int) == 0) = false := by rw [hlen]; simp; omega
    rw [h0]
    obtain ⟨g1, g2, g3⟩ := hq.top ordE
    have fin : ∀ (t : List Ent), (fun h' r => ∃ s', (∀ W F w, Rep W F h' w → Rep W F (quEE s' b) w) ∧ N s' r) (⟨.blk b, .cells [.vec 1 ao (popL (lessI (fun a b : EV => decide (a.kind < b.kind))) ((⟨0, 0, 0, ByteArray.empty, ByteArray.empty⟩ : EV), (0 : Int)) xs).length cap, .func (.func 79) [] [], .int .i64 (s.n : Int)] 209⟩ :: ⟨.sl ao cap, .vecL 214 6 encItE (popL (lessI (fun a b : EV => decide (a.kind < b.kind))) ((⟨0, 0, 0, ByteArray.empty, ByteArray.empty⟩ : EV), (0 : Int)) xs) ((⟨0, 0, 0, ByteArray.empty, ByteArray.empty⟩ : EV), (0 : Int))⟩ :: t) (.tuple [.agg (encEV (xs.getD 0 ((⟨0, 0, 0, ByteArray.empty, ByteArray.empty⟩ : EV), (0 : Int))).1), .int .i64 0]) := fun t => ⟨⟨l, s.n⟩, fun W F w hr => qu_dropE g3 hr, by rw [g1]; exact hN⟩
    repeat' first
      | exact rfl
      | exact trivial
      | exact fin _
      | (refine ⟨xs, ⟨rfl, rfl, rfl, rfl⟩, ⟨rfl, by omega, by omega⟩, _, ⟨rfl, rfl⟩, ?_⟩)
      | apply And.intro
      | (show _ ≤ _; omega)
      | (show _ < _; omega)
      | decide
      | (refine fun _ => ?_)
      | fail
theorem qElen_ok : CtrOk Try.prog 84 (adtC quEE qlenEM) := adt_ok fun b s rest N h => by
  unfold qlenEM at h
  split at h
  case h_2 => exact h.elim
  obtain ⟨ho, hN⟩ := h
  refine Spec.ex (ι := quIE s) (hs' := fun i => quFE b i.1.1.1 i.1.1.2 i.1.2 s.n) (fun W F w hr => by obtain ⟨i, hi⟩ := Rep.unex (t := []) hr; exact ⟨i, by simpa using hi⟩) ?_
  rintro ⟨⟨⟨ao, cap⟩, xs⟩, hq⟩
  have hq : QRep (fun a b : EV => decide (a.kind < b.kind)) ((⟨0, 0, 0, ByteArray.empty, ByteArray.empty⟩ : EV), (0 : Int)) xs s.l s.n := hq
  have hlen := hq.length
  have hn1 := ho.n
  have hl1 := ho.l
  show Spec _ _ (quFE b ao cap xs s.n) _ _
  refine Spec.of_G 9 Try.func84 (c := bodyOf Try.f84) (by kernel_rfl) (by kernel_rfl) (Nat.le_of_ble_eq_true rfl) fun W F => ?_
  refine G_run (kc := true) (ss := []) (Cs := []) trivial hmQE 600 ?_
  rw [qElen_run]
  have hN2 : N s (.int .i64 (xs.length : Int)) := by rw [hlen]; exact hN
  exact ⟨rfl, s, fun W F w hr => qu_dropE (t := []) hq hr, hN2⟩
theorem qEdrop_ok : CtrOk Try.prog 85 qdropEC := by
  intro args hs N h
  unfold qdropEC at h
  split at h
  case h_2 => exact h.elim
  rename_i l b g lr br
  obtain ⟨rfl, h⟩ := h
  split at h
  case h_2 => exact h.elim
  rename_i b' σ' p s hl
  obtain ⟨rfl, rfl, hp, un, hlr, hne, ho, hN⟩ := h
  cases hp
  simp only [cast_eq] at ho hN
  have hne' := ne_of_beqD hne
  refine Spec.at (hp := [pkA b' quEE s, ⟨.blk br, .cells [.str un] 9⟩]) (args' := [.ptr 0 b' 0, .func (.func 86) [] [.ptr 1 br 0]]) (Post' := fun h' r => h' = [pkA b' quEE ⟨s.l.filter (fun x => !qEpred un x), s.n⟩, ⟨.blk br, .cells [.str un] 9⟩] ∧ r = .int .i64 ((s.l.length : Int) - ((s.l.filter (fun x => !qEpred un x)).length : Int))) [l, lr] (by simpa [distinct] using hne') (by simp [pickE, hl, hlr, pkA]) ?_ rfl ?_
  · refine Spec.up ?_
    refine Spec.ex (ι := quIE s) (hs' := fun i => quFE b' i.1.1.1 i.1.1.2 i.1.2 s.n ++ [⟨.blk br, .cells [.str un] 9⟩]) (fun W F w hr => Rep.unex (t := [⟨.blk br, .cells [.str un] 9⟩]) hr.unpkA) ?_
    rintro ⟨⟨⟨ao, cap⟩, xs⟩, hq⟩
    have hq : QRep (fun a b : EV => decide (a.kind < b.kind)) ((⟨0, 0, 0, ByteArray.empty, ByteArray.empty⟩ : EV), (0 : Int)) xs s.l s.n := hq
    have hlen := hq.length
    have hn1 := ho.n
    have hl1 := ho.l
    refine Spec.pre (hs' := [⟨.blk b', .cells [.vec 1 ao xs.length cap, .func (.func 79) [] [], .int .i64 (s.n : Int)] 209⟩, ⟨.sl ao cap, .vecL 214 6 encItE xs ((⟨0, 0, 0, ByteArray.empty, ByteArray.empty⟩ : EV), (0 : Int))⟩, ⟨.blk br, .cells [.str un] 9⟩]) (args' := [.ptr 0 b' 0, .func (.func 86) [] [.ptr 2 br 0]]) (fun W F w hr => hr) rfl ?_
    refine Spec.of_G 28 Try.func85 (c := bodyOf Try.f85) (by kernel_rfl) (by kernel_rfl) (Nat.le_of_ble_eq_true rfl) fun W F => ?_
    refine G_run (kc := false) (ss := []) qTE4_ok hmQE 900 ?_
    rw [qEdrop_run]
    have hq2 := hq.drop ordE (fun x => !qEpred un x)
    have hl2 := hq2.length
    have hfl : (s.l.filter (fun x => !qEpred un x)).length ≤ s.l.length := List.length_filter_le _ _
    have hfx : (xs.filter (fun x : EV × Int => !qEpred un x.1)).length ≤ xs.length := List.length_filter_le _ _
    have w1 : IntKind.wrap .i64 ((xs.length : Int) - ((initL (lessI (fun a b : EV => decide (a.kind < b.kind))) ((⟨0, 0, 0, ByteArray.empty, ByteArray.empty⟩ : EV), (0 : Int)) ((xs.filter (fun x : EV × Int => !qEpred un x.1)).length / 2) (xs.filter (fun x : EV × Int => !qEpred un x.1))).length : Int)) = (s.l.length : Int) - ((s.l.filter (fun x => !qEpred un x)).length : Int) := by
      rw [hl2, hlen]
      exact IntWalk.i64_in _ (by omega)
    refine ⟨rfl, fun bm => ⟨rfl, rfl, rfl, rfl, rfl, xs, 2, br, un, rfl, rfl, rfl, ⟨rfl, rfl, by omega⟩, ⟨rfl, rfl, rfl, by decide⟩, rfl, xs.filter (fun x : EV × Int => !qEpred un x.1), ⟨rfl, rfl, rfl, rfl⟩, ⟨rfl, by omega⟩, _, ⟨rfl, rfl⟩, rfl, rfl, ?_⟩⟩
    rw [w1]
    refine ⟨[pkA b' quEE ⟨s.l.filter (fun x => !qEpred un x), s.n⟩, ⟨.blk br, .cells [.str un] 9⟩], _, fun W F w hr => ?_, rfl, rfl, rfl⟩
    have h1 := qu_inE (t := [_, _]) hq2 hr
    have h2 := Rep.pkA (S := quEE) (t := [_, _]) h1
    exact Rep.dropR (h := [_, _]) (t := [_]) h2
  · rintro h' r ⟨rfl, rfl⟩
    refine ⟨Nat.le_refl _, _, rfl, ?_⟩
    have e2 : nth (setN hs l (pkA b' quEE ⟨s.l.filter (fun x => !qEpred un x), s.n⟩)) lr = some ⟨.blk br, .cells [.str un] 9⟩ := by rw [nth_eq, setN_eq, List.getElem?_set_ne hne', ← nth_eq]; exact hlr
    have : putBack [l, lr] hs [pkA b' quEE ⟨s.l.filter (fun x => !qEpred un x), s.n⟩, ⟨.blk br, .cells [.str un] 9⟩] = setN hs l (pkA b' quEE ⟨s.l.filter (fun x => !qEpred un x), s.n⟩) := by
      simp only [putBack, appE_eq, List.append_nil]
      rw [setN_selfD e2]
    rw [this]; exact hN
theorem qTE5_ok : AllOk Try.prog qTE5 := ⟨qEnew_ok, qEpush_ok, qEpop_ok, qElen_ok, qEdrop_ok, trivial⟩
end Go.Proofs.Ytkcmgcoppecfpaa

/- Dues by their times, units, names. -/
namespace Go.Proofs.Ytkcmgcoppecfpaa
open Go Go.RowKit

structure DU where
  (unit which : ByteArray) (tm : Int)
def encDU (x : DU) : List SV := [.str x.unit, .str x.which, .int .i64 x.tm]
def DU.zero : DU := ⟨ByteArray.empty, ByteArray.empty, 0⟩
def cmpI (a b : Int) : Int := match decide (a < b) with
  | true => -1
  | false => match decide (a > b) with
    | true => 1
    | false => 0
def cmpS (a b : ByteArray) : Int := match sLt a b with
  | true => -1
  | false => match sLt b a with
    | true => 1
    | false => 0
def orL : List Int → Int
  | [] => 0
  | x :: l => match x != 0 with
    | true => x
    | false => orL l
def encIo (x : Int) : List SV := [.int .i64 x]
def orV (a b c : Int) : Int := orL [a, b, c]
def cmpDU (x y : DU) : Int := orV (cmpI x.tm y.tm) (cmpS x.unit y.unit) (cmpS x.which y.which)
def orC : Ctr := fun args hs N => match args with
  | [.vec l ao n cap] => match nth hs l with
    | some ⟨.blk b, .cells [.int k1 a, .int k2 c, .int k3 d] T⟩ => (ao = some ⟨b, 0, none⟩ ∧ T = 3 ∧ n = 3 ∧ cap = 3 ∧ k1 = .i64 ∧ k2 = .i64 ∧ k3 = .i64) ∧ N (setN hs l (pk 0 [])) (.int .i64 (orV a c d))
    | _ => False
  | _ => False
def cmp64C : Ctr := fun args hs N => match args with
  | [.int k1 a, .int k2 c] => (k1 = .i64 ∧ k2 = .i64) ∧ N hs (.int .i64 (cmpI a c))
  | _ => False
def cmpStC : Ctr := fun args hs N => match args with
  | [.str a, .str c] => N hs (.int .i64 (cmpS a c))
  | _ => False
def duT : Tbl := [(90, cmp64C), (91, cmpStC), (89, orC)]
end Go.Proofs.Ytkcmgcoppecfpaa

/- queue.Queue[reveille/api.Event]: All. -/
namespace Go.Proofs.Ytkcmgcoppecfpaa
open Go Go.RowKit

def popsYE (fv : Value) (es : List EV) (R : Nat → List Ent) (Stop : List Ent → Prop) : YCtr := fun v args hs N => v = fv ∧ match hs with
  | e0 :: e1 :: e2 :: e3 :: rest => ∃ i x, es[i]? = some x ∧ args = [.agg (encEV x)] ∧ e3 = pk 0 (R i) ∧ N (e0 :: e1 :: e2 :: pk 0 (R (i + 1)) :: rest) (.bool true) ∧ ∀ R', Stop R' → N (e0 :: e1 :: e2 :: pk 0 R' :: rest) (.bool false)
  | _ => False
def qallYE (fv : Value) (es : List EV) (R : Nat → List Ent) (Stop : List Ent → Prop) : YCtr := fun v args hs N => v = fv ∧ match hs with
  | e0 :: e1 :: e2 :: e3 :: e4 :: rest => ∃ i x, es[i]? = some x ∧ args = [.agg (encEV x)] ∧ e4 = pk 0 (R i) ∧ N (e0 :: e1 :: e2 :: e3 :: pk 0 (R (i + 1)) :: rest) (.bool true) ∧ ∀ R', Stop R' → N (e0 :: e1 :: e2 :: e3 :: pk 0 R' :: rest) (.bool false)
  | _ => False
def qTE6 : Tbl := [(115, hpopC 214 6 encItE ((⟨0, 0, 0, ByteArray.empty, ByteArray.empty⟩ : EV), (0 : Int)) 212 RE), (172, inl Try.prog [] true Try.f172 300)]
def qTE7 : Tbl := [(153, cloneC 214 6 64), (154, inl Try.prog [] true Try.f154 300)]
end Go.Proofs.Ytkcmgcoppecfpaa

/- Loops: what they hold, what their methods do. -/
namespace Go.Proofs.Ytkcmgcoppecfpaa
open Go Go.RowKit

structure LO where
  (ev : QUE) (qb bm : Nat) (ts : List (Key × Int))
def encTm (x : Int) : SV := .int .i64 x
def tmKey (u w : ByteArray) : Key := .g [.s u, .s w]
def keyU : Key → ByteArray
  | .g [.s u, .s _] => u
  | _ => ByteArray.empty
def keyW : Key → ByteArray
  | .g [.s _, .s w] => w
  | _ => ByteArray.empty
def duOf (e : Key × Int) : DU := ⟨keyU e.1, keyW e.1, e.2⟩
def ltDU (x y : DU) : Bool := decide (cmpDU x y < 0)
def dues (ts : List (Key × Int)) : List DU := (ts.map duOf).mergeSort fun x y => !ltDU y x
def frv : Int := 9223372036854775807
def soonT (ts : List (Key × Int)) : Int := match dues ts with
  | [] => 9223372036854775807
  | d :: _ => d.tm
def loE (s : LO) (b : Nat) : List Ent := [⟨.blk b, .cells [.ptr 1 s.qb 0, .map 2 s.bm] 148⟩, pkA s.qb quEE s.ev, ⟨.blk s.bm, .mapL (some (.tup [none, none])) encTm (s.ts)⟩]
structure loOk (s : LO) : Prop where
  ev : qOkE s.ev
  ks : keysOk s.ts
  len : s.ts.length ≤ 1000000
  kd : ∀ e ∈ s.ts, ∃ u w, e.1 = tmKey u w
def lonewC : Ctr := fun args hs N => match args with
  | [] => ∀ b qb bm, N (snoc hs (pkA b loE ⟨⟨[], 0⟩, qb, bm, []⟩)) (.ptr (lenN hs) b 0)
  | _ => False
def lPush (s : LO) (e : EV) : LO × Int := match decide (e.kind < 1) || decide (e.kind > 6) with
  | true => (s, 140)
  | false => ({ s with ev := ⟨insB (fun a b : EV => decide (a.kind < b.kind)) e s.ev.l, s.ev.n + 1⟩ }, 0)
def lpushM (s : LO) (args : List SV) (N : LO → SV → Prop) : Prop := match args with
  | [.agg cs] => loOk s ∧ ∃ e : EV, encEV e = cs ∧ N (lPush s e).1 (.int .i64 (lPush s e).2)
  | _ => False
def lnextM (s : LO) (args : List SV) (N : LO → SV → Prop) : Prop := match args with
  | [] => loOk s ∧ N { s with ev := ⟨s.ev.l.tail, s.ev.n⟩ } (.tuple [.agg (encEV (s.ev.l.headD EV.zero)), .bool (match s.ev.l with | [] => false | _ :: _ => true)])
  | _ => False
def llenM (s : LO) (args : List SV) (N : LO → SV → Prop) : Prop := match args with
  | [] => loOk s ∧ N s (.int .i64 (s.ev.l.length : Int))
  | _ => False
def lSet (s : LO) (u w : ByteArray) (at' : Int) : LO := match at' == 9223372036854775807 with
  | true => { s with ts := mdel s.ts (tmKey u w) }
  | false => { s with ts := mset s.ts (tmKey u w) at' }
def lsetM (s : LO) (args : List SV) (N : LO → SV → Prop) : Prop := match args with
  | [.str u, .str w, .int .i64 at'] => loOk s ∧ N (lSet s u w at') (.tuple [])
  | _ => False
def latM (s : LO) (args : List SV) (N : LO → SV → Prop) : Prop := match args with
  | [.str u, .str w] => loOk s ∧ N s (.int .i64 ((mget s.ts (tmKey u w)).getD 9223372036854775807))
  | _ => False
def lsoonM (s : LO) (args : List SV) (N : LO → SV → Prop) : Prop := match args with
  | [] => loOk s ∧ N s (.int .i64 (soonT s.ts))
  | _ => False
def lForget (s : LO) (un : ByteArray) : LO := { s with ev := ⟨s.ev.l.filter (fun x => !sEq x.unit un), s.ev.n⟩, ts := s.ts.filter fun e => !sEq (keyU e.1) un }
def lforgetM (s : LO) (args : List SV) (N : LO → SV → Prop) : Prop := match args with
  | [.str un] => loOk s ∧ N (lForget s un) (.int .i64 (((s.ev.l.length : Int) - ((lForget s un).ev.l.length : Int)) + ((s.ts.length : Int) - ((lForget s un).ts.length : Int))))
  | _ => False
def timersC : Ctr := fun args hs N => match args with
  | [.ptr l b 0] => match nth hs l with
    | some ⟨.blk b', .adt (σ := σ') p s⟩ => b' = b ∧ ∃ h : σ' = LO, AdtIs p loE ∧ loOk (cast h s) ∧
        ∀ ao cap bx, N (snoc (snoc hs ⟨.sl ao cap, .vecL 72 3 encDU (dues (cast h s).ts) DU.zero⟩) ⟨.blk bx, .cells [.vec (lenN hs) ao (dues (cast h s).ts).length cap] 69⟩) (.func (.func 123) [] [.ptr (lenN hs + 1) bx 0])
    | _ => False
  | _ => False
def duesTo (ts : List (Key × Int)) (now : Int) : List DU := (dues ts).takeWhile fun d => decide (d.tm ≤ now)
def lateT (ts : List (Key × Int)) (now : Int) : List (Key × Int) := ts.filter fun e => decide (now < e.2)
def lelapseC : Ctr := fun args hs N => match args with
  | [.ptr l b 0, .int .i64 now] => match nth hs l with
    | some ⟨.blk b', .adt (σ := σ') p s⟩ => b' = b ∧ ∃ h : σ' = LO, AdtIs p loE ∧ loOk (cast h s) ∧
        ∀ ao cap, N (snoc (setN hs l (pkA b loE { (cast h s) with ts := lateT (cast h s).ts now })) ⟨.sl ao cap, .vecL 72 3 encDU (duesTo (cast h s).ts now) DU.zero⟩) (.vec (lenN hs) ao (duesTo (cast h s).ts now).length cap)
    | _ => False
  | _ => False
end Go.Proofs.Ytkcmgcoppecfpaa

namespace Go.Proofs.Ytkcmgcoppecfpaa
open Go Go.RowKit

theorem lNew_run (K : List Frm → Sy → Prop) (N : List Ent → SV → Prop) : (run Try.prog qTE5 true [] K (retP Try.prog Try.f32.results.toList N) 600 [.code (bodyOf Try.f32)] ⟨padTo 5 [], []⟩) = (
true = true ∧
 79 = (79 : FuncId) ∧
  ∀ (q b : Nat),
   (true = true ∧ true = true) ∧
    true = true ∧
     ∀ (b_1 : Nat),
      N
       [pkA q quEE (QUE.mk [] 0), Ent.mk (Loc.blk b) (SObj.mapV (some (KK.tup [@none IntKind, @none IntKind])) []),
        Ent.mk (Loc.blk b_1) (SObj.cells [SV.ptr 0 q 0, SV.map 1 b] 148)]
       (SV.ptr 2 b_1 0)) := by kernel_rfl


theorem lPush_run (K : List Frm → Sy → Prop) (N : List Ent → SV → Prop) (s : LO) (b : Nat) (e : EV) : (run Try.prog qTE5 false [] K (retP Try.prog Try.f36.results.toList N) 900 [.code (bodyOf Try.f36)] ⟨padTo 19 [.ptr 0 b 0, .agg (encEV e)], [⟨.blk b, .cells [.ptr 1 s.qb 0, .map 2 s.bm] 148⟩, pkA s.qb quEE s.ev, ⟨.blk s.bm, .mapL (some (.tup [none, none])) encTm (s.ts)⟩]⟩) = (
true = true ∧
 ∀ (b_1 : Nat),
  b_1 = b_1 ∧
   match decide (e.1 < (1 : Int)) with
   | true =>
    N
     [Ent.mk (Loc.blk b) (SObj.cells [SV.ptr 1 s.2 0, SV.map 2 s.3] (148 : TypeId)), pkA s.2 quEE s.1,
      Ent.mk (Loc.blk s.3) (SObj.mapL (some (KK.tup [@none IntKind, @none IntKind])) encTm s.4),
      Ent.mk (Loc.blk b_1) (SObj.cells [SV.int IntKind.i64 e.1, SV.int IntKind.i64 e.2, SV.int IntKind.i64 e.3, SV.str e.4, SV.str e.5] 79)]
     (SV.int IntKind.i64 (140 : Int))
   | false =>
    b_1 = b_1 ∧
     match decide (e.1 > (6 : Int)) with
     | true =>
      N
       [Ent.mk (Loc.blk b) (SObj.cells [SV.ptr 1 s.2 0, SV.map 2 s.3] (148 : TypeId)), pkA s.2 quEE s.1,
        Ent.mk (Loc.blk s.3) (SObj.mapL (some (KK.tup [@none IntKind, @none IntKind])) encTm s.4),
        Ent.mk (Loc.blk b_1) (SObj.cells [SV.int IntKind.i64 e.1, SV.int IntKind.i64 e.2, SV.int IntKind.i64 e.3, SV.str e.4, SV.str e.5] 79)]
       (SV.int IntKind.i64 (140 : Int))
     | false =>
      b = b ∧
       (b_1 = b_1 ∧ 5 = 5) ∧
        true = true ∧
         s.2 = s.2 ∧
          ∃ (h : QUE = QUE),
           AdtIs (fun (s : QUE) (b : Nat) ↦ packs (quEE s b)) quEE ∧
            qOkE s.1 ∧
             ∃ (v : EV),
              [SV.int IntKind.i64 v.1, SV.int IntKind.i64 v.2, SV.int IntKind.i64 v.3, SV.str v.4, SV.str v.5] =
               [SV.int IntKind.i64 e.1, SV.int IntKind.i64 e.2, SV.int IntKind.i64 e.3, SV.str e.4, SV.str e.5] ∧
               N
                [Ent.mk (Loc.blk b) (SObj.cells [SV.ptr 1 s.2 0, SV.map 2 s.3] (148 : TypeId)),
                 pkA s.2 quEE (QUE.mk (insB (fun (a b : EV) ↦ decide (a.kind < b.kind)) v s.1.1) (s.1.2 + 1)),
                 Ent.mk (Loc.blk s.3) (SObj.mapL (some (KK.tup [@none IntKind, @none IntKind])) encTm s.4),
                 Ent.mk (Loc.blk b_1) (SObj.cells [SV.int IntKind.i64 e.1, SV.int IntKind.i64 e.2, SV.int IntKind.i64 e.3, SV.str e.4, SV.str e.5] 79)]
                (SV.int IntKind.i64 (0 : Int))) := by kernel_rfl


theorem lNext_run (K : List Frm → Sy → Prop) (N : List Ent → SV → Prop) (s : LO) (b : Nat) : (run Try.prog qTE5 true [] K (retP Try.prog Try.f37.results.toList N) 600 [.code (bodyOf Try.f37)] ⟨padTo 17 [.ptr 0 b 0], [⟨.blk b, .cells [.ptr 1 s.qb 0, .map 2 s.bm] 148⟩, pkA s.qb quEE s.ev, ⟨.blk s.bm, .mapL (some (.tup [none, none])) encTm (s.ts)⟩]⟩) = (
∀ (b_1 : Nat),
 b = b ∧
  true = true ∧
   s.2 = s.2 ∧
    ∃ (h : QUE = QUE),
     AdtIs (fun (s : QUE) (b : Nat) ↦ packs (quEE s b)) quEE ∧
      qOkE s.1 ∧
       ∀ (b_2 : Nat),
        (b_2 = b_2 ∧ true = true ∧ 5 = 5 ∧ 5 ≤ 5) ∧
         (b_2 = b_2 ∧ 5 = 5) ∧
          (b_1 = b_1 ∧ true = true ∧ 5 = 5 ∧ 5 ≤ 5) ∧
           (b_1 = b_1 ∧ 5 = 5) ∧
            N
             [Ent.mk (Loc.blk b) (SObj.cells [SV.ptr 1 s.2 0, SV.map 2 s.3] (148 : TypeId)), pkA s.2 quEE (QUE.mk (List.tail s.1.1) s.1.2),
              Ent.mk (Loc.blk s.3) (SObj.mapL (some (KK.tup [@none IntKind, @none IntKind])) encTm s.4),
              Ent.mk (Loc.blk b_1)
               (SObj.cells
                [SV.int IntKind.i64 (List.headD s.1.1 (EV.mk (0 : Int) (0 : Int) (0 : Int) ByteArray.empty ByteArray.empty)).1,
                 SV.int IntKind.i64 (List.headD s.1.1 (EV.mk (0 : Int) (0 : Int) (0 : Int) ByteArray.empty ByteArray.empty)).2,
                 SV.int IntKind.i64 (List.headD s.1.1 (EV.mk (0 : Int) (0 : Int) (0 : Int) ByteArray.empty ByteArray.empty)).3,
                 SV.str (List.headD s.1.1 (EV.mk (0 : Int) (0 : Int) (0 : Int) ByteArray.empty ByteArray.empty)).4,
                 SV.str (List.headD s.1.1 (EV.mk (0 : Int) (0 : Int) (0 : Int) ByteArray.empty ByteArray.empty)).5]
                79),
              Ent.mk (Loc.blk b_2)
               (SObj.cells
                [SV.int IntKind.i64 (List.headD s.1.1 (EV.mk (0 : Int) (0 : Int) (0 : Int) ByteArray.empty ByteArray.empty)).1,
                 SV.int IntKind.i64 (List.headD s.1.1 (EV.mk (0 : Int) (0 : Int) (0 : Int) ByteArray.empty ByteArray.empty)).2,
                 SV.int IntKind.i64 (List.headD s.1.1 (EV.mk (0 : Int) (0 : Int) (0 : Int) ByteArray.empty ByteArray.empty)).3,
                 SV.str (List.headD s.1.1 (EV.mk (0 : Int) (0 : Int) (0 : Int) ByteArray.empty ByteArray.empty)).4,
                 SV.str (List.headD s.1.1 (EV.mk (0 : Int) (0 : Int) (0 : Int) ByteArray.empty ByteArray.empty)).5]
                79)]
             (SV.tuple
              [SV.agg
               [SV.int IntKind.i64 (List.headD s.1.1 (EV.mk (0 : Int) (0 : Int) (0 : Int) ByteArray.empty ByteArray.empty)).1,
                SV.int IntKind.i64 (List.headD s.1.1 (EV.mk (0 : Int) (0 : Int) (0 : Int) ByteArray.empty ByteArray.empty)).2,
                SV.int IntKind.i64 (List.headD s.1.1 (EV.mk (0 : Int) (0 : Int) (0 : Int) ByteArray.empty ByteArray.empty)).3,
                SV.str (List.headD s.1.1 (EV.mk (0 : Int) (0 : Int) (0 : Int) ByteArray.empty ByteArray.empty)).4,
                SV.str (List.headD s.1.1 (EV.mk (0 : Int) (0 : Int) (0 : Int) ByteArray.empty ByteArray.empty)).5],
               SV.bool
                ((match s.1.1 with
                 | [] => (130 : Int)
                 | head :: tail => (0 : Int)) ==
                 (0 : Int))])) := by kernel_rfl


theorem lLen_run (K : List Frm → Sy → Prop) (N : List Ent → SV → Prop) (s : LO) (b : Nat) : (run Try.prog qTE5 true [] K (retP Try.prog Try.f38.results.toList N) 600 [.code (bodyOf Try.f38)] ⟨padTo 8 [.ptr 0 b 0], [⟨.blk b, .cells [.ptr 1 s.qb 0, .map 2 s.bm] 148⟩, pkA s.qb quEE s.ev, ⟨.blk s.bm, .mapL (some (.tup [none, none])) encTm (s.ts)⟩]⟩) = (
b = b ∧
 true = true ∧
  s.2 = s.2 ∧
   ∃ (h : QUE = QUE),
    AdtIs (fun (s : QUE) (b : Nat) ↦ packs (quEE s b)) quEE ∧
     qOkE s.1 ∧
      N
       [Ent.mk (Loc.blk b) (SObj.cells [SV.ptr 1 s.2 0, SV.map 2 s.3] (148 : TypeId)), pkA s.2 quEE s.1,
        Ent.mk (Loc.blk s.3) (SObj.mapL (some (KK.tup [@none IntKind, @none IntKind])) encTm s.4)]
       (SV.int IntKind.i64 (↑(List.length s.1.1) : Int))) := by kernel_rfl


theorem lSet_run (K : List Frm → Sy → Prop) (N : List Ent → SV → Prop) (s : LO) (b : Nat) (u w : ByteArray) (at' : Int) : (run Try.prog [] true [] K (retP Try.prog Try.f33.results.toList N) 600 [.code (bodyOf Try.f33)] ⟨padTo 25 [.ptr 0 b 0, .str u, .str w, .int .i64 at'], [⟨.blk b, .cells [.ptr 1 s.qb 0, .map 2 s.bm] 148⟩, pkA s.qb quEE s.ev, ⟨.blk s.bm, .mapL (some (.tup [none, none])) encTm (s.ts)⟩]⟩) = (
match at' == (9223372036854775807 : Int) with
| true =>
 b = b ∧
  (true = true ∧ true = true) ∧
   (s.3 = s.3 ∧
    some (KK.tup [@none IntKind, @none IntKind]) = some (KK.tup [@none IntKind, @none IntKind]) ∧ some (KK.tup [@none IntKind, @none IntKind]) = some (KK.tup [@none IntKind, @none IntKind])) ∧
    N
     [Ent.mk (Loc.blk b) (SObj.cells [SV.ptr 1 s.2 0, SV.map 2 s.3] (148 : TypeId)), pkA s.2 quEE s.1,
      Ent.mk (Loc.blk s.3) (SObj.mapL (some (KK.tup [@none IntKind, @none IntKind])) encTm (mdel s.4 (Key.g [KV.s u, KV.s w])))]
     (SV.tuple [])
| false =>
 b = b ∧
  (true = true ∧ true = true) ∧
   (s.3 = s.3 ∧
    some (KK.tup [@none IntKind, @none IntKind]) = some (KK.tup [@none IntKind, @none IntKind]) ∧ some (KK.tup [@none IntKind, @none IntKind]) = some (KK.tup [@none IntKind, @none IntKind])) ∧
    ∃ (u_1 : Int),
     den (SV.int IntKind.i64 u_1) = den (SV.int IntKind.i64 at') ∧
      N
       [Ent.mk (Loc.blk b) (SObj.cells [SV.ptr 1 s.2 0, SV.map 2 s.3] (148 : TypeId)), pkA s.2 quEE s.1,
        Ent.mk (Loc.blk s.3) (SObj.mapL (some (KK.tup [@none IntKind, @none IntKind])) encTm (mset s.4 (Key.g [KV.s u, KV.s w]) u_1))]
       (SV.tuple [])) := by kernel_rfl


theorem lAt_run (K : List Frm → Sy → Prop) (N : List Ent → SV → Prop) (s : LO) (b : Nat) (u w : ByteArray) : (run Try.prog [] true [] K (retP Try.prog Try.f49.results.toList N) 600 [.code (bodyOf Try.f49)] ⟨padTo 22 [.ptr 0 b 0, .str u, .str w], [⟨.blk b, .cells [.ptr 1 s.qb 0, .map 2 s.bm] 148⟩, pkA s.qb quEE s.ev, ⟨.blk s.bm, .mapL (some (.tup [none, none])) encTm (s.ts)⟩]⟩) = (
b = b ∧
 (true = true ∧ true = true) ∧
  (s.3 = s.3 ∧
   some (KK.tup [@none IntKind, @none IntKind]) = some (KK.tup [@none IntKind, @none IntKind]) ∧ some (KK.tup [@none IntKind, @none IntKind]) = some (KK.tup [@none IntKind, @none IntKind])) ∧
   match mget s.4 (Key.g [KV.s u, KV.s w]) with
   | some v =>
    N
     [Ent.mk (Loc.blk b) (SObj.cells [SV.ptr 1 s.2 0, SV.map 2 s.3] (148 : TypeId)), pkA s.2 quEE s.1,
      Ent.mk (Loc.blk s.3) (SObj.mapL (some (KK.tup [@none IntKind, @none IntKind])) encTm s.4)]
     (SV.int IntKind.i64 v)
   | none =>
    N
     [Ent.mk (Loc.blk b) (SObj.cells [SV.ptr 1 s.2 0, SV.map 2 s.3] (148 : TypeId)), pkA s.2 quEE s.1,
      Ent.mk (Loc.blk s.3) (SObj.mapL (some (KK.tup [@none IntKind, @none IntKind])) encTm s.4)]
     (SV.int IntKind.i64 (9223372036854775807 : Int))) := by kernel_rfl
end Go.Proofs.Ytkcmgcoppecfpaa

/- Loops: New, Push, Next, Len, Set, At. -/
namespace Go.Proofs.Ytkcmgcoppecfpaa
open Go Go.RowKit
theorem hmLo : Try.prog.follows .mixedOrders = true := by kernel_rfl
theorem lNew_ok : CtrOk Try.prog 32 lonewC := by
  intro args hs N h
  unfold lonewC at h
  split at h
  case h_2 => exact h.elim
  refine Spec.at (hp := []) (args' := []) (Post' := fun h' r => ∃ b qb bm, h' = [pkA b loE ⟨⟨[], 0⟩, qb, bm, []⟩] ∧ r = .ptr 0 b 0) [] rfl rfl ?_ rfl ?_
  · refine Spec.up ?_
    refine Spec.of_G 5 Try.func32 (c := bodyOf Try.f32) (by kernel_rfl) (by kernel_rfl) (Nat.le_of_ble_eq_true rfl) fun W F => ?_
    refine G_run (kc := true) (ss := []) qTE5_ok hmLo 600 ?_
    rw [lNew_run]
    refine ⟨rfl, rfl, fun qb bm => ⟨⟨rfl, rfl⟩, rfl, fun b => ⟨[pkA b loE ⟨⟨[], 0⟩, qb, bm, []⟩], .ptr 0 b 0, fun W F w hr => ?_, rfl, b, qb, bm, rfl, rfl⟩⟩⟩
    have h1 := Rep.pick (π := [2, 0, 1]) (by decide) rfl hr
    have h2 := Rep.cellsEq (l := 0) (cs' := [.ptr 1 qb 0, .map 2 bm]) rfl (by rfl) h1
    have h3 := Rep.mapOf (l := 2) encTm [] rfl (by rfl) h2
    exact Rep.pkA1 (S := loE) (s := ⟨⟨[], 0⟩, qb, bm, []⟩) h3
  · rintro h' r ⟨b, qb, bm, rfl, rfl⟩
    refine ⟨Nat.zero_le _, .ptr (lenN hs) b 0, rfl, ?_⟩
    have := h b qb bm
    simpa [putBack, appE_eq, snoc_eq] using this
theorem insBE_one (e e' : EV) (h : encEV e = encEV e') : e = e' := by
  obtain ⟨a1, a2, a3, a4, a5⟩ := e
  obtain ⟨b1, b2, b3, b4, b5⟩ := e'
  simp only [encEV, List.cons.injEq, SV.int.injEq, SV.str.injEq, true_and, and_true] at h
  obtain ⟨rfl, rfl, rfl, rfl, rfl⟩ := h
  rfl
theorem lPush_ok : CtrOk Try.prog 36 (adtC loE lpushM) := adt_ok fun b s rest N h => by
  unfold lpushM at h
  split at h
  case h_2 => exact h.elim
  rename_i cs
  obtain ⟨ho, e, rfl, hN⟩ := h
  refine Spec.pre (hs' := [⟨.blk b, .cells [.ptr 1 s.qb 0, .map 2 s.bm] 148⟩, pkA s.qb quEE s.ev, ⟨.blk s.bm, .mapL (some (.tup [none, none])) encTm (s.ts)⟩]) (args' := [.ptr 0 b 0, .agg (encEV e)]) (fun W F w hr => hr) rfl ?_
  refine Spec.of_G 19 Try.func36 (c := bodyOf Try.f36) (by kernel_rfl) (by kernel_rfl) (Nat.le_of_ble_eq_true rfl) fun W F => ?_
  refine G_run (kc := false) (ss := []) qTE5_ok hmLo 900 ?_
  rw [lPush_run]
  cases h1 : decide (e.kind < 1) with
  | true =>
    have hp : lPush s e = (s, 140) := by simp [lPush, h1]
    rw [hp] at hN
    have fin : ∀ t : List Ent, (fun h' r => ∃ s', (∀ W F w, Rep W F h' w → Rep W F (loE s' b) w) ∧ N s' r) (⟨.blk b, .cells [.ptr 1 s.qb 0, .map 2 s.bm] 148⟩ :: pkA s.qb quEE (s.ev) :: ⟨.blk s.bm, .mapL (some (.tup [none, none])) encTm (s.ts)⟩ :: t) (.int .i64 140) := fun t => ⟨s, fun W F w hr => Rep.dropR (h := loE s b) hr, hN⟩
    repeat' first
      | exact rfl
      | exact trivial
      | exact fin _
      | apply And.intro
      | (show _ ≤ _; omega)
      | (show _ < _; omega)
      | decide
      | (refine fun _ => ?_)
      | fail
  | false =>
    cases h2 : decide (e.kind > 6) with
    | true =>
      have hp : lPush s e = (s, 140) := by simp only [lPush, h1, h2, Bool.or_true]
      rw [hp] at hN
      have fin : ∀ t : List Ent, (fun h' r => ∃ s', (∀ W F w, Rep W F h' w → Rep W F (loE s' b) w) ∧ N s' r) (⟨.blk b, .cells [.ptr 1 s.qb 0, .map 2 s.bm] 148⟩ :: pkA s.qb quEE (s.ev) :: ⟨.blk s.bm, .mapL (some (.tup [none, none])) encTm (s.ts)⟩ :: t) (.int .i64 140) := fun t => ⟨s, fun W F w hr => Rep.dropR (h := loE s b) hr, hN⟩
      repeat' first
        | exact rfl
        | exact trivial
        | exact fin _
        | apply And.intro
        | (show _ ≤ _; omega)
        | (show _ < _; omega)
        | decide
        | (refine fun _ => ?_)
        | fail
    | false =>
      have hp : lPush s e = ({ s with ev := ⟨insB (fun a b : EV => decide (a.kind < b.kind)) e s.ev.l, s.ev.n + 1⟩ }, 0) := by simp only [lPush, h1, h2, Bool.or_false]
      rw [hp] at hN
      have fin : ∀ t : List Ent, (fun h' r => ∃ s', (∀ W F w, Rep W F h' w → Rep W F (loE s' b) w) ∧ N s' r) (⟨.blk b, .cells [.ptr 1 s.qb 0, .map 2 s.bm] 148⟩ :: pkA s.qb quEE (⟨insB (fun a b : EV => decide (a.kind < b.kind)) e s.ev.l, s.ev.n + 1⟩) :: ⟨.blk s.bm, .mapL (some (.tup [none, none])) encTm (s.ts)⟩ :: t) (.int .i64 0) := fun t => ⟨_, fun W F w hr => Rep.dropR (h := loE { s with ev := ⟨insB (fun a b : EV => decide (a.kind < b.kind)) e s.ev.l, s.ev.n + 1⟩ } b) hr, hN⟩
      repeat' first
        | exact rfl
        | exact trivial
        | exact fin _
        | (refine ⟨rfl, HEq.rfl, ho.ev, e, rfl, ?_⟩)
        | apply And.intro
        | (show _ ≤ _; omega)
        | (show _ < _; omega)
        | decide
        | (refine fun _ => ?_)
        | fail
theorem lNext_ok : CtrOk Try.prog 37 (adtC loE lnextM) := adt_ok fun b s rest N h => by
  unfold lnextM at h
  split at h
  case h_2 => exact h.elim
  obtain ⟨ho, hN⟩ := h
  refine Spec.pre (hs' := [⟨.blk b, .cells [.ptr 1 s.qb 0, .map 2 s.bm] 148⟩, pkA s.qb quEE s.ev, ⟨.blk s.bm, .mapL (some (.tup [none, none])) encTm (s.ts)⟩]) (args' := [.ptr 0 b 0]) (fun W F w hr => hr) rfl ?_
  refine Spec.of_G 17 Try.func37 (c := bodyOf Try.f37) (by kernel_rfl) (by kernel_rfl) (Nat.le_of_ble_eq_true rfl) fun W F => ?_
  refine G_run (kc := true) (ss := []) qTE5_ok hmLo 600 ?_
  rw [lNext_run]
  have fin : ∀ t : List Ent, (fun h' r => ∃ s', (∀ W F w, Rep W F h' w → Rep W F (loE s' b) w) ∧ N s' r) (⟨.blk b, .cells [.ptr 1 s.qb 0, .map 2 s.bm] 148⟩ :: pkA s.qb quEE (⟨s.ev.l.tail, s.ev.n⟩) :: ⟨.blk s.bm, .mapL (some (.tup [none, none])) encTm (s.ts)⟩ :: t) (.tuple [.agg (encEV (s.ev.l.headD EV.zero)), .bool (match s.ev.l with | [] => false | _ :: _ => true)]) := fun t => ⟨_, fun W F w hr => Rep.dropR (h := loE { s with ev := ⟨s.ev.l.tail, s.ev.n⟩ } b) hr, hN⟩
  have fin2 : ∀ (t : List Ent) (v : Bool), v = (match s.ev.l with | [] => false | _ :: _ => true) → (fun h' r => ∃ s', (∀ W F w, Rep W F h' w → Rep W F (loE s' b) w) ∧ N s' r) (⟨.blk b, .cells [.ptr 1 s.qb 0, .map 2 s.bm] 148⟩ :: pkA s.qb quEE (⟨s.ev.l.tail, s.ev.n⟩) :: ⟨.blk s.bm, .mapL (some (.tup [none, none])) encTm (s.ts)⟩ :: t) (.tuple [.agg (encEV (s.ev.l.headD EV.zero)), .bool v]) := fun t v hv => by subst hv; exact fin t
  repeat' first
    | exact rfl
    | exact trivial
    | (refine ⟨rfl, HEq.rfl, ho.ev, ?_⟩)
    | exact fin2 _ _ (by cases s.ev.l <;> rfl)
    | apply And.intro
    | (show _ ≤ _; omega)
    | (show _ < _; omega)
    | decide
    | (refine fun _ => ?_)
    | fail
theorem lLen_ok : CtrOk Try.prog 38 (adtC loE llenM) := adt_ok fun b s rest N h => by
  unfold llenM at h
  split at h
  case h_2 => exact h.elim
  obtain ⟨ho, hN⟩ := h
  refine Spec.pre (hs' := [⟨.blk b, .cells [.ptr 1 s.qb 0, .map 2 s.bm] 148⟩, pkA s.qb quEE s.ev, ⟨.blk s.bm, .mapL (some (.tup [none, none])) encTm (s.ts)⟩]) (args' := [.ptr 0 b 0]) (fun W F w hr => hr) rfl ?_
  refine Spec.of_G 8 Try.func38 (c := bodyOf Try.f38) (by kernel_rfl) (by kernel_rfl) (Nat.le_of_ble_eq_true rfl) fun W F => ?_
  refine G_run (kc := true) (ss := []) qTE5_ok hmLo 600 ?_
  rw [lLen_run]
  exact ⟨rfl, rfl, rfl, rfl, HEq.rfl, ho.ev, s, fun W F w hr => hr, hN⟩
theorem lSet_ok : CtrOk Try.prog 33 (adtC loE lsetM) := adt_ok fun b s rest N h => by
  unfold lsetM at h
  split at h
  case h_2 => exact h.elim
  rename_i u w at'
  obtain ⟨ho, hN⟩ := h
  refine Spec.pre (hs' := [⟨.blk b, .cells [.ptr 1 s.qb 0, .map 2 s.bm] 148⟩, pkA s.qb quEE s.ev, ⟨.blk s.bm, .mapL (some (.tup [none, none])) encTm (s.ts)⟩]) (args' := [.ptr 0 b 0, .str u, .str w, .int .i64 at']) (fun W F w hr => hr) rfl ?_
  refine Spec.of_G 25 Try.func33 (c := bodyOf Try.f33) (by kernel_rfl) (by kernel_rfl) (Nat.le_of_ble_eq_true rfl) fun W F => ?_
  refine G_run (kc := true) (ss := []) (Cs := []) trivial hmLo 600 ?_
  rw [lSet_run]
  cases h1 : at' == 9223372036854775807 with
  | true =>
    simp only [lSet, h1] at hN
    exact ⟨rfl, ⟨rfl, rfl⟩, ⟨rfl, rfl, rfl⟩, { s with ts := mdel s.ts (tmKey u w) }, fun W F w hr => hr, hN⟩
  | false =>
    simp only [lSet, h1] at hN
    exact ⟨rfl, ⟨rfl, rfl⟩, ⟨rfl, rfl, rfl⟩, at', rfl, { s with ts := mset s.ts (tmKey u w) at' }, fun W F w hr => hr, hN⟩
theorem lAt_ok : CtrOk Try.prog 49 (adtC loE latM) := adt_ok fun b s rest N h => by
  unfold latM at h
  split at h
  case h_2 => exact h.elim
  rename_i u w
  obtain ⟨ho, hN⟩ := h
  refine Spec.pre (hs' := [⟨.blk b, .cells [.ptr 1 s.qb 0, .map 2 s.bm] 148⟩, pkA s.qb quEE s.ev, ⟨.blk s.bm, .mapL (some (.tup [none, none])) encTm (s.ts)⟩]) (args' := [.ptr 0 b 0, .str u, .str w]) (fun W F w hr => hr) rfl ?_
  refine Spec.of_G 22 Try.func49 (c := bodyOf Try.f49) (by kernel_rfl) (by kernel_rfl) (Nat.le_of_ble_eq_true rfl) fun W F => ?_
  refine G_run (kc := true) (ss := []) (Cs := []) trivial hmLo 600 ?_
  rw [lAt_run]
  have e : Key.g [KV.s u, KV.s w] = tmKey u w := rfl
  rw [e]
  cases h1 : mget s.ts (tmKey u w) with
  | none =>
    rw [h1] at hN
    exact ⟨rfl, ⟨rfl, rfl⟩, ⟨rfl, rfl, rfl⟩, s, fun W F w hr => hr, hN⟩
  | some v =>
    rw [h1] at hN
    exact ⟨rfl, ⟨rfl, rfl⟩, ⟨rfl, rfl, rfl⟩, s, fun W F w hr => hr, hN⟩
end Go.Proofs.Ytkcmgcoppecfpaa

/- Timers: the plain law of their order, of what is dropped. -/
namespace Go.Proofs.Ytkcmgcoppecfpaa
open Go Go.RowKit

/-! ### Texts by their order -/
theorem toListO (x : ByteArray) : x.toList = x.data.toList := ByteArray.toList_eq x
theorem baExtO {a b : ByteArray} (h : a.data.toList = b.data.toList) : a = b := by
  cases a; cases b
  simp only [ByteArray.mk.injEq]
  exact Array.ext' h
theorem sEqO (a b : ByteArray) : sEq a b = true ↔ a = b := by
  constructor
  · intro h
    simp only [sEq, beq_iff_eq] at h
    rw [toListO, toListO] at h
    exact baExtO h
  · rintro rfl; simp [sEq]
theorem sEqOF (a b : ByteArray) : sEq a b = false ↔ a ≠ b := by rw [← Bool.not_eq_true, sEqO]
theorem bLessO : ∀ (x y : List UInt8), Op.bytesLess x y = decide (x < y)
  | [], [] => by simp [Op.bytesLess]
  | _ :: _, [] => by simp [Op.bytesLess]
  | [], _ :: _ => by simp [Op.bytesLess]
  | a :: x, b :: y => by
    rw [Op.bytesLess, bLessO x y, Bool.eq_iff_iff]
    simp [List.cons_lt_cons_iff]
theorem sLtO (a b : ByteArray) : sLt a b = decide (a.data.toList < b.data.toList) := by rw [sLt, bLessO, toListO, toListO]
theorem sLt_irrO (a : ByteArray) : sLt a a = false := by rw [sLtO]; simp [List.lt_irrefl]
theorem sLt_transO {a b c : ByteArray} (h1 : sLt a b = true) (h2 : sLt b c = true) : sLt a c = true := by
  rw [sLtO, decide_eq_true_eq] at *
  exact List.lt_trans h1 h2
theorem sLt_asymO {a b : ByteArray} (h1 : sLt a b = true) : sLt b a = false := by
  cases h : sLt b a with
  | false => rfl
  | true => have := sLt_transO h1 h; rw [sLt_irrO] at this; cases this
theorem sLt_triO {a b : ByteArray} (h1 : sLt a b = false) (h2 : sLt b a = false) : a = b := by
  rw [sLtO, decide_eq_false_iff_not] at *
  exact baExtO (List.le_antisymm (List.not_lt.1 h2) (List.not_lt.1 h1))

/-! ### Dues by their order -/
theorem cmpI_cases (a b : Int) : (a < b ∧ cmpI a b = -1) ∨ (a = b ∧ cmpI a b = 0) ∨ (b < a ∧ cmpI a b = 1) := by
  unfold cmpI
  by_cases h1 : a < b
  · left; simp [h1]
  · by_cases h2 : b < a
    · right; right; simp [h1, h2]
    · right; left; simp [h1, h2]; omega
theorem cmpS_cases (a b : ByteArray) : (sLt a b = true ∧ cmpS a b = -1) ∨ (a = b ∧ cmpS a b = 0) ∨ (sLt b a = true ∧ cmpS a b = 1) := by
  unfold cmpS
  cases h1 : sLt a b with
  | true => left; simp
  | false =>
    cases h2 : sLt b a with
    | true => right; right; simp
    | false => right; left; simp [sLt_triO h1 h2]
theorem orV3 (a b c : Int) : orV a b c = if a ≠ 0 then a else if b ≠ 0 then b else c := by
  unfold orV orL orL orL orL
  have e : ∀ x : Int, x ≠ 0 → (x != 0) = true := fun x h => by simpa using h
  by_cases h1 : a = 0
  · subst h1
    by_cases h2 : b = 0
    · subst h2
      by_cases h3 : c = 0
      · subst h3; rfl
      · simp only [e c h3, bne_self_eq_false]; simp
    · simp only [e b h2, bne_self_eq_false]; simp [h2]
  · simp only [e a h1]; simp [h1]
theorem ltDU_iff (x y : DU) : ltDU x y = true ↔ x.tm < y.tm ∨ (x.tm = y.tm ∧ (sLt x.unit y.unit = true ∨ (x.unit = y.unit ∧ sLt x.which y.which = true))) := by
  unfold ltDU cmpDU
  rw [decide_eq_true_eq, orV3]
  rcases cmpI_cases x.tm y.tm with ⟨h1, e1⟩ | ⟨h1, e1⟩ | ⟨h1, e1⟩ <;> rw [e1]
  · simp [h1]
  · rcases cmpS_cases x.unit y.unit with ⟨h2, e2⟩ | ⟨h2, e2⟩ | ⟨h2, e2⟩ <;> rw [e2]
    · simp [h1, h2]
    · rcases cmpS_cases x.which y.which with ⟨h3, e3⟩ | ⟨h3, e3⟩ | ⟨h3, e3⟩ <;> rw [e3]
      · simp [h1, h2, h3]
      · simp [h1, h2, h3, sLt_irrO]
      · simp [h1, h2, sLt_asymO h3, sLt_irrO]
    · have hne : x.unit ≠ y.unit := fun e => by rw [e, sLt_irrO] at h2; cases h2
      simp [h1, sLt_asymO h2, hne]
  · simp; omega
theorem ltDU_irr (x : DU) : ltDU x x = false := by
  rw [← Bool.not_eq_true, ltDU_iff]
  simp [sLt_irrO]
theorem ltDU_tr {x y z : DU} (h1 : ltDU x y = true) (h2 : ltDU y z = true) : ltDU x z = true := by
  rw [ltDU_iff] at *
  rcases h1 with h1 | ⟨e1, h1⟩
  · rcases h2 with h2 | ⟨e2, _⟩ <;> left <;> omega
  · rcases h2 with h2 | ⟨e2, h2⟩
    · left; omega
    · right
      refine ⟨by omega, ?_⟩
      rcases h1 with h1 | ⟨u1, h1⟩
      · rcases h2 with h2 | ⟨u2, h2⟩
        · exact .inl (sLt_transO h1 h2)
        · exact .inl (by rw [← u2]; exact h1)
      · rcases h2 with h2 | ⟨u2, h2⟩
        · exact .inl (by rw [u1]; exact h2)
        · exact .inr ⟨u1.trans u2, sLt_transO h1 h2⟩
theorem ltDU_tot {x y : DU} (h1 : ltDU x y = false) (h2 : ltDU y x = false) : x = y := by
  rw [← Bool.not_eq_true, ltDU_iff] at *
  have ht : x.tm = y.tm := by
    by_cases h : x.tm < y.tm
    · exact (h1 (.inl h)).elim
    · by_cases h' : y.tm < x.tm
      · exact (h2 (.inl h')).elim
      · omega
  have hu : x.unit = y.unit := sLt_triO (by rw [← Bool.not_eq_true]; exact fun h => h1 (.inr ⟨ht, .inl h⟩)) (by rw [← Bool.not_eq_true]; exact fun h => h2 (.inr ⟨ht.symm, .inl h⟩))
  have hw : x.which = y.which := sLt_triO (by rw [← Bool.not_eq_true]; exact fun h => h1 (.inr ⟨ht, .inr ⟨hu, h⟩⟩)) (by rw [← Bool.not_eq_true]; exact fun h => h2 (.inr ⟨ht.symm, .inr ⟨hu.symm, h⟩⟩))
  obtain ⟨a, b, c⟩ := x
  obtain ⟨a', b', c'⟩ := y
  simp only at ht hu hw
  subst_vars; rfl
theorem ltDU_asym {x y : DU} (h : ltDU x y = true) : ltDU y x = false := by
  cases h' : ltDU y x with
  | false => rfl
  | true => have := ltDU_tr h h'; rw [ltDU_irr] at this; cases this
theorem ltDU_ntr {x y z : DU} (h1 : ltDU x y = false) (h2 : ltDU y z = false) : ltDU x z = false := by
  cases h : ltDU x z with
  | false => rfl
  | true =>
    cases h3 : ltDU y x with
    | true => have := ltDU_tr h3 h; rw [h2] at this; cases this
    | false =>
      have := ltDU_tot h1 h3
      subst this
      rw [h2] at h; cases h
theorem leDU_tr (x y z : DU) (h1 : (!ltDU y x) = true) (h2 : (!ltDU z y) = true) : (!ltDU z x) = true := by
  rw [Bool.not_eq_true'] at *
  exact ltDU_ntr h2 h1
theorem leDU_tot (x y : DU) : (!ltDU y x || !ltDU x y) = true := by
  cases h : ltDU y x with
  | false => rfl
  | true => rw [ltDU_asym h]; rfl
theorem mergeDU_perm {l1 l2 : List DU} (h : l1.Perm l2) : (l1.mergeSort fun x y => !ltDU y x) = l2.mergeSort fun x y => !ltDU y x := by
  refine List.Perm.eq_of_pairwise (le := fun x y => (!ltDU y x) = true) (fun a b _ _ h1 h2 => ?_) (List.pairwise_mergeSort leDU_tr leDU_tot l1) (List.pairwise_mergeSort leDU_tr leDU_tot l2) ((List.mergeSort_perm _ _).trans (h.trans (List.mergeSort_perm _ _).symm))
  rw [Bool.not_eq_true'] at h1 h2
  exact ltDU_tot h2 h1
theorem dues_perm (ts : List (Key × Int)) : (dues ts).Perm (ts.map duOf) := List.mergeSort_perm _ _
theorem dues_sorted (ts : List (Key × Int)) : (dues ts).Pairwise fun x y => ltDU y x = false := by
  refine (List.pairwise_mergeSort leDU_tr leDU_tot (ts.map duOf)).imp fun h => ?_
  rwa [Bool.not_eq_true'] at h
theorem length_dues (ts : List (Key × Int)) : (dues ts).length = ts.length := by rw [(dues_perm ts).length_eq]; simp
theorem dues_eq {ts : List (Key × Int)} {l : List DU} (h : l.Perm (ts.map duOf)) (hs : l.Pairwise fun x y => ltDU y x = false) : dues ts = l := by
  refine List.Perm.eq_of_pairwise (le := fun x y => ltDU y x = false) (fun a b _ _ h1 h2 => ltDU_tot h2 h1) (dues_sorted ts) hs ((dues_perm ts).trans h.symm)

/-! ### Keys with stamps -/
section
variable {β : Type}
theorem stamp_inj : ∀ {es : List (Key × (Nat × β))}, (es.map (·.2.1)).Nodup → ∀ a ∈ es, ∀ b ∈ es, a.2.1 = b.2.1 → a = b
  | [], _, a, ha, _, _, _ => by cases ha
  | e :: es, h, a, ha, b, hb, hab => by
    simp only [List.map_cons, List.nodup_cons] at h
    rcases List.mem_cons.1 ha with ea | ha'
    · rcases List.mem_cons.1 hb with eb | hb'
      · rw [ea, eb]
      · exact (h.1 (by rw [← ea, hab]; exact List.mem_map.2 ⟨b, hb', rfl⟩)).elim
    · rcases List.mem_cons.1 hb with eb | hb'
      · exact (h.1 (by rw [← eb, ← hab]; exact List.mem_map.2 ⟨a, ha', rfl⟩)).elim
      · exact stamp_inj h.2 a ha' b hb' hab
theorem mdel_born : ∀ {es : List (Key × (Nat × β))}, (es.Pairwise fun a b => keyEq a.1 b.1 = false) → (es.map (·.2.1)).Nodup → ∀ {k : Key} {born : Nat} {v : β}, (k, born, v) ∈ es → mdel es k = es.filter fun e => e.2.1 != born
  | [], _, _, _, _, _, hm => by cases hm
  | (k', b', v') :: es, hp, hn, k, born, v, hm => by
    have hp' := List.pairwise_cons.1 hp
    simp only [List.map_cons, List.nodup_cons] at hn
    simp only [mdel]
    rcases List.mem_cons.1 hm with he | hm
    · cases he
      rw [keyEq_self]
      simp only [List.filter_cons, bne_self_eq_false, Bool.false_eq_true, if_false]
      refine (List.filter_eq_self.2 fun e he => ?_).symm
      simp only [bne_iff_ne, ne_eq]
      intro hb
      exact hn.1 (by rw [← hb]; exact List.mem_map.2 ⟨e, he, rfl⟩)
    · have h1 : keyEq k k' = false := by rw [keyEq_comm]; exact hp'.1 _ hm
      rw [h1]
      have hb : b' ≠ born := fun hb => hn.1 (by rw [hb]; exact List.mem_map.2 ⟨_, hm, rfl⟩)
      simp only [List.filter_cons, bne_iff_ne, ne_eq, hb, not_false_eq_true, if_true]
      rw [mdel_born hp'.2 hn.2 hm]
theorem pw_of_keys {es : List (Key × (Nat × β))} {ts : List (Key × β)} (he : es.map (fun e => (e.1, e.2.2)) = ts) (hk : keysOk ts) : es.Pairwise fun a b => keyEq a.1 b.1 = false := by
  subst he
  unfold keysOk at hk
  rw [List.pairwise_map] at hk
  exact hk
theorem vis_perm {es vis : List (Key × (Nat × β))} (hn : (es.map (·.2.1)).Nodup) (h1 : ∀ e ∈ vis, e ∈ es) (h2 : (vis.map (·.2.1)).Nodup) (h3 : ∀ e ∈ es, e.2.1 ∈ vis.map (·.2.1)) : vis.Perm es := by
  have n1 : es.Nodup := List.Pairwise.of_map (·.2.1) (fun a b h e => h (by rw [e])) hn
  have n2 : vis.Nodup := List.Pairwise.of_map (·.2.1) (fun a b h e => h (by rw [e])) h2
  refine (List.perm_ext_iff_of_nodup n2 n1).2 fun a => ⟨h1 a, fun ha => ?_⟩
  obtain ⟨b, hb, e⟩ := List.mem_map.1 (h3 a ha)
  have := stamp_inj hn b (h1 b hb) a ha e
  rw [← this]; exact hb
end

def delE (es : List (Key × (Nat × Int))) (seen : List Nat) (un : ByteArray) : List (Key × (Nat × Int)) := es.filter fun e => !(decide (e.2.1 ∈ seen) && sEq (keyU e.1) un)
section
variable {es : List (Key × (Nat × Int))} {seen : List Nat} {un : ByteArray}
theorem delE_nil : delE es [] un = es := List.filter_eq_self.2 fun e _ => by simp
theorem delE_del (hp : es.Pairwise fun a b => keyEq a.1 b.1 = false) (hn : (es.map (·.2.1)).Nodup) {k : Key} {born : Nat} {v : Int} (hm : (k, born, v) ∈ delE es seen un) (hu : sEq (keyU k) un = true) : mdel (delE es seen un) k = delE es (snoc seen born) un := by
  have hm0 : (k, born, v) ∈ es := (List.mem_filter.1 hm).1
  have hs1 : (delE es seen un).Sublist es := List.filter_sublist
  rw [mdel_born (hp.sublist hs1) ((hs1.map _).nodup hn) hm]
  unfold delE
  rw [List.filter_filter]
  refine List.filter_congr fun e he => ?_
  rw [snoc_eq]
  by_cases hb : e.2.1 = born
  · have : e = (k, born, v) := stamp_inj hn e he _ hm0 hb
    subst this
    simp [hu]
  · simp [hb]
theorem delE_keep (hn : (es.map (·.2.1)).Nodup) {k : Key} {born : Nat} {v : Int} (hm : (k, born, v) ∈ delE es seen un) (hu : sEq (keyU k) un = false) : delE es seen un = delE es (snoc seen born) un := by
  have hm0 : (k, born, v) ∈ es := (List.mem_filter.1 hm).1
  unfold delE
  refine List.filter_congr fun e he => ?_
  rw [snoc_eq]
  by_cases hb : e.2.1 = born
  · have : e = (k, born, v) := stamp_inj hn e he _ hm0 hb
    subst this
    simp [hu]
  · simp [hb]
theorem delE_end (h : ∀ e ∈ delE es seen un, e.2.1 ∈ seen) : delE es seen un = es.filter fun e => !sEq (keyU e.1) un := by
  refine List.filter_congr fun e he => ?_
  by_cases hs : e.2.1 ∈ seen
  · simp [hs]
  · cases hu : sEq (keyU e.1) un with
    | false => simp
    | true =>
      have := h e (List.mem_filter.2 ⟨he, by simp [hs]⟩)
      exact absurd this hs
theorem seen_less {es : List (Key × (Nat × Int))} {seen : List Nat} {e : Key × (Nat × Int)} (he : e ∈ es) (hs : e.2.1 ∉ seen) : (es.filter fun x => decide (x.2.1 ∉ snoc seen e.2.1)).length < (es.filter fun x => decide (x.2.1 ∉ seen)).length := by
  have h1 : (es.filter fun x => decide (x.2.1 ∉ snoc seen e.2.1)) = (es.filter fun x => decide (x.2.1 ∉ seen)).filter fun x => x.2.1 != e.2.1 := by
    rw [List.filter_filter]
    refine List.filter_congr fun x _ => ?_
    rw [snoc_eq]
    by_cases h1 : x.2.1 = e.2.1 <;> by_cases h2 : x.2.1 ∈ seen <;> simp [h1, h2, hs]
  rw [h1]
  exact List.length_filter_lt_length_iff_exists.2 ⟨e, List.mem_filter.2 ⟨he, by simp [hs]⟩, by simp⟩
end
end Go.Proofs.Ytkcmgcoppecfpaa

namespace Go.Proofs.Ytkcmgcoppecfpaa
open Go Go.RowKit

theorem lf_start (K : List Frm → Sy → Prop) (N : List Ent → SV → Prop) (s : LO) (b : Nat) (un : ByteArray) : (run Try.prog qTE5 true [] K (retP Try.prog Try.f39.results.toList N) 900 [.code (bodyOf Try.f39)] ⟨padTo 34 [.ptr 0 b 0, .str un], [⟨.blk b, .cells [.ptr 1 s.qb 0, .map 2 s.bm] 148⟩, pkA s.qb quEE s.ev, ⟨.blk s.bm, .mapL (some (.tup [none, none])) encTm (s.ts)⟩]⟩) = (
true = true ∧
 ∀ (b_1 : Nat),
  b = b ∧
   true = true ∧
    86 = (86 : FuncId) ∧
     s.2 = s.2 ∧
      ∃ (h : QUE = QUE),
       AdtIs (fun (s : QUE) (b : Nat) ↦ packs (quEE s b)) quEE ∧
        ∃ (un_1 : ByteArray),
         some (Ent.mk (Loc.blk b_1) (SObj.cells [SV.str un] 9)) = some (Ent.mk (Loc.blk b_1) (SObj.cells [SV.str un_1] (9 : TypeId))) ∧
          false = false ∧
           qOkE (cast h s.1) ∧
            b = b ∧
             s.3 = s.3 ∧
              ∀ (es' : List (Key × Nat × Int)) (clk b_2 : Nat),
               List.map (fun (e : Key × Nat × Int) ↦ (e.fst, e.snd.snd)) es' = s.4 →
                List.Nodup (List.map (fun (x : Key × Nat × Int) ↦ x.snd.fst) es') →
                 K (frm [] (bodyOf Try.f39) [1, 1, 0, 1, 0] [])
                  (Sy.mk (SV.ptr 0 b 0 :: (SV.str un :: (SV.raw (Value.tuple #[]) :: (SV.ptr 3 b_1 0 :: (SV.int IntKind.i64 (0 : Int) :: ((SV.int IntKind.i64 ((↑(List.length s.1.1) : Int) - (↑(List.length (List.filter (fun (x : EV) ↦ !qEpred un_1 x) s.1.1)) : Int))) :: (SV.raw (Value.tuple #[]) :: (SV.ptr 0 b 0 :: (SV.ptr 0 b 0 :: (SV.ptr 0 b 0 :: (SV.ptr 1 s.2 0 :: (SV.func (Fn.func 86) [] [SV.ptr 3 b_1 0] :: ((SV.int IntKind.i64 ((↑(List.length s.1.1) : Int) - (↑(List.length (List.filter (fun (x : EV) ↦ !qEpred un_1 x) s.1.1)) : Int))) :: (SV.ptr 0 b 0 :: (SV.ptr 0 b 0 :: (SV.ptr 0 b 1 :: (SV.map 2 s.3 :: (SV.ptr 4 b_2 0 :: (rawE [] 16)))))))))))))))))))
                   [Ent.mk (Loc.blk b) (SObj.cells [SV.ptr 1 s.2 0, SV.map 2 s.3] (148 : TypeId)),
                    pkA s.2 quEE (QUE.mk (List.filter (fun (x : EV) ↦ !qEpred un_1 x) s.1.1) s.1.2),
                    Ent.mk (Loc.blk s.3) (SObj.mapS (some (KK.tup [@none IntKind, @none IntKind])) encTm es' clk), Ent.mk (Loc.blk b_1) (SObj.cells [SV.str un] 9),
                    Ent.mk (Loc.blk b_2) (SObj.iter 2 s.3 clk [])])) := by kernel_rfl


theorem lf_body (K : List Frm → Sy → Prop) (N : List Ent → SV → Prop) (J : Act → World → Prop) (s : LO) (b : Nat) (ev : QUE) (es : List (Key × (Nat × Int))) (clk b3 bi : Nat) (seen : List Nat) (un : ByteArray) (n : Int) (u : Nat → Value) : (run Try.prog [] true [] K (retP Try.prog Try.f39.results.toList N) 900 (frm [J] (bodyOf Try.f39) [1, 1, 0, 1, 0, 0] []) ⟨mkT u 34 0 [(0, .ptr 0 b 0), (3, .ptr 3 b3 0), (5, .int .i64 n), (17, .ptr 4 bi 0)], [⟨.blk b, .cells [.ptr 1 s.qb 0, .map 2 s.bm] 148⟩, pkA s.qb quEE (ev), ⟨.blk s.bm, .mapS (some (.tup [none, none])) encTm (es) clk⟩, ⟨.blk b3, .cells [.str un] 9⟩, ⟨.blk bi, .iter 2 s.bm clk (seen)⟩]⟩) = (
(bi = bi ∧ s.3 = s.3 ∧ clk = clk) ∧
 (∀ (s_1 s_2 : ByteArray) (born : Nat) (v : Int),
  (Key.g [KV.s s_1, KV.s s_2], born, v) ∈ es →
   ¬born ∈ seen →
    (bi = bi ∧ s.3 = s.3 ∧ clk = clk) ∧
     ∃ (s_3 : ByteArray),
      ∃ (s_4 : ByteArray),
       ∃ (born_1 : Nat),
        ∃ (v_1 : Int),
         ∃ (seen0 : List Nat),
          (Key.g [KV.s s_3, KV.s s_4], born_1, v_1) ∈ es ∧
           snoc seen born = snoc seen0 born_1 ∧
            ∀ (b_1 : Nat),
             (b_1 = b_1 ∧ true = true ∧ 2 = 2 ∧ 2 ≤ 2) ∧
              b_1 = b_1 ∧
               b3 = b3 ∧
                match sEq s_3 un with
                | true =>
                 b = b ∧
                  (b_1 = b_1 ∧ 2 = 2) ∧
                   (s.3 = s.3 ∧
                    some (KK.tup [@none IntKind, @none IntKind]) = some (KK.tup [@none IntKind, @none IntKind]) ∧
                     some (KK.tup [@none IntKind, @none IntKind]) = some (KK.tup [@none IntKind, @none IntKind])) ∧
                    K (Frm.loop J :: Frm.blk 0 :: frm [] (bodyOf Try.f39) [1, 1, 1] [])
                     (Sy.mk (SV.ptr 0 b 0 :: (SV.raw (u 1) :: (SV.raw (u 2) :: (SV.ptr 3 b3 0 :: (SV.raw (u 4) :: (SV.int IntKind.i64 (IntKind.wrap IntKind.i64 (n + (1 : Int))) :: (SV.ptr 5 b_1 0 :: (rawR u 7 (SV.ptr 4 bi 0 :: (SV.tuple [SV.bool true, SV.agg [SV.str s_1, SV.str s_2], SV.int IntKind.i64 v] :: (SV.bool true :: (SV.tuple [SV.agg [SV.str s_3, SV.str s_4], SV.int IntKind.i64 v_1] :: (SV.agg [SV.str s_3, SV.str s_4] :: (SV.ptr 5 b_1 0 :: (SV.str s_3 :: (SV.str un :: (SV.bool true :: (SV.ptr 0 b 0 :: (SV.ptr 0 b 0 :: (SV.ptr 0 b 1 :: (SV.map 2 s.3 :: (SV.agg [SV.str s_3, SV.str s_4] :: (SV.int IntKind.i64 n :: (SV.int IntKind.i64 (IntKind.wrap IntKind.i64 (n + (1 : Int))) :: (SV.raw (u 33) :: []))))))))))))))))) 10))))))))
                      [Ent.mk (Loc.blk b) (SObj.cells [SV.ptr 1 s.2 0, SV.map 2 s.3] (148 : TypeId)), pkA s.2 quEE ev,
                       Ent.mk (Loc.blk s.3) (SObj.mapS (some (KK.tup [@none IntKind, @none IntKind])) encTm (mdel es (Key.g [KV.s s_3, KV.s s_4])) clk),
                       Ent.mk (Loc.blk b3) (SObj.cells [SV.str un] (9 : TypeId)), Ent.mk (Loc.blk bi) (SObj.iter 2 s.3 clk (snoc seen born)),
                       Ent.mk (Loc.blk b_1) (SObj.cells [SV.str s_3, SV.str s_4] 150)])
                | false =>
                 K (Frm.loop J :: Frm.blk 0 :: frm [] (bodyOf Try.f39) [1, 1, 1] [])
                  (Sy.mk (SV.ptr 0 b 0 :: (SV.raw (u 1) :: (SV.raw (u 2) :: (SV.ptr 3 b3 0 :: (SV.raw (u 4) :: (SV.int IntKind.i64 n :: (SV.ptr 5 b_1 0 :: (rawR u 7 (SV.ptr 4 bi 0 :: (SV.tuple [SV.bool true, SV.agg [SV.str s_1, SV.str s_2], SV.int IntKind.i64 v] :: (SV.bool true :: (SV.tuple [SV.agg [SV.str s_3, SV.str s_4], SV.int IntKind.i64 v_1] :: (SV.agg [SV.str s_3, SV.str s_4] :: (SV.ptr 5 b_1 0 :: (SV.str s_3 :: (SV.str un :: (SV.bool false :: (rawR u 26 [] 8)))))))))) 10))))))))
                   [Ent.mk (Loc.blk b) (SObj.cells [SV.ptr 1 s.2 0, SV.map 2 s.3] (148 : TypeId)), pkA s.2 quEE ev,
                    Ent.mk (Loc.blk s.3) (SObj.mapS (some (KK.tup [@none IntKind, @none IntKind])) encTm es clk), Ent.mk (Loc.blk b3) (SObj.cells [SV.str un] (9 : TypeId)),
                    Ent.mk (Loc.blk bi) (SObj.iter 2 s.3 clk (snoc seen born)), Ent.mk (Loc.blk b_1) (SObj.cells [SV.str s_3, SV.str s_4] 150)])) ∧
  ((∀ (e : Key × Nat × Int), e ∈ es → e.snd.fst ∈ seen) →
   N
    [Ent.mk (Loc.blk b) (SObj.cells [SV.ptr 1 s.2 0, SV.map 2 s.3] (148 : TypeId)), pkA s.2 quEE ev,
     Ent.mk (Loc.blk s.3) (SObj.mapS (some (KK.tup [@none IntKind, @none IntKind])) encTm es clk), Ent.mk (Loc.blk b3) (SObj.cells [SV.str un] (9 : TypeId)),
     Ent.mk (Loc.blk bi) (SObj.iter 2 s.3 clk seen)]
    (SV.int IntKind.i64 n))) := by kernel_rfl
end Go.Proofs.Ytkcmgcoppecfpaa

/- Loops: Forget. -/
namespace Go.Proofs.Ytkcmgcoppecfpaa
open Go Go.RowKit
theorem filter_one {β : Type} : ∀ {es : List (Key × (Nat × β))}, (es.map (·.2.1)).Nodup → ∀ {k : Key} {born : Nat} {v : β}, (k, born, v) ∈ es → (es.filter fun e => e.2.1 != born).length + 1 = es.length
  | [], _, _, _, _, hm => by cases hm
  | e :: es, hn, k, born, v, hm => by
    simp only [List.map_cons, List.nodup_cons] at hn
    rcases List.mem_cons.1 hm with he | hm
    · subst he
      have : (es.filter fun e => e.2.1 != born) = es := List.filter_eq_self.2 fun e he => by
        simp only [bne_iff_ne, ne_eq]
        intro hb
        exact hn.1 (by rw [← hb]; exact List.mem_map.2 ⟨e, he, rfl⟩)
      simp [List.filter_cons, this]
    · have hb : e.2.1 ≠ born := fun hb => hn.1 (by rw [hb]; exact List.mem_map.2 ⟨_, hm, rfl⟩)
      have := filter_one hn.2 hm
      simp [List.filter_cons, hb, this]
theorem lForget_ok : CtrOk Try.prog 39 (adtC loE lforgetM) := adt_ok fun b s rest N h => by
  unfold lforgetM at h
  split at h
  case h_2 => exact h.elim
  rename_i un
  obtain ⟨ho, hN⟩ := h
  refine Spec.pre (hs' := [⟨.blk b, .cells [.ptr 1 s.qb 0, .map 2 s.bm] 148⟩, pkA s.qb quEE s.ev, ⟨.blk s.bm, .mapL (some (.tup [none, none])) encTm (s.ts)⟩]) (args' := [.ptr 0 b 0, .str un]) (fun W F w hr => hr) rfl ?_
  refine Spec.up ?_
  refine Spec.of_G 34 Try.func39 (c := bodyOf Try.f39) (by kernel_rfl) (by kernel_rfl) (Nat.le_of_ble_eq_true rfl) fun W F => ?_
  refine G_run (kc := true) (ss := []) qTE5_ok hmLo 900 ?_
  rw [lf_start]
  refine ⟨rfl, fun b3 => ⟨rfl, rfl, rfl, rfl, rfl, HEq.rfl, un, rfl, rfl, ho.ev, rfl, rfl, fun es0 clk bi hes hnd => ?_⟩⟩
  have hp := pw_of_keys hes ho.ks
  have hlen0 : es0.length = s.ts.length := by rw [← hes]; simp
  have hl1 := ho.len
  have hl2 := ho.ev.l
  have hfl : (s.ev.l.filter (fun x => !sEq x.unit un)).length ≤ s.ev.l.length := List.length_filter_le _ _
  have hde : ∀ i, (delE es0 i un).length ≤ s.ts.length := fun i => by rw [← hlen0]; exact List.length_filter_le _ _
  refine G_loopAt (ι := List Nat) [] (bodyOf Try.f39) [1, 1, 0, 1, 0] 34 (fun i : List Nat => [(0, .ptr 0 b 0), (3, .ptr 3 b3 0), (5, .int .i64 (((s.ev.l.length : Int) - ((s.ev.l.filter (fun x => !sEq x.unit un)).length : Int)) + ((s.ts.length : Int) - ((delE es0 i un).length : Int)))), (17, .ptr 4 bi 0)]) (fun i : List Nat => [⟨.blk b, .cells [.ptr 1 s.qb 0, .map 2 s.bm] 148⟩, pkA s.qb quEE (⟨s.ev.l.filter (fun x => !sEq x.unit un), s.ev.n⟩), ⟨.blk s.bm, .mapS (some (.tup [none, none])) encTm (delE es0 i un) clk⟩, ⟨.blk b3, .cells [.str un] 9⟩, ⟨.blk bi, .iter 2 s.bm clk (i)⟩]) (fun _ => True) (fun i => (es0.filter fun e => decide (e.2.1 ∉ i)).length) [] (by kernel_rfl) (fun J => by kernel_rfl) trivial rfl ⟨rfl, rfl, ?_, rfl, trivial⟩ (fun w hr => ?_) ?_
  · rw [delE_nil, hlen0]
    show Value.int .i64 _ = Value.int .i64 _
    congr 1
    show _ = ((s.ev.l.length : Int) - ((s.ev.l.filter (fun x => !sEq x.unit un)).length : Int)) + _
    unfold qEpred
    omega
  · try dsimp only
    rw [delE_nil]
    exact hr
  rintro seen - u
  try dsimp only
  simp only [List.nil_append, List.cons_append]
  refine G_run (kc := true) (ss := []) (Cs := []) trivial hmLo 900 ?_
  rw [lf_body]
  refine ⟨⟨rfl, rfl, rfl⟩, fun s1 s2 born v hm hns => ⟨⟨rfl, rfl, rfl⟩, s1, s2, born, v, seen, hm, rfl, fun b6 => ⟨⟨rfl, rfl, rfl, Nat.le_refl _⟩, rfl, rfl, ?_⟩⟩, fun hall => ?_⟩
  · have hm0 : (Key.g [KV.s s1, KV.s s2], born, v) ∈ es0 := (List.mem_filter.1 hm).1
    have hmu := seen_less (seen := seen) hm0 hns
    cases hu : sEq s1 un with
    | false =>
      have e := delE_keep hnd hm hu
      refine G_back (snoc seen born) trivial hmu rfl ⟨rfl, rfl, ?_, rfl, trivial⟩ (fun w hr => ?_)
      · rw [← e]; rfl
      · try dsimp only
        rw [← e]
        exact Rep.dropR (h := [_, _, _, _, _]) hr
    | true =>
      have e := delE_del hp hnd hm hu
      have hlt : (mdel (delE es0 seen un) (Key.g [KV.s s1, KV.s s2])).length + 1 = (delE es0 seen un).length := by
        have hs : (delE es0 seen un).Sublist es0 := List.filter_sublist
        rw [mdel_born (hp.sublist hs) ((hs.map _).nodup hnd) hm]
        exact filter_one ((hs.map _).nodup hnd) hm
      have h1 := hde seen
      have h2 := hde (snoc seen born)
      rw [e] at hlt
      have w1 : IntKind.wrap .i64 (((s.ev.l.length : Int) - ((s.ev.l.filter (fun x => !sEq x.unit un)).length : Int)) + ((s.ts.length : Int) - ((delE es0 seen un).length : Int)) + 1) = ((s.ev.l.length : Int) - ((s.ev.l.filter (fun x => !sEq x.unit un)).length : Int)) + ((s.ts.length : Int) - ((delE es0 (snoc seen born) un).length : Int)) := by
        rw [IntWalk.i64_in _ (by omega)]; omega
      refine ⟨rfl, ⟨rfl, rfl⟩, ⟨rfl, rfl, rfl⟩, ?_⟩
      rw [e]
      refine G_back (snoc seen born) trivial hmu rfl ⟨rfl, rfl, ?_, rfl, trivial⟩ (fun w hr => Rep.dropR (h := [_, _, _, _, _]) hr)
      exact congrArg (Value.int .i64) w1
  · have e := delE_end hall
    rw [e]
    have hmap : (es0.filter fun e => !sEq (keyU e.1) un).map (fun e => (e.1, e.2.2)) = s.ts.filter fun e => !sEq (keyU e.1) un := by
      rw [← hes, List.filter_map]; rfl
    have hlf : ((es0.filter fun e => !sEq (keyU e.1) un).length : Int) = ((s.ts.filter fun e => !sEq (keyU e.1) un).length : Int) := by rw [← hmap]; simp
    rw [hlf]
    refine ⟨_, _, fun W F w hr => ?_, rfl, lForget s un, fun W F w hr => hr, hN⟩
    have h1 := Rep.pick (π := [0, 1, 2]) (by decide) rfl hr
    have h2 := Rep.unmapS (l := 2) rfl h1
    rw [hmap] at h2
    exact h2
end Go.Proofs.Ytkcmgcoppecfpaa

/- slices.SortFunc at structs, under an order that parts whatever isn't one: the row holds core's mergeSort. -/
namespace Go.Proofs.Ytkcmgcoppecfpaa
open Go Go.RowKit Go.Sort Go.Shelf

theorem H.growN {W w : World} {L : List Ch} (h : H W w L) (os : Array Obj) : H W (Sort.grow w os) L := by
  refine ⟨h.st.trans (St.mk' rfl rfl rfl (by simp [Sort.grow]) (Nat.le_refl _)), h.nd, fun b o hb => ?_, h.fresh, fun b hb => ?_⟩
  · have h1 := h.get b o hb
    have h2 := (Array.getElem?_eq_some_iff.1 h1).1
    show (w.heap ++ os)[b]? = _
    rw [Array.getElem?_append_left h2, h1]
  · have h2 : b < w.heap.size := Nat.lt_of_lt_of_le hb h.st.size
    show (w.heap ++ os)[b]? = _
    rw [Array.getElem?_append_left h2]
    exact h.old b hb
theorem H.aheadN {W w : World} {L : List Ch} (h : H W w L) (n : Nat) : H W (Sort.ahead w n) L :=
  h.same (St.mk' rfl rfl rfl (Nat.le_refl _) (Nat.le_add_right _ _)) rfl
theorem H.world {W w : World} {L : List Ch} (h : H W w L) : ∃ q os', w = Sort.grow (W.drewN q) os' := by
  refine ⟨w.drawn - W.drawn, w.heap.extract W.heap.size w.heap.size, ?_⟩
  have h1 := h.st.os; have h2 := h.st.tape; have h3 := h.st.output; have h4 := h.st.size; have h5 := h.st.drawn
  have h6 : w.heap = W.heap ++ w.heap.extract W.heap.size w.heap.size := by
    apply Array.ext_getElem?
    intro k
    by_cases hk : k < W.heap.size
    · rw [Array.getElem?_append_left hk]
      exact h.old k hk
    · rw [Array.getElem?_append_right (by omega), Array.getElem?_extract]
      split
      · congr 1; omega
      · rw [Array.getElem?_eq_none (by omega)]
  obtain ⟨heap, tape, drawn, os, output⟩ := w
  simp only at h1 h2 h3 h4 h5 h6
  unfold Sort.grow World.drewN
  simp only [World.mk.injEq]
  exact ⟨h6, h2, by omega, h1, h3⟩

theorem flatK_flat {α : Type} [Inhabited α] {enc : α → List SV} {sz : Nat} (h : ∀ x, (enc x).length = sz) (xs : List α) : (flatK (fun x => denL (enc x)) sz xs.toArray).toList = flatV enc xs := by
  apply List.ext_getElem?
  intro t
  by_cases ht : t < xs.length * sz
  · have hs : 0 < sz := by rcases Nat.eq_zero_or_pos sz with h0 | h0 <;> first | (subst h0; omega) | exact h0
    have hd : t / sz < xs.length := Nat.div_lt_of_lt_mul (by rw [Nat.mul_comm]; exact ht)
    have hm : t % sz < sz := Nat.mod_lt _ hs
    have e := flatV_get h default xs (t / sz) (t % sz) hd hm
    rw [Nat.div_add_mod'] at e
    rw [e]
    have g := get_flatK (fun x => denL (enc x)) sz xs.toArray t (by simpa using ht)
    have hl : t < (flatK (fun x => denL (enc x)) sz xs.toArray).size := by simpa using ht
    rw [getElem!_pos _ t hl] at g
    have e2 : (xs.toArray)[t / sz]! = xs.getD (t / sz) default := by
      rw [getElem!_pos _ _ (by simpa using hd)]
      simp [List.getD, hd]
    rw [e2] at g
    have hl2 : t % sz < (denL (enc (xs.getD (t / sz) default))).length := by rw [length_denL, h]; exact hm
    rw [getElem!_pos (denL (enc (xs.getD (t / sz) default))) (t % sz) hl2] at g
    rw [List.getElem?_eq_getElem hl2, Array.getElem?_toList, Array.getElem?_eq_getElem hl, g]
  · rw [List.getElem?_eq_none (by simp; omega), List.getElem?_eq_none (by rw [length_flatV h]; omega)]

theorem setN_nthF {α : Type 1} {l : Nat} {v : α} : ∀ {h : List α}, nth h l = some v → setN h l v = h := by
  induction l with
  | zero => intro h hl; cases h <;> simp [nth, setN] at hl ⊢; exact hl.symm
  | succ l ih => intro h hl; cases h <;> simp [nth, setN] at hl ⊢; exact ih hl
theorem allOne_mem : ∀ {cs : List SV}, allOne cs = true → ∀ v ∈ denL cs, v.oneCell' = true
  | [], _, v, hv => by cases hv
  | c :: cs, h, v, hv => by
    simp only [allOne, Bool.and_eq_true] at h
    simp only [denL, List.mem_cons] at hv
    rcases hv with rfl | hv
    · exact oneCell_of_oneSV c h.1
    · exact allOne_mem h.2 v hv
def srtFC {α : Type} (g : FuncId) (T sz : Nat) (enc : α → List SV) (d : α) (lt : α → α → Bool) : Ctr := fun args hs N => match args with
  | [.vec l ao n cap, .func (.func g') [] []] => g' = g ∧ ∃ xs : List α, nth hs l = some ⟨.sl ao cap, .vecL T sz enc xs d⟩ ∧ (n = xs.length ∧ xs.length ≤ 1000000000) ∧ N (setN hs l ⟨.sl ao cap, .vecL T sz enc (xs.mergeSort fun x y => !lt y x) d⟩) (.tuple [])
  | [.raw (.slice none 0 0), .func (.func g') [] []] => g' = g ∧ N hs (.tuple [])
  | _ => False

theorem srtF_ok {ρ : Ren} {α : Type} [Inhabited α] {P : Program} {enc : α → List SV} {d : α} {T sz : Nat} {cf : α → α → Int} {g : FuncId} (L : SlLaysF0.n6 P ρ) (hT : ρ.t 24 = T) (aE : ∀ w, (isAgg T).run P w = .ok true w) (zE : ∀ w, (Go.sizeOf T).run P w = .ok sz w) (hk : ∀ x, (enc x).length = sz) (hone : ∀ x, allOne (enc x) = true)
    (hO : SWO (ltOf cf)) (htot : ∀ x y, (ltOf cf) x y = false → (ltOf cf) y x = false → x = y) (eg : ∀ args w, (callFunc g args).run P w = .ok (.enter g args) w)
    (hg : ∀ x y, Spec P g [] [.agg (enc x), .agg (enc y)] fun _ r => r = .int .i64 (cf x y)) : CtrOk P (ρ.f 6) (srtFC g T sz enc d (ltOf cf)) := by
  intro args hs N h
  unfold srtFC at h
  split at h
  case h_3 => exact h.elim
  · rename_i l ao n cap g'
    obtain ⟨rfl, xs, hl, ⟨rfl, hlen⟩, hN⟩ := h
    intro W F w hr
    have hz := fun p cap => AnyF.slices_SortFunc_none (P := P) (ρ := ρ) { L with } p cap (.func (.func g') #[] #[]) w
    cases hxs : xs with
    | nil =>
      subst hxs
      have := hz ao cap
      refine Calls.mono this ?_
      rintro e w' ⟨rfl, rfl⟩
      refine ⟨_, _, hN, rfl, ?_⟩
      have e1 : ([] : List α).mergeSort (fun x y => !ltOf cf y x) = [] := by simp
      rw [e1, setN_nthF hl]
      exact hr
    | cons x0 xs0 =>
      rw [← hxs]
      have hpos : 0 < xs.length := by rw [hxs]; simp
      clear hxs
      obtain ⟨c, L0, ⟨hOwn, hel⟩, hH, hput⟩ := hr.get hl
      obtain ⟨o1, o2, ⟨o3, o4, o5⟩ | ⟨gb, off, cur, rfl, rfl, o3, o4⟩⟩ := hOwn
      · omega
      have hblk : gb < w.heap.size := (Array.getElem?_eq_some_iff.1 (hH.heap .here)).1
      have hfl := flatK_flat hk xs
      have hfsz : (flatK (fun x => denL (enc x)) sz xs.toArray).size = xs.length * sz := by simp
      have hcell : ∀ j, j < xs.length * sz → w.cell? ⟨gb, off + j, none⟩ = some ((flatK (fun x => denL (enc x)) sz xs.toArray)[j]!) := by
        intro j hj
        have e1 : ((cur.toList.drop off).take (xs.length * sz))[j]? = (flatV enc xs)[j]? := by rw [o4]
        rw [List.getElem?_take, if_pos hj, List.getElem?_drop] at e1
        have hl2 : j < (flatK (fun x => denL (enc x)) sz xs.toArray).size := by omega
        rw [getElem!_pos _ j hl2]
        have e2 : (flatV enc xs)[j]? = some (flatK (fun x => denL (enc x)) sz xs.toArray)[j] := by
          rw [← hfl, Array.getElem?_toList, Array.getElem?_eq_getElem hl2]
        simp only [World.cell?, hH.heap .here, Option.isSome_none, Bool.false_eq_true, if_false]
        rw [← Array.getElem?_toList, e1, e2]
      have hHK : HoldsK (fun x => denL (enc x)) sz w gb off xs.toArray := by
        intro j hj
        rw [hfsz] at hj
        exact ⟨hcell j hj, hH.frozen .here (off + j)⟩
      have hcmp : CmpLays P g' #[] (fun x => denL (enc x)) sz cf gb off xs.toArray.size w := by
        intro m os dk hs x y
        have h1 : Rep (sortWorldK (fun x => denL (enc x)) sz w gb off m dk os) [] [] (sortWorldK (fun x => denL (enc x)) sz w gb off m dk os) := ⟨[], rfl, H.none _⟩
        have h2 := hg x y _ _ _ h1
        have e : (denL [.agg (enc x), .agg (enc y)]).toArray = #[.agg (denL (enc x)).toArray, .agg (denL (enc y)).toArray] ++ #[] := rfl
        rw [e] at h2
        refine Calls.mono h2 ?_
        rintro e w' ⟨h', r, rfl, rfl, hr'⟩
        obtain ⟨cs, _, hH'⟩ := hr'
        exact ⟨rfl, hH'.world⟩
      have h1 : ∀ x, ∀ v ∈ denL (enc x), v.oneCell' = true := fun x v hv => allOne_mem (hone x) v hv
      have main := AnyQ.slices_SortFunc_total L sz (by rw [hT]; exact aE) (by rw [hT]; exact zE) (fun x => denL (enc x)) (fun x => by rw [length_denL]; exact hk x) h1 cf hO g' #[] gb off cap xs.toArray w eg hcmp hHK hblk (by simp; omega) htot
      have ea : (denL [.vec l (some ⟨gb, off, none⟩) xs.length cap, .func (.func g') [] []]).toArray = #[.slice (some ⟨gb, off, none⟩) xs.toArray.size cap, .func (.func g') #[] #[]] := by simp [denL, den]
      rw [ea]
      refine Calls.mono main ?_
      rintro e w' ⟨rfl, n, os, rfl⟩
      refine ⟨_, _, hN, rfl, ?_⟩
      have hmg : (xs.toArray.toList.mergeSort fun x y => !ltOf cf y x) = xs.mergeSort fun x y => !ltOf cf y x := by simp
      rw [hmg]
      generalize hys : (xs.mergeSort fun x y => !ltOf cf y x) = ys
      have hyl : ys.length = xs.length := by rw [← hys]; simp
      have hflY := flatK_flat hk ys
      have hfszY : (flatK (fun x => denL (enc x)) sz ys.toArray).size = xs.length * sz := by simp [hyl]
      refine hput ⟨.sl (some ⟨gb, off, none⟩) cap, .vecL T sz enc ys d⟩ [(gb, .cells (Sort.putCells id off (flatK (fun x => denL (enc x)) sz ys.toArray) cur) T (0, 0))] _ ⟨⟨by rw [length_flatV hk], by omega, .inr ⟨gb, off, _, rfl, rfl, by simpa [Sort.putCells] using o3, ?_⟩⟩, hel⟩ ?_
      · rw [hyl, ← hflY]
        apply List.ext_getElem?
        intro j
        rw [List.getElem?_take]
        split
        · rename_i hj
          have hj : j < xs.length * sz := by
            first
              | exact hj
              | (rw [← hyl]; exact hj)
          rw [List.getElem?_drop]
          have hmul : xs.length * sz ≤ cap * sz := Nat.mul_le_mul_right _ o2
          have hlt : off + j < cur.size := by omega
          have hl2 : j < (flatK (fun x => denL (enc x)) sz ys.toArray).size := by
            rw [hfszY]
            exact hj
          simp only [Sort.putCells, Array.getElem?_toList, Array.getElem?_mapIdx, Array.getElem?_eq_getElem hlt, Option.map_some]
          rw [if_pos ⟨by omega, by omega⟩, Array.getElem?_eq_getElem hl2]
          have : off + j - off = j := by omega
          rw [this, getElem!_pos _ j hl2]; rfl
        · rename_i hj
          rw [List.getElem?_eq_none]
          rw [Array.length_toList, hfszY]
          first
            | omega
            | (rw [← hyl]; omega)
      · refine H.growN ?_ os
        refine (hH.aheadN n).set .here (St.mk' rfl rfl rfl (by simp [Sort.putRow, Sort.mapBlock, putRowK]) (Nat.le_refl _)) fun k => ?_
        show ((Sort.ahead w n).heap.modify gb (onCells (Sort.putCells id off (flatK (fun x => denL (enc x)) sz ys.toArray))))[k]? = _
        rw [Array.getElem?_modify]
        split
        · rename_i hk'
          subst hk'
          rw [if_pos rfl]
          have : (Sort.ahead w n).heap[gb]? = some (.cells cur T (0, 0)) := hH.heap .here
          rw [this]; rfl
        · rename_i hk'
          rw [if_neg (fun e => hk' e.symm)]
  · rename_i g'
    obtain ⟨rfl, hN⟩ := h
    intro W F w hr
    have := AnyF.slices_SortFunc_none (P := P) (ρ := ρ) { L with } none 0 (.func (.func g') #[] #[]) w
    refine Calls.mono this ?_
    rintro e w' ⟨rfl, rfl⟩
    exact ⟨_, _, hN, rfl, hr⟩
end Go.Proofs.Ytkcmgcoppecfpaa

/- Loops: Timers' table. -/
namespace Go.Proofs.Ytkcmgcoppecfpaa
open Go Go.RowKit

def loTT : Tbl := [(87, srtFC 88 72 3 encDU DU.zero ltDU), (92, inl Try.prog [] true Try.f92 300)]
end Go.Proofs.Ytkcmgcoppecfpaa

