import Derived.Test.YtkcmgcoppecfpaaMgLoopOnce10
import Derived.Test.YtkcmgcoppecfpaaMgLoopOnce5
import Derived.Shelf.SlSortCmp.NoneTotal
import Derived.Ground.SlsfProg
import Derived.Shelf.SlGeneric
import Derived.Shelf.SlLaysF0
import Derived.Test.YtkcmgcoppecfpaaProg
import Derived.Test.YtkcmgcoppecfpaaMgLoopOnce7
set_option linter.unusedVariables false
set_option linter.unusedSimpArgs false
set_option linter.unnecessarySimpa false
set_option maxHeartbeats 0
set_option maxRecDepth 100000
namespace Go.Proofs.Ytkcmgcoppecfpaa
open Go Go.RowKit

theorem lt_start (K : List Frm → Sy → Prop) (N : List Ent → SV → Prop) (s : LO) (b : Nat) : (run Try.prog loTT true [] K (retP Try.prog Try.f40.results.toList N) 900 [.code (bodyOf Try.f40)] ⟨padTo 29 [.ptr 0 b 0], [⟨.blk b, .cells [.ptr 1 s.qb 0, .map 2 s.bm] 148⟩, pkA s.qb quEE s.ev, ⟨.blk s.bm, .mapL (some (.tup [none, none])) encTm (s.ts)⟩]⟩) = (
b = b ∧
 s.3 = s.3 ∧
  ∀ (es' : List (Key × Nat × Int)) (clk b_1 : Nat),
   List.map (fun (e : Key × Nat × Int) ↦ (e.fst, e.snd.snd)) es' = s.4 →
    List.Nodup (List.map (fun (x : Key × Nat × Int) ↦ x.snd.fst) es') →
     K (frm [] (bodyOf Try.f40) [1, 1, 0, 1, 0] [])
      (Sy.mk (SV.ptr 0 b 0 :: (SV.raw (Value.tuple #[]) :: (SV.raw Value.nilFunc :: (SV.raw (Value.slice (@none Addr) 0 0) :: (SV.raw (Value.tuple #[]) :: (SV.raw (Value.tuple #[]) :: (SV.ptr 0 b 0 :: (SV.ptr 0 b 0 :: (SV.ptr 0 b 1 :: (SV.map 2 s.3 :: (SV.ptr 3 b_1 0 :: (rawE [] 18))))))))))))
       [Ent.mk (Loc.blk b) (SObj.cells [SV.ptr 1 s.2 0, SV.map 2 s.3] (148 : TypeId)), pkA s.2 quEE s.1,
        Ent.mk (Loc.blk s.3) (SObj.mapS (some (KK.tup [@none IntKind, @none IntKind])) encTm es' clk), Ent.mk (Loc.blk b_1) (SObj.iter 2 s.3 clk [])])) := by kernel_rfl


theorem lt_body (K : List Frm → Sy → Prop) (N : List Ent → SV → Prop) (J : Act → World → Prop) (s : LO) (b : Nat) (es : List (Key × (Nat × Int))) (clk bi : Nat) (seen : List Nat) (ao : Option Addr) (cap : Nat) (xs : List DU) (u : Nat → Value) : (run Try.prog loTT true [] K (retP Try.prog Try.f40.results.toList N) 900 (frm [J] (bodyOf Try.f40) [1, 1, 0, 1, 0, 0] []) ⟨mkT u 29 0 [(0, .ptr 0 b 0), (3, .vec 4 ao xs.length cap), (10, .ptr 3 bi 0)], [⟨.blk b, .cells [.ptr 1 s.qb 0, .map 2 s.bm] 148⟩, pkA s.qb quEE s.ev, ⟨.blk s.bm, .mapS (some (.tup [none, none])) encTm (es) clk⟩, ⟨.blk bi, .iter 2 s.bm clk (seen)⟩, ⟨.sl ao cap, .vecL 72 3 encDU (xs) DU.zero⟩]⟩) = (
(bi = bi ∧ s.3 = s.3 ∧ clk = clk) ∧
 (∀ (s_1 s_2 : ByteArray) (born : Nat) (v : Int),
  (Key.g [KV.s s_1, KV.s s_2], born, v) ∈ es →
   ¬born ∈ seen →
    (bi = bi ∧ s.3 = s.3 ∧ clk = clk) ∧
     ∃ (s_3 : ByteArray),
      ∃ (s_4 : ByteArray),
       ∃ (born_1 : Nat),
        ∃ (v_1 : Int),
         ∃ (seen0 : List Nat),
          (Key.g [KV.s s_3, KV.s s_4], born_1, v_1) ∈ es ∧
           snoc seen born = snoc seen0 born_1 ∧
            ∀ (b_1 : Nat),
             (b_1 = b_1 ∧ true = true ∧ 2 = 2 ∧ 2 ≤ 2) ∧
              b_1 = b_1 ∧
               b_1 = b_1 ∧
                (true = true ∧ true = true) ∧
                 (true = true ∧ 3 = 3 ∧ 0 < 3 ∧ 3 ≤ 16777216) ∧
                  ∀ (b_2 : Nat),
                   (ao = ao ∧
                    cap = cap ∧
                     List.length xs = List.length xs ∧
                      some (Addr.mk b_2 0 (@none Nat)) = some (Addr.mk b_2 0 (@none Nat)) ∧
                       (72 : TypeId) = 72 ∧
                        3 = 3 ∧
                         3 = 3 ∧
                          0 < 1 ∧
                           true = true ∧
                            (List.length xs + 1) * 40 ≤ 140737488355328 ∧ List.length xs + 1 ≤ 9223372036854775807) ∧
                    ∃ (es_1 : List DU),
                     List.length es_1 = 1 ∧
                      denL (List.flatMap encDU es_1) = denL [SV.str s_3, SV.str s_4, SV.int IntKind.i64 v_1] ∧
                       ∀ (ao2 : Option Addr) (cap2 : Nat),
                        List.length xs + 1 ≤ cap2 →
                         K (Frm.loop J :: Frm.blk 0 :: frm [] (bodyOf Try.f40) [1, 1, 1] [])
                          (Sy.mk (SV.ptr 0 b 0 :: (SV.raw (u 1) :: (SV.raw (u 2) :: (SV.vec 4 ao2 (List.length xs + 1) cap2 :: (SV.ptr 5 b_1 0 :: (SV.int IntKind.i64 v_1 :: (rawR u 6 (SV.ptr 3 bi 0 :: (SV.tuple [SV.bool true, SV.agg [SV.str s_1, SV.str s_2], SV.int IntKind.i64 v] :: (SV.bool true :: (SV.tuple [SV.agg [SV.str s_3, SV.str s_4], SV.int IntKind.i64 v_1] :: (SV.agg [SV.str s_3, SV.str s_4] :: (SV.int IntKind.i64 v_1 :: (SV.vec 4 ao (List.length xs) cap :: (SV.ptr 5 b_1 0 :: (SV.str s_3 :: (SV.ptr 5 b_1 1 :: (SV.str s_4 :: (SV.int IntKind.i64 v_1 :: (SV.agg [SV.str s_3, SV.str s_4, SV.int IntKind.i64 v_1] :: (SV.vec 6 (some (Addr.mk b_2 0 (@none Nat))) 1 1 :: (SV.vec 4 ao2 (List.length xs + 1) cap2 :: (rawR u 25 [] 4)))))))))))))))) 4)))))))
                           [Ent.mk (Loc.blk b) (SObj.cells [SV.ptr 1 s.2 0, SV.map 2 s.3] (148 : TypeId)), pkA s.2 quEE s.1,
                            Ent.mk (Loc.blk s.3) (SObj.mapS (some (KK.tup [@none IntKind, @none IntKind])) encTm es clk),
                            Ent.mk (Loc.blk bi) (SObj.iter 2 s.3 clk (snoc seen born)),
                            Ent.mk (Loc.sl ao2 cap2) (SObj.vecL (72 : TypeId) 3 encDU (xs ++ es_1) (DU.mk ByteArray.empty ByteArray.empty (0 : Int))),
                            Ent.mk (Loc.blk b_1) (SObj.cells [SV.str s_3, SV.str s_4] 150),
                            Ent.mk (Loc.blk b_2) (SObj.cells [SV.str s_3, SV.str s_4, SV.int IntKind.i64 v_1] 72)])) ∧
  ((∀ (e : Key × Nat × Int), e ∈ es → e.snd.fst ∈ seen) →
   true = true ∧
    88 = (88 : FuncId) ∧
     ∃ (xs_1 : List DU),
      some (Ent.mk (Loc.sl ao cap) (SObj.vecL (72 : TypeId) 3 encDU xs (DU.mk ByteArray.empty ByteArray.empty (0 : Int)))) =
       some (Ent.mk (Loc.sl ao cap) (SObj.vecL 72 3 encDU xs_1 (DU.mk ByteArray.empty ByteArray.empty (0 : Int)))) ∧
       (List.length xs = List.length xs_1 ∧ List.length xs_1 ≤ 1000000000) ∧
        true = true ∧
         true = true ∧
          ∀ (b_1 : Nat),
           N
            [Ent.mk (Loc.blk b) (SObj.cells [SV.ptr 1 s.2 0, SV.map 2 s.3] (148 : TypeId)), pkA s.2 quEE s.1,
             Ent.mk (Loc.blk s.3) (SObj.mapS (some (KK.tup [@none IntKind, @none IntKind])) encTm es clk), Ent.mk (Loc.blk bi) (SObj.iter 2 s.3 clk seen),
             Ent.mk (Loc.sl ao cap) (SObj.vecL 72 3 encDU (List.mergeSort xs_1 fun (x y : DU) ↦ !ltDU y x) (DU.mk ByteArray.empty ByteArray.empty (0 : Int))),
             Ent.mk (Loc.blk b_1) (SObj.cells [SV.vec 4 ao (List.length xs) cap] 69)]
            (SV.func (Fn.func 123) [] [SV.ptr 5 b_1 0]))) := by kernel_rfl
end Go.Proofs.Ytkcmgcoppecfpaa

namespace Go.Proofs.Ytkcmgcoppecfpaa
open Go Go.RowKit

theorem or_run (K : List Frm → Sy → Prop) (N : List Ent → SV → Prop) (ao : Option Addr) (cap : Nat) (xs : List Int) : (run Try.prog [] true [] K (retP Try.prog Try.f89.results.toList N) 900 [.code (bodyOf Try.f89)] ⟨padTo 18 [.vec 0 ao xs.length cap], [⟨.sl ao cap, .vecL 3 1 encIo xs 0⟩]⟩) = (
K (frm [] (bodyOf Try.f89) [1, 1, 0, 1, 0] [])
 (Sy.mk (SV.vec 0 ao (List.length xs) cap :: (SV.raw (Value.tuple #[]) :: (SV.int IntKind.i64 (0 : Int) :: (SV.int IntKind.i64 (0 : Int) :: (SV.raw (Value.tuple #[]) :: (SV.raw (Value.tuple #[]) :: (SV.vec 0 ao (List.length xs) cap :: (SV.int IntKind.i64 (↑(List.length xs) : Int) :: (SV.int IntKind.i64 (0 : Int) :: (rawE [] 9))))))))))
  [Ent.mk (Loc.sl ao cap) (SObj.vecL (3 : TypeId) 1 encIo xs (0 : Int))])) := by kernel_rfl


theorem or_body (K : List Frm → Sy → Prop) (N : List Ent → SV → Prop) (J : Act → World → Prop) (ao : Option Addr) (cap : Nat) (xs : List Int) (i : Nat) (u : Nat → Value) : (run Try.prog [] true [] K (retP Try.prog Try.f89.results.toList N) 900 (frm [J] (bodyOf Try.f89) [1, 1, 0, 1, 0, 0] []) ⟨mkT u 18 0 [(3, .int .i64 0), (6, .vec 0 ao xs.length cap), (7, .int .i64 (xs.length : Int)), (8, .int .i64 (i : Int))], [⟨.sl ao cap, .vecL 3 1 encIo xs 0⟩]⟩) = (
match decide ((↑i : Int) < (↑(List.length xs) : Int)) with
| true =>
 (ao = ao ∧ cap = cap ∧ List.length xs = List.length xs ∧ (0 : Int) ≤ (↑i : Int) ∧ (↑i : Int) < (↑(List.length xs) : Int)) ∧
  (Addr.blkD ao = Addr.blkD ao ∧ Addr.offD ao = Addr.offD ao ∧ 1 = 1 ∧ Int.toNat (↑i : Int) < List.length xs) ∧
   match List.getD xs (Int.toNat (↑i : Int)) (0 : Int) != (0 : Int) with
   | true => N [Ent.mk (Loc.sl ao cap) (SObj.vecL (3 : TypeId) 1 encIo xs (0 : Int))] (SV.int IntKind.i64 (List.getD xs (Int.toNat (↑i : Int)) (0 : Int)))
   | false =>
    K (Frm.loop J :: Frm.blk 0 :: frm [] (bodyOf Try.f89) [1, 1, 1] [])
     (Sy.mk (rawR u 0 (SV.int IntKind.i64 (0 : Int) :: (SV.raw (u 4) :: (SV.int IntKind.i64 (List.getD xs (Int.toNat (↑i : Int)) (0 : Int)) :: (SV.vec 0 ao (List.length xs) cap :: (SV.int IntKind.i64 (↑(List.length xs) : Int) :: (SV.int IntKind.i64 (IntKind.wrap IntKind.i64 ((↑i : Int) + (1 : Int))) :: (SV.bool true :: (SV.eptr 0 (Addr.blkD ao) (Addr.offD ao) 1 (Int.toNat (↑i : Int)) 0 :: (SV.int IntKind.i64 (List.getD xs (Int.toNat (↑i : Int)) (0 : Int)) :: (SV.int IntKind.i64 (List.getD xs (Int.toNat (↑i : Int)) (0 : Int)) :: (SV.int IntKind.i64 (0 : Int) :: (SV.bool false :: (SV.raw (u 15) :: (SV.int IntKind.i64 (IntKind.wrap IntKind.i64 ((↑i : Int) + (1 : Int))) :: (SV.raw (u 17) :: []))))))))))))))) 3)
      [Ent.mk (Loc.sl ao cap) (SObj.vecL (3 : TypeId) 1 encIo xs (0 : Int))])
| false => N [Ent.mk (Loc.sl ao cap) (SObj.vecL (3 : TypeId) 1 encIo xs (0 : Int))] (SV.int IntKind.i64 (0 : Int))) := by kernel_rfl


theorem c64_run (K : List Frm → Sy → Prop) (N : List Ent → SV → Prop) (a c : Int) : (run Try.prog [(121, inl Try.prog [] true Try.f121 300)] true [] K (retP Try.prog Try.f90.results.toList N) 900 [.code (bodyOf Try.f90)] ⟨padTo 20 [.int .i64 a, .int .i64 c], []⟩) = (
true = true ∧
 true = true ∧
  match a != a with
  | true =>
   match c != c with
   | true => N [] (SV.int IntKind.i64 (0 : Int))
   | false => N [] (SV.int IntKind.i64 (-1 : Int))
  | false =>
   match c != c with
   | true => N [] (SV.int IntKind.i64 (1 : Int))
   | false =>
    match decide (a < c) with
    | true => N [] (SV.int IntKind.i64 (-1 : Int))
    | false =>
     match decide (a > c) with
     | true => N [] (SV.int IntKind.i64 (1 : Int))
     | false => N [] (SV.int IntKind.i64 (0 : Int))) := by kernel_rfl


theorem cst_run (K : List Frm → Sy → Prop) (N : List Ent → SV → Prop) (a c : ByteArray) : (run Try.prog [(122, inl Try.prog [] true Try.f122 300)] true [] K (retP Try.prog Try.f91.results.toList N) 900 [.code (bodyOf Try.f91)] ⟨padTo 20 [.str a, .str c], []⟩) = (
true = true ∧
 true = true ∧
  match !sEq a a with
  | true =>
   match !sEq c c with
   | true => N [] (SV.int IntKind.i64 (0 : Int))
   | false => N [] (SV.int IntKind.i64 (-1 : Int))
  | false =>
   match !sEq c c with
   | true => N [] (SV.int IntKind.i64 (1 : Int))
   | false =>
    match sLt a c with
    | true => N [] (SV.int IntKind.i64 (-1 : Int))
    | false =>
     match !(sLt a c || sEq a c) with
     | true => N [] (SV.int IntKind.i64 (1 : Int))
     | false => N [] (SV.int IntKind.i64 (0 : Int))) := by kernel_rfl


theorem tmc_run (K : List Frm → Sy → Prop) (N : List Ent → SV → Prop) (x y : DU) : (run Try.prog duT true [] K (retP Try.prog Try.f88.results.toList N) 900 [.code (bodyOf Try.f88)] ⟨padTo 22 [.agg (encDU x), .agg (encDU y)], []⟩) = (
true = true ∧
 ∀ (b : Nat),
  true = true ∧
   ∀ (b_1 : Nat),
    b = b ∧
     b_1 = b_1 ∧
      b = b ∧
       b_1 = b_1 ∧
        b = b ∧
         b_1 = b_1 ∧
          true = true ∧
           (IntKind.i64 = IntKind.i64 ∧ IntKind.i64 = IntKind.i64) ∧
            (Ent.mk (Loc.blk b) (SObj.cells [SV.str x.1, SV.str x.2, SV.int IntKind.i64 x.3] 72) =
             Ent.mk (Loc.blk b) (SObj.cells [SV.str x.1, SV.str x.2, SV.int IntKind.i64 x.3] 72) ∧
             Ent.mk (Loc.blk b_1) (SObj.cells [SV.str y.1, SV.str y.2, SV.int IntKind.i64 y.3] 72) =
              Ent.mk (Loc.blk b_1) (SObj.cells [SV.str y.1, SV.str y.2, SV.int IntKind.i64 y.3] 72) ∧
              True) ∧
             true = true ∧
              (Ent.mk (Loc.blk b) (SObj.cells [SV.str x.1, SV.str x.2, SV.int IntKind.i64 x.3] 72) =
               Ent.mk (Loc.blk b) (SObj.cells [SV.str x.1, SV.str x.2, SV.int IntKind.i64 x.3] 72) ∧
               Ent.mk (Loc.blk b_1) (SObj.cells [SV.str y.1, SV.str y.2, SV.int IntKind.i64 y.3] 72) =
                Ent.mk (Loc.blk b_1) (SObj.cells [SV.str y.1, SV.str y.2, SV.int IntKind.i64 y.3] 72) ∧
                True) ∧
               true = true ∧
                (Ent.mk (Loc.blk b) (SObj.cells [SV.str x.1, SV.str x.2, SV.int IntKind.i64 x.3] 72) =
                 Ent.mk (Loc.blk b) (SObj.cells [SV.str x.1, SV.str x.2, SV.int IntKind.i64 x.3] 72) ∧
                 Ent.mk (Loc.blk b_1) (SObj.cells [SV.str y.1, SV.str y.2, SV.int IntKind.i64 y.3] 72) =
                  Ent.mk (Loc.blk b_1) (SObj.cells [SV.str y.1, SV.str y.2, SV.int IntKind.i64 y.3] 72) ∧
                  True) ∧
                 (true = true ∧ 1 = 1 ∧ 0 < 3 ∧ 3 ≤ 16777216) ∧
                  ∀ (b_2 : Nat),
                   (Ent.mk (Loc.blk b) (SObj.cells [SV.str x.1, SV.str x.2, SV.int IntKind.i64 x.3] 72) =
                    Ent.mk (Loc.blk b) (SObj.cells [SV.str x.1, SV.str x.2, SV.int IntKind.i64 x.3] 72) ∧
                    Ent.mk (Loc.blk b_1) (SObj.cells [SV.str y.1, SV.str y.2, SV.int IntKind.i64 y.3] 72) =
                     Ent.mk (Loc.blk b_1) (SObj.cells [SV.str y.1, SV.str y.2, SV.int IntKind.i64 y.3] 72) ∧
                     True) ∧
                    true = true ∧
                     (some (Addr.mk b_2 0 (@none Nat)) = some (Addr.mk b_2 0 (@none Nat)) ∧
                      3 = (3 : TypeId) ∧
                       3 = 3 ∧ 3 = 3 ∧ IntKind.i64 = IntKind.i64 ∧ IntKind.i64 = IntKind.i64 ∧ IntKind.i64 = IntKind.i64) ∧
                      (Ent.mk (Loc.blk b) (SObj.cells [SV.str x.1, SV.str x.2, SV.int IntKind.i64 x.3] 72) =
                       Ent.mk (Loc.blk b) (SObj.cells [SV.str x.1, SV.str x.2, SV.int IntKind.i64 x.3] 72) ∧
                       Ent.mk (Loc.blk b_1) (SObj.cells [SV.str y.1, SV.str y.2, SV.int IntKind.i64 y.3] 72) =
                        Ent.mk (Loc.blk b_1) (SObj.cells [SV.str y.1, SV.str y.2, SV.int IntKind.i64 y.3] 72) ∧
                        True) ∧
                       N
                        [Ent.mk (Loc.blk b) (SObj.cells [SV.str x.1, SV.str x.2, SV.int IntKind.i64 x.3] 72),
                         Ent.mk (Loc.blk b_1) (SObj.cells [SV.str y.1, SV.str y.2, SV.int IntKind.i64 y.3] 72), pk 0 []]
                        (SV.int IntKind.i64 (orV (cmpI x.3 y.3) (cmpS x.1 y.1) (cmpS x.2 y.2)))) := by kernel_rfl
end Go.Proofs.Ytkcmgcoppecfpaa

/- Layings of the kit's contracts for slices.Sorted and maps.Keys at this program, in plain words. -/
namespace Go.Proofs.Ytkcmgcoppecfpaa
open Go.Shelf
def sortD_ren : Go.Shelf.Ren := ⟨fun | 6 => 87 | 15 => 120 | 14 => 119 | 28 => 150 | 29 => 151 | 20 => 142 | 21 => 143 | 22 => 144 | 23 => 145 | 24 => 146 | 25 => 147 | 26 => 148 | 27 => 149 | 46 => 166 | 47 => 167 | 48 => 168 | 49 => 169 | 50 => 170 | 57 => 186 | n => n, fun | 22 => 69 | 24 => 72 | 25 => 165 | 3 => 3 | 39 => 221 | 0 => 0 | 53 => 253 | 55 => 255 | 4 => 4 | 46 => 247 | 45 => 246 | 50 => 136 | 5 => 5 | 9 => 9 | 66 => 264 | 70 => 268 | 76 => 281 | 77 => 38 | n => n, fun | n => n⟩
theorem sortD : Go.Proofs.SlLaysF0.n6 Try.prog sortD_ren := {
  mixed := by kernel_rfl
  f6 := ⟨Try.f87.name, by decide, Try.func87.trans (congrArg some (by kernel_rfl))⟩
  f14 := ⟨Try.f119.name, by decide, Try.func119.trans (congrArg some (by kernel_rfl))⟩
  f15 := Try.func120.trans (congrArg some (by kernel_rfl))
  f20 := ⟨Try.f142.name, by decide, Try.func142.trans (congrArg some (by kernel_rfl))⟩
  f21 := ⟨Try.f143.name, by decide, Try.func143.trans (congrArg some (by kernel_rfl))⟩
  f22 := ⟨Try.f144.name, by decide, Try.func144.trans (congrArg some (by kernel_rfl))⟩
  f23 := ⟨Try.f145.name, by decide, Try.func145.trans (congrArg some (by kernel_rfl))⟩
  f24 := ⟨Try.f146.name, by decide, Try.func146.trans (congrArg some (by kernel_rfl))⟩
  f25 := ⟨Try.f147.name, by decide, Try.func147.trans (congrArg some (by kernel_rfl))⟩
  f26 := ⟨Try.f148.name, by decide, Try.func148.trans (congrArg some (by kernel_rfl))⟩
  f27 := ⟨Try.f149.name, by decide, Try.func149.trans (congrArg some (by kernel_rfl))⟩
  f28 := Try.func150.trans (congrArg some (by kernel_rfl))
  f29 := Try.func151.trans (congrArg some (by kernel_rfl))
  f46 := ⟨Try.f166.name, by decide, Try.func166.trans (congrArg some (by kernel_rfl))⟩
  f47 := Try.func167.trans (congrArg some (by kernel_rfl))
  f48 := Try.func168.trans (congrArg some (by kernel_rfl))
  f49 := ⟨Try.f169.name, by decide, Try.func169.trans (congrArg some (by kernel_rfl))⟩
  f50 := ⟨Try.f170.name, by decide, Try.func170.trans (congrArg some (by kernel_rfl))⟩
  f57 := ⟨Try.f186.name, by decide, Try.func186.trans (congrArg some (by kernel_rfl))⟩
  t0 := Try.underlying0
  a0 := Try.isAgg0
  z0 := Try.sizeOf0
  v0 := Try.zeroValue0
  t3 := Try.underlying3
  a3 := Try.isAgg3
  z3 := Try.sizeOf3
  v3 := Try.zeroValue3
  t4 := Try.underlying4
  a4 := Try.isAgg4
  z4 := Try.sizeOf4
  v4 := Try.zeroValue4
  t5 := Try.underlying5
  a5 := Try.isAgg5
  z5 := Try.sizeOf5
  v5 := Try.zeroValue5
  t9 := Try.underlying9
  a9 := Try.isAgg9
  z9 := Try.sizeOf9
  v9 := Try.zeroValue9
  t22 := Try.underlying69
  a22 := Try.isAgg69
  z22 := Try.sizeOf69
  v22 := Try.zeroValue69
  t25 := Try.underlying165
  a25 := Try.isAgg165
  z25 := Try.sizeOf165
  v25 := Try.zeroValue165
  t39 := Try.underlying221
  a39 := Try.isAgg221
  z39 := Try.sizeOf221
  v39 := Try.zeroValue221
  t45 := Try.underlying246
  a45 := Try.isAgg246
  z45 := Try.sizeOf246
  v45 := Try.zeroValue246
  t46 := Try.underlying247
  a46 := Try.isAgg247
  z46 := Try.sizeOf247
  v46 := Try.zeroValue247
  t50 := Try.underlying136
  a50 := Try.isAgg136
  z50 := Try.sizeOf136
  v50 := Try.zeroValue136
  t53 := Try.underlying253
  a53 := Try.isAgg253
  z53 := Try.sizeOf253
  v53 := Try.zeroValue253
  t55 := Try.underlying255
  a55 := Try.isAgg255
  z55 := Try.sizeOf255
  v55 := Try.zeroValue255
  t66 := Try.underlying264
  a66 := Try.isAgg264
  z66 := Try.sizeOf264
  v66 := Try.zeroValue264
  t70 := Try.underlying268
  a70 := Try.isAgg268
  z70 := Try.sizeOf268
  v70 := Try.zeroValue268
  t76 := Try.underlying281
  a76 := Try.isAgg281
  z76 := Try.sizeOf281
  v76 := Try.zeroValue281
  t77 := Try.underlying38
  a77 := Try.isAgg38
  z77 := Try.sizeOf38
  v77 := Try.zeroValue38 }
end Go.Proofs.Ytkcmgcoppecfpaa

/- slices.SortFunc at Dues. -/
namespace Go.Proofs.Ytkcmgcoppecfpaa
open Go Go.RowKit
open Go.Shelf Go.Sort
theorem hmDu : Try.prog.follows .mixedOrders = true := by kernel_rfl
theorem orL_drop (xs : List Int) (i : Nat) (h : i < xs.length) : orL (xs.drop i) = match xs.getD i 0 != 0 with | true => xs.getD i 0 | false => orL (xs.drop (i + 1)) := by
  have e : xs.drop i = xs.getD i 0 :: xs.drop (i + 1) := by
    rw [List.drop_eq_getElem_cons h]
    simp [List.getD, h]
  rw [e]; rfl
theorem or_spec (ao : Option Addr) (cap : Nat) (xs : List Int) (hx : xs.length ≤ 1000000) : Spec Try.prog 89 [⟨.sl ao cap, .vecL 3 1 encIo xs 0⟩] [.vec 0 ao xs.length cap] fun _ r => r = .int .i64 (orL xs) := by
  refine Spec.of_G 18 Try.func89 (c := bodyOf Try.f89) (by kernel_rfl) (by kernel_rfl) (Nat.le_of_ble_eq_true rfl) fun W F => ?_
  refine G_run (kc := true) (ss := []) (Cs := []) trivial hmDu 900 ?_
  rw [or_run]
  refine G_loopAt (ι := Nat) [] (bodyOf Try.f89) [1, 1, 0, 1, 0] 18 (fun i => [(3, .int .i64 0), (6, .vec 0 ao xs.length cap), (7, .int .i64 (xs.length : Int)), (8, .int .i64 (i : Int))]) (fun _ => [⟨.sl ao cap, .vecL 3 1 encIo xs 0⟩]) (fun i => i ≤ xs.length ∧ orL (xs.drop i) = orL xs) (fun i => xs.length - i) 0 (by kernel_rfl) (fun J => by kernel_rfl) ⟨Nat.zero_le _, rfl⟩ rfl ⟨rfl, rfl, rfl, rfl, trivial⟩ (fun w hw => hw) fun i hi u => ?_
  obtain ⟨h1, h2⟩ := hi
  simp only [List.nil_append, List.cons_append]
  refine G_run (kc := true) (ss := []) (Cs := []) trivial hmDu 900 ?_
  rw [or_body]
  cases hlt : decide ((i : Int) < (xs.length : Int)) with
  | false =>
    simp only [decide_eq_false_iff_not] at hlt
    obtain rfl : i = xs.length := by omega
    rw [List.drop_length] at h2
    rw [← h2]; rfl
  | true =>
    simp only [decide_eq_true_eq] at hlt
    have hlt' : i < xs.length := by omega
    rw [orL_drop _ _ hlt'] at h2
    have e2 : IntKind.wrap .i64 ((i : Int) + 1) = ((i + 1 : Nat) : Int) := IntWalk.i64_in _ (by omega)
    rw [Int.toNat_natCast, e2]
    refine ⟨⟨rfl, rfl, rfl, by omega, by omega⟩, ⟨rfl, rfl, rfl, hlt'⟩, ?_⟩
    cases hp : xs.getD i 0 != 0 with
    | true => simp only [hp] at h2; rw [← h2]
    | false =>
      simp only [hp] at h2
      exact G_back (i + 1) ⟨by omega, h2⟩ (by omega) rfl ⟨rfl, rfl, rfl, rfl, trivial⟩ (fun w hw => hw)
theorem orC_ok : CtrOk Try.prog 89 orC := by
  intro args hs N h
  unfold orC at h
  split at h
  case h_2 => exact h.elim
  rename_i l ao n cap
  split at h
  case h_2 => exact h.elim
  rename_i b k1 a k2 c k3 d T hl
  obtain ⟨⟨rfl, rfl, rfl, rfl, rfl, rfl, rfl⟩, hN⟩ := h
  refine Spec.at (hp := [⟨.blk b, .cells [.int .i64 a, .int .i64 c, .int .i64 d] 3⟩]) (args' := [.vec 0 (some ⟨b, 0, none⟩) 3 3]) (Post' := fun h' r => h' = [pk 0 []] ∧ r = .int .i64 (orV a c d)) [l] (by simp [distinct]) (by simp [pickE, hl]) ?_ rfl ?_
  · refine Spec.up ?_
    refine Spec.pre (hs' := [⟨.sl (some ⟨b, 0, none⟩) 3, .vecL 3 1 encIo [a, c, d] 0⟩]) (args' := [.vec 0 (some ⟨b, 0, none⟩) 3 3]) (fun W F w hr => Rep.arrOf (l := 0) encIo [a, c, d] 0 rfl rfl (fun _ => rfl) hr) rfl ?_
    refine Spec.weaken (or_spec (some ⟨b, 0, none⟩) 3 [a, c, d] (Nat.le_of_ble_eq_true rfl)) ?_
    rintro h' r rfl
    exact ⟨_, _, fun W F w hr => hr, rfl, [pk 0 []], .int .i64 (orV a c d), fun W F w hr => Rep.pk 0 (h := []) (t := []) (Rep.dropR (h := []) hr), rfl, rfl, rfl⟩
  · rintro h' r ⟨rfl, rfl⟩
    exact ⟨Nat.le_refl _, _, rfl, by simpa [putBack, appE_eq] using hN⟩
theorem cmp64_ok : CtrOk Try.prog 90 cmp64C := by
  intro args hs N h
  unfold cmp64C at h
  split at h
  case h_2 => exact h.elim
  rename_i k1 a k2 c
  obtain ⟨⟨rfl, rfl⟩, h⟩ := h
  refine Spec.lift (Φ := fun r => r = .int .i64 (cmpI a c)) ?_ (by rintro r rfl; exact h)
  refine Spec.of_G 20 Try.func90 (c := bodyOf Try.f90) (by kernel_rfl) (by kernel_rfl) (Nat.le_of_ble_eq_true rfl) fun W F => ?_
  refine G_run (kc := true) (ss := []) (Cs := [(121, inl Try.prog [] true Try.f121 300)]) ⟨inl_ok trivial hmDu Try.func121 (by kernel_rfl), trivial⟩ hmDu 900 ?_
  rw [c64_run]
  refine ⟨rfl, rfl, ?_⟩
  have e1 : (a != a) = false := by simp
  have e2 : (c != c) = false := by simp
  rw [e1, e2]
  unfold cmpI
  cases h1 : decide (a < c) with
  | true => rfl
  | false =>
    cases h2 : decide (a > c) with
    | true => rfl
    | false => rfl
theorem cmpSt_ok : CtrOk Try.prog 91 cmpStC := by
  intro args hs N h
  unfold cmpStC at h
  split at h
  case h_2 => exact h.elim
  rename_i a c
  refine Spec.lift (Φ := fun r => r = .int .i64 (cmpS a c)) ?_ (by rintro r rfl; exact h)
  refine Spec.of_G 20 Try.func91 (c := bodyOf Try.f91) (by kernel_rfl) (by kernel_rfl) (Nat.le_of_ble_eq_true rfl) fun W F => ?_
  refine G_run (kc := true) (ss := []) (Cs := [(122, inl Try.prog [] true Try.f122 300)]) ⟨inl_ok trivial hmDu Try.func122 (by kernel_rfl), trivial⟩ hmDu 900 ?_
  rw [cst_run]
  refine ⟨rfl, rfl, ?_⟩
  have e1 : (!sEq a a) = false := by rw [(sEqO a a).2 rfl]; rfl
  have e2 : (!sEq c c) = false := by rw [(sEqO c c).2 rfl]; rfl
  rw [e1, e2]
  unfold cmpS
  cases h1 : sLt a c with
  | true => rfl
  | false =>
    have e3 : (!(false || sEq a c)) = sLt c a := by
      cases h2 : sLt c a with
      | true =>
        have : sEq a c = false := (sEqOF a c).2 fun e => by rw [e, sLt_irrO] at h2; cases h2
        rw [this]; rfl
      | false => rw [(sEqO a c).2 (sLt_triO h1 h2)]; rfl
    rw [e3]
    cases h2 : sLt c a with
    | true => rfl
    | false => rfl
theorem duT_ok : AllOk Try.prog duT := ⟨cmp64_ok, cmpSt_ok, orC_ok, trivial⟩
theorem tmc_spec (x y : DU) : Spec Try.prog 88 [] [.agg (encDU x), .agg (encDU y)] fun _ r => r = .int .i64 (cmpDU x y) := by
  refine Spec.of_G 22 Try.func88 (c := bodyOf Try.f88) (by kernel_rfl) (by kernel_rfl) (Nat.le_of_ble_eq_true rfl) fun W F => ?_
  refine G_run (kc := true) (ss := []) duT_ok hmDu 900 ?_
  rw [tmc_run]
  repeat' first
    | exact rfl
    | exact trivial
    | apply And.intro
    | decide
    | (refine fun _ => ?_)
    | fail
theorem tlayDU : tlay Try.prog 72 = some (true, 3) := by kernel_rfl
instance : Inhabited DU := ⟨DU.zero⟩
theorem swoDU : SWO (ltOf cmpDU) := ⟨fun x => ltDU_irr x, fun x y z h1 h2 => ltDU_tr h1 h2, fun x y z h1 h2 => ltDU_ntr h1 h2⟩
theorem srtDU_ok : CtrOk Try.prog 87 (srtFC 88 72 3 encDU DU.zero ltDU) :=
  srtF_ok (ρ := sortD_ren) (cf := cmpDU) sortD rfl (fun w => (tlay_agg tlayDU w).1) (fun w => (tlay_agg tlayDU w).2) (fun _ => rfl) (fun _ => rfl) swoDU (fun x y h1 h2 => ltDU_tot h1 h2) (enters_of Try.func88 (by kernel_rfl) rfl) tmc_spec
end Go.Proofs.Ytkcmgcoppecfpaa

/- Loops: Timers. -/
namespace Go.Proofs.Ytkcmgcoppecfpaa
open Go Go.RowKit

structure LTI where
  (vis : List (Key × (Nat × Int))) (ao : Option Addr) (cap : Nat)
theorem loTT_ok : AllOk Try.prog loTT := ⟨srtDU_ok, inl_ok trivial hmLo Try.func92 (by kernel_rfl), trivial⟩
theorem timersC_ok : CtrOk Try.prog 40 timersC := by
  intro args hs N h
  unfold timersC at h
  split at h
  case h_2 => exact h.elim
  rename_i l b
  split at h
  case h_2 => exact h.elim
  rename_i b' σ' p s hl
  obtain ⟨rfl, rfl, hp, ho, hN⟩ := h
  cases hp
  simp only [cast_eq] at ho hN
  refine Spec.at (hp := [pkA b' loE s]) (args' := [.ptr 0 b' 0]) (Post' := fun h' r => ∃ ao cap bx, h' = [pkA b' loE s, ⟨.sl ao cap, .vecL 72 3 encDU (dues s.ts) DU.zero⟩, ⟨.blk bx, .cells [.vec (lenN hs) ao (dues s.ts).length cap] 69⟩] ∧ r = .func (.func 123) [] [.ptr 2 bx 0]) [l] (by simp [distinct]) (by simp [pickE, hl, pkA]) ?_ rfl ?_
  · refine Spec.up ?_
    refine Spec.pre (hs' := [⟨.blk b', .cells [.ptr 1 s.qb 0, .map 2 s.bm] 148⟩, pkA s.qb quEE s.ev, ⟨.blk s.bm, .mapL (some (.tup [none, none])) encTm (s.ts)⟩]) (args' := [.ptr 0 b' 0]) (fun W F w hr => hr.unpkA1) rfl ?_
    refine Spec.of_G 29 Try.func40 (c := bodyOf Try.f40) (by kernel_rfl) (by kernel_rfl) (Nat.le_of_ble_eq_true rfl) fun W F => ?_
    refine G_run (kc := true) (ss := []) loTT_ok hmLo 900 ?_
    rw [lt_start]
    refine ⟨rfl, rfl, fun es0 clk bi hes hnd => ?_⟩
    have hlen0 : es0.length = s.ts.length := by rw [← hes]; simp
    have hl1 := ho.len
    refine G_loopAt (ι := LTI) [] (bodyOf Try.f40) [1, 1, 0, 1, 0] 29 (fun i : LTI => [(0, .ptr 0 b' 0), (3, .vec 4 i.ao (i.vis.map fun v => duOf (v.1, v.2.2)).length i.cap), (10, .ptr 3 bi 0)]) (fun i : LTI => [⟨.blk b', .cells [.ptr 1 s.qb 0, .map 2 s.bm] 148⟩, pkA s.qb quEE s.ev, ⟨.blk s.bm, .mapS (some (.tup [none, none])) encTm (es0) clk⟩, ⟨.blk bi, .iter 2 s.bm clk ((i.vis.map (·.2.1)))⟩, ⟨.sl i.ao i.cap, .vecL 72 3 encDU ((i.vis.map fun v => duOf (v.1, v.2.2))) DU.zero⟩]) (fun i => (∀ v ∈ i.vis, v ∈ es0) ∧ (i.vis.map (·.2.1)).Nodup ∧ i.vis.length + (es0.filter fun e => decide (e.2.1 ∉ i.vis.map (·.2.1))).length ≤ es0.length) (fun i => (es0.filter fun e => decide (e.2.1 ∉ i.vis.map (·.2.1))).length) ⟨[], none, 0⟩ (by kernel_rfl) (fun J => by kernel_rfl) ⟨fun v hv => (by cases hv), List.nodup_nil, by dsimp only; rw [List.length_nil, Nat.zero_add]; exact List.length_filter_le _ _⟩ rfl ⟨rfl, rfl, rfl, trivial⟩ (fun w hr => ?_) ?_
    · exact Rep.nilvec 72 (sz := 3) (enc := encDU) DU.zero (fun _ => rfl) hr
    rintro ⟨vis, ao, cap⟩ ⟨h1, h2, h3⟩ u
    dsimp only at h1 h2 h3 ⊢
    simp only [List.nil_append, List.cons_append]
    have hvl : vis.length ≤ s.ts.length := by omega
    refine G_run (kc := true) (ss := []) loTT_ok hmLo 900 ?_
    rw [lt_body]
    have hxl : (vis.map fun v => duOf (v.1, v.2.2)).length = vis.length := by simp
    refine ⟨⟨rfl, rfl, rfl⟩, fun s1 s2 born v hm hns => ⟨⟨rfl, rfl, rfl⟩, s1, s2, born, v, vis.map (·.2.1), hm, rfl, fun b6 => ⟨⟨rfl, rfl, rfl, Nat.le_refl _⟩, rfl, rfl, ⟨rfl, rfl⟩, ⟨rfl, rfl, by decide, by decide⟩, fun b7 => ⟨⟨rfl, rfl, rfl, rfl, rfl, rfl, rfl, by decide, rfl, by rw [hxl]; omega, by rw [hxl]; omega⟩, [⟨s1, s2, v⟩], rfl, rfl, fun ao2 cap2 _ => ?_⟩⟩⟩, fun hall => ?_⟩
    · have hmu : (es0.filter fun e => decide (e.2.1 ∉ snoc (vis.map (·.2.1)) born)).length < (es0.filter fun e => decide (e.2.1 ∉ vis.map (·.2.1))).length := seen_less (seen := vis.map (·.2.1)) hm hns
      have e1 : (vis ++ [(Key.g [KV.s s1, KV.s s2], born, v)]).map (·.2.1) = snoc (vis.map (·.2.1)) born := by rw [snoc_eq]; simp
      have e2 : (vis ++ [(Key.g [KV.s s1, KV.s s2], born, v)]).map (fun v => duOf (v.1, v.2.2)) = (vis.map fun v => duOf (v.1, v.2.2)) ++ [⟨s1, s2, v⟩] := by simp [duOf, keyU, keyW]
      have e3 : ((vis ++ [(Key.g [KV.s s1, KV.s s2], born, v)]).map (fun v => duOf (v.1, v.2.2))).length = (vis.map fun v => duOf (v.1, v.2.2)).length + 1 := by rw [e2]; simp
      refine G_back ⟨vis ++ [(Key.g [KV.s s1, KV.s s2], born, v)], ao2, cap2⟩ ⟨fun x hx => ?_, ?_, ?_⟩ ?_ rfl ⟨rfl, ?_, rfl, trivial⟩ (fun w hr => ?_)
      · rcases List.mem_append.1 hx with hx | hx
        · exact h1 x hx
        · rw [List.mem_singleton.1 hx]; exact hm
      · rw [e1, snoc_eq, List.nodup_append]
        refine ⟨h2, List.nodup_cons.2 ⟨List.not_mem_nil, List.nodup_nil⟩, fun a ha b hb => ?_⟩
        rw [List.mem_singleton.1 hb]
        rintro rfl
        exact hns ha
      · dsimp only
        rw [e1, List.length_append, List.length_singleton]
        omega
      · rw [e1]; exact hmu
      · rw [e3]; rfl
      · dsimp only
        rw [e1, e2]
        exact Rep.dropR (h := [_, _, _, _, _]) (t := [_, _]) hr
    · have hperm := vis_perm hnd h1 h2 hall
      have hsort : ((vis.map fun v => duOf (v.1, v.2.2)).mergeSort fun x y => !ltDU y x) = dues s.ts := by
        unfold dues
        refine mergeDU_perm ?_
        have : s.ts.map duOf = es0.map fun v => duOf (v.1, v.2.2) := by rw [← hes, List.map_map]; rfl
        rw [this]
        exact hperm.map _
      have hlen : (vis.map fun v => duOf (v.1, v.2.2)).length = (dues s.ts).length := by rw [← hsort]; simp
      refine ⟨rfl, rfl, _, rfl, ⟨rfl, by rw [hxl]; omega⟩, rfl, rfl, fun bx => ?_⟩
      rw [hsort, hlen]
      refine ⟨_, .func (.func 123) [] [.ptr 2 bx 0], fun W F w hr => ?_, rfl, ao, cap, bx, rfl, rfl⟩
      have g1 := Rep.pick (π := [0, 1, 2, 4, 5]) (by decide) rfl hr
      have g2 := Rep.unmapS (l := 2) rfl g1
      rw [hes] at g2
      have g3 := Rep.cellsEq (l := 4) (cs' := [.vec (lenN hs) ao (dues s.ts).length cap]) rfl (by rfl) g2
      exact Rep.pkA (S := loE) (s := s) (t := [_, _]) g3
  · rintro h' r ⟨ao, cap, bx, rfl, rfl⟩
    refine ⟨by simp [lenN], .func (.func 123) [] [.ptr (lenN hs + 1) bx 0], rfl, ?_⟩
    have e0 : setN hs l (pkA b' loE s) = hs := setN_selfD hl
    have := hN ao cap bx
    simpa [putBack, appE_eq, snoc_eq, e0] using this
end Go.Proofs.Ytkcmgcoppecfpaa

/- Timers: the plain law of those that elapse. -/
namespace Go.Proofs.Ytkcmgcoppecfpaa
open Go Go.RowKit
theorem tmKey_eq (u w u' w' : ByteArray) : keyEq (tmKey u w) (tmKey u' w') = true ↔ u = u' ∧ w = w' := by
  simp only [tmKey, keyEq, kvsEq, kvEq, Bool.and_true, Bool.and_eq_true, bytes_beq]
theorem mdel_key {β : Type} {k : Key} : ∀ {es : List (Key × β)}, keysOk es → mdel es k = es.filter fun e => !keyEq k e.1
  | [], _ => rfl
  | (k', v') :: es, h => by
    have hp := List.pairwise_cons.1 h
    simp only [mdel]
    cases hq : keyEq k k' with
    | true =>
      simp only [List.filter_cons, hq, Bool.not_true, Bool.false_eq_true, if_false]
      refine (List.filter_eq_self.2 fun e he => ?_).symm
      rw [keyEq_trans (c := e.1) hq, hp.1 e he]; rfl
    | false =>
      simp only [List.filter_cons, hq, Bool.not_false, if_true]
      rw [mdel_key hp.2]
def remT (ts : List (Key × Int)) (l : List DU) : List (Key × Int) := ts.filter fun e => !(l.any fun d => keyEq (tmKey d.unit d.which) e.1)
theorem remT_nil (ts : List (Key × Int)) : remT ts [] = ts := List.filter_eq_self.2 fun e _ => rfl
theorem keysOk_sub {β : Type} {es es' : List (Key × β)} (h : keysOk es) (hs : es'.Sublist es) : keysOk es' := List.Pairwise.sublist hs h
theorem remT_snoc {ts : List (Key × Int)} (hk : keysOk ts) (l : List DU) (d : DU) : mdel (remT ts l) (tmKey d.unit d.which) = remT ts (l ++ [d]) := by
  have hs : (remT ts l).Sublist ts := List.filter_sublist
  rw [mdel_key (keysOk_sub hk hs)]
  unfold remT
  rw [List.filter_filter]
  refine List.filter_congr fun e _ => ?_
  rw [List.any_append]
  simp only [List.any_cons, List.any_nil, Bool.or_false, Bool.not_or]
  exact Bool.and_comm _ _
theorem keys_uniq {β : Type} {es : List (Key × β)} (hk : keysOk es) : ∀ a ∈ es, ∀ b ∈ es, keyEq a.1 b.1 = true → a = b := by
  induction es with
  | nil => intro a ha; cases ha
  | cons e es ih =>
    have hp := List.pairwise_cons.1 hk
    intro a ha b hb hab
    rcases List.mem_cons.1 ha with ea | ha'
    · rcases List.mem_cons.1 hb with eb | hb'
      · rw [ea, eb]
      · rw [ea, hp.1 b hb'] at hab; cases hab
    · rcases List.mem_cons.1 hb with eb | hb'
      · rw [eb, keyEq_comm, hp.1 a ha'] at hab; cases hab
      · exact ih hp.2 a ha' b hb' hab
theorem tm_le_of {x y : DU} (h : ltDU y x = false) : x.tm ≤ y.tm := by
  rw [← Bool.not_eq_true, ltDU_iff] at h
  by_cases hh : y.tm < x.tm
  · exact (h (.inl hh)).elim
  · omega
theorem mem_takeWhile_tm {now : Int} : ∀ {l : List DU}, (l.Pairwise fun x y => ltDU y x = false) → ∀ d, d ∈ l.takeWhile (fun d => decide (d.tm ≤ now)) ↔ d ∈ l ∧ d.tm ≤ now
  | [], _, d => by simp
  | x :: l, h, d => by
    have hp := List.pairwise_cons.1 h
    rw [List.takeWhile_cons]
    by_cases hx : x.tm ≤ now
    · simp only [hx, decide_true, if_true, List.mem_cons, mem_takeWhile_tm hp.2 d]
      constructor
      · rintro (rfl | ⟨h1, h2⟩)
        · exact ⟨.inl rfl, hx⟩
        · exact ⟨.inr h1, h2⟩
      · rintro ⟨rfl | h1, h2⟩
        · exact .inl rfl
        · exact .inr ⟨h1, h2⟩
    · simp only [hx, decide_false, Bool.false_eq_true, if_false, List.not_mem_nil, false_iff, List.mem_cons, not_and]
      rintro (rfl | h1)
      · exact hx
      · have := tm_le_of (hp.1 d h1); omega
theorem mem_duesTo {ts : List (Key × Int)} {now : Int} (d : DU) : d ∈ duesTo ts now ↔ (∃ e ∈ ts, duOf e = d) ∧ d.tm ≤ now := by
  unfold duesTo
  rw [mem_takeWhile_tm (dues_sorted ts) d, (dues_perm ts).mem_iff, List.mem_map]
theorem keyOf_du {e : Key × Int} (h : ∃ u w, e.1 = tmKey u w) : tmKey (duOf e).unit (duOf e).which = e.1 := by
  obtain ⟨u, w, h⟩ := h
  simp only [duOf, h, tmKey, keyU, keyW]
theorem remT_to {ts : List (Key × Int)} (hk : keysOk ts) (hkd : ∀ e ∈ ts, ∃ u w, e.1 = tmKey u w) (now : Int) : remT ts (duesTo ts now) = lateT ts now := by
  refine List.filter_congr fun e he => ?_
  by_cases hn : e.2 ≤ now
  · have hm : duOf e ∈ duesTo ts now := (mem_duesTo _).2 ⟨⟨e, he, rfl⟩, hn⟩
    have h1 : ((duesTo ts now).any fun d => keyEq (tmKey d.unit d.which) e.1) = true := List.any_eq_true.2 ⟨_, hm, by rw [keyOf_du (hkd e he)]; exact keyEq_self _⟩
    rw [h1, decide_eq_false (by omega)]; rfl
  · have h1 : ((duesTo ts now).any fun d => keyEq (tmKey d.unit d.which) e.1) = false := by
      rw [List.any_eq_false]
      intro d hd hke
      obtain ⟨⟨e', he', rfl⟩, htm⟩ := (mem_duesTo d).1 hd
      rw [keyOf_du (hkd e' he')] at hke
      have := keys_uniq hk e' he' e he hke
      subst this
      exact hn htm
    rw [h1, decide_eq_true (by omega)]; rfl
theorem duesTo_take {ts : List (Key × Int)} {now : Int} {i : Nat} (h1 : ∀ d ∈ (dues ts).take i, d.tm ≤ now) (h2 : ∀ h : i < (dues ts).length, now < ((dues ts)[i]).tm) : duesTo ts now = (dues ts).take i := by
  unfold duesTo
  generalize dues ts = l at h1 h2
  induction l generalizing i with
  | nil => simp
  | cons x l ih =>
    cases i with
    | zero =>
      have := h2 (by simp)
      simp only [List.getElem_cons_zero] at this
      rw [List.takeWhile_cons, decide_eq_false (by omega)]; simp
    | succ i =>
      have hx : x.tm ≤ now := h1 x (by simp)
      rw [List.takeWhile_cons, decide_eq_true hx, List.take_succ_cons]
      simp only [if_true, List.cons.injEq, true_and]
      refine ih (fun d hd => h1 d (by rw [List.take_succ_cons]; exact List.mem_cons_of_mem _ hd)) fun h => ?_
      have := h2 (by simpa using h)
      simpa using this
theorem mdel_ok {ts : List (Key × Int)} (k : Key) (hk : keysOk ts) (hkd : ∀ e ∈ ts, ∃ u w, e.1 = tmKey u w) : keysOk (mdel ts k) ∧ (mdel ts k).length ≤ ts.length ∧ ∀ e ∈ mdel ts k, ∃ u w, e.1 = tmKey u w := by
  rw [mdel_key hk]
  exact ⟨keysOk_sub hk List.filter_sublist, List.length_filter_le _ _, fun e he => hkd e (List.mem_filter.1 he).1⟩
end Go.Proofs.Ytkcmgcoppecfpaa

/- slices.Values at Dues. -/
namespace Go.Proofs.Ytkcmgcoppecfpaa
open Go Go.RowKit

def valDY (fv : Value) (xs : List DU) (R : Nat → List Ent) (Stop : List Ent → Prop) : YCtr := fun v args hs N => v = fv ∧ match hs with
  | e0 :: e1 :: e2 :: rest => ∃ i x, xs[i]? = some x ∧ args = [.agg (encDU x)] ∧ e2 = pk 0 (R i) ∧ N (e0 :: e1 :: pk 0 (R (i + 1)) :: rest) (.bool true) ∧ ∀ R', Stop R' → N (e0 :: e1 :: pk 0 R' :: rest) (.bool false)
  | _ => False
end Go.Proofs.Ytkcmgcoppecfpaa

/- Loops: Elapse, Soonest: tables. -/
namespace Go.Proofs.Ytkcmgcoppecfpaa
open Go Go.RowKit

def mvY (fv : Value) (R : List Int → List Ent) : YCtr := fun v args hs N => v = fv ∧ match hs with
  | e0 :: e1 :: e2 :: rest => ∃ vs x, args = [.int .i64 x] ∧ e2 = pk 0 (R vs) ∧ N (e0 :: e1 :: pk 0 (R (vs ++ [x])) :: rest) (.bool true)
  | _ => False
def mnS (m y : Int) : Int := match decide (y < m) with
  | true => y
  | false => m
def minL : List Int → Int
  | [] => 0
  | x :: l => l.foldl mnS x
def leastC : Ctr := fun args hs N => match args with
  | [.func (.func g) [] [.ptr lb bx 0]] => g = 113 ∧ ∃ (lm bm : Nat) (ts : List (Key × Int)), nth hs lb = some ⟨.blk bx, .cells [.map lm bm] 146⟩ ∧ nth hs lm = some ⟨.blk bm, .mapL (some (.tup [none, none])) encTm (ts)⟩ ∧ (Nat.beq lb lm = false ∧ ts.length ≤ 1000000) ∧
      ∀ vs : List Int, vs.Perm (ts.map (·.2)) → N hs (.tuple [.int .i64 (minL vs), .bool (match vs with | [] => false | _ :: _ => true)])
  | _ => False
def loTS : Tbl := [(81, inl Try.prog [] true Try.f81 300), (80, leastC)]
def loTE : Tbl := [(40, timersC)]
end Go.Proofs.Ytkcmgcoppecfpaa

namespace Go.Proofs.Ytkcmgcoppecfpaa
open Go Go.RowKit

theorem mv_start (K : List Frm → Sy → Prop) (X : Code → Sy → Prop) (E : Sy → Prop) (bx bm : Nat) (ts : List (Key × Int)) (fv : Value) (R : List Int → List Ent) : (runR Try.prog [] (mvY fv R) true [] K X E 300 [.code (bodyOf Try.f113)] ⟨padTo 15 [.raw fv, .ptr 0 bx 0], [⟨.blk bx, .cells [.map 1 bm] 146⟩, ⟨.blk bm, .mapL (some (.tup [none, none])) encTm (ts)⟩, pk 0 (R [])]⟩) = (
bx = bx ∧
 bm = bm ∧
  ∀ (es' : List (Key × Nat × Int)) (clk b : Nat),
   List.map (fun (e : Key × Nat × Int) ↦ (e.fst, e.snd.snd)) es' = ts →
    List.Nodup (List.map (fun (x : Key × Nat × Int) ↦ x.snd.fst) es') →
     K (frm [] (bodyOf Try.f113) [1, 0] [])
      (Sy.mk (SV.raw fv :: (SV.ptr 0 bx 0 :: (rawE (SV.map 1 bm :: (SV.ptr 3 b 0 :: (rawE [] 8))) 3)))
       [Ent.mk (Loc.blk bx) (SObj.cells [SV.map 1 bm] (146 : TypeId)), Ent.mk (Loc.blk bm) (SObj.mapS (some (KK.tup [@none IntKind, @none IntKind])) encTm es' clk), pk 0 (R []),
        Ent.mk (Loc.blk b) (SObj.iter 1 bm clk [])])) := by kernel_rfl


theorem mv_body (K : List Frm → Sy → Prop) (X : Code → Sy → Prop) (E : Sy → Prop) (J : Act → World → Prop) (bx bm : Nat) (ts : List (Key × Int)) (fv : Value) (R : List Int → List Ent) (es : List (Key × (Nat × Int))) (clk bi : Nat) (seen : List Nat) (vs : List Int) (u : Nat → Value) : (runR Try.prog [] (mvY fv R) true [] K X E 600 (frm [J] (bodyOf Try.f113) [1, 0, 0] []) ⟨mkT u 15 0 [(0, .raw fv), (6, .ptr 3 bi 0)], [⟨.blk bx, .cells [.map 1 bm] 146⟩, ⟨.blk bm, .mapS (some (.tup [none, none])) encTm es clk⟩, pk 0 (R vs), ⟨.blk bi, .iter 1 bm clk (seen)⟩]⟩) = (
(bi = bi ∧ bm = bm ∧ clk = clk) ∧
 (∀ (s s_1 : ByteArray) (born : Nat) (v : Int),
  (Key.g [KV.s s, KV.s s_1], born, v) ∈ es →
   ¬born ∈ seen →
    (bi = bi ∧ bm = bm ∧ clk = clk) ∧
     ∃ (s_2 : ByteArray),
      ∃ (s_3 : ByteArray),
       ∃ (born_1 : Nat),
        ∃ (v_1 : Int),
         ∃ (seen0 : List Nat),
          (Key.g [KV.s s_2, KV.s s_3], born_1, v_1) ∈ es ∧
           snoc seen born = snoc seen0 born_1 ∧
            fv = fv ∧
             ∃ (vs_1 : List Int),
              ∃ (x : Int),
               [SV.int IntKind.i64 v_1] = [SV.int IntKind.i64 x] ∧
                pk 0 (R vs) = pk 0 (R vs_1) ∧
                 K [Frm.loop J, Frm.blk 0]
                  (Sy.mk (SV.raw fv :: (rawR u 1 (SV.int IntKind.i64 v_1 :: (SV.raw (u 5) :: (SV.ptr 3 bi 0 :: (SV.tuple [SV.bool true, SV.agg [SV.str s, SV.str s_1], SV.int IntKind.i64 v] :: (SV.bool true :: (SV.tuple [SV.agg [SV.str s_2, SV.str s_3], SV.int IntKind.i64 v_1] :: (SV.int IntKind.i64 v_1 :: (SV.raw fv :: (SV.int IntKind.i64 v_1 :: (SV.bool true :: (SV.bool false :: []))))))))))) 3))
                   [Ent.mk (Loc.blk bx) (SObj.cells [SV.map 1 bm] (146 : TypeId)),
                    Ent.mk (Loc.blk bm) (SObj.mapS (some (KK.tup [@none IntKind, @none IntKind])) encTm es clk), pk 0 (R (vs_1 ++ [x])),
                    Ent.mk (Loc.blk bi) (SObj.iter 1 bm clk (snoc seen born))])) ∧
  ((∀ (e : Key × Nat × Int), e ∈ es → e.snd.fst ∈ seen) →
   E
    (Sy.mk (SV.raw fv :: (rawR u 1 (SV.ptr 3 bi 0 :: (SV.tuple [SV.bool false] :: (SV.bool false :: (rawR u 9 [] 6)))) 5))
     [Ent.mk (Loc.blk bx) (SObj.cells [SV.map 1 bm] (146 : TypeId)), Ent.mk (Loc.blk bm) (SObj.mapS (some (KK.tup [@none IntKind, @none IntKind])) encTm es clk), pk 0 (R vs),
      Ent.mk (Loc.blk bi) (SObj.iter 1 bm clk seen)]))) := by kernel_rfl


theorem ls_start (K : List Frm → Sy → Prop) (X : Code → Sy → Prop) (E : Sy → Prop) (bx bm : Nat) (ts : List (Key × Int)) : (runR Try.prog [] (noY) true [] K X E 300 [.code (bodyOf Try.f80)] ⟨padTo 19 [.func (.func 113) [] [.ptr 0 bx 0]], [⟨.blk bx, .cells [.map 1 bm] 146⟩, ⟨.blk bm, .mapL (some (.tup [none, none])) encTm (ts)⟩]⟩) = (
∀ (b b_1 : Nat),
 (b = b ∧ true = true ∧ 1 = 1 ∧ 1 ≤ 1) ∧
  (b_1 = b_1 ∧ true = true ∧ 1 = 1 ∧ 1 ≤ 1) ∧
   K (frm [] (bodyOf Try.f80) [1, 1, 0, 1, 0] [])
    (Sy.mk (SV.func (Fn.func (113 : FuncId)) [] [SV.ptr 0 bx 0] :: (SV.raw (Value.tuple #[]) :: (SV.int IntKind.i64 (0 : Int) :: (SV.bool false :: (SV.ptr 2 b 0 :: (SV.ptr 3 b_1 0 :: (SV.raw (Value.tuple #[]) :: (SV.func (Fn.func (113 : FuncId)) [] [SV.ptr 0 bx 0] :: (rawE [] 11)))))))))
     [Ent.mk (Loc.blk bx) (SObj.cells [SV.map 1 bm] (146 : TypeId)), Ent.mk (Loc.blk bm) (SObj.mapL (some (KK.tup [@none IntKind, @none IntKind])) encTm ts),
      Ent.mk (Loc.blk b) (SObj.cells [SV.int IntKind.i64 (0 : Int)] 2), Ent.mk (Loc.blk b_1) (SObj.cells [SV.bool false] 4)])) := by kernel_rfl


theorem ls_asg (K : List Frm → Sy → Prop) (X : Code → Sy → Prop) (E : Sy → Prop) (bx bm b4 b5 D l : Nat) (rc : Loop) (ts : List (Key × Int)) (mn : Int) (sm : Bool) (x : Int) (u : Nat → Value) : (runR Try.prog [] (noY) true [] K X E 60 ([.code (rfA (codeAt (bodyOf Try.f80) [1, 1, 0, 1, 0]))]) ⟨mkT u 19 0 [(4, .ptr 0 b4 0), (5, .ptr 1 b5 0), (8, .int .i64 x)], [⟨.blk b4, .cells [.int .i64 mn] 2⟩, ⟨.blk b5, .cells [.bool sm] 4⟩, dent D true, lp l rc .ready none]⟩) = (
E
 (Sy.mk (rawR u 0 (SV.ptr 0 b4 0 :: (SV.ptr 1 b5 0 :: (SV.int IntKind.i64 x :: (SV.raw (u 7) :: (SV.int IntKind.i64 x :: (rawR u 9 [] 10)))))) 4)
  [Ent.mk (Loc.blk b4) (SObj.cells [SV.int IntKind.i64 mn] (2 : TypeId)), Ent.mk (Loc.blk b5) (SObj.cells [SV.bool sm] (4 : TypeId)), dent D true, lp l rc LoopState.ready (@none Code)])) := by kernel_rfl


theorem ls_body (K : List Frm → Sy → Prop) (X : Code → Sy → Prop) (E : Sy → Prop) (bx bm b4 b5 D l : Nat) (rc : Loop) (ts : List (Key × Int)) (mn : Int) (sm : Bool) (x : Int) (u : Nat → Value) : (runR Try.prog [] (noY) true [] K X E 600 ([.code (rfB (codeAt (bodyOf Try.f80) [1, 1, 0, 1, 0]))]) ⟨mkT u 19 0 [(4, .ptr 0 b4 0), (5, .ptr 1 b5 0), (6, .int .i64 x)], [⟨.blk b4, .cells [.int .i64 mn] 2⟩, ⟨.blk b5, .cells [.bool sm] 4⟩, dent D true, lp l rc .busy none]⟩) = (
b5 = b5 ∧
 match !sm with
 | true =>
  (b4 = b4 ∧ true = true ∧ 1 = 1 ∧ 1 ≤ 1) ∧
   (b5 = b5 ∧ true = true ∧ 1 = 1 ∧ 1 ≤ 1) ∧
    E
     (Sy.mk (rawR u 0 (SV.ptr 0 b4 0 :: (SV.ptr 1 b5 0 :: (SV.int IntKind.i64 x :: (SV.raw (u 7) :: (SV.raw (u 8) :: (SV.bool sm :: ((SV.bool !sm) :: (SV.bool true :: (rawE (SV.bool true :: (SV.int IntKind.i64 x :: (SV.raw (u 17) :: (SV.raw (u 18) :: [])))) 3))))))))) 4)
      [Ent.mk (Loc.blk b4) (SObj.cells [SV.int IntKind.i64 x] (2 : TypeId)), Ent.mk (Loc.blk b5) (SObj.cells [SV.bool true] (4 : TypeId)), dent D true, lp l rc LoopState.busy (@none Code)])
 | false =>
  b4 = b4 ∧
   match decide (x < mn) with
   | true =>
    (b4 = b4 ∧ true = true ∧ 1 = 1 ∧ 1 ≤ 1) ∧
     (b5 = b5 ∧ true = true ∧ 1 = 1 ∧ 1 ≤ 1) ∧
      E
       (Sy.mk (rawR u 0 (SV.ptr 0 b4 0 :: (SV.ptr 1 b5 0 :: (SV.int IntKind.i64 x :: (SV.raw (u 7) :: (SV.raw (u 8) :: (SV.bool sm :: ((SV.bool !sm) :: (SV.bool false :: (SV.int IntKind.i64 x :: (SV.int IntKind.i64 mn :: (SV.bool (decide (x < mn)) :: (SV.bool true :: (SV.int IntKind.i64 x :: (SV.raw (u 17) :: (SV.raw (u 18) :: []))))))))))))))) 4)
        [Ent.mk (Loc.blk b4) (SObj.cells [SV.int IntKind.i64 x] (2 : TypeId)), Ent.mk (Loc.blk b5) (SObj.cells [SV.bool true] (4 : TypeId)), dent D true, lp l rc LoopState.busy (@none Code)])
   | false =>
    (b5 = b5 ∧ true = true ∧ 1 = 1 ∧ 1 ≤ 1) ∧
     E
      (Sy.mk (rawR u 0 (SV.ptr 0 b4 0 :: (SV.ptr 1 b5 0 :: (SV.int IntKind.i64 x :: (SV.raw (u 7) :: (SV.raw (u 8) :: (SV.bool sm :: ((SV.bool !sm) :: (SV.bool false :: (SV.int IntKind.i64 x :: (SV.int IntKind.i64 mn :: (SV.bool (decide (x < mn)) :: (SV.bool false :: (rawR u 16 [] 3))))))))))))) 4)
       [Ent.mk (Loc.blk b4) (SObj.cells [SV.int IntKind.i64 mn] (2 : TypeId)), Ent.mk (Loc.blk b5) (SObj.cells [SV.bool true] (4 : TypeId)), dent D true, lp l rc LoopState.busy (@none Code)])) := by kernel_rfl


theorem ls_end (K : List Frm → Sy → Prop) (E : Sy → Prop) (N : List Ent → SV → Prop) (bx bm b4 b5 D l : Nat) (rc : Loop) (ts : List (Key × Int)) (mn : Int) (sm : Bool) (u : Nat → Value) : (runR Try.prog [] (noY) true [] K (endMX Try.prog Try.f80.results.toList D 2 N) E 900 ((frm [] (bodyOf Try.f80) [1, 1, 0, 1, 0] []).tail) ⟨mkT u 19 0 [(4, .ptr 0 b4 0), (5, .ptr 1 b5 0)], [⟨.blk b4, .cells [.int .i64 mn] 2⟩, ⟨.blk b5, .cells [.bool sm] 4⟩, dent D true, lp l rc .exhausted none, ⟨.blk bx, .cells [.map 5 bm] 146⟩, ⟨.blk bm, .mapL (some (.tup [none, none])) encTm (ts)⟩]⟩) = (
b4 = b4 ∧
 b5 = b5 ∧
  some (dent D true) = some (dent D true) ∧
   N
    [Ent.mk (Loc.blk b4) (SObj.cells [SV.int IntKind.i64 mn] (2 : TypeId)), Ent.mk (Loc.blk b5) (SObj.cells [SV.bool sm] (4 : TypeId)), dent D false, lp l rc LoopState.exhausted (@none Code),
     Ent.mk (Loc.blk bx) (SObj.cells [SV.map 5 bm] (146 : TypeId)), Ent.mk (Loc.blk bm) (SObj.mapL (some (KK.tup [@none IntKind, @none IntKind])) encTm ts)]
    (SV.tuple [SV.int IntKind.i64 mn, SV.bool sm])) := by kernel_rfl


theorem lsoon_run (K : List Frm → Sy → Prop) (N : List Ent → SV → Prop) (s : LO) (b : Nat) : (run Try.prog loTS true [] K (retP Try.prog Try.f35.results.toList N) 600 [.code (bodyOf Try.f35)] ⟨padTo 16 [.ptr 0 b 0], [⟨.blk b, .cells [.ptr 1 s.qb 0, .map 2 s.bm] 148⟩, pkA s.qb quEE s.ev, ⟨.blk s.bm, .mapL (some (.tup [none, none])) encTm (s.ts)⟩]⟩) = (
b = b ∧
 true = true ∧
  true = true ∧
   ∀ (b_1 : Nat),
    true = true ∧
     113 = (113 : FuncId) ∧
      ∃ (lm : Nat),
       ∃ (bm : Nat),
        ∃ (ts : List (Key × Int)),
         some (Ent.mk (Loc.blk b_1) (SObj.cells [SV.map 2 s.3] 146)) = some (Ent.mk (Loc.blk b_1) (SObj.cells [SV.map lm bm] (146 : TypeId))) ∧
          nth
           [Ent.mk (Loc.blk b) (SObj.cells [SV.ptr 1 s.2 0, SV.map 2 s.3] (148 : TypeId)), pkA s.2 quEE s.1,
            Ent.mk (Loc.blk s.3) (SObj.mapL (some (KK.tup [@none IntKind, @none IntKind])) encTm s.4), Ent.mk (Loc.blk b_1) (SObj.cells [SV.map 2 s.3] 146)]
           lm =
           some (Ent.mk (Loc.blk bm) (SObj.mapL (some (KK.tup [@none IntKind, @none IntKind])) encTm ts)) ∧
           (Nat.beq 3 lm = false ∧ List.length ts ≤ 1000000) ∧
            ∀ (vs : List Int),
             List.Perm vs (List.map (fun (x : Key × Int) ↦ x.snd) ts) →
              match
               match vs with
               | [] => false
               | head :: tail => true with
              | true =>
               N
                [Ent.mk (Loc.blk b) (SObj.cells [SV.ptr 1 s.2 0, SV.map 2 s.3] (148 : TypeId)), pkA s.2 quEE s.1,
                 Ent.mk (Loc.blk s.3) (SObj.mapL (some (KK.tup [@none IntKind, @none IntKind])) encTm s.4), Ent.mk (Loc.blk b_1) (SObj.cells [SV.map 2 s.3] 146)]
                (SV.int IntKind.i64 (minL vs))
              | false =>
               N
                [Ent.mk (Loc.blk b) (SObj.cells [SV.ptr 1 s.2 0, SV.map 2 s.3] (148 : TypeId)), pkA s.2 quEE s.1,
                 Ent.mk (Loc.blk s.3) (SObj.mapL (some (KK.tup [@none IntKind, @none IntKind])) encTm s.4), Ent.mk (Loc.blk b_1) (SObj.cells [SV.map 2 s.3] 146)]
                (SV.int IntKind.i64 (9223372036854775807 : Int))) := by kernel_rfl
end Go.Proofs.Ytkcmgcoppecfpaa

/- Loops: Soonest. -/
namespace Go.Proofs.Ytkcmgcoppecfpaa
open Go Go.RowKit

def someL (vs : List Int) : Bool := match vs with | [] => false | _ :: _ => true
theorem minL_snoc (vs : List Int) (x : Int) : minL (vs ++ [x]) = match !someL vs with | true => x | false => match decide (x < minL vs) with | true => x | false => minL vs := by
  cases vs with
  | nil => rfl
  | cons y l =>
    simp only [minL, someL, List.cons_append, List.foldl_append, List.foldl_cons, List.foldl_nil, Bool.not_true]
    rfl
theorem someL_snoc (vs : List Int) (x : Int) : someL (vs ++ [x]) = true := by cases vs <;> rfl
theorem minL_spec : ∀ vs : List Int, vs ≠ [] → minL vs ∈ vs ∧ ∀ x ∈ vs, minL vs ≤ x := by
  intro vs hv
  cases vs with
  | nil => exact (hv rfl).elim
  | cons y l =>
    have key : ∀ (l : List Int) (m : Int), (l.foldl mnS m = m ∨ l.foldl mnS m ∈ l) ∧ l.foldl mnS m ≤ m ∧ ∀ x ∈ l, l.foldl mnS m ≤ x := by
      intro l
      induction l with
      | nil => intro m; exact ⟨.inl rfl, Int.le_refl _, fun x hx => by cases hx⟩
      | cons a l ih =>
        intro m
        simp only [List.foldl_cons]
        obtain ⟨h1, h2, h3⟩ := ih (mnS m a)
        by_cases ha : a < m
        · have em : mnS m a = a := by unfold mnS; rw [decide_eq_true ha]
          rw [em] at h1 h2 h3 ⊢
          refine ⟨?_, by omega, fun x hx => ?_⟩
          · rcases h1 with h1 | h1
            · exact .inr (by rw [h1]; exact List.mem_cons_self)
            · exact .inr (List.mem_cons_of_mem _ h1)
          · rcases List.mem_cons.1 hx with rfl | hx
            · exact h2
            · exact h3 x hx
        · have em : mnS m a = m := by unfold mnS; rw [decide_eq_false ha]
          rw [em] at h1 h2 h3 ⊢
          refine ⟨?_, h2, fun x hx => ?_⟩
          · rcases h1 with h1 | h1
            · exact .inl h1
            · exact .inr (List.mem_cons_of_mem _ h1)
          · rcases List.mem_cons.1 hx with rfl | hx
            · omega
            · exact h3 x hx
    obtain ⟨h1, h2, h3⟩ := key l y
    refine ⟨?_, fun x hx => ?_⟩
    · rcases h1 with h1 | h1
      · show _ ∈ _
        simp only [minL]; rw [h1]; exact List.mem_cons_self
      · exact List.mem_cons_of_mem _ h1
    · rcases List.mem_cons.1 hx with rfl | hx
      · exact h2
      · exact h3 x hx
theorem soon_eq {ts : List (Key × Int)} {vs : List Int} (h : vs.Perm (ts.map (·.2))) : (match someL vs with | true => minL vs | false => 9223372036854775807) = soonT ts := by
  unfold soonT
  cases hd : dues ts with
  | nil =>
    have h0 : ts.length = 0 := by rw [← length_dues, hd]; rfl
    have : vs = [] := by
      have := h.length_eq
      simp only [List.length_map, h0] at this
      exact List.eq_nil_of_length_eq_zero this
    subst this; rfl
  | cons d l =>
    have hs := dues_sorted ts
    have hp := dues_perm ts
    rw [hd] at hs hp
    have hmem : ∀ x : Int, x ∈ vs ↔ ∃ y ∈ d :: l, y.tm = x := fun x => by
      rw [h.mem_iff, List.mem_map]
      constructor
      · rintro ⟨e, he, rfl⟩
        exact ⟨duOf e, hp.mem_iff.2 (List.mem_map.2 ⟨e, he, rfl⟩), rfl⟩
      · rintro ⟨y, hy, rfl⟩
        obtain ⟨e, he, rfl⟩ := List.mem_map.1 (hp.mem_iff.1 hy)
        exact ⟨e, he, rfl⟩
    have hne : vs ≠ [] := fun e => by
      have := (hmem d.tm).2 ⟨d, List.mem_cons_self, rfl⟩
      rw [e] at this; cases this
    have hso : someL vs = true := by cases vs <;> first | exact (hne rfl).elim | rfl
    rw [hso]
    obtain ⟨m1, m2⟩ := minL_spec vs hne
    obtain ⟨y, hy, ey⟩ := (hmem _).1 m1
    have l1 := m2 d.tm ((hmem _).2 ⟨d, List.mem_cons_self, rfl⟩)
    have l2 : d.tm ≤ y.tm := by
      rcases List.mem_cons.1 hy with rfl | hy
      · exact Int.le_refl _
      · exact tm_le_of ((List.pairwise_cons.1 hs).1 y hy)
    show minL vs = d.tm
    omega
def OneM (fv : Value) (R : List Int → List Ent) : Prop := ∀ vs x, VSpec Try.prog fv [pk 0 (R vs)] [.int .i64 x] fun h r => h = [pk 0 (R (vs ++ [x]))] ∧ r = .bool true
theorem mvY_ok {fv : Value} {R : List Int → List Ent} (hV : OneM fv R) : YOk Try.prog (mvY fv R) := by
  rintro v args hs N ⟨rfl, h⟩
  split at h
  case h_2 => exact h.elim
  rename_i e0 e1 e2 rest
  obtain ⟨vs, x, rfl, rfl, hN⟩ := h
  refine VSpec.at [2] rfl rfl (hV vs x) fun h' r hp => ?_
  obtain ⟨rfl, rfl⟩ := hp
  exact ⟨Nat.le_refl _, by simpa [putBack, setN, appE_eq] using hN⟩
theorem mval_iter {fv : Value} {bx bm : Nat} {ts : List (Key × Int)} {R : List Int → List Ent} (hV : OneM fv R) :
    Spec Try.prog 113 [⟨.blk bx, .cells [.map 1 bm] 146⟩, ⟨.blk bm, .mapL (some (.tup [none, none])) encTm (ts)⟩, pk 0 (R [])] [.raw fv, .ptr 0 bx 0] fun h' r => r = .tuple [] ∧ ∃ vs : List Int, vs.Perm (ts.map (·.2)) ∧ h' = [⟨.blk bx, .cells [.map 1 bm] 146⟩, ⟨.blk bm, .mapL (some (.tup [none, none])) encTm (ts)⟩, pk 0 (R vs)] := by
  refine Spec.up ?_
  refine Spec.of_GR 15 Try.func113 (c := bodyOf Try.f113) (by kernel_rfl) (by kernel_rfl) (Nat.le_of_ble_eq_true rfl) fun W F => ?_
  refine runR_sound (kc := true) (ss := []) (Cs := []) (fun _ _ h => h) trivial (mvY_ok hV) hmLo Ends.fn 300 _ _ ?_
  rw [mv_start]
  refine ⟨rfl, rfl, fun es0 clk bi hes hnd => ?_⟩
  refine GR_loopAt (ι := List (Key × (Nat × Int))) [] (bodyOf Try.f113) [1, 0] 15 (fun i => [(0, .raw fv), (6, .ptr 3 bi 0)]) (fun i => [⟨.blk bx, .cells [.map 1 bm] 146⟩, ⟨.blk bm, .mapS (some (.tup [none, none])) encTm es0 clk⟩, pk 0 (R (i.map (·.2.2))), ⟨.blk bi, .iter 1 bm clk ((i.map (·.2.1)))⟩]) (fun i => (∀ v ∈ i, v ∈ es0) ∧ (i.map (·.2.1)).Nodup) (fun i => (es0.filter fun e => decide (e.2.1 ∉ i.map (·.2.1))).length) [] (by kernel_rfl) (fun J => by kernel_rfl) ⟨fun v hv => (by cases hv), List.nodup_nil⟩ rfl ⟨rfl, rfl, trivial⟩ (fun w hw => hw) ?_
  rintro vis ⟨h1, h2⟩ u
  simp only [List.nil_append, List.cons_append]
  refine runR_sound (kc := true) (ss := []) (Cs := []) (fun _ _ h => h) trivial (mvY_ok hV) hmLo Ends.fn 600 _ _ ?_
  rw [mv_body (ts := [])]
  refine ⟨⟨rfl, rfl, rfl⟩, fun s1 s2 born v hm hns => ⟨⟨rfl, rfl, rfl⟩, s1, s2, born, v, vis.map (·.2.1), hm, rfl, rfl, vis.map (·.2.2), v, rfl, rfl, ?_⟩, fun hall => ?_⟩
  · have hmu : (es0.filter fun e => decide (e.2.1 ∉ snoc (vis.map (·.2.1)) born)).length < (es0.filter fun e => decide (e.2.1 ∉ vis.map (·.2.1))).length := seen_less (seen := vis.map (·.2.1)) hm hns
    have e1 : (vis ++ [(Key.g [KV.s s1, KV.s s2], born, v)]).map (·.2.1) = snoc (vis.map (·.2.1)) born := by rw [snoc_eq]; simp
    have e2 : (vis ++ [(Key.g [KV.s s1, KV.s s2], born, v)]).map (·.2.2) = vis.map (·.2.2) ++ [v] := by simp
    refine GR_back (vis ++ [(Key.g [KV.s s1, KV.s s2], born, v)]) ⟨fun x hx => ?_, ?_⟩ ?_ rfl ⟨rfl, rfl, trivial⟩ (fun w hr => ?_)
    · rcases List.mem_append.1 hx with hx | hx
      · exact h1 x hx
      · rw [List.mem_singleton.1 hx]; exact hm
    · rw [e1, snoc_eq, List.nodup_append]
      refine ⟨h2, List.nodup_cons.2 ⟨List.not_mem_nil, List.nodup_nil⟩, fun a ha b hb => ?_⟩
      rw [List.mem_singleton.1 hb]
      rintro rfl
      exact hns ha
    · rw [e1]; exact hmu
    · rw [e1, e2]; exact hr
  · have hperm := vis_perm hnd h1 h2 hall
    refine ⟨_, _, fun W F w hr => ?_, rfl, rfl, vis.map (·.2.2), ?_, rfl⟩
    · have g1 := Rep.pick (π := [0, 1, 2]) (by decide) rfl hr
      have g2 := Rep.unmapS (l := 1) rfl g1
      rw [hes] at g2
      exact g2
    · have : ts.map (·.2) = es0.map (·.2.2) := by rw [← hes, List.map_map]; rfl
      rw [this]
      exact hperm.map _
def lsR (b4 b5 D l : Nat) (rc : Loop) (vs : List Int) : List Ent := [⟨.blk b4, .cells [.int .i64 (minL (vs))] 2⟩, ⟨.blk b5, .cells [.bool (someL (vs))] 4⟩, dent D true, lp l rc .ready none]
section
variable {b4 b5 D l : Nat} {rc : Loop} {T : List SV}
theorem ls_V (hrt : rc.tmps = (denL T).toArray) (hrp : rc.params = rfP (codeAt (bodyOf Try.f80) [1, 1, 0, 1, 0])) (hra : rc.assign = rfA (codeAt (bodyOf Try.f80) [1, 1, 0, 1, 0])) (hrb : rc.body = rfB (codeAt (bodyOf Try.f80) [1, 1, 0, 1, 0]))
    (hl : ∀ v, lenN (setMany T [8] [v]) = 19 ∧ liveOk (setMany T [8] [v]) [(4, .ptr 0 b4 0), (5, .ptr 1 b5 0), (8, v)]) : OneM (.func (.yield l) #[] #[]) (lsR b4 b5 D l rc) := by
  intro vs x
  refine VSpec.conv (hs' := lsR b4 b5 D l rc vs) (args' := [.int .i64 x]) (Post' := fun h r => h = lsR b4 b5 D l rc (vs ++ [x]) ∧ r = .bool true) (fun W F w hr => by have := Rep.unpk hr; simpa using this) rfl (.inr ⟨l, rfl, ?_⟩) ?_
  · unfold lsR
    refine YSpec.up (YSpec.of_GR (p := 3) (T0 := T) (ps := [8]) rfl hrt hrp hra hrb rfl rfl fun W F => ?_)
    refine GR_live 19 [(4, .ptr 0 b4 0), (5, .ptr 1 b5 0), (8, .int .i64 x)] [⟨.blk b4, .cells [.int .i64 (minL (vs))] 2⟩, ⟨.blk b5, .cells [.bool (someL (vs))] 4⟩, dent D true, lp l rc .ready none] (hl _).1 (hl _).2 (fun _ h => h) fun u => ?_
    refine runR_sound (kc := true) (ss := []) (Cs := []) (Y := noY) (K := fun _ _ => False) (fun _ _ h => h.elim) trivial (noY_ok _) hmLo Ends.assign 60 _ _ ?_
    rw [ls_asg (bx := 0) (bm := 0) (ts := [])]
    refine ⟨rfl, ?_⟩
    refine GR_live 19 [(4, .ptr 0 b4 0), (5, .ptr 1 b5 0), (6, .int .i64 x)] [⟨.blk b4, .cells [.int .i64 (minL (vs))] 2⟩, ⟨.blk b5, .cells [.bool (someL (vs))] 4⟩, dent D true, lp l rc .busy none] rfl ⟨rfl, rfl, rfl, trivial⟩ (fun w hr => hr) fun u => ?_
    refine runR_sound (kc := true) (ss := []) (Cs := []) (Y := noY) (K := fun _ _ => False) (fun _ _ h => h.elim) trivial (noY_ok _) hmLo (Ends.round (p := 3) (rc := rc) (j := none)) 600 _ _ ?_
    rw [ls_body (bx := 0) (bm := 0) (ts := [])]
    have hmn := minL_snoc vs x
    have hsm := someL_snoc vs x
    have c1 : ∀ (tm : List SV) (mn : Int), mn = minL (vs ++ [x]) → roundE l 3 rc none (up fun h r => h = [⟨.blk b4, .cells [.int .i64 (minL (vs ++ [x]))] 2⟩, ⟨.blk b5, .cells [.bool (someL (vs ++ [x]))] 4⟩, dent D true, lp l rc .ready none] ∧ r = .bool true) ⟨tm, [⟨.blk b4, .cells [.int .i64 (mn)] 2⟩, ⟨.blk b5, .cells [.bool (true)] 4⟩, dent D true, lp l rc .busy none]⟩ := fun tm mn he => by
      subst he
      exact ⟨rfl, [⟨.blk b4, .cells [.int .i64 (minL (vs ++ [x]))] 2⟩, ⟨.blk b5, .cells [.bool (someL (vs ++ [x]))] 4⟩, dent D true, lp l rc .ready none], .bool true, fun W F w hr => by rw [hsm]; exact hr, rfl, rfl, rfl⟩
    refine ⟨rfl, ?_⟩
    cases h1 : !someL vs with
    | true =>
      rw [h1] at hmn
      exact ⟨⟨rfl, rfl, rfl, Nat.le_refl _⟩, ⟨rfl, rfl, rfl, Nat.le_refl _⟩, c1 _ _ hmn.symm⟩
    | false =>
      rw [h1] at hmn
      refine ⟨rfl, ?_⟩
      cases h2 : decide (x < minL vs) with
      | true =>
        rw [h2] at hmn
        exact ⟨⟨rfl, rfl, rfl, Nat.le_refl _⟩, ⟨rfl, rfl, rfl, Nat.le_refl _⟩, c1 _ _ hmn.symm⟩
      | false =>
        rw [h2] at hmn
        exact ⟨⟨rfl, rfl, rfl, Nat.le_refl _⟩, c1 _ _ hmn.symm⟩
  · rintro h' r ⟨rfl, rfl⟩
    exact ⟨[pk 0 (lsR b4 b5 D l rc (vs ++ [x]))], .bool true, fun W F w hr => Rep.pk (t := []) 0 (by simpa using hr), rfl, rfl, rfl⟩
end
theorem leastC_ok : CtrOk Try.prog 80 leastC := by
  intro args hs N h
  unfold leastC at h
  split at h
  case h_2 => exact h.elim
  rename_i g lb bx
  obtain ⟨rfl, lm, bm, ts, h1, h2, ⟨hne, hlen⟩, hN⟩ := h
  have hne' := ne_of_beqD hne
  refine Spec.at (hp := [⟨.blk bx, .cells [.map lm bm] 146⟩, ⟨.blk bm, .mapL (some (.tup [none, none])) encTm (ts)⟩]) (args' := [.func (.func 113) [] [.ptr 0 bx 0]]) (Post' := fun h' r => h' = [⟨.blk bx, .cells [.map lm bm] 146⟩, ⟨.blk bm, .mapL (some (.tup [none, none])) encTm (ts)⟩] ∧ ∃ vs : List Int, vs.Perm (ts.map (·.2)) ∧ r = .tuple [.int .i64 (minL vs), .bool (someL vs)]) [lb, lm] (by simpa [distinct] using hne') (by simp [pickE, h1, h2]) ?_ rfl ?_
  · refine Spec.up ?_
    refine Spec.pre (hs' := [⟨.blk bx, .cells [.map 1 bm] 146⟩, ⟨.blk bm, .mapL (some (.tup [none, none])) encTm (ts)⟩]) (args' := [.func (.func 113) [] [.ptr 0 bx 0]]) (fun W F w hr => Rep.cellsEq (l := 0) (cs' := [.map 1 bm]) rfl (by rfl) hr) rfl ?_
    refine Spec.of_GR 19 Try.func80 (c := bodyOf Try.f80) (by kernel_rfl) (by kernel_rfl) (Nat.le_of_ble_eq_true rfl) fun W F => ?_
    refine runR_sound (kc := true) (ss := []) (Cs := []) (fun _ _ h => h) trivial (noY_ok _) hmLo Ends.fn 300 _ _ ?_
    rw [ls_start]
    refine fun b4 b5 => ⟨⟨rfl, rfl, rfl, Nat.le_refl _⟩, ⟨rfl, rfl, rfl, Nat.le_refl _⟩, ?_⟩
    refine GR_rangeAt [] (bodyOf Try.f80) [1, 1, 0, 1, 0] (f := 113) (first := []) (captured := [.ptr 0 bx 0]) (by kernel_rfl) (by kernel_rfl) (by kernel_rfl) fun D l' rc hrt hrp hra hrb =>
      ⟨fun h _ => ∃ vs : List Int, vs.Perm (ts.map (·.2)) ∧ h = lsR b4 b5 D l' rc vs ++ [⟨.blk bx, .cells [.map 1 bm] 146⟩, ⟨.blk bm, .mapL (some (.tup [none, none])) encTm (ts)⟩], ?_, ?_⟩
    · intro W F w hr
      have hV1 := ls_V (b4 := b4) (b5 := b5) (T := _) (l := l') (D := D) hrt hrp hra hrb fun v => ⟨rfl, rfl, rfl, rfl, trivial⟩
      have g1 : Rep W F [⟨.blk bx, .cells [.map 1 bm] 146⟩, ⟨.blk bm, .mapL (some (.tup [none, none])) encTm (ts)⟩, pk 0 (lsR b4 b5 D l' rc [])] w := Rep.pkAt 0 (p := [_, _]) (t := []) (by rw [List.append_nil]; exact hr)
      refine Calls.mono (mval_iter (ts := ts) hV1 W F w g1) ?_
      rintro e w' ⟨h', r, ⟨rfl, vs, hv, rfl⟩, rfl, hr'⟩
      have h7 := Rep.unpkAt (p := [_, _]) (t := []) hr'
      exact ⟨_, .tuple [], ⟨vs, hv, rfl⟩, rfl, Rep.pick (π := [2, 3, 4, 5, 0, 1]) (by decide) rfl h7⟩
    · rintro h' v ⟨vs, hv, rfl⟩
      refine ⟨3, .ready, none, by decide, rfl, ?_⟩
      unfold lsR
      dsimp only
      refine GR_live 19 [(4, .ptr 0 b4 0), (5, .ptr 1 b5 0)] [⟨.blk b4, .cells [.int .i64 (minL (vs))] 2⟩, ⟨.blk b5, .cells [.bool (someL (vs))] 4⟩, dent D true, lp l' rc .exhausted none, ⟨.blk bx, .cells [.map 5 bm] 146⟩, ⟨.blk bm, .mapL (some (.tup [none, none])) encTm (ts)⟩] rfl ⟨rfl, rfl, trivial⟩ (fun w hr => Rep.cellsEq (l := 4) (cs' := [.map 5 bm]) rfl (by rfl) hr) fun u => ?_
      refine runR_sound (Cs := []) (Y := noY) (kc := true) (ss := []) (K := fun _ _ => False) (fun _ _ h => h.elim) trivial (noY_ok _) hmLo (Ends.fnM D 2) 900 _ _ ?_
      rw [ls_end]
      refine ⟨rfl, rfl, rfl, _, .tuple [.int .i64 (minL vs), .bool (someL vs)], fun W F w hr => ?_, rfl, rfl, vs, hv, rfl⟩
      have g1 := Rep.pick (π := [4, 5]) (by decide) rfl hr
      exact Rep.cellsEq (l := 0) (cs' := [.map lm bm]) rfl (by rfl) g1
  · rintro h' r ⟨rfl, vs, hv, rfl⟩
    refine ⟨Nat.le_refl _, _, rfl, ?_⟩
    have := hN vs hv
    have e : putBack [lb, lm] hs [⟨.blk bx, .cells [.map lm bm] 146⟩, ⟨.blk bm, .mapL (some (.tup [none, none])) encTm (ts)⟩] = hs := by
      simp only [putBack, appE_eq, List.append_nil]
      rw [setN_selfD h1, setN_selfD h2]
    rw [e]; exact this
theorem loTS_ok : AllOk Try.prog loTS := ⟨inl_ok trivial hmLo Try.func81 (by kernel_rfl), leastC_ok, trivial⟩
theorem lsoon_ok : CtrOk Try.prog 35 (adtC loE lsoonM) := adt_ok fun b s rest N h => by
  unfold lsoonM at h
  split at h
  case h_2 => exact h.elim
  obtain ⟨ho, hN⟩ := h
  refine Spec.pre (hs' := [⟨.blk b, .cells [.ptr 1 s.qb 0, .map 2 s.bm] 148⟩, pkA s.qb quEE s.ev, ⟨.blk s.bm, .mapL (some (.tup [none, none])) encTm (s.ts)⟩]) (args' := [.ptr 0 b 0]) (fun W F w hr => hr) rfl ?_
  refine Spec.of_G 16 Try.func35 (c := bodyOf Try.f35) (by kernel_rfl) (by kernel_rfl) (Nat.le_of_ble_eq_true rfl) fun W F => ?_
  refine G_run (kc := true) (ss := []) loTS_ok hmLo 600 ?_
  rw [lsoon_run]
  refine ⟨rfl, rfl, rfl, fun bx => ⟨rfl, rfl, 2, s.bm, s.ts, rfl, rfl, ⟨rfl, ho.len⟩, fun vs hv => ?_⟩⟩
  have hs := soon_eq hv
  cases vs with
  | nil => exact ⟨s, fun W F w hr => Rep.dropR (h := loE s b) (t := [_]) hr, by rw [← hs] at hN; exact hN⟩
  | cons y vs => exact ⟨s, fun W F w hr => Rep.dropR (h := loE s b) (t := [_]) hr, by rw [← hs] at hN; exact hN⟩
end Go.Proofs.Ytkcmgcoppecfpaa

namespace Go.Proofs.Ytkcmgcoppecfpaa
open Go Go.RowKit

theorem le_start (K : List Frm → Sy → Prop) (X : Code → Sy → Prop) (E : Sy → Prop) (s : LO) (b : Nat) (now : Int) : (runR Try.prog loTE (noY) true [] K X E 600 [.code (bodyOf Try.f34)] ⟨padTo 28 [.ptr 0 b 0, .int .i64 now], [pkA b loE s]⟩) = (
true = true ∧
 ∀ (b_1 : Nat),
  true = true ∧
   ∀ (b_2 b_3 : Nat),
    b_1 = b_1 ∧
     true = true ∧
      b = b ∧
       ∃ (h : LO = LO),
        AdtIs (fun (s : LO) (b : Nat) ↦ packs (loE s b)) loE ∧
         loOk (cast h s) ∧
          ∀ (ao : Option Addr) (cap bx : Nat),
           K (frm [] (bodyOf Try.f34) [1, 1, 0, 1, 0] [])
            (Sy.mk (SV.ptr 0 b 0 :: (SV.int IntKind.i64 now :: (SV.ptr 1 b_1 0 :: (SV.ptr 2 b_2 0 :: (SV.raw (Value.slice (@none Addr) 0 0) :: (SV.ptr 3 b_3 0 :: (SV.raw (Value.tuple #[]) :: (SV.ptr 0 b 0 :: (SV.func (Fn.func (123 : FuncId)) [] [SV.ptr 5 bx 0] :: (rawE [] 19))))))))))
             [pkA b loE s, Ent.mk (Loc.blk b_1) (SObj.cells [SV.ptr 0 b 0] 66), Ent.mk (Loc.blk b_2) (SObj.cells [SV.int IntKind.i64 now] 2),
              Ent.mk (Loc.blk b_3) (SObj.cells [SV.raw (Value.slice (@none Addr) 0 0)] 69),
              Ent.mk (Loc.sl ao cap) (SObj.vecL (72 : TypeId) 3 encDU (dues s.4) (DU.mk ByteArray.empty ByteArray.empty (0 : Int))),
              Ent.mk (Loc.blk bx) (SObj.cells [SV.vec 4 ao (List.length (dues s.4)) cap] (69 : TypeId))])) := by kernel_rfl


theorem le_asg (K : List Frm → Sy → Prop) (X : Code → Sy → Prop) (E : Sy → Prop) (s : LO) (b b2 b3 b5 D l : Nat) (rc : Loop) (now : Int) (ts : List (Key × Int)) (ao : Option Addr) (cap : Nat) (xs : List DU) (x : DU) (u : Nat → Value) : (runR Try.prog [] (noY) true [] K X E 60 ([.code (rfA (codeAt (bodyOf Try.f34) [1, 1, 0, 1, 0]))]) ⟨mkT u 28 0 [(2, .ptr 1 b2 0), (3, .ptr 2 b3 0), (5, .ptr 3 b5 0), (9, .agg (encDU x))], [pkA b loE { s with ts := ts }, ⟨.blk b2, .cells [.ptr 0 b 0] 66⟩, ⟨.blk b3, .cells [.int .i64 now] 2⟩, ⟨.blk b5, .cells [.vec 4 ao (xs).length cap] 69⟩, ⟨.sl ao cap, .vecL 72 3 encDU (xs) DU.zero⟩, dent D true, lp l rc .ready none]⟩) = (
∀ (b_1 : Nat),
 (b_1 = b_1 ∧ true = true ∧ 3 = 3 ∧ 3 ≤ 3) ∧
  E
   (Sy.mk (SV.raw (u 0) :: (SV.raw (u 1) :: (SV.ptr 1 b2 0 :: (SV.ptr 2 b3 0 :: (SV.raw (u 4) :: (SV.ptr 3 b5 0 :: (SV.ptr 7 b_1 0 :: (SV.raw (u 7) :: (SV.raw (u 8) :: (SV.agg [SV.str x.1, SV.str x.2, SV.int IntKind.i64 x.3] :: (rawR u 10 [] 18)))))))))))
    [pkA b loE (LO.mk s.1 s.2 s.3 ts), Ent.mk (Loc.blk b2) (SObj.cells [SV.ptr 0 b 0] (66 : TypeId)), Ent.mk (Loc.blk b3) (SObj.cells [SV.int IntKind.i64 now] (2 : TypeId)),
     Ent.mk (Loc.blk b5) (SObj.cells [SV.vec 4 ao (List.length xs) cap] (69 : TypeId)),
     Ent.mk (Loc.sl ao cap) (SObj.vecL (72 : TypeId) 3 encDU xs (DU.mk ByteArray.empty ByteArray.empty (0 : Int))), dent D true, lp l rc LoopState.ready (@none Code),
     Ent.mk (Loc.blk b_1) (SObj.cells [SV.str x.1, SV.str x.2, SV.int IntKind.i64 x.3] 72)])) := by kernel_rfl


theorem le_body (K : List Frm → Sy → Prop) (X : Code → Sy → Prop) (E : Sy → Prop) (s : LO) (b b2 b3 b5 D l : Nat) (rc : Loop) (now : Int) (ts : List (Key × Int)) (ao : Option Addr) (cap : Nat) (xs : List DU) (x : DU) (b6 : Nat) (u : Nat → Value) : (runR Try.prog [] (noY) true [] K X E 900 ([.code (rfB (codeAt (bodyOf Try.f34) [1, 1, 0, 1, 0]))]) ⟨mkT u 28 0 [(2, .ptr 1 b2 0), (3, .ptr 2 b3 0), (5, .ptr 3 b5 0), (6, .ptr 7 b6 0)], [⟨.blk b, .cells [.ptr 8 s.qb 0, .map 9 s.bm] 148⟩, ⟨.blk b2, .cells [.ptr 0 b 0] 66⟩, ⟨.blk b3, .cells [.int .i64 now] 2⟩, ⟨.blk b5, .cells [.vec 4 ao (xs).length cap] 69⟩, ⟨.sl ao cap, .vecL 72 3 encDU (xs) DU.zero⟩, dent D true, lp l rc .busy none, ⟨.blk b6, .cells (encDU x) 72⟩, pkA s.qb quEE s.ev, ⟨.blk s.bm, .mapL (some (.tup [none, none])) encTm (ts)⟩]⟩) = (
b6 = b6 ∧
 b3 = b3 ∧
  match decide (x.3 > now) with
  | true =>
   X (Code.exit 0)
    (Sy.mk (SV.raw (u 0) :: (SV.raw (u 1) :: (SV.ptr 1 b2 0 :: (SV.ptr 2 b3 0 :: (SV.raw (u 4) :: (SV.ptr 3 b5 0 :: (SV.ptr 7 b6 0 :: (rawR u 7 (SV.ptr 7 b6 2 :: (SV.int IntKind.i64 x.3 :: (SV.int IntKind.i64 now :: (SV.bool true :: (rawR u 14 [] 14))))) 3))))))))
     [Ent.mk (Loc.blk b) (SObj.cells [SV.ptr 8 s.2 0, SV.map 9 s.3] (148 : TypeId)), Ent.mk (Loc.blk b2) (SObj.cells [SV.ptr 0 b 0] (66 : TypeId)),
      Ent.mk (Loc.blk b3) (SObj.cells [SV.int IntKind.i64 now] (2 : TypeId)), Ent.mk (Loc.blk b5) (SObj.cells [SV.vec 4 ao (List.length xs) cap] (69 : TypeId)),
      Ent.mk (Loc.sl ao cap) (SObj.vecL (72 : TypeId) 3 encDU xs (DU.mk ByteArray.empty ByteArray.empty (0 : Int))), dent D true, lp l rc LoopState.busy (@none Code),
      Ent.mk (Loc.blk b6) (SObj.cells [SV.str x.1, SV.str x.2, SV.int IntKind.i64 x.3] (72 : TypeId)), pkA s.2 quEE s.1,
      Ent.mk (Loc.blk s.3) (SObj.mapL (some (KK.tup [@none IntKind, @none IntKind])) encTm ts)])
  | false =>
   b5 = b5 ∧
    (b6 = b6 ∧ 3 = 3) ∧
     (true = true ∧ 3 = 3 ∧ 0 < 3 ∧ 3 ≤ 16777216) ∧
      ∀ (b_1 : Nat),
       (ao = ao ∧
        cap = cap ∧
         List.length xs = List.length xs ∧
          some (Addr.mk b_1 0 (@none Nat)) = some (Addr.mk b_1 0 (@none Nat)) ∧
           (72 : TypeId) = 72 ∧
            3 = 3 ∧
             3 = 3 ∧
              0 < 1 ∧ true = true ∧ (List.length xs + 1) * 40 ≤ 140737488355328 ∧ List.length xs + 1 ≤ 9223372036854775807) ∧
        ∃ (es : List DU),
         List.length es = 1 ∧
          denL (List.flatMap encDU es) = denL [SV.str x.1, SV.str x.2, SV.int IntKind.i64 x.3] ∧
           ∀ (ao2 : Option Addr) (cap2 : Nat),
            List.length xs + 1 ≤ cap2 →
             (b5 = b5 ∧ true = true ∧ 1 = 1 ∧ 1 ≤ 1) ∧
              (b2 = b2 ∧
               b = b ∧
                (b6 = b6 ∧
                 b6 = b6 ∧
                  (true = true ∧ true = true) ∧
                   (s.3 = s.3 ∧
                    some (KK.tup [@none IntKind, @none IntKind]) = some (KK.tup [@none IntKind, @none IntKind]) ∧
                     some (KK.tup [@none IntKind, @none IntKind]) = some (KK.tup [@none IntKind, @none IntKind])) ∧
                    E
                     (Sy.mk (SV.raw (u 0) :: (SV.raw (u 1) :: (SV.ptr 1 b2 0 :: (SV.ptr 2 b3 0 :: (SV.raw (u 4) :: (SV.ptr 3 b5 0 :: (SV.ptr 7 b6 0 :: (rawR u 7 (SV.ptr 7 b6 2 :: (SV.int IntKind.i64 x.3 :: (SV.int IntKind.i64 now :: (SV.bool false :: (SV.vec 4 ao (List.length xs) cap :: (SV.agg [SV.str x.1, SV.str x.2, SV.int IntKind.i64 x.3] :: (SV.vec 10 (some (Addr.mk b_1 0 (@none Nat))) 1 1 :: (SV.vec 4 ao2 (List.length xs + 1) cap2 :: (SV.ptr 0 b 0 :: (SV.ptr 0 b 0 :: (SV.ptr 0 b 1 :: (SV.map 9 s.3 :: (SV.ptr 7 b6 0 :: (SV.str x.1 :: (SV.ptr 7 b6 1 :: (SV.str x.2 :: (SV.agg [SV.str x.1, SV.str x.2] :: (SV.raw (u 27) :: [])))))))))))))))))) 3))))))))
                      [Ent.mk (Loc.blk b) (SObj.cells [SV.ptr 8 s.2 0, SV.map 9 s.3] (148 : TypeId)),
                       Ent.mk (Loc.blk b2) (SObj.cells [SV.ptr 0 b 0] (66 : TypeId)), Ent.mk (Loc.blk b3) (SObj.cells [SV.int IntKind.i64 now] (2 : TypeId)),
                       Ent.mk (Loc.blk b5) (SObj.cells [SV.vec 4 ao2 (List.length xs + 1) cap2] (69 : TypeId)),
                       Ent.mk (Loc.sl ao2 cap2) (SObj.vecL (72 : TypeId) 3 encDU (xs ++ es) (DU.mk ByteArray.empty ByteArray.empty (0 : Int))), dent D true,
                       lp l rc LoopState.busy (@none Code), Ent.mk (Loc.blk b6) (SObj.cells [SV.str x.1, SV.str x.2, SV.int IntKind.i64 x.3] (72 : TypeId)),
                       pkA s.2 quEE s.1, Ent.mk (Loc.blk s.3) (SObj.mapL (some (KK.tup [@none IntKind, @none IntKind])) encTm (mdel ts (Key.g [KV.s x.1, KV.s x.2]))),
                       Ent.mk (Loc.blk b_1) (SObj.cells [SV.str x.1, SV.str x.2, SV.int IntKind.i64 x.3] 72)])) ∧
                 b6 = b6 ∧
                  b6 = b6 ∧
                   (true = true ∧ true = true) ∧
                    (s.3 = s.3 ∧
                     some (KK.tup [@none IntKind, @none IntKind]) = some (KK.tup [@none IntKind, @none IntKind]) ∧
                      some (KK.tup [@none IntKind, @none IntKind]) = some (KK.tup [@none IntKind, @none IntKind])) ∧
                     E
                      (Sy.mk (SV.raw (u 0) :: (SV.raw (u 1) :: (SV.ptr 1 b2 0 :: (SV.ptr 2 b3 0 :: (SV.raw (u 4) :: (SV.ptr 3 b5 0 :: (SV.ptr 7 b6 0 :: (rawR u 7 (SV.ptr 7 b6 2 :: (SV.int IntKind.i64 x.3 :: (SV.int IntKind.i64 now :: (SV.bool false :: (SV.vec 4 ao (List.length xs) cap :: (SV.agg [SV.str x.1, SV.str x.2, SV.int IntKind.i64 x.3] :: (SV.vec 10 (some (Addr.mk b_1 0 (@none Nat))) 1 1 :: (SV.vec 4 ao2 (List.length xs + 1) cap2 :: (SV.ptr 0 b 0 :: (SV.ptr 0 b 0 :: (SV.ptr 0 b 1 :: (SV.map 9 s.3 :: (SV.ptr 7 b6 0 :: (SV.str x.1 :: (SV.ptr 7 b6 1 :: (SV.str x.2 :: (SV.agg [SV.str x.1, SV.str x.2] :: (SV.raw (u 27) :: [])))))))))))))))))) 3))))))))
                       [Ent.mk (Loc.blk b) (SObj.cells [SV.ptr 8 s.2 0, SV.map 9 s.3] (148 : TypeId)),
                        Ent.mk (Loc.blk b2) (SObj.cells [SV.ptr 0 b 0] (66 : TypeId)), Ent.mk (Loc.blk b3) (SObj.cells [SV.int IntKind.i64 now] (2 : TypeId)),
                        Ent.mk (Loc.blk b5) (SObj.cells [SV.vec 4 ao2 (List.length xs + 1) cap2] (69 : TypeId)),
                        Ent.mk (Loc.sl ao2 cap2) (SObj.vecL (72 : TypeId) 3 encDU (xs ++ es) (DU.mk ByteArray.empty ByteArray.empty (0 : Int))), dent D true,
                        lp l rc LoopState.busy (@none Code), Ent.mk (Loc.blk b6) (SObj.cells [SV.str x.1, SV.str x.2, SV.int IntKind.i64 x.3] (72 : TypeId)),
                        pkA s.2 quEE s.1, Ent.mk (Loc.blk s.3) (SObj.mapL (some (KK.tup [@none IntKind, @none IntKind])) encTm (mdel ts (Key.g [KV.s x.1, KV.s x.2]))),
                        Ent.mk (Loc.blk b_1) (SObj.cells [SV.str x.1, SV.str x.2, SV.int IntKind.i64 x.3] 72)])) ∧
               (b6 = b6 ∧
                (b2 = b2 ∧
                 b = b ∧
                  b6 = b6 ∧
                   (true = true ∧ true = true) ∧
                    (s.3 = s.3 ∧
                     some (KK.tup [@none IntKind, @none IntKind]) = some (KK.tup [@none IntKind, @none IntKind]) ∧
                      some (KK.tup [@none IntKind, @none IntKind]) = some (KK.tup [@none IntKind, @none IntKind])) ∧
                     E
                      (Sy.mk (SV.raw (u 0) :: (SV.raw (u 1) :: (SV.ptr 1 b2 0 :: (SV.ptr 2 b3 0 :: (SV.raw (u 4) :: (SV.ptr 3 b5 0 :: (SV.ptr 7 b6 0 :: (rawR u 7 (SV.ptr 7 b6 2 :: (SV.int IntKind.i64 x.3 :: (SV.int IntKind.i64 now :: (SV.bool false :: (SV.vec 4 ao (List.length xs) cap :: (SV.agg [SV.str x.1, SV.str x.2, SV.int IntKind.i64 x.3] :: (SV.vec 10 (some (Addr.mk b_1 0 (@none Nat))) 1 1 :: (SV.vec 4 ao2 (List.length xs + 1) cap2 :: (SV.ptr 0 b 0 :: (SV.ptr 0 b 0 :: (SV.ptr 0 b 1 :: (SV.map 9 s.3 :: (SV.ptr 7 b6 0 :: (SV.str x.1 :: (SV.ptr 7 b6 1 :: (SV.str x.2 :: (SV.agg [SV.str x.1, SV.str x.2] :: (SV.raw (u 27) :: [])))))))))))))))))) 3))))))))
                       [Ent.mk (Loc.blk b) (SObj.cells [SV.ptr 8 s.2 0, SV.map 9 s.3] (148 : TypeId)),
                        Ent.mk (Loc.blk b2) (SObj.cells [SV.ptr 0 b 0] (66 : TypeId)),
                        Ent.mk (Loc.blk b3) (SObj.cells [SV.int IntKind.i64 now] (2 : TypeId)),
                        Ent.mk (Loc.blk b5) (SObj.cells [SV.vec 4 ao2 (List.length xs + 1) cap2] (69 : TypeId)),
                        Ent.mk (Loc.sl ao2 cap2) (SObj.vecL (72 : TypeId) 3 encDU (xs ++ es) (DU.mk ByteArray.empty ByteArray.empty (0 : Int))), dent D true,
                        lp l rc LoopState.busy (@none Code), Ent.mk (Loc.blk b6) (SObj.cells [SV.str x.1, SV.str x.2, SV.int IntKind.i64 x.3] (72 : TypeId)),
                        pkA s.2 quEE s.1, Ent.mk (Loc.blk s.3) (SObj.mapL (some (KK.tup [@none IntKind, @none IntKind])) encTm (mdel ts (Key.g [KV.s x.1, KV.s x.2]))),
                        Ent.mk (Loc.blk b_1) (SObj.cells [SV.str x.1, SV.str x.2, SV.int IntKind.i64 x.3] 72)])) ∧
                 b6 = b6 ∧
                  (true = true ∧ true = true) ∧
                   b2 = b2 ∧
                    b = b ∧
                     (s.3 = s.3 ∧
                      some (KK.tup [@none IntKind, @none IntKind]) = some (KK.tup [@none IntKind, @none IntKind]) ∧
                       some (KK.tup [@none IntKind, @none IntKind]) = some (KK.tup [@none IntKind, @none IntKind])) ∧
                      E
                       (Sy.mk (SV.raw (u 0) :: (SV.raw (u 1) :: (SV.ptr 1 b2 0 :: (SV.ptr 2 b3 0 :: (SV.raw (u 4) :: (SV.ptr 3 b5 0 :: (SV.ptr 7 b6 0 :: (rawR u 7 (SV.ptr 7 b6 2 :: (SV.int IntKind.i64 x.3 :: (SV.int IntKind.i64 now :: (SV.bool false :: (SV.vec 4 ao (List.length xs) cap :: (SV.agg [SV.str x.1, SV.str x.2, SV.int IntKind.i64 x.3] :: (SV.vec 10 (some (Addr.mk b_1 0 (@none Nat))) 1 1 :: (SV.vec 4 ao2 (List.length xs + 1) cap2 :: (SV.ptr 0 b 0 :: (SV.ptr 0 b 0 :: (SV.ptr 0 b 1 :: (SV.map 9 s.3 :: (SV.ptr 7 b6 0 :: (SV.str x.1 :: (SV.ptr 7 b6 1 :: (SV.str x.2 :: (SV.agg [SV.str x.1, SV.str x.2] :: (SV.raw (u 27) :: [])))))))))))))))))) 3))))))))
                        [Ent.mk (Loc.blk b) (SObj.cells [SV.ptr 8 s.2 0, SV.map 9 s.3] (148 : TypeId)),
                         Ent.mk (Loc.blk b2) (SObj.cells [SV.ptr 0 b 0] (66 : TypeId)),
                         Ent.mk (Loc.blk b3) (SObj.cells [SV.int IntKind.i64 now] (2 : TypeId)),
                         Ent.mk (Loc.blk b5) (SObj.cells [SV.vec 4 ao2 (List.length xs + 1) cap2] (69 : TypeId)),
                         Ent.mk (Loc.sl ao2 cap2) (SObj.vecL (72 : TypeId) 3 encDU (xs ++ es) (DU.mk ByteArray.empty ByteArray.empty (0 : Int))), dent D true,
                         lp l rc LoopState.busy (@none Code), Ent.mk (Loc.blk b6) (SObj.cells [SV.str x.1, SV.str x.2, SV.int IntKind.i64 x.3] (72 : TypeId)),
                         pkA s.2 quEE s.1, Ent.mk (Loc.blk s.3) (SObj.mapL (some (KK.tup [@none IntKind, @none IntKind])) encTm (mdel ts (Key.g [KV.s x.1, KV.s x.2]))),
                         Ent.mk (Loc.blk b_1) (SObj.cells [SV.str x.1, SV.str x.2, SV.int IntKind.i64 x.3] 72)])) ∧
                b6 = b6 ∧
                 (b2 = b2 ∧
                  b = b ∧
                   b6 = b6 ∧
                    (true = true ∧ true = true) ∧
                     (s.3 = s.3 ∧
                      some (KK.tup [@none IntKind, @none IntKind]) = some (KK.tup [@none IntKind, @none IntKind]) ∧
                       some (KK.tup [@none IntKind, @none IntKind]) = some (KK.tup [@none IntKind, @none IntKind])) ∧
                      E
                       (Sy.mk (SV.raw (u 0) :: (SV.raw (u 1) :: (SV.ptr 1 b2 0 :: (SV.ptr 2 b3 0 :: (SV.raw (u 4) :: (SV.ptr 3 b5 0 :: (SV.ptr 7 b6 0 :: (rawR u 7 (SV.ptr 7 b6 2 :: (SV.int IntKind.i64 x.3 :: (SV.int IntKind.i64 now :: (SV.bool false :: (SV.vec 4 ao (List.length xs) cap :: (SV.agg [SV.str x.1, SV.str x.2, SV.int IntKind.i64 x.3] :: (SV.vec 10 (some (Addr.mk b_1 0 (@none Nat))) 1 1 :: (SV.vec 4 ao2 (List.length xs + 1) cap2 :: (SV.ptr 0 b 0 :: (SV.ptr 0 b 0 :: (SV.ptr 0 b 1 :: (SV.map 9 s.3 :: (SV.ptr 7 b6 0 :: (SV.str x.1 :: (SV.ptr 7 b6 1 :: (SV.str x.2 :: (SV.agg [SV.str x.1, SV.str x.2] :: (SV.raw (u 27) :: [])))))))))))))))))) 3))))))))
                        [Ent.mk (Loc.blk b) (SObj.cells [SV.ptr 8 s.2 0, SV.map 9 s.3] (148 : TypeId)),
                         Ent.mk (Loc.blk b2) (SObj.cells [SV.ptr 0 b 0] (66 : TypeId)),
                         Ent.mk (Loc.blk b3) (SObj.cells [SV.int IntKind.i64 now] (2 : TypeId)),
                         Ent.mk (Loc.blk b5) (SObj.cells [SV.vec 4 ao2 (List.length xs + 1) cap2] (69 : TypeId)),
                         Ent.mk (Loc.sl ao2 cap2) (SObj.vecL (72 : TypeId) 3 encDU (xs ++ es) (DU.mk ByteArray.empty ByteArray.empty (0 : Int))), dent D true,
                         lp l rc LoopState.busy (@none Code), Ent.mk (Loc.blk b6) (SObj.cells [SV.str x.1, SV.str x.2, SV.int IntKind.i64 x.3] (72 : TypeId)),
                         pkA s.2 quEE s.1, Ent.mk (Loc.blk s.3) (SObj.mapL (some (KK.tup [@none IntKind, @none IntKind])) encTm (mdel ts (Key.g [KV.s x.1, KV.s x.2]))),
                         Ent.mk (Loc.blk b_1) (SObj.cells [SV.str x.1, SV.str x.2, SV.int IntKind.i64 x.3] 72)])) ∧
                  b6 = b6 ∧
                   (true = true ∧ true = true) ∧
                    b2 = b2 ∧
                     b = b ∧
                      (s.3 = s.3 ∧
                       some (KK.tup [@none IntKind, @none IntKind]) = some (KK.tup [@none IntKind, @none IntKind]) ∧
                        some (KK.tup [@none IntKind, @none IntKind]) = some (KK.tup [@none IntKind, @none IntKind])) ∧
                       E
                        (Sy.mk (SV.raw (u 0) :: (SV.raw (u 1) :: (SV.ptr 1 b2 0 :: (SV.ptr 2 b3 0 :: (SV.raw (u 4) :: (SV.ptr 3 b5 0 :: (SV.ptr 7 b6 0 :: (rawR u 7 (SV.ptr 7 b6 2 :: (SV.int IntKind.i64 x.3 :: (SV.int IntKind.i64 now :: (SV.bool false :: (SV.vec 4 ao (List.length xs) cap :: (SV.agg [SV.str x.1, SV.str x.2, SV.int IntKind.i64 x.3] :: (SV.vec 10 (some (Addr.mk b_1 0 (@none Nat))) 1 1 :: (SV.vec 4 ao2 (List.length xs + 1) cap2 :: (SV.ptr 0 b 0 :: (SV.ptr 0 b 0 :: (SV.ptr 0 b 1 :: (SV.map 9 s.3 :: (SV.ptr 7 b6 0 :: (SV.str x.1 :: (SV.ptr 7 b6 1 :: (SV.str x.2 :: (SV.agg [SV.str x.1, SV.str x.2] :: (SV.raw (u 27) :: [])))))))))))))))))) 3))))))))
                         [Ent.mk (Loc.blk b) (SObj.cells [SV.ptr 8 s.2 0, SV.map 9 s.3] (148 : TypeId)),
                          Ent.mk (Loc.blk b2) (SObj.cells [SV.ptr 0 b 0] (66 : TypeId)),
                          Ent.mk (Loc.blk b3) (SObj.cells [SV.int IntKind.i64 now] (2 : TypeId)),
                          Ent.mk (Loc.blk b5) (SObj.cells [SV.vec 4 ao2 (List.length xs + 1) cap2] (69 : TypeId)),
                          Ent.mk (Loc.sl ao2 cap2) (SObj.vecL (72 : TypeId) 3 encDU (xs ++ es) (DU.mk ByteArray.empty ByteArray.empty (0 : Int))), dent D true,
                          lp l rc LoopState.busy (@none Code), Ent.mk (Loc.blk b6) (SObj.cells [SV.str x.1, SV.str x.2, SV.int IntKind.i64 x.3] (72 : TypeId)),
                          pkA s.2 quEE s.1, Ent.mk (Loc.blk s.3) (SObj.mapL (some (KK.tup [@none IntKind, @none IntKind])) encTm (mdel ts (Key.g [KV.s x.1, KV.s x.2]))),
                          Ent.mk (Loc.blk b_1) (SObj.cells [SV.str x.1, SV.str x.2, SV.int IntKind.i64 x.3] 72)])) := by kernel_rfl


theorem le_end (K : List Frm → Sy → Prop) (E : Sy → Prop) (N : List Ent → SV → Prop) (s : LO) (b b2 b3 b5 D l : Nat) (rc : Loop) (now : Int) (ts : List (Key × Int)) (ao : Option Addr) (cap : Nat) (xs : List DU) (u : Nat → Value) : (runR Try.prog [] (noY) true [] K (endMX Try.prog Try.f34.results.toList D 5 N) E 900 ((frm [] (bodyOf Try.f34) [1, 1, 0, 1, 0] []).tail) ⟨mkT u 28 0 [(2, .ptr 1 b2 0), (3, .ptr 2 b3 0), (5, .ptr 3 b5 0)], [pkA b loE { s with ts := ts }, ⟨.blk b2, .cells [.ptr 0 b 0] 66⟩, ⟨.blk b3, .cells [.int .i64 now] 2⟩, ⟨.blk b5, .cells [.vec 4 ao (xs).length cap] 69⟩, ⟨.sl ao cap, .vecL 72 3 encDU (xs) DU.zero⟩, dent D true, lp l rc .exhausted none]⟩) = (
b5 = b5 ∧
 some (dent D true) = some (dent D true) ∧
  N
   [pkA b loE (LO.mk s.1 s.2 s.3 ts), Ent.mk (Loc.blk b2) (SObj.cells [SV.ptr 0 b 0] (66 : TypeId)), Ent.mk (Loc.blk b3) (SObj.cells [SV.int IntKind.i64 now] (2 : TypeId)),
    Ent.mk (Loc.blk b5) (SObj.cells [SV.vec 4 ao (List.length xs) cap] (69 : TypeId)),
    Ent.mk (Loc.sl ao cap) (SObj.vecL (72 : TypeId) 3 encDU xs (DU.mk ByteArray.empty ByteArray.empty (0 : Int))), dent D false, lp l rc LoopState.exhausted (@none Code)]
   (SV.vec 4 ao (List.length xs) cap)) := by kernel_rfl


theorem le_brk (K : List Frm → Sy → Prop) (E : Sy → Prop) (N : List Ent → SV → Prop) (s : LO) (b b2 b3 b5 D l : Nat) (rc : Loop) (now : Int) (ts : List (Key × Int)) (ao : Option Addr) (cap : Nat) (xs : List DU) (u : Nat → Value) : (runR Try.prog [] (noY) true [] K (endMX Try.prog Try.f34.results.toList D 5 N) E 900 (Frm.code (.exit 0) :: (frm [] (bodyOf Try.f34) [1, 1, 0, 1, 0] []).tail) ⟨mkT u 28 0 [(2, .ptr 1 b2 0), (3, .ptr 2 b3 0), (5, .ptr 3 b5 0)], [pkA b loE { s with ts := ts }, ⟨.blk b2, .cells [.ptr 0 b 0] 66⟩, ⟨.blk b3, .cells [.int .i64 now] 2⟩, ⟨.blk b5, .cells [.vec 4 ao (xs).length cap] 69⟩, ⟨.sl ao cap, .vecL 72 3 encDU (xs) DU.zero⟩, dent D true, lp l rc .exhausted (some (.exit 0))]⟩) = (
b5 = b5 ∧
 some (dent D true) = some (dent D true) ∧
  N
   [pkA b loE (LO.mk s.1 s.2 s.3 ts), Ent.mk (Loc.blk b2) (SObj.cells [SV.ptr 0 b 0] (66 : TypeId)), Ent.mk (Loc.blk b3) (SObj.cells [SV.int IntKind.i64 now] (2 : TypeId)),
    Ent.mk (Loc.blk b5) (SObj.cells [SV.vec 4 ao (List.length xs) cap] (69 : TypeId)),
    Ent.mk (Loc.sl ao cap) (SObj.vecL (72 : TypeId) 3 encDU xs (DU.mk ByteArray.empty ByteArray.empty (0 : Int))), dent D false, lp l rc LoopState.exhausted (some (Code.exit 0))]
   (SV.vec 4 ao (List.length xs) cap)) := by kernel_rfl
end Go.Proofs.Ytkcmgcoppecfpaa

namespace Go.Proofs.Ytkcmgcoppecfpaa
open Go Go.RowKit

theorem vD_start (K : List Frm → Sy → Prop) (X : Code → Sy → Prop) (E : Sy → Prop) (xs : List DU) (bx : Nat) (ao : Option Addr) (cap : Nat) (fv : Value) (R : Nat → List Ent) (Stop : List Ent → Prop) : (runR Try.prog [] (valDY fv xs R Stop) true [] K X E 300 [.code (bodyOf Try.f123)] ⟨padTo 16 [.raw fv, .ptr 0 bx 0], [⟨.blk bx, .cells [.vec 1 ao xs.length cap] 69⟩, ⟨.sl ao cap, .vecL 72 3 encDU (xs) DU.zero⟩, pk 0 (R 0)]⟩) = (
bx = bx ∧
 K (frm [] (bodyOf Try.f123) [1, 0] [])
  (Sy.mk (SV.raw fv :: (SV.ptr 0 bx 0 :: (rawE (SV.vec 1 ao (List.length xs) cap :: (SV.int IntKind.i64 (↑(List.length xs) : Int) :: (SV.int IntKind.i64 (0 : Int) :: (rawE [] 8)))) 3)))
   [Ent.mk (Loc.blk bx) (SObj.cells [SV.vec 1 ao (List.length xs) cap] (69 : TypeId)),
    Ent.mk (Loc.sl ao cap) (SObj.vecL (72 : TypeId) 3 encDU xs (DU.mk ByteArray.empty ByteArray.empty (0 : Int))), pk 0 (R 0)])) := by kernel_rfl


theorem vD_body (K : List Frm → Sy → Prop) (X : Code → Sy → Prop) (E : Sy → Prop) (J : Act → World → Prop) (xs : List DU) (bx : Nat) (ao : Option Addr) (cap : Nat) (fv : Value) (R : Nat → List Ent) (Stop : List Ent → Prop) (i : Nat) (u : Nat → Value) : (runR Try.prog [] (valDY fv xs R Stop) true [] K X E 900 (frm [J] (bodyOf Try.f123) [1, 0, 0] []) ⟨mkT u 16 0 [(0, .raw fv), (1, .ptr 0 bx 0), (5, .vec 1 ao xs.length cap), (6, .int .i64 (xs.length : Int)), (7, .int .i64 (i : Int))], [⟨.blk bx, .cells [.vec 1 ao xs.length cap] 69⟩, ⟨.sl ao cap, .vecL 72 3 encDU (xs) DU.zero⟩, pk 0 (R i)]⟩) = (
match decide ((↑i : Int) < (↑(List.length xs) : Int)) with
| true =>
 (ao = ao ∧ cap = cap ∧ List.length xs = List.length xs ∧ (0 : Int) ≤ (↑i : Int) ∧ (↑i : Int) < (↑(List.length xs) : Int)) ∧
  (Addr.blkD ao = Addr.blkD ao ∧ Addr.offD ao = Addr.offD ao ∧ 3 = 3 ∧ Int.toNat (↑i : Int) < List.length xs ∧ 3 = 3) ∧
   ∀ (b : Nat),
    (b = b ∧ true = true ∧ 3 = 3 ∧ 3 ≤ 3) ∧
     (b = b ∧ 3 = 3) ∧
      fv = fv ∧
       ∃ (i_1 : Nat),
        ∃ (x : DU),
         xs[i_1]? = some x ∧
          [SV.agg
           [SV.str (List.getD xs (Int.toNat (↑i : Int)) (DU.mk ByteArray.empty ByteArray.empty (0 : Int))).1,
            SV.str (List.getD xs (Int.toNat (↑i : Int)) (DU.mk ByteArray.empty ByteArray.empty (0 : Int))).2,
            SV.int IntKind.i64 (List.getD xs (Int.toNat (↑i : Int)) (DU.mk ByteArray.empty ByteArray.empty (0 : Int))).3]] =
           [SV.agg [SV.str x.1, SV.str x.2, SV.int IntKind.i64 x.3]] ∧
           pk 0 (R i) = pk 0 (R i_1) ∧
            K [Frm.loop J, Frm.blk 0]
             (Sy.mk (SV.raw fv :: (SV.ptr 0 bx 0 :: (SV.raw (u 2) :: (SV.raw (u 3) :: (SV.ptr 3 b 0 :: (SV.vec 1 ao (List.length xs) cap :: (SV.int IntKind.i64 (↑(List.length xs) : Int) :: (SV.int IntKind.i64 (IntKind.wrap IntKind.i64 ((↑i : Int) + (1 : Int))) :: (SV.bool true :: (SV.eptr 1 (Addr.blkD ao) (Addr.offD ao) 3 (Int.toNat (↑i : Int)) 0 :: (SV.agg [SV.str (List.getD xs (Int.toNat (↑i : Int)) (DU.mk ByteArray.empty ByteArray.empty (0 : Int))).1, SV.str (List.getD xs (Int.toNat (↑i : Int)) (DU.mk ByteArray.empty ByteArray.empty (0 : Int))).2, SV.int IntKind.i64 (List.getD xs (Int.toNat (↑i : Int)) (DU.mk ByteArray.empty ByteArray.empty (0 : Int))).3] :: (SV.raw fv :: (SV.agg [SV.str (List.getD xs (Int.toNat (↑i : Int)) (DU.mk ByteArray.empty ByteArray.empty (0 : Int))).1, SV.str (List.getD xs (Int.toNat (↑i : Int)) (DU.mk ByteArray.empty ByteArray.empty (0 : Int))).2, SV.int IntKind.i64 (List.getD xs (Int.toNat (↑i : Int)) (DU.mk ByteArray.empty ByteArray.empty (0 : Int))).3] :: (SV.bool true :: (SV.bool false :: (SV.int IntKind.i64 (IntKind.wrap IntKind.i64 ((↑i : Int) + (1 : Int))) :: []))))))))))))))))
              [Ent.mk (Loc.blk bx) (SObj.cells [SV.vec 1 ao (List.length xs) cap] (69 : TypeId)),
               Ent.mk (Loc.sl ao cap) (SObj.vecL (72 : TypeId) 3 encDU xs (DU.mk ByteArray.empty ByteArray.empty (0 : Int))), pk 0 (R (i_1 + 1)),
               Ent.mk (Loc.blk b)
                (SObj.cells
                 [SV.str (List.getD xs (Int.toNat (↑i : Int)) (DU.mk ByteArray.empty ByteArray.empty (0 : Int))).1,
                  SV.str (List.getD xs (Int.toNat (↑i : Int)) (DU.mk ByteArray.empty ByteArray.empty (0 : Int))).2,
                  SV.int IntKind.i64 (List.getD xs (Int.toNat (↑i : Int)) (DU.mk ByteArray.empty ByteArray.empty (0 : Int))).3]
                 72)]) ∧
             ∀ (R' : List Ent),
              Stop R' →
               X Code.ret
                (Sy.mk (SV.raw fv :: (SV.ptr 0 bx 0 :: (SV.raw (u 2) :: (SV.raw (u 3) :: (SV.ptr 3 b 0 :: (SV.vec 1 ao (List.length xs) cap :: (SV.int IntKind.i64 (↑(List.length xs) : Int) :: (SV.int IntKind.i64 (↑i : Int) :: (SV.bool true :: (SV.eptr 1 (Addr.blkD ao) (Addr.offD ao) 3 (Int.toNat (↑i : Int)) 0 :: (SV.agg [SV.str (List.getD xs (Int.toNat (↑i : Int)) (DU.mk ByteArray.empty ByteArray.empty (0 : Int))).1, SV.str (List.getD xs (Int.toNat (↑i : Int)) (DU.mk ByteArray.empty ByteArray.empty (0 : Int))).2, SV.int IntKind.i64 (List.getD xs (Int.toNat (↑i : Int)) (DU.mk ByteArray.empty ByteArray.empty (0 : Int))).3] :: (SV.raw fv :: (SV.agg [SV.str (List.getD xs (Int.toNat (↑i : Int)) (DU.mk ByteArray.empty ByteArray.empty (0 : Int))).1, SV.str (List.getD xs (Int.toNat (↑i : Int)) (DU.mk ByteArray.empty ByteArray.empty (0 : Int))).2, SV.int IntKind.i64 (List.getD xs (Int.toNat (↑i : Int)) (DU.mk ByteArray.empty ByteArray.empty (0 : Int))).3] :: (SV.bool false :: (SV.bool true :: (SV.raw (u 15) :: []))))))))))))))))
                 [Ent.mk (Loc.blk bx) (SObj.cells [SV.vec 1 ao (List.length xs) cap] (69 : TypeId)),
                  Ent.mk (Loc.sl ao cap) (SObj.vecL (72 : TypeId) 3 encDU xs (DU.mk ByteArray.empty ByteArray.empty (0 : Int))), pk 0 R',
                  Ent.mk (Loc.blk b)
                   (SObj.cells
                    [SV.str (List.getD xs (Int.toNat (↑i : Int)) (DU.mk ByteArray.empty ByteArray.empty (0 : Int))).1,
                     SV.str (List.getD xs (Int.toNat (↑i : Int)) (DU.mk ByteArray.empty ByteArray.empty (0 : Int))).2,
                     SV.int IntKind.i64 (List.getD xs (Int.toNat (↑i : Int)) (DU.mk ByteArray.empty ByteArray.empty (0 : Int))).3]
                    72)])
| false =>
 E
  (Sy.mk (SV.raw fv :: (SV.ptr 0 bx 0 :: (rawR u 2 (SV.vec 1 ao (List.length xs) cap :: (SV.int IntKind.i64 (↑(List.length xs) : Int) :: (SV.int IntKind.i64 (↑i : Int) :: (SV.bool false :: (rawR u 9 [] 7))))) 3)))
   [Ent.mk (Loc.blk bx) (SObj.cells [SV.vec 1 ao (List.length xs) cap] (69 : TypeId)),
    Ent.mk (Loc.sl ao cap) (SObj.vecL (72 : TypeId) 3 encDU xs (DU.mk ByteArray.empty ByteArray.empty (0 : Int))), pk 0 (R i)])) := by kernel_rfl
end Go.Proofs.Ytkcmgcoppecfpaa

