import Derived.Test.YtjnkfgigpapeaaaQTC
import Derived.Test.YtjnkfgigpapeaaaTab
namespace Go.Proofs.Ytjnkfgigpapeaaa
set_option linter.unusedVariables false
open Go Go.RowKit
set_option maxHeartbeats 0
set_option maxRecDepth 100000
set_option linter.unusedVariables false
set_option maxRecDepth 100000

theorem qt_start (K : List Frm → Sy → Prop) (N : List Ent → SV → Prop) (ao : Option Addr) (cap : Nat) (bs : List ByteArray) : (run Try.prog qTS5 false [] K (retP Try.prog Try.f9.results.toList N) 900 [.code (bodyOf Try.f9)] ⟨padTo 110 [.vec 0 ao bs.length cap], [⟨.sl ao cap, .roL 1 encStr bs .empty⟩]⟩) = (
true = true ∧
 match decide ((↑(List.length bs) : Int) > (60 : Int)) with
 | true => N [Ent.mk (Loc.sl ao cap) (SObj.roL 1 encStr bs ByteArray.empty)] (SV.bool true)
 | false =>
  true = true ∧
   (true = true ∧ true = true) ∧
    (true = true ∧ true = true) ∧
     true = true ∧
      ∀ (b : Nat),
       K (frm [] (bodyOf Try.f9) [1, 1, 1, 1, 0, 1, 0] [])
        (Sy.mk
         [SV.vec 0 ao (List.length bs) cap, SV.raw (Value.tuple #[]), SV.bool false, SV.ptr 1 b 0, SV.int IntKind.i64 (0 : Int), SV.raw (Value.tuple #[]),
          SV.raw (Value.tuple #[]), SV.raw (Value.tuple #[]), SV.raw (Value.tuple #[]), SV.raw (Value.tuple #[]), SV.raw (Value.tuple #[]), SV.raw (Value.tuple #[]),
          SV.raw (Value.tuple #[]), SV.raw (Value.tuple #[]), SV.bool true, SV.bool false, SV.vec 0 ao (List.length bs) cap, SV.int IntKind.i64 (↑(List.length bs) : Int),
          SV.bool false, SV.ptr 1 b 0, SV.raw (Value.tuple #[]), SV.raw (Value.tuple #[]), SV.raw (Value.tuple #[]), SV.raw (Value.tuple #[]), SV.raw (Value.tuple #[]),
          SV.raw (Value.tuple #[]), SV.raw (Value.tuple #[]), SV.raw (Value.tuple #[]), SV.raw (Value.tuple #[]), SV.raw (Value.tuple #[]), SV.raw (Value.tuple #[]),
          SV.raw (Value.tuple #[]), SV.raw (Value.tuple #[]), SV.raw (Value.tuple #[]), SV.raw (Value.tuple #[]), SV.raw (Value.tuple #[]), SV.raw (Value.tuple #[]),
          SV.raw (Value.tuple #[]), SV.raw (Value.tuple #[]), SV.raw (Value.tuple #[]), SV.raw (Value.tuple #[]), SV.raw (Value.tuple #[]), SV.raw (Value.tuple #[]),
          SV.raw (Value.tuple #[]), SV.raw (Value.tuple #[]), SV.raw (Value.tuple #[]), SV.raw (Value.tuple #[]), SV.raw (Value.tuple #[]), SV.raw (Value.tuple #[]),
          SV.raw (Value.tuple #[]), SV.raw (Value.tuple #[]), SV.raw (Value.tuple #[]), SV.raw (Value.tuple #[]), SV.raw (Value.tuple #[]), SV.raw (Value.tuple #[]),
          SV.raw (Value.tuple #[]), SV.raw (Value.tuple #[]), SV.raw (Value.tuple #[]), SV.raw (Value.tuple #[]), SV.raw (Value.tuple #[]), SV.raw (Value.tuple #[]),
          SV.raw (Value.tuple #[]), SV.raw (Value.tuple #[]), SV.raw (Value.tuple #[]), SV.raw (Value.tuple #[]), SV.raw (Value.tuple #[]), SV.raw (Value.tuple #[]),
          SV.raw (Value.tuple #[]), SV.raw (Value.tuple #[]), SV.raw (Value.tuple #[]), SV.raw (Value.tuple #[]), SV.raw (Value.tuple #[]), SV.raw (Value.tuple #[]),
          SV.raw (Value.tuple #[]), SV.raw (Value.tuple #[]), SV.raw (Value.tuple #[]), SV.raw (Value.tuple #[]), SV.raw (Value.tuple #[]), SV.raw (Value.tuple #[]),
          SV.raw (Value.tuple #[]), SV.raw (Value.tuple #[]), SV.raw (Value.tuple #[]), SV.raw (Value.tuple #[]), SV.raw (Value.tuple #[]), SV.raw (Value.tuple #[]),
          SV.raw (Value.tuple #[]), SV.raw (Value.tuple #[]), SV.raw (Value.tuple #[]), SV.raw (Value.tuple #[]), SV.raw (Value.tuple #[]), SV.raw (Value.tuple #[]),
          SV.raw (Value.tuple #[]), SV.raw (Value.tuple #[]), SV.raw (Value.tuple #[]), SV.raw (Value.tuple #[]), SV.raw (Value.tuple #[]), SV.raw (Value.tuple #[]),
          SV.raw (Value.tuple #[]), SV.raw (Value.tuple #[]), SV.raw (Value.tuple #[]), SV.raw (Value.tuple #[]), SV.raw (Value.tuple #[]), SV.raw (Value.tuple #[]),
          SV.raw (Value.tuple #[]), SV.raw (Value.tuple #[]), SV.raw (Value.tuple #[]), SV.raw (Value.tuple #[]), SV.raw (Value.tuple #[]), SV.raw (Value.tuple #[]),
          SV.raw (Value.tuple #[])]
         [Ent.mk (Loc.sl ao cap) (SObj.roL 1 encStr bs ByteArray.empty),
          Ent.mk (Loc.blk b) (SObj.cells [SV.raw (Value.slice (@none Addr) 0 0), SV.func (Fn.func 36) [] [], SV.int IntKind.i64 (0 : Int)] 136)])) := by kernel_rfl


theorem qt_r1 (K : List Frm → Sy → Prop) (N : List Ent → SV → Prop) (J : Act → World → Prop) (u : Nat → Value) (ao : Option Addr) (cap : Nat) (bs : List ByteArray) (qa : Nat) (aoa : Option Addr) (capa : Nat) (xs : List (ByteArray × Int)) (na : Int) (i : Int) : (run Try.prog qTS5 false [] K (retP Try.prog Try.f9.results.toList N) 1500 (frm [J] (bodyOf Try.f9) [1, 1, 1, 1, 0, 1, 0, 0] []) ⟨mkT u 110 0 [(0, .vec 0 ao bs.length cap), (2, .bool false), (3, .ptr 1 qa 0), (4, .int .i64 i)], qtHeap ao cap bs qa aoa capa xs na⟩) = (
match decide (i < (↑(List.length bs) : Int)) with
| true =>
 (ao = ao ∧ cap = cap ∧ List.length bs = List.length bs ∧ (0 : Int) ≤ i ∧ i < (↑(List.length bs) : Int)) ∧
  (Addr.blkD ao = Addr.blkD ao ∧ Addr.offD ao = Addr.offD ao ∧ 1 = 1 ∧ Int.toNat i < List.length bs) ∧
   match decide ((↑(ByteArray.size (List.getD bs (Int.toNat i) ByteArray.empty)) : Int) > (60 : Int)) with
   | true =>
    N
     [Ent.mk (Loc.sl ao cap) (SObj.roL 1 encStr bs ByteArray.empty),
      Ent.mk (Loc.blk qa) (SObj.cells [SV.vec 2 aoa (List.length xs) capa, SV.func (Fn.func (36 : FuncId)) [] [], SV.int IntKind.i64 na] (136 : TypeId)),
      Ent.mk (Loc.sl aoa capa) (SObj.vecL (140 : TypeId) 2 encItS xs (ByteArray.empty, (0 : Int)))]
     (SV.bool true)
   | false =>
    (ao = ao ∧ cap = cap ∧ List.length bs = List.length bs ∧ (0 : Int) ≤ i ∧ i < (↑(List.length bs) : Int)) ∧
     (Addr.blkD ao = Addr.blkD ao ∧ Addr.offD ao = Addr.offD ao ∧ 1 = 1 ∧ Int.toNat i < List.length bs) ∧
      true = true ∧
       qa = qa ∧
        (true = true ∧ true = true) ∧
         true = true ∧
          ∃ (xs_1 : List (ByteArray × Int)),
           (Ent.mk (Loc.sl aoa capa) (SObj.vecL (140 : TypeId) 2 encItS xs (ByteArray.empty, (0 : Int))) =
            Ent.mk (Loc.sl aoa capa) (SObj.vecL (140 : TypeId) 2 encItS xs_1 (ByteArray.empty, (0 : Int))) ∧
            qa = qa ∧ List.length xs = List.length xs_1 ∧ false = false) ∧
            ∃ (x : ByteArray × Int),
             (138 = (138 : TypeId) ∧
              140 = (140 : TypeId) ∧
               [SV.str x.fst, SV.int IntKind.i64 x.2] = [SV.str (List.getD bs (Int.toNat i) ByteArray.empty), SV.int IntKind.i64 na] ∧
                (List.length xs_1 + 1) * 24 ≤ 140737488355328 ∧ List.length xs_1 < 2305843009213693952) ∧
              ∃ (bef : ByteArray → ByteArray → Bool),
               RS (36 : FuncId) bef ∧
                ∀ (ao2 : Option Addr) (cap2 : Nat),
                 qa = qa ∧
                  (qa = qa ∧ true = true ∧ 1 = 1 ∧ 3 ≤ 3) ∧
                   K (Frm.loop J :: Frm.blk 0 :: frm [] (bodyOf Try.f9) [1, 1, 1, 1, 1] [])
                    (Sy.mk
                     [SV.vec 0 ao (List.length bs) cap, SV.raw (u 1), SV.bool false, SV.ptr 1 qa 0,
                      SV.int IntKind.i64 (IntKind.wrap IntKind.i64 (i + (1 : Int))), SV.raw (u 5), SV.raw (u 6), SV.raw (u 7), SV.raw (u 8),
                      SV.raw (u 9), SV.raw (u 10), SV.raw (u 11), SV.raw (u 12), SV.raw (u 13), SV.raw (u 14),
                      SV.raw (u 15), SV.raw (u 16), SV.raw (u 17), SV.raw (u 18), SV.raw (u 19), SV.int IntKind.i64 i,
                      SV.vec 0 ao (List.length bs) cap, SV.int IntKind.i64 (↑(List.length bs) : Int), SV.bool true, SV.int IntKind.i64 i,
                      SV.int IntKind.i64 (IntKind.wrap IntKind.i64 (i + (1 : Int))), SV.vec 0 ao (List.length bs) cap, SV.int IntKind.i64 i,
                      SV.eptr 0 (Addr.blkD ao) (Addr.offD ao) 1 (Int.toNat i) 0, SV.str (List.getD bs (Int.toNat i) ByteArray.empty),
                      SV.int IntKind.i64 (↑(ByteArray.size (List.getD bs (Int.toNat i) ByteArray.empty)) : Int), SV.bool false, SV.ptr 1 qa 0,
                      SV.vec 0 ao (List.length bs) cap, SV.int IntKind.i64 i, SV.eptr 0 (Addr.blkD ao) (Addr.offD ao) 1 (Int.toNat i) 0,
                      SV.str (List.getD bs (Int.toNat i) ByteArray.empty), SV.tuple [], SV.raw (u 38), SV.raw (u 39), SV.raw (u 40),
                      SV.raw (u 41), SV.raw (u 42), SV.raw (u 43), SV.raw (u 44), SV.raw (u 45), SV.raw (u 46),
                      SV.raw (u 47), SV.raw (u 48), SV.raw (u 49), SV.raw (u 50), SV.raw (u 51), SV.raw (u 52),
                      SV.raw (u 53), SV.raw (u 54), SV.raw (u 55), SV.raw (u 56), SV.raw (u 57), SV.raw (u 58),
                      SV.raw (u 59), SV.raw (u 60), SV.raw (u 61), SV.raw (u 62), SV.raw (u 63), SV.raw (u 64),
                      SV.raw (u 65), SV.raw (u 66), SV.raw (u 67), SV.raw (u 68), SV.raw (u 69), SV.raw (u 70),
                      SV.raw (u 71), SV.raw (u 72), SV.raw (u 73), SV.raw (u 74), SV.raw (u 75), SV.raw (u 76),
                      SV.raw (u 77), SV.raw (u 78), SV.raw (u 79), SV.raw (u 80), SV.raw (u 81), SV.raw (u 82),
                      SV.raw (u 83), SV.raw (u 84), SV.raw (u 85), SV.raw (u 86), SV.raw (u 87), SV.raw (u 88),
                      SV.raw (u 89), SV.raw (u 90), SV.raw (u 91), SV.raw (u 92), SV.raw (u 93), SV.raw (u 94),
                      SV.raw (u 95), SV.raw (u 96), SV.raw (u 97), SV.raw (u 98), SV.raw (u 99), SV.raw (u 100),
                      SV.raw (u 101), SV.raw (u 102), SV.raw (u 103), SV.raw (u 104), SV.raw (u 105), SV.raw (u 106),
                      SV.raw (u 107), SV.raw (u 108), SV.raw (u 109)]
                     [Ent.mk (Loc.sl ao cap) (SObj.roL 1 encStr bs ByteArray.empty),
                      Ent.mk (Loc.blk qa)
                       (SObj.cells
                        [SV.vec 2 ao2 (List.length (pushL (lessI bef) (ByteArray.empty, (0 : Int)) xs_1 x)) cap2, SV.func (Fn.func (36 : FuncId)) [] [],
                         SV.int IntKind.i64 (IntKind.wrap IntKind.i64 (na + (1 : Int)))]
                        (136 : TypeId)),
                      Ent.mk (Loc.sl ao2 cap2) (SObj.vecL (140 : TypeId) 2 encItS (pushL (lessI bef) (ByteArray.empty, (0 : Int)) xs_1 x) (ByteArray.empty, (0 : Int)))])
| false =>
 (ao = ao ∧ List.length bs = List.length bs ∧ 1 = 1 ∧ List.length bs * 16 ≤ 140737488355328 ∧ List.length bs ≤ 9223372036854775807) ∧
  ∀ (ao2 : Option Addr) (cap2 : Nat),
   List.length bs ≤ cap2 →
    K (frm [] (bodyOf Try.f9) [1, 1, 1, 1, 1, 1, 1, 0, 1, 0] [])
     (Sy.mk
      [SV.vec 0 ao (List.length bs) cap, SV.raw (u 1), SV.bool false, SV.ptr 1 qa 0, SV.int IntKind.i64 i, SV.str (ByteArray.mk #[]),
       SV.vec 3 ao2 (List.length bs) cap2, SV.int IntKind.i64 (↑(List.length bs) : Int), SV.raw (u 8), SV.raw (u 9), SV.raw (u 10), SV.raw (u 11),
       SV.raw (u 12), SV.raw (u 13), SV.raw (u 14), SV.raw (u 15), SV.raw (u 16), SV.raw (u 17), SV.raw (u 18), SV.raw (u 19),
       SV.int IntKind.i64 i, SV.vec 0 ao (List.length bs) cap, SV.int IntKind.i64 (↑(List.length bs) : Int), SV.bool false, SV.raw (u 24), SV.raw (u 25),
       SV.raw (u 26), SV.raw (u 27), SV.raw (u 28), SV.raw (u 29), SV.raw (u 30), SV.raw (u 31), SV.raw (u 32), SV.raw (u 33),
       SV.raw (u 34), SV.raw (u 35), SV.raw (u 36), SV.raw (u 37), SV.vec 0 ao (List.length bs) cap, SV.vec 3 ao2 (List.length bs) cap2,
       SV.vec 0 ao (List.length bs) cap, SV.int IntKind.i64 (↑(List.length bs) : Int), SV.raw (u 42), SV.raw (u 43), SV.raw (u 44), SV.raw (u 45),
       SV.raw (u 46), SV.raw (u 47), SV.raw (u 48), SV.raw (u 49), SV.raw (u 50), SV.raw (u 51), SV.raw (u 52), SV.raw (u 53),
       SV.raw (u 54), SV.raw (u 55), SV.raw (u 56), SV.raw (u 57), SV.raw (u 58), SV.raw (u 59), SV.raw (u 60), SV.raw (u 61),
       SV.raw (u 62), SV.raw (u 63), SV.raw (u 64), SV.raw (u 65), SV.raw (u 66), SV.raw (u 67), SV.raw (u 68), SV.raw (u 69),
       SV.raw (u 70), SV.raw (u 71), SV.raw (u 72), SV.raw (u 73), SV.raw (u 74), SV.raw (u 75), SV.raw (u 76), SV.raw (u 77),
       SV.raw (u 78), SV.raw (u 79), SV.raw (u 80), SV.raw (u 81), SV.raw (u 82), SV.raw (u 83), SV.raw (u 84), SV.raw (u 85),
       SV.raw (u 86), SV.raw (u 87), SV.raw (u 88), SV.raw (u 89), SV.raw (u 90), SV.raw (u 91), SV.raw (u 92), SV.raw (u 93),
       SV.raw (u 94), SV.raw (u 95), SV.raw (u 96), SV.raw (u 97), SV.raw (u 98), SV.raw (u 99), SV.raw (u 100), SV.raw (u 101),
       SV.raw (u 102), SV.raw (u 103), SV.raw (u 104), SV.raw (u 105), SV.raw (u 106), SV.raw (u 107), SV.raw (u 108),
       SV.raw (u 109)]
      [Ent.mk (Loc.sl ao cap) (SObj.roL 1 encStr bs ByteArray.empty),
       Ent.mk (Loc.blk qa) (SObj.cells [SV.vec 2 aoa (List.length xs) capa, SV.func (Fn.func (36 : FuncId)) [] [], SV.int IntKind.i64 na] (136 : TypeId)),
       Ent.mk (Loc.sl aoa capa) (SObj.vecL (140 : TypeId) 2 encItS xs (ByteArray.empty, (0 : Int))), Ent.mk (Loc.sl ao2 cap2) (SObj.vecL 9 1 encStr bs ByteArray.empty)])) := by kernel_rfl


theorem qt_r2 (K : List Frm → Sy → Prop) (N : List Ent → SV → Prop) (J : Act → World → Prop) (u : Nat → Value) (ao : Option Addr) (cap : Nat) (bs : List ByteArray) (qa : Nat) (aoa : Option Addr) (capa : Nat) (xs : List (ByteArray × Int)) (na : Int) (aol : Option Addr) (capl : Nat) (ls : List ByteArray) (n : Int) (last : ByteArray) : (run Try.prog qTS5 false [] K (retP Try.prog Try.f9.results.toList N) 1500 (frm [J] (bodyOf Try.f9) [1, 1, 1, 1, 1, 1, 1, 0, 1, 0, 0] []) ⟨mkT u 110 0 [(2, .bool false), (3, .ptr 1 qa 0), (5, .str last), (6, .vec 3 aol ls.length capl), (7, .int .i64 n)], qtHeap2 ao cap bs qa aoa capa xs na aol capl ls⟩) = (
match decide (n > (0 : Int)) with
| true =>
 true = true ∧
  true = true ∧
   qa = qa ∧
    match (↑(List.length xs) : Int) == (0 : Int) with
    | true =>
     N
      [Ent.mk (Loc.sl ao cap) (SObj.roL 1 encStr bs ByteArray.empty),
       Ent.mk (Loc.blk qa) (SObj.cells [SV.vec 2 aoa (List.length xs) capa, SV.func (Fn.func (36 : FuncId)) [] [], SV.int IntKind.i64 na] (136 : TypeId)),
       Ent.mk (Loc.sl aoa capa) (SObj.vecL (140 : TypeId) 2 encItS xs (ByteArray.empty, (0 : Int))),
       Ent.mk (Loc.sl aol capl) (SObj.vecL (9 : TypeId) 1 encStr ls ByteArray.empty)]
      (SV.bool false)
    | false =>
     true = true ∧
      ∃ (xs_1 : List (ByteArray × Int)),
       (Ent.mk (Loc.sl aoa capa) (SObj.vecL (140 : TypeId) 2 encItS xs (ByteArray.empty, (0 : Int))) =
        Ent.mk (Loc.sl aoa capa) (SObj.vecL (140 : TypeId) 2 encItS xs_1 (ByteArray.empty, (0 : Int))) ∧
        qa = qa ∧ List.length xs = List.length xs_1 ∧ false = false) ∧
        (138 = (138 : TypeId) ∧ 0 < List.length xs_1 ∧ List.length xs_1 ≤ 2305843009213693952) ∧
         ∃ (bef : ByteArray → ByteArray → Bool),
          RS (36 : FuncId) bef ∧
           match decide ((↑(ByteArray.size (List.getD xs_1 0 (ByteArray.empty, (0 : Int))).fst) : Int) < (↑(ByteArray.size last) : Int)) with
           | true =>
            N
             [Ent.mk (Loc.sl ao cap) (SObj.roL 1 encStr bs ByteArray.empty),
              Ent.mk (Loc.blk qa)
               (SObj.cells [SV.vec 2 aoa (List.length (popL (lessI bef) (ByteArray.empty, (0 : Int)) xs_1)) capa, SV.func (Fn.func (36 : FuncId)) [] [], SV.int IntKind.i64 na]
                (136 : TypeId)),
              Ent.mk (Loc.sl aoa capa) (SObj.vecL (140 : TypeId) 2 encItS (popL (lessI bef) (ByteArray.empty, (0 : Int)) xs_1) (ByteArray.empty, (0 : Int))),
              Ent.mk (Loc.sl aol capl) (SObj.vecL (9 : TypeId) 1 encStr ls ByteArray.empty)]
             (SV.bool false)
           | false =>
            true = true ∧
             qa = qa ∧
              match (↑(List.length (popL (lessI bef) (ByteArray.empty, (0 : Int)) xs_1)) : Int) != IntKind.wrap IntKind.i64 (n - (1 : Int)) with
              | true =>
               N
                [Ent.mk (Loc.sl ao cap) (SObj.roL 1 encStr bs ByteArray.empty),
                 Ent.mk (Loc.blk qa)
                  (SObj.cells
                   [SV.vec 2 aoa (List.length (popL (lessI bef) (ByteArray.empty, (0 : Int)) xs_1)) capa, SV.func (Fn.func (36 : FuncId)) [] [], SV.int IntKind.i64 na]
                   (136 : TypeId)),
                 Ent.mk (Loc.sl aoa capa) (SObj.vecL (140 : TypeId) 2 encItS (popL (lessI bef) (ByteArray.empty, (0 : Int)) xs_1) (ByteArray.empty, (0 : Int))),
                 Ent.mk (Loc.sl aol capl) (SObj.vecL (9 : TypeId) 1 encStr ls ByteArray.empty)]
                (SV.bool false)
              | false =>
               K
                (frm [J] (bodyOf Try.f9)
                 [1, 1, 1, 1, 1, 1, 1, 0, 1, 0, 0, 1, 0, 0, 1,
                  1, 1, 1, 0, 1, 0]
                 [])
                (Sy.mk
                 [SV.raw (u 0), SV.raw (u 1), SV.bool false, SV.ptr 1 qa 0, SV.raw (u 4),
                  SV.str (List.getD xs_1 0 (ByteArray.empty, (0 : Int))).fst, SV.vec 3 aol (List.length ls) capl, SV.int IntKind.i64 n,
                  SV.str (List.getD xs_1 0 (ByteArray.empty, (0 : Int))).fst, SV.int IntKind.i64 (0 : Int), SV.int IntKind.i64 (-1 : Int),
                  SV.int IntKind.i64 (IntKind.wrap IntKind.i64 ((↑(List.length ls) : Int) - (1 : Int))), SV.raw (u 12), SV.raw (u 13), SV.raw (u 14),
                  SV.raw (u 15), SV.raw (u 16), SV.raw (u 17), SV.raw (u 18), SV.raw (u 19), SV.raw (u 20), SV.raw (u 21),
                  SV.raw (u 22), SV.raw (u 23), SV.raw (u 24), SV.raw (u 25), SV.raw (u 26), SV.raw (u 27), SV.raw (u 28),
                  SV.raw (u 29), SV.raw (u 30), SV.raw (u 31), SV.raw (u 32), SV.raw (u 33), SV.raw (u 34), SV.raw (u 35),
                  SV.raw (u 36), SV.raw (u 37), SV.raw (u 38), SV.raw (u 39), SV.raw (u 40), SV.raw (u 41), SV.int IntKind.i64 n,
                  SV.bool true, SV.raw (u 44), SV.raw (u 45),
                  SV.tuple [SV.str (List.getD xs_1 0 (ByteArray.empty, (0 : Int))).fst, SV.int IntKind.i64 (0 : Int)], SV.ptr 1 qa 0,
                  SV.tuple [SV.str (List.getD xs_1 0 (ByteArray.empty, (0 : Int))).fst, SV.int IntKind.i64 (0 : Int)],
                  SV.str (List.getD xs_1 0 (ByteArray.empty, (0 : Int))).fst, SV.int IntKind.i64 (0 : Int), SV.int IntKind.i64 (0 : Int), SV.bool false, SV.bool false,
                  SV.str (List.getD xs_1 0 (ByteArray.empty, (0 : Int))).fst,
                  SV.int IntKind.i64 (↑(ByteArray.size (List.getD xs_1 0 (ByteArray.empty, (0 : Int))).fst) : Int), SV.str last,
                  SV.int IntKind.i64 (↑(ByteArray.size last) : Int),
                  SV.bool (decide ((↑(ByteArray.size (List.getD xs_1 0 (ByteArray.empty, (0 : Int))).fst) : Int) < (↑(ByteArray.size last) : Int))),
                  SV.bool (decide ((↑(ByteArray.size (List.getD xs_1 0 (ByteArray.empty, (0 : Int))).fst) : Int) < (↑(ByteArray.size last) : Int))), SV.bool false,
                  SV.ptr 1 qa 0, SV.int IntKind.i64 (↑(List.length (popL (lessI bef) (ByteArray.empty, (0 : Int)) xs_1)) : Int), SV.int IntKind.i64 n,
                  SV.int IntKind.i64 (IntKind.wrap IntKind.i64 (n - (1 : Int))),
                  SV.bool ((↑(List.length (popL (lessI bef) (ByteArray.empty, (0 : Int)) xs_1)) : Int) != IntKind.wrap IntKind.i64 (n - (1 : Int))), SV.bool false,
                  SV.str (List.getD xs_1 0 (ByteArray.empty, (0 : Int))).fst, SV.vec 3 aol (List.length ls) capl, SV.int IntKind.i64 (↑(List.length ls) : Int),
                  SV.int IntKind.i64 (IntKind.wrap IntKind.i64 ((↑(List.length ls) : Int) - (1 : Int))), SV.raw (u 71), SV.raw (u 72), SV.raw (u 73),
                  SV.raw (u 74), SV.raw (u 75), SV.raw (u 76), SV.raw (u 77), SV.raw (u 78), SV.raw (u 79), SV.raw (u 80),
                  SV.raw (u 81), SV.raw (u 82), SV.raw (u 83), SV.raw (u 84), SV.raw (u 85), SV.raw (u 86), SV.raw (u 87),
                  SV.raw (u 88), SV.raw (u 89), SV.raw (u 90), SV.raw (u 91), SV.raw (u 92), SV.raw (u 93), SV.raw (u 94),
                  SV.raw (u 95), SV.raw (u 96), SV.raw (u 97), SV.raw (u 98), SV.raw (u 99), SV.raw (u 100), SV.raw (u 101),
                  SV.raw (u 102), SV.raw (u 103), SV.raw (u 104), SV.raw (u 105), SV.raw (u 106), SV.raw (u 107),
                  SV.raw (u 108), SV.raw (u 109)]
                 [Ent.mk (Loc.sl ao cap) (SObj.roL 1 encStr bs ByteArray.empty),
                  Ent.mk (Loc.blk qa)
                   (SObj.cells
                    [SV.vec 2 aoa (List.length (popL (lessI bef) (ByteArray.empty, (0 : Int)) xs_1)) capa, SV.func (Fn.func (36 : FuncId)) [] [], SV.int IntKind.i64 na]
                    (136 : TypeId)),
                  Ent.mk (Loc.sl aoa capa) (SObj.vecL (140 : TypeId) 2 encItS (popL (lessI bef) (ByteArray.empty, (0 : Int)) xs_1) (ByteArray.empty, (0 : Int))),
                  Ent.mk (Loc.sl aol capl) (SObj.vecL (9 : TypeId) 1 encStr ls ByteArray.empty)])
| false =>
 true = true ∧
  true = true ∧
   qa = qa ∧
    match (↑(List.length xs) : Int) == (0 : Int) with
    | true =>
     N
      [Ent.mk (Loc.sl ao cap) (SObj.roL 1 encStr bs ByteArray.empty),
       Ent.mk (Loc.blk qa) (SObj.cells [SV.vec 2 aoa (List.length xs) capa, SV.func (Fn.func (36 : FuncId)) [] [], SV.int IntKind.i64 na] (136 : TypeId)),
       Ent.mk (Loc.sl aoa capa) (SObj.vecL (140 : TypeId) 2 encItS xs (ByteArray.empty, (0 : Int))),
       Ent.mk (Loc.sl aol capl) (SObj.vecL (9 : TypeId) 1 encStr ls ByteArray.empty)]
      (SV.bool true)
    | false =>
     true = true ∧
      ∃ (xs_1 : List (ByteArray × Int)),
       (Ent.mk (Loc.sl aoa capa) (SObj.vecL (140 : TypeId) 2 encItS xs (ByteArray.empty, (0 : Int))) =
        Ent.mk (Loc.sl aoa capa) (SObj.vecL (140 : TypeId) 2 encItS xs_1 (ByteArray.empty, (0 : Int))) ∧
        qa = qa ∧ List.length xs = List.length xs_1 ∧ false = false) ∧
        (138 = (138 : TypeId) ∧ 0 < List.length xs_1 ∧ List.length xs_1 ≤ 2305843009213693952) ∧
         ∃ (bef : ByteArray → ByteArray → Bool),
          RS (36 : FuncId) bef ∧
           N
            [Ent.mk (Loc.sl ao cap) (SObj.roL 1 encStr bs ByteArray.empty),
             Ent.mk (Loc.blk qa)
              (SObj.cells [SV.vec 2 aoa (List.length (popL (lessI bef) (ByteArray.empty, (0 : Int)) xs_1)) capa, SV.func (Fn.func (36 : FuncId)) [] [], SV.int IntKind.i64 na]
               (136 : TypeId)),
             Ent.mk (Loc.sl aoa capa) (SObj.vecL (140 : TypeId) 2 encItS (popL (lessI bef) (ByteArray.empty, (0 : Int)) xs_1) (ByteArray.empty, (0 : Int))),
             Ent.mk (Loc.sl aol capl) (SObj.vecL (9 : TypeId) 1 encStr ls ByteArray.empty)]
            (SV.bool false)) := by kernel_rfl


theorem qt_r3 (K : List Frm → Sy → Prop) (N : List Ent → SV → Prop) (J : Act → World → Prop) (u : Nat → Value) (ao : Option Addr) (cap : Nat) (bs : List ByteArray) (qa : Nat) (aoa : Option Addr) (capa : Nat) (xs : List (ByteArray × Int)) (na : Int) (aol : Option Addr) (capl : Nat) (ls : List ByteArray) (n : Int) (J2 : Act → World → Prop) (s : ByteArray) (at' k : Int) : (run Try.prog qTS5 false [] K (retP Try.prog Try.f9.results.toList N) 1500 (frm [J, J2] (bodyOf Try.f9) [1, 1, 1, 1, 1, 1, 1, 0, 1, 0, 0, 1, 0, 0, 1, 1, 1, 1, 0, 1, 0, 0] []) ⟨mkT u 110 0 [(2, .bool false), (3, .ptr 1 qa 0), (5, .str s), (6, .vec 3 aol ls.length capl), (7, .int .i64 n), (8, .str s), (10, .int .i64 at'), (11, .int .i64 k)], qtHeap2 ao cap bs qa aoa capa xs na aol capl ls⟩) = (
match decide (k ≥ (0 : Int)) with
| true =>
 (aol = aol ∧ capl = capl ∧ List.length ls = List.length ls ∧ (0 : Int) ≤ k ∧ k < (↑(List.length ls) : Int)) ∧
  (Addr.blkD aol = Addr.blkD aol ∧ Addr.offD aol = Addr.offD aol ∧ 1 = 1 ∧ Int.toNat k < List.length ls) ∧
   match (↑(ByteArray.size (List.getD ls (Int.toNat k) ByteArray.empty)) : Int) == (↑(ByteArray.size s) : Int) with
   | true =>
    K
     (Frm.loop J2 ::
      Frm.blk 4 ::
       frm [J] (bodyOf Try.f9)
        [1, 1, 1, 1, 1, 1, 1, 0, 1, 0, 0, 1, 0, 0, 1, 1,
         1, 1, 1]
        [])
     (Sy.mk
      [SV.raw (u 0), SV.raw (u 1), SV.bool false, SV.ptr 1 qa 0, SV.raw (u 4), SV.str s, SV.vec 3 aol (List.length ls) capl, SV.int IntKind.i64 n,
       SV.str s, SV.raw (u 9), SV.int IntKind.i64 k, SV.int IntKind.i64 (IntKind.wrap IntKind.i64 (k - (1 : Int))), SV.raw (u 12), SV.raw (u 13), SV.raw (u 14),
       SV.raw (u 15), SV.raw (u 16), SV.raw (u 17), SV.raw (u 18), SV.raw (u 19), SV.raw (u 20), SV.raw (u 21), SV.raw (u 22),
       SV.raw (u 23), SV.raw (u 24), SV.raw (u 25), SV.raw (u 26), SV.raw (u 27), SV.raw (u 28), SV.raw (u 29), SV.raw (u 30),
       SV.raw (u 31), SV.raw (u 32), SV.raw (u 33), SV.raw (u 34), SV.raw (u 35), SV.raw (u 36), SV.raw (u 37), SV.raw (u 38),
       SV.raw (u 39), SV.raw (u 40), SV.raw (u 41), SV.raw (u 42), SV.raw (u 43), SV.raw (u 44), SV.raw (u 45), SV.raw (u 46),
       SV.raw (u 47), SV.raw (u 48), SV.raw (u 49), SV.raw (u 50), SV.raw (u 51), SV.raw (u 52), SV.raw (u 53), SV.raw (u 54),
       SV.raw (u 55), SV.raw (u 56), SV.raw (u 57), SV.raw (u 58), SV.raw (u 59), SV.raw (u 60), SV.raw (u 61), SV.raw (u 62),
       SV.raw (u 63), SV.raw (u 64), SV.raw (u 65), SV.raw (u 66), SV.raw (u 67), SV.raw (u 68), SV.raw (u 69), SV.raw (u 70),
       SV.int IntKind.i64 k, SV.bool true, SV.int IntKind.i64 k, SV.int IntKind.i64 (IntKind.wrap IntKind.i64 (k - (1 : Int))), SV.vec 3 aol (List.length ls) capl, SV.int IntKind.i64 k,
       SV.eptr 3 (Addr.blkD aol) (Addr.offD aol) 1 (Int.toNat k) 0, SV.str (List.getD ls (Int.toNat k) ByteArray.empty),
       SV.int IntKind.i64 (↑(ByteArray.size (List.getD ls (Int.toNat k) ByteArray.empty)) : Int), SV.str s, SV.int IntKind.i64 (↑(ByteArray.size s) : Int), SV.bool true, SV.int IntKind.i64 k,
       SV.raw (u 84), SV.raw (u 85), SV.raw (u 86), SV.raw (u 87), SV.raw (u 88), SV.raw (u 89), SV.raw (u 90), SV.raw (u 91),
       SV.raw (u 92), SV.raw (u 93), SV.raw (u 94), SV.raw (u 95), SV.raw (u 96), SV.raw (u 97), SV.raw (u 98), SV.raw (u 99),
       SV.raw (u 100), SV.raw (u 101), SV.raw (u 102), SV.raw (u 103), SV.raw (u 104), SV.raw (u 105), SV.raw (u 106),
       SV.raw (u 107), SV.raw (u 108), SV.raw (u 109)]
      [Ent.mk (Loc.sl ao cap) (SObj.roL 1 encStr bs ByteArray.empty),
       Ent.mk (Loc.blk qa) (SObj.cells [SV.vec 2 aoa (List.length xs) capa, SV.func (Fn.func (36 : FuncId)) [] [], SV.int IntKind.i64 na] (136 : TypeId)),
       Ent.mk (Loc.sl aoa capa) (SObj.vecL (140 : TypeId) 2 encItS xs (ByteArray.empty, (0 : Int))),
       Ent.mk (Loc.sl aol capl) (SObj.vecL (9 : TypeId) 1 encStr ls ByteArray.empty)])
   | false =>
    K
     (Frm.loop J2 ::
      Frm.blk 4 ::
       frm [J] (bodyOf Try.f9)
        [1, 1, 1, 1, 1, 1, 1, 0, 1, 0, 0, 1, 0, 0, 1, 1,
         1, 1, 1]
        [])
     (Sy.mk
      [SV.raw (u 0), SV.raw (u 1), SV.bool false, SV.ptr 1 qa 0, SV.raw (u 4), SV.str s, SV.vec 3 aol (List.length ls) capl, SV.int IntKind.i64 n,
       SV.str s, SV.raw (u 9), SV.int IntKind.i64 at', SV.int IntKind.i64 (IntKind.wrap IntKind.i64 (k - (1 : Int))), SV.raw (u 12), SV.raw (u 13),
       SV.raw (u 14), SV.raw (u 15), SV.raw (u 16), SV.raw (u 17), SV.raw (u 18), SV.raw (u 19), SV.raw (u 20), SV.raw (u 21),
       SV.raw (u 22), SV.raw (u 23), SV.raw (u 24), SV.raw (u 25), SV.raw (u 26), SV.raw (u 27), SV.raw (u 28), SV.raw (u 29),
       SV.raw (u 30), SV.raw (u 31), SV.raw (u 32), SV.raw (u 33), SV.raw (u 34), SV.raw (u 35), SV.raw (u 36), SV.raw (u 37),
       SV.raw (u 38), SV.raw (u 39), SV.raw (u 40), SV.raw (u 41), SV.raw (u 42), SV.raw (u 43), SV.raw (u 44), SV.raw (u 45),
       SV.raw (u 46), SV.raw (u 47), SV.raw (u 48), SV.raw (u 49), SV.raw (u 50), SV.raw (u 51), SV.raw (u 52), SV.raw (u 53),
       SV.raw (u 54), SV.raw (u 55), SV.raw (u 56), SV.raw (u 57), SV.raw (u 58), SV.raw (u 59), SV.raw (u 60), SV.raw (u 61),
       SV.raw (u 62), SV.raw (u 63), SV.raw (u 64), SV.raw (u 65), SV.raw (u 66), SV.raw (u 67), SV.raw (u 68), SV.raw (u 69),
       SV.raw (u 70), SV.int IntKind.i64 k, SV.bool true, SV.int IntKind.i64 k, SV.int IntKind.i64 (IntKind.wrap IntKind.i64 (k - (1 : Int))),
       SV.vec 3 aol (List.length ls) capl, SV.int IntKind.i64 k, SV.eptr 3 (Addr.blkD aol) (Addr.offD aol) 1 (Int.toNat k) 0,
       SV.str (List.getD ls (Int.toNat k) ByteArray.empty), SV.int IntKind.i64 (↑(ByteArray.size (List.getD ls (Int.toNat k) ByteArray.empty)) : Int), SV.str s,
       SV.int IntKind.i64 (↑(ByteArray.size s) : Int), SV.bool false, SV.raw (u 83), SV.raw (u 84), SV.raw (u 85), SV.raw (u 86), SV.raw (u 87),
       SV.raw (u 88), SV.raw (u 89), SV.raw (u 90), SV.raw (u 91), SV.raw (u 92), SV.raw (u 93), SV.raw (u 94), SV.raw (u 95),
       SV.raw (u 96), SV.raw (u 97), SV.raw (u 98), SV.raw (u 99), SV.raw (u 100), SV.raw (u 101), SV.raw (u 102),
       SV.raw (u 103), SV.raw (u 104), SV.raw (u 105), SV.raw (u 106), SV.raw (u 107), SV.raw (u 108), SV.raw (u 109)]
      [Ent.mk (Loc.sl ao cap) (SObj.roL 1 encStr bs ByteArray.empty),
       Ent.mk (Loc.blk qa) (SObj.cells [SV.vec 2 aoa (List.length xs) capa, SV.func (Fn.func (36 : FuncId)) [] [], SV.int IntKind.i64 na] (136 : TypeId)),
       Ent.mk (Loc.sl aoa capa) (SObj.vecL (140 : TypeId) 2 encItS xs (ByteArray.empty, (0 : Int))),
       Ent.mk (Loc.sl aol capl) (SObj.vecL (9 : TypeId) 1 encStr ls ByteArray.empty)])
| false =>
 match decide (at' < (0 : Int)) with
 | true =>
  N
   [Ent.mk (Loc.sl ao cap) (SObj.roL 1 encStr bs ByteArray.empty),
    Ent.mk (Loc.blk qa) (SObj.cells [SV.vec 2 aoa (List.length xs) capa, SV.func (Fn.func (36 : FuncId)) [] [], SV.int IntKind.i64 na] (136 : TypeId)),
    Ent.mk (Loc.sl aoa capa) (SObj.vecL (140 : TypeId) 2 encItS xs (ByteArray.empty, (0 : Int))), Ent.mk (Loc.sl aol capl) (SObj.vecL (9 : TypeId) 1 encStr ls ByteArray.empty)]
   (SV.bool false)
 | false =>
  (aol = aol ∧ capl = capl ∧ List.length ls = List.length ls ∧ (0 : Int) ≤ at' ∧ at' < (↑(List.length ls) : Int)) ∧
   (Addr.blkD aol = Addr.blkD aol ∧ Addr.offD aol = Addr.offD aol ∧ 1 = 1 ∧ Int.toNat at' < List.length ls) ∧
    match !sEq (List.getD ls (Int.toNat at') ByteArray.empty) s with
    | true =>
     N
      [Ent.mk (Loc.sl ao cap) (SObj.roL 1 encStr bs ByteArray.empty),
       Ent.mk (Loc.blk qa) (SObj.cells [SV.vec 2 aoa (List.length xs) capa, SV.func (Fn.func (36 : FuncId)) [] [], SV.int IntKind.i64 na] (136 : TypeId)),
       Ent.mk (Loc.sl aoa capa) (SObj.vecL (140 : TypeId) 2 encItS xs (ByteArray.empty, (0 : Int))),
       Ent.mk (Loc.sl aol capl) (SObj.vecL (9 : TypeId) 1 encStr ls ByteArray.empty)]
      (SV.bool false)
    | false =>
     ((0 : Int) ≤ at' ∧ at' ≤ (↑capl : Int)) ∧
      ((0 : Int) ≤ IntKind.wrap IntKind.i64 (at' + (1 : Int)) ∧ IntKind.wrap IntKind.i64 (at' + (1 : Int)) ≤ (↑(List.length ls) : Int) ∧ List.length ls ≤ capl) ∧
       (aol = aol ∧
        capl = capl ∧
         1 = 1 ∧
          1 = 1 ∧
           0 ≤ Int.toNat at' ∧
            Int.toNat at' ≤ List.length ls ∧ (Int.toNat at' - 0) * 16 ≤ 140737488355328 ∧ Int.toNat at' - 0 ≤ 9223372036854775807) ∧
        ∀ (ao2 : Option Addr) (cap2 : Nat),
         Int.toNat at' - 0 ≤ cap2 →
          (ao2 = ao2 ∧
           cap2 = cap2 ∧
            Int.toNat at' - 0 = List.length (List.take (Int.toNat at' - 0) (List.drop 0 ls)) ∧
             9 = 9 ∧
              1 = 1 ∧
               aol = aol ∧
                capl = capl ∧
                 1 = 1 ∧
                  1 = 1 ∧
                   Int.toNat (IntKind.wrap IntKind.i64 (at' + (1 : Int))) ≤ List.length ls ∧
                    List.length ls ≤ List.length ls ∧
                     (∀ (y : ByteArray), true = true) ∧
                      (Int.toNat at' - 0 + (List.length ls - Int.toNat (IntKind.wrap IntKind.i64 (at' + (1 : Int))))) * 16 ≤ 140737488355328 ∧
                       Int.toNat at' - 0 + (List.length ls - Int.toNat (IntKind.wrap IntKind.i64 (at' + (1 : Int)))) ≤ 9223372036854775807) ∧
           ∃ (es : List ByteArray),
            List.length es = List.length ls - Int.toNat (IntKind.wrap IntKind.i64 (at' + (1 : Int))) ∧
             List.flatMap encStr es =
              List.flatMap encStr
               (List.take (List.length ls - Int.toNat (IntKind.wrap IntKind.i64 (at' + (1 : Int)))) (List.drop (Int.toNat (IntKind.wrap IntKind.i64 (at' + (1 : Int)))) ls)) ∧
              ∀ (ao2_1 : Option Addr) (cap2_1 : Nat),
               Int.toNat at' - 0 + (List.length ls - Int.toNat (IntKind.wrap IntKind.i64 (at' + (1 : Int)))) ≤ cap2_1 →
                K (Frm.loop J :: Frm.blk 2 :: frm [] (bodyOf Try.f9) [1, 1, 1, 1, 1, 1, 1, 1] [])
                 (Sy.mk
                  [SV.raw (u 0), SV.raw (u 1), SV.bool false, SV.ptr 1 qa 0, SV.raw (u 4), SV.str s,
                   SV.vec 4 ao2_1 (Int.toNat at' - 0 + (List.length ls - Int.toNat (IntKind.wrap IntKind.i64 (at' + (1 : Int))))) cap2_1,
                   SV.int IntKind.i64 (IntKind.wrap IntKind.i64 (n - (1 : Int))), SV.str s, SV.raw (u 9), SV.int IntKind.i64 at', SV.int IntKind.i64 k,
                   SV.raw (u 12), SV.raw (u 13), SV.raw (u 14), SV.raw (u 15), SV.raw (u 16), SV.raw (u 17), SV.raw (u 18),
                   SV.raw (u 19), SV.raw (u 20), SV.raw (u 21), SV.raw (u 22), SV.raw (u 23), SV.raw (u 24), SV.raw (u 25),
                   SV.raw (u 26), SV.raw (u 27), SV.raw (u 28), SV.raw (u 29), SV.raw (u 30), SV.raw (u 31), SV.raw (u 32),
                   SV.raw (u 33), SV.raw (u 34), SV.raw (u 35), SV.raw (u 36), SV.raw (u 37), SV.raw (u 38), SV.raw (u 39),
                   SV.raw (u 40), SV.raw (u 41), SV.raw (u 42), SV.raw (u 43), SV.int IntKind.i64 n,
                   SV.int IntKind.i64 (IntKind.wrap IntKind.i64 (n - (1 : Int))), SV.raw (u 46), SV.raw (u 47), SV.raw (u 48), SV.raw (u 49),
                   SV.raw (u 50), SV.raw (u 51), SV.raw (u 52), SV.raw (u 53), SV.raw (u 54), SV.raw (u 55), SV.raw (u 56),
                   SV.raw (u 57), SV.raw (u 58), SV.raw (u 59), SV.raw (u 60), SV.raw (u 61), SV.raw (u 62), SV.raw (u 63),
                   SV.raw (u 64), SV.raw (u 65), SV.raw (u 66), SV.raw (u 67), SV.raw (u 68), SV.raw (u 69), SV.raw (u 70),
                   SV.int IntKind.i64 k, SV.bool false, SV.raw (u 73), SV.raw (u 74), SV.raw (u 75), SV.raw (u 76), SV.raw (u 77),
                   SV.raw (u 78), SV.raw (u 79), SV.raw (u 80), SV.raw (u 81), SV.raw (u 82), SV.raw (u 83), SV.int IntKind.i64 at',
                   SV.bool (decide (at' < (0 : Int))), SV.bool false, SV.vec 3 aol (List.length ls) capl, SV.int IntKind.i64 at',
                   SV.eptr 3 (Addr.blkD aol) (Addr.offD aol) 1 (Int.toNat at') 0, SV.str (List.getD ls (Int.toNat at') ByteArray.empty), SV.str s,
                   SV.bool !sEq (List.getD ls (Int.toNat at') ByteArray.empty) s, SV.bool false, SV.vec 3 aol (List.length ls) capl, SV.int IntKind.i64 at',
                   SV.sub 3 aol capl 1 0 (Int.toNat at'), SV.vec 4 ao2 (Int.toNat at' - 0) cap2, SV.vec 3 aol (List.length ls) capl,
                   SV.int IntKind.i64 at', SV.int IntKind.i64 (IntKind.wrap IntKind.i64 (at' + (1 : Int))),
                   SV.sub 3 aol capl 1 (Int.toNat (IntKind.wrap IntKind.i64 (at' + (1 : Int)))) (List.length ls),
                   SV.vec 4 ao2_1 (Int.toNat at' - 0 + (List.length ls - Int.toNat (IntKind.wrap IntKind.i64 (at' + (1 : Int))))) cap2_1, SV.raw (u 103),
                   SV.raw (u 104), SV.raw (u 105), SV.raw (u 106), SV.raw (u 107), SV.raw (u 108), SV.raw (u 109)]
                  [Ent.mk (Loc.sl ao cap) (SObj.roL 1 encStr bs ByteArray.empty),
                   Ent.mk (Loc.blk qa) (SObj.cells [SV.vec 2 aoa (List.length xs) capa, SV.func (Fn.func (36 : FuncId)) [] [], SV.int IntKind.i64 na] (136 : TypeId)),
                   Ent.mk (Loc.sl aoa capa) (SObj.vecL (140 : TypeId) 2 encItS xs (ByteArray.empty, (0 : Int))),
                   Ent.mk (Loc.sl aol capl) (SObj.vecL (9 : TypeId) 1 encStr ls ByteArray.empty),
                   Ent.mk (Loc.sl ao2_1 cap2_1) (SObj.vecL 9 1 encStr (List.take (Int.toNat at' - 0) (List.drop 0 ls) ++ es) ByteArray.empty)])) := by kernel_rfl
end Go.Proofs.Ytjnkfgigpapeaaa
