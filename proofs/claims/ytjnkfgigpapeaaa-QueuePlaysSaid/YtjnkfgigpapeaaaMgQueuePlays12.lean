import Derived.Test.YtjnkfgigpapeaaaMgQueuePlays11
import Derived.Test.YtjnkfgigpapeaaaMgQueuePlays5
set_option linter.unusedVariables false
set_option linter.unusedSimpArgs false
set_option linter.unnecessarySimpa false
set_option maxHeartbeats 0
set_option maxRecDepth 100000
namespace Go.Proofs.Ytjnkfgigpapeaaa
open Go Go.RowKit

theorem qb_start (K : List Frm → Sy → Prop) (N : List Ent → SV → Prop) (ao : Option Addr) (cap : Nat) (bs : List Int) (ao' : Option Addr) (cap' : Nat) (ps : List Bool) : (run Try.prog qTI5 false [] K (retP Try.prog Try.f10.results.toList N) 900 [.code (bodyOf Try.f10)] ⟨padTo 129 [.vec 0 ao bs.length cap, .vec 1 ao' ps.length cap'], [⟨.sl ao cap, .roL 1 encI16 bs 0⟩, ⟨.sl ao' cap', .roL 1 encBool ps false⟩]⟩) = (
true = true ∧
 match decide ((↑(List.length bs) : Int) > (100 : Int)) with
 | true => N [Ent.mk (Loc.sl ao cap) (SObj.roL 1 encI16 bs (0 : Int)), Ent.mk (Loc.sl ao' cap') (SObj.roL 1 encBool ps false)] (SV.bool true)
 | false =>
  true = true ∧
   (true = true ∧ true = true) ∧
    (true = true ∧ true = true) ∧
     true = true ∧
      ∀ (b : Nat),
       true = true ∧
        (true = true ∧ true = true) ∧
         (true = true ∧ true = true) ∧
          true = true ∧
           ∀ (b_1 : Nat),
            K (frm [] (bodyOf Try.f10) [1, 1, 1, 1, 1, 0, 1, 0] [])
             (Sy.mk (SV.vec 0 ao (List.length bs) cap :: (SV.vec 1 ao' (List.length ps) cap' :: (SV.raw (Value.tuple #[]) :: (SV.raw (Value.tuple #[]) :: (SV.bool false :: (SV.ptr 2 b 0 :: (SV.ptr 3 b_1 0 :: (SV.int IntKind.i64 (0 : Int) :: (rawE (SV.bool true :: (SV.bool false :: (SV.vec 0 ao (List.length bs) cap :: (SV.int IntKind.i64 (↑(List.length bs) : Int) :: (SV.bool false :: (SV.ptr 2 b 0 :: (SV.ptr 3 b_1 0 :: (rawE [] 103)))))))) 11)))))))))
              [Ent.mk (Loc.sl ao cap) (SObj.roL 1 encI16 bs (0 : Int)), Ent.mk (Loc.sl ao' cap') (SObj.roL 1 encBool ps false),
               Ent.mk (Loc.blk b) (SObj.cells [SV.raw (Value.slice (@none Addr) 0 0), SV.func (Fn.func 41) [] [], SV.int IntKind.i64 (0 : Int)] 146),
               Ent.mk (Loc.blk b_1) (SObj.cells [SV.raw (Value.slice (@none Addr) 0 0), SV.func (Fn.func 42) [] [], SV.int IntKind.i64 (0 : Int)] 146)])) := by kernel_rfl


theorem qb_r1 (K : List Frm → Sy → Prop) (N : List Ent → SV → Prop) (J : Act → World → Prop) (u : Nat → Value) (ao : Option Addr) (cap : Nat) (bs : List Int) (ao' : Option Addr) (cap' : Nat) (ps : List Bool) (qa : Nat) (aoa : Option Addr) (capa : Nat) (xs : List (Int × Int)) (na : Int) (qb : Nat) (aob : Option Addr) (capb : Nat) (ys : List (Int × Int)) (nb : Int) (i : Int) : (run Try.prog qTI5 false [12] K (retP Try.prog Try.f10.results.toList N) 1500 (frm [J] (bodyOf Try.f10) [1, 1, 1, 1, 1, 0, 1, 0, 0] []) ⟨mkT u 129 0 [(0, .vec 0 ao bs.length cap), (1, .vec 1 ao' ps.length cap'), (4, .bool false), (5, .ptr 2 qa 0), (6, .ptr 4 qb 0), (7, .int .i64 i)], qbHeap ao cap bs ao' cap' ps qa aoa capa xs na qb aob capb ys nb⟩) = (
match decide (i < (↑(List.length bs) : Int)) with
| true =>
 (ao = ao ∧ cap = cap ∧ List.length bs = List.length bs ∧ (0 : Int) ≤ i ∧ i < (↑(List.length bs) : Int)) ∧
  (Addr.blkD ao = Addr.blkD ao ∧ Addr.offD ao = Addr.offD ao ∧ 1 = 1 ∧ Int.toNat i < List.length bs) ∧
   true = true ∧
    qa = qa ∧
     (true = true ∧ true = true) ∧
      true = true ∧
       ∃ (xs_1 : List (Int × Int)),
        (Ent.mk (Loc.sl aoa capa) (SObj.vecL (149 : TypeId) 2 encItI xs ((0 : Int), (0 : Int))) =
         Ent.mk (Loc.sl aoa capa) (SObj.vecL (149 : TypeId) 2 encItI xs_1 ((0 : Int), (0 : Int))) ∧
         qa = qa ∧ List.length xs = List.length xs_1 ∧ false = false) ∧
         ∃ (x : Int × Int),
          (147 = (147 : TypeId) ∧
           149 = (149 : TypeId) ∧
            [SV.int IntKind.i64 x.1, SV.int IntKind.i64 x.2] = [SV.int IntKind.i64 (IntKind.wrap IntKind.i64 (List.getD bs (Int.toNat i) (0 : Int))), SV.int IntKind.i64 na] ∧
             (List.length xs_1 + 1) * 16 ≤ 140737488355328 ∧ List.length xs_1 < 2305843009213693952) ∧
           ∃ (bef : Int → Int → Bool),
            RI (41 : FuncId) bef ∧
             ∀ (ao2 : Option Addr) (cap2 : Nat),
              qa = qa ∧
               (qa = qa ∧ true = true ∧ 1 = 1 ∧ 3 ≤ 3) ∧
                (ao = ao ∧ cap = cap ∧ List.length bs = List.length bs ∧ (0 : Int) ≤ i ∧ i < (↑(List.length bs) : Int)) ∧
                 (Addr.blkD ao = Addr.blkD ao ∧ Addr.offD ao = Addr.offD ao ∧ 1 = 1 ∧ Int.toNat i < List.length bs) ∧
                  true = true ∧
                   qb = qb ∧
                    (true = true ∧ true = true) ∧
                     true = true ∧
                      ∃ (xs : List (Int × Int)),
                       (Ent.mk (Loc.sl aob capb) (SObj.vecL (149 : TypeId) 2 encItI ys ((0 : Int), (0 : Int))) =
                        Ent.mk (Loc.sl aob capb) (SObj.vecL (149 : TypeId) 2 encItI xs ((0 : Int), (0 : Int))) ∧
                        qb = qb ∧ List.length ys = List.length xs ∧ false = false) ∧
                        ∃ (x_1 : Int × Int),
                         (147 = (147 : TypeId) ∧
                          149 = (149 : TypeId) ∧
                           [SV.int IntKind.i64 x_1.1, SV.int IntKind.i64 x_1.2] =
                            [SV.int IntKind.i64 (IntKind.wrap IntKind.i64 ((0 : Int) - IntKind.wrap IntKind.i64 (List.getD bs (Int.toNat i) (0 : Int)))),
                             SV.int IntKind.i64 nb] ∧
                            (List.length xs + 1) * 16 ≤ 140737488355328 ∧ List.length xs < 2305843009213693952) ∧
                          ∃ (bef_1 : Int → Int → Bool),
                           RI (42 : FuncId) bef_1 ∧
                            ∀ (ao2_1 : Option Addr) (cap2_1 : Nat),
                             qb = qb ∧
                              (qb = qb ∧ true = true ∧ 1 = 1 ∧ 3 ≤ 3) ∧
                               K (frmR [J] (bodyOf Try.f10) 12)
                                (Sy.mk (SV.vec 0 ao (List.length bs) cap :: (SV.vec 1 ao' (List.length ps) cap' :: (SV.raw (u 2) :: (SV.raw (u 3) :: (SV.bool false :: (SV.ptr 2 qa 0 :: (SV.ptr 4 qb 0 :: (SV.int IntKind.i64 i :: (rawR u 8 (SV.int IntKind.i64 i :: (SV.vec 0 ao (List.length bs) cap :: (SV.int IntKind.i64 (↑(List.length bs) : Int) :: (SV.bool true :: (SV.raw (u 30) :: (SV.raw (u 31) :: (SV.ptr 2 qa 0 :: (SV.vec 0 ao (List.length bs) cap :: (SV.int IntKind.i64 i :: (SV.eptr 0 (Addr.blkD ao) (Addr.offD ao) 1 (Int.toNat i) 0 :: (SV.int IntKind.i16 (List.getD bs (Int.toNat i) (0 : Int)) :: (SV.int IntKind.i64 (IntKind.wrap IntKind.i64 (List.getD bs (Int.toNat i) (0 : Int))) :: (SV.tuple [] :: (SV.ptr 4 qb 0 :: (SV.vec 0 ao (List.length bs) cap :: (SV.int IntKind.i64 i :: (SV.eptr 0 (Addr.blkD ao) (Addr.offD ao) 1 (Int.toNat i) 0 :: (SV.int IntKind.i16 (List.getD bs (Int.toNat i) (0 : Int)) :: (SV.int IntKind.i64 (IntKind.wrap IntKind.i64 (List.getD bs (Int.toNat i) (0 : Int))) :: (SV.int IntKind.i64 (IntKind.wrap IntKind.i64 ((0 : Int) - IntKind.wrap IntKind.i64 (List.getD bs (Int.toNat i) (0 : Int)))) :: (SV.tuple [] :: (rawR u 47 [] 82)))))))))))))))))))))) 18)))))))))
                                 [Ent.mk (Loc.sl ao cap) (SObj.roL 1 encI16 bs (0 : Int)), Ent.mk (Loc.sl ao' cap') (SObj.roL 1 encBool ps false),
                                  Ent.mk (Loc.blk qa)
                                   (SObj.cells
                                    [SV.vec 3 ao2 (List.length (pushL (lessI bef) ((0 : Int), (0 : Int)) xs_1 x)) cap2,
                                     SV.func (Fn.func (41 : FuncId)) [] [], SV.int IntKind.i64 (IntKind.wrap IntKind.i64 (na + (1 : Int)))]
                                    (146 : TypeId)),
                                  Ent.mk (Loc.sl ao2 cap2)
                                   (SObj.vecL (149 : TypeId) 2 encItI (pushL (lessI bef) ((0 : Int), (0 : Int)) xs_1 x) ((0 : Int), (0 : Int))),
                                  Ent.mk (Loc.blk qb)
                                   (SObj.cells
                                    [SV.vec 5 ao2_1 (List.length (pushL (lessI bef_1) ((0 : Int), (0 : Int)) xs x_1)) cap2_1,
                                     SV.func (Fn.func (42 : FuncId)) [] [], SV.int IntKind.i64 (IntKind.wrap IntKind.i64 (nb + (1 : Int)))]
                                    (146 : TypeId)),
                                  Ent.mk (Loc.sl ao2_1 cap2_1)
                                   (SObj.vecL (149 : TypeId) 2 encItI (pushL (lessI bef_1) ((0 : Int), (0 : Int)) xs x_1) ((0 : Int), (0 : Int)))])
| false =>
 K (frm [] (bodyOf Try.f10) [1, 1, 1, 1, 1, 1, 1, 0, 0] [])
  (Sy.mk (SV.vec 0 ao (List.length bs) cap :: (SV.vec 1 ao' (List.length ps) cap' :: (SV.raw (u 2) :: (SV.raw (u 3) :: (SV.bool false :: (SV.ptr 2 qa 0 :: (SV.ptr 4 qb 0 :: (SV.int IntKind.i64 i :: (rawR u 8 (SV.int IntKind.i64 (0 : Int) :: (SV.bool false :: (rawR u 14 (SV.int IntKind.i64 i :: (SV.vec 0 ao (List.length bs) cap :: (SV.int IntKind.i64 (↑(List.length bs) : Int) :: (SV.bool false :: (rawR u 30 [] 99))))) 12))) 4)))))))))
   [Ent.mk (Loc.sl ao cap) (SObj.roL 1 encI16 bs (0 : Int)), Ent.mk (Loc.sl ao' cap') (SObj.roL 1 encBool ps false),
    Ent.mk (Loc.blk qa) (SObj.cells [SV.vec 3 aoa (List.length xs) capa, SV.func (Fn.func (41 : FuncId)) [] [], SV.int IntKind.i64 na] (146 : TypeId)),
    Ent.mk (Loc.sl aoa capa) (SObj.vecL (149 : TypeId) 2 encItI xs ((0 : Int), (0 : Int))),
    Ent.mk (Loc.blk qb) (SObj.cells [SV.vec 5 aob (List.length ys) capb, SV.func (Fn.func (42 : FuncId)) [] [], SV.int IntKind.i64 nb] (146 : TypeId)),
    Ent.mk (Loc.sl aob capb) (SObj.vecL (149 : TypeId) 2 encItI ys ((0 : Int), (0 : Int)))])) := by kernel_rfl


theorem qb_r2 (K : List Frm → Sy → Prop) (N : List Ent → SV → Prop) (J : Act → World → Prop) (u : Nat → Value) (ao : Option Addr) (cap : Nat) (bs : List Int) (ao' : Option Addr) (cap' : Nat) (ps : List Bool) (qa : Nat) (aoa : Option Addr) (capa : Nat) (xs : List (Int × Int)) (na : Int) (qb : Nat) (aob : Option Addr) (capb : Nat) (ys : List (Int × Int)) (nb : Int) (i : Int) : (run Try.prog qTI5 false [] K (retP Try.prog Try.f10.results.toList N) 1500 (frmR [J] (bodyOf Try.f10) 12) ⟨mkT u 129 0 [(0, .vec 0 ao bs.length cap), (1, .vec 1 ao' ps.length cap'), (4, .bool false), (5, .ptr 2 qa 0), (6, .ptr 4 qb 0), (7, .int .i64 i)], qbHeap ao cap bs ao' cap' ps qa aoa capa xs na qb aob capb ys nb⟩) = (
match decide (i < (↑(List.length ps) : Int)) with
| true =>
 (ao' = ao' ∧ cap' = cap' ∧ List.length ps = List.length ps ∧ (0 : Int) ≤ i ∧ i < (↑(List.length ps) : Int)) ∧
  (Addr.blkD ao' = Addr.blkD ao' ∧ Addr.offD ao' = Addr.offD ao' ∧ 1 = 1 ∧ Int.toNat i < List.length ps) ∧
   match List.getD ps (Int.toNat i) false with
   | true =>
    true = true ∧
     true = true ∧
      qa = qa ∧
       match (↑(List.length xs) : Int) == (0 : Int) with
       | true =>
        true = true ∧
         true = true ∧
          qb = qb ∧
           match (↑(List.length ys) : Int) == (0 : Int) with
           | true =>
            N
             [Ent.mk (Loc.sl ao cap) (SObj.roL 1 encI16 bs (0 : Int)), Ent.mk (Loc.sl ao' cap') (SObj.roL 1 encBool ps false),
              Ent.mk (Loc.blk qa) (SObj.cells [SV.vec 3 aoa (List.length xs) capa, SV.func (Fn.func (41 : FuncId)) [] [], SV.int IntKind.i64 na] (146 : TypeId)),
              Ent.mk (Loc.sl aoa capa) (SObj.vecL (149 : TypeId) 2 encItI xs ((0 : Int), (0 : Int))),
              Ent.mk (Loc.blk qb) (SObj.cells [SV.vec 5 aob (List.length ys) capb, SV.func (Fn.func (42 : FuncId)) [] [], SV.int IntKind.i64 nb] (146 : TypeId)),
              Ent.mk (Loc.sl aob capb) (SObj.vecL (149 : TypeId) 2 encItI ys ((0 : Int), (0 : Int)))]
             (SV.bool false)
           | false =>
            true = true ∧
             ∃ (xs_1 : List (Int × Int)),
              (Ent.mk (Loc.sl aob capb) (SObj.vecL (149 : TypeId) 2 encItI ys ((0 : Int), (0 : Int))) =
               Ent.mk (Loc.sl aob capb) (SObj.vecL (149 : TypeId) 2 encItI xs_1 ((0 : Int), (0 : Int))) ∧
               qb = qb ∧ List.length ys = List.length xs_1 ∧ false = false) ∧
               (147 = (147 : TypeId) ∧ 0 < List.length xs_1 ∧ List.length xs_1 ≤ 2305843009213693952) ∧
                ∃ (bef : Int → Int → Bool),
                 RI (42 : FuncId) bef ∧
                  N
                   [Ent.mk (Loc.sl ao cap) (SObj.roL 1 encI16 bs (0 : Int)), Ent.mk (Loc.sl ao' cap') (SObj.roL 1 encBool ps false),
                    Ent.mk (Loc.blk qa) (SObj.cells [SV.vec 3 aoa (List.length xs) capa, SV.func (Fn.func (41 : FuncId)) [] [], SV.int IntKind.i64 na] (146 : TypeId)),
                    Ent.mk (Loc.sl aoa capa) (SObj.vecL (149 : TypeId) 2 encItI xs ((0 : Int), (0 : Int))),
                    Ent.mk (Loc.blk qb)
                     (SObj.cells
                      [SV.vec 5 aob (List.length (popL (lessI bef) ((0 : Int), (0 : Int)) xs_1)) capb, SV.func (Fn.func (42 : FuncId)) [] [], SV.int IntKind.i64 nb]
                      (146 : TypeId)),
                    Ent.mk (Loc.sl aob capb) (SObj.vecL (149 : TypeId) 2 encItI (popL (lessI bef) ((0 : Int), (0 : Int)) xs_1) ((0 : Int), (0 : Int)))]
                   (SV.bool false)
       | false =>
        true = true ∧
         ∃ (xs_1 : List (Int × Int)),
          (Ent.mk (Loc.sl aoa capa) (SObj.vecL (149 : TypeId) 2 encItI xs ((0 : Int), (0 : Int))) =
           Ent.mk (Loc.sl aoa capa) (SObj.vecL (149 : TypeId) 2 encItI xs_1 ((0 : Int), (0 : Int))) ∧
           qa = qa ∧ List.length xs = List.length xs_1 ∧ false = false) ∧
           (147 = (147 : TypeId) ∧ 0 < List.length xs_1 ∧ List.length xs_1 ≤ 2305843009213693952) ∧
            ∃ (bef : Int → Int → Bool),
             RI (41 : FuncId) bef ∧
              true = true ∧
               true = true ∧
                qb = qb ∧
                 match (↑(List.length ys) : Int) == (0 : Int) with
                 | true =>
                  N
                   [Ent.mk (Loc.sl ao cap) (SObj.roL 1 encI16 bs (0 : Int)), Ent.mk (Loc.sl ao' cap') (SObj.roL 1 encBool ps false),
                    Ent.mk (Loc.blk qa)
                     (SObj.cells
                      [SV.vec 3 aoa (List.length (popL (lessI bef) ((0 : Int), (0 : Int)) xs_1)) capa, SV.func (Fn.func (41 : FuncId)) [] [], SV.int IntKind.i64 na]
                      (146 : TypeId)),
                    Ent.mk (Loc.sl aoa capa) (SObj.vecL (149 : TypeId) 2 encItI (popL (lessI bef) ((0 : Int), (0 : Int)) xs_1) ((0 : Int), (0 : Int))),
                    Ent.mk (Loc.blk qb) (SObj.cells [SV.vec 5 aob (List.length ys) capb, SV.func (Fn.func (42 : FuncId)) [] [], SV.int IntKind.i64 nb] (146 : TypeId)),
                    Ent.mk (Loc.sl aob capb) (SObj.vecL (149 : TypeId) 2 encItI ys ((0 : Int), (0 : Int)))]
                   (SV.bool false)
                 | false =>
                  true = true ∧
                   ∃ (xs : List (Int × Int)),
                    (Ent.mk (Loc.sl aob capb) (SObj.vecL (149 : TypeId) 2 encItI ys ((0 : Int), (0 : Int))) =
                     Ent.mk (Loc.sl aob capb) (SObj.vecL (149 : TypeId) 2 encItI xs ((0 : Int), (0 : Int))) ∧
                     qb = qb ∧ List.length ys = List.length xs ∧ false = false) ∧
                     (147 = (147 : TypeId) ∧ 0 < List.length xs ∧ List.length xs ≤ 2305843009213693952) ∧
                      ∃ (bef_1 : Int → Int → Bool),
                       RI (42 : FuncId) bef_1 ∧
                        match
                         (List.getD xs_1 0 ((0 : Int), (0 : Int))).1 != IntKind.wrap IntKind.i64 ((0 : Int) - (List.getD xs 0 ((0 : Int), (0 : Int))).1) with
                        | true =>
                         N
                          [Ent.mk (Loc.sl ao cap) (SObj.roL 1 encI16 bs (0 : Int)), Ent.mk (Loc.sl ao' cap') (SObj.roL 1 encBool ps false),
                           Ent.mk (Loc.blk qa)
                            (SObj.cells
                             [SV.vec 3 aoa (List.length (popL (lessI bef) ((0 : Int), (0 : Int)) xs_1)) capa, SV.func (Fn.func (41 : FuncId)) [] [],
                              SV.int IntKind.i64 na]
                             (146 : TypeId)),
                           Ent.mk (Loc.sl aoa capa) (SObj.vecL (149 : TypeId) 2 encItI (popL (lessI bef) ((0 : Int), (0 : Int)) xs_1) ((0 : Int), (0 : Int))),
                           Ent.mk (Loc.blk qb)
                            (SObj.cells
                             [SV.vec 5 aob (List.length (popL (lessI bef_1) ((0 : Int), (0 : Int)) xs)) capb, SV.func (Fn.func (42 : FuncId)) [] [],
                              SV.int IntKind.i64 nb]
                             (146 : TypeId)),
                           Ent.mk (Loc.sl aob capb) (SObj.vecL (149 : TypeId) 2 encItI (popL (lessI bef_1) ((0 : Int), (0 : Int)) xs) ((0 : Int), (0 : Int)))]
                          (SV.bool false)
                        | false =>
                         K (Frm.loop J :: Frm.blk 0 :: frm [] (bodyOf Try.f10) [1, 1, 1, 1, 1, 1] [])
                          (Sy.mk (SV.vec 0 ao (List.length bs) cap :: (SV.vec 1 ao' (List.length ps) cap' :: (SV.raw (u 2) :: (SV.raw (u 3) :: (SV.bool false :: (SV.ptr 2 qa 0 :: (SV.ptr 4 qb 0 :: (SV.int IntKind.i64 (IntKind.wrap IntKind.i64 (i + (1 : Int))) :: (SV.int IntKind.i64 (List.getD xs_1 0 ((0 : Int), (0 : Int))).1 :: (SV.int IntKind.i64 (0 : Int) :: (SV.int IntKind.i64 (List.getD xs 0 ((0 : Int), (0 : Int))).1 :: (SV.int IntKind.i64 (0 : Int) :: (rawR u 12 (SV.int IntKind.i64 i :: (SV.int IntKind.i64 (IntKind.wrap IntKind.i64 (i + (1 : Int))) :: (rawR u 32 (SV.int IntKind.i64 i :: (SV.vec 1 ao' (List.length ps) cap' :: (SV.int IntKind.i64 (↑(List.length ps) : Int) :: (SV.bool (decide (i < (↑(List.length ps) : Int))) :: (SV.bool true :: (SV.vec 1 ao' (List.length ps) cap' :: (SV.int IntKind.i64 i :: (SV.eptr 1 (Addr.blkD ao') (Addr.offD ao') 1 (Int.toNat i) 0 :: (SV.bool (List.getD ps (Int.toNat i) false) :: (SV.bool true :: (SV.tuple [SV.int IntKind.i64 (List.getD xs_1 0 ((0 : Int), (0 : Int))).1, SV.int IntKind.i64 (0 : Int)] :: (SV.ptr 2 qa 0 :: (SV.tuple [SV.int IntKind.i64 (List.getD xs_1 0 ((0 : Int), (0 : Int))).1, SV.int IntKind.i64 (0 : Int)] :: (SV.int IntKind.i64 (List.getD xs_1 0 ((0 : Int), (0 : Int))).1 :: (SV.int IntKind.i64 (0 : Int) :: (SV.tuple [SV.int IntKind.i64 (List.getD xs 0 ((0 : Int), (0 : Int))).1, SV.int IntKind.i64 (0 : Int)] :: (SV.ptr 4 qb 0 :: (SV.tuple [SV.int IntKind.i64 (List.getD xs 0 ((0 : Int), (0 : Int))).1, SV.int IntKind.i64 (0 : Int)] :: (SV.int IntKind.i64 (List.getD xs 0 ((0 : Int), (0 : Int))).1 :: (SV.int IntKind.i64 (0 : Int) :: (SV.int IntKind.i64 (0 : Int) :: (SV.bool false :: (SV.bool false :: (SV.int IntKind.i64 (0 : Int) :: (SV.bool false :: (SV.bool false :: (SV.bool false :: (SV.int IntKind.i64 (List.getD xs_1 0 ((0 : Int), (0 : Int))).1 :: (SV.int IntKind.i64 (List.getD xs 0 ((0 : Int), (0 : Int))).1 :: (SV.int IntKind.i64 (IntKind.wrap IntKind.i64 ((0 : Int) - (List.getD xs 0 ((0 : Int), (0 : Int))).1)) :: ((SV.bool ((List.getD xs_1 0 ((0 : Int), (0 : Int))).1 != IntKind.wrap IntKind.i64 ((0 : Int) - (List.getD xs 0 ((0 : Int), (0 : Int))).1))) :: (SV.bool false :: (rawR u 79 [] 50))))))))))))))))))))))))))))))))) 15))) 18)))))))))))))
                           [Ent.mk (Loc.sl ao cap) (SObj.roL 1 encI16 bs (0 : Int)), Ent.mk (Loc.sl ao' cap') (SObj.roL 1 encBool ps false),
                            Ent.mk (Loc.blk qa)
                             (SObj.cells
                              [SV.vec 3 aoa (List.length (popL (lessI bef) ((0 : Int), (0 : Int)) xs_1)) capa, SV.func (Fn.func (41 : FuncId)) [] [],
                               SV.int IntKind.i64 na]
                              (146 : TypeId)),
                            Ent.mk (Loc.sl aoa capa) (SObj.vecL (149 : TypeId) 2 encItI (popL (lessI bef) ((0 : Int), (0 : Int)) xs_1) ((0 : Int), (0 : Int))),
                            Ent.mk (Loc.blk qb)
                             (SObj.cells
                              [SV.vec 5 aob (List.length (popL (lessI bef_1) ((0 : Int), (0 : Int)) xs)) capb, SV.func (Fn.func (42 : FuncId)) [] [],
                               SV.int IntKind.i64 nb]
                              (146 : TypeId)),
                            Ent.mk (Loc.sl aob capb) (SObj.vecL (149 : TypeId) 2 encItI (popL (lessI bef_1) ((0 : Int), (0 : Int)) xs) ((0 : Int), (0 : Int)))])
   | false =>
    K (Frm.loop J :: Frm.blk 0 :: frm [] (bodyOf Try.f10) [1, 1, 1, 1, 1, 1] [])
     (Sy.mk (SV.vec 0 ao (List.length bs) cap :: (SV.vec 1 ao' (List.length ps) cap' :: (SV.raw (u 2) :: (SV.raw (u 3) :: (SV.bool false :: (SV.ptr 2 qa 0 :: (SV.ptr 4 qb 0 :: (SV.int IntKind.i64 (IntKind.wrap IntKind.i64 (i + (1 : Int))) :: (rawR u 8 (SV.int IntKind.i64 i :: (SV.int IntKind.i64 (IntKind.wrap IntKind.i64 (i + (1 : Int))) :: (rawR u 32 (SV.int IntKind.i64 i :: (SV.vec 1 ao' (List.length ps) cap' :: (SV.int IntKind.i64 (↑(List.length ps) : Int) :: (SV.bool (decide (i < (↑(List.length ps) : Int))) :: (SV.bool true :: (SV.vec 1 ao' (List.length ps) cap' :: (SV.int IntKind.i64 i :: (SV.eptr 1 (Addr.blkD ao') (Addr.offD ao') 1 (Int.toNat i) 0 :: (SV.bool (List.getD ps (Int.toNat i) false) :: (SV.bool false :: (rawR u 57 [] 72))))))))))) 15))) 22)))))))))
      [Ent.mk (Loc.sl ao cap) (SObj.roL 1 encI16 bs (0 : Int)), Ent.mk (Loc.sl ao' cap') (SObj.roL 1 encBool ps false),
       Ent.mk (Loc.blk qa) (SObj.cells [SV.vec 3 aoa (List.length xs) capa, SV.func (Fn.func (41 : FuncId)) [] [], SV.int IntKind.i64 na] (146 : TypeId)),
       Ent.mk (Loc.sl aoa capa) (SObj.vecL (149 : TypeId) 2 encItI xs ((0 : Int), (0 : Int))),
       Ent.mk (Loc.blk qb) (SObj.cells [SV.vec 5 aob (List.length ys) capb, SV.func (Fn.func (42 : FuncId)) [] [], SV.int IntKind.i64 nb] (146 : TypeId)),
       Ent.mk (Loc.sl aob capb) (SObj.vecL (149 : TypeId) 2 encItI ys ((0 : Int), (0 : Int)))])
| false =>
 K (Frm.loop J :: Frm.blk 0 :: frm [] (bodyOf Try.f10) [1, 1, 1, 1, 1, 1] [])
  (Sy.mk (SV.vec 0 ao (List.length bs) cap :: (SV.vec 1 ao' (List.length ps) cap' :: (SV.raw (u 2) :: (SV.raw (u 3) :: (SV.bool false :: (SV.ptr 2 qa 0 :: (SV.ptr 4 qb 0 :: (SV.int IntKind.i64 (IntKind.wrap IntKind.i64 (i + (1 : Int))) :: (rawR u 8 (SV.int IntKind.i64 i :: (SV.int IntKind.i64 (IntKind.wrap IntKind.i64 (i + (1 : Int))) :: (rawR u 32 (SV.int IntKind.i64 i :: (SV.vec 1 ao' (List.length ps) cap' :: (SV.int IntKind.i64 (↑(List.length ps) : Int) :: (SV.bool (decide (i < (↑(List.length ps) : Int))) :: (SV.bool false :: (rawE (SV.bool false :: (rawR u 57 [] 72)) 4)))))) 15))) 22)))))))))
   [Ent.mk (Loc.sl ao cap) (SObj.roL 1 encI16 bs (0 : Int)), Ent.mk (Loc.sl ao' cap') (SObj.roL 1 encBool ps false),
    Ent.mk (Loc.blk qa) (SObj.cells [SV.vec 3 aoa (List.length xs) capa, SV.func (Fn.func (41 : FuncId)) [] [], SV.int IntKind.i64 na] (146 : TypeId)),
    Ent.mk (Loc.sl aoa capa) (SObj.vecL (149 : TypeId) 2 encItI xs ((0 : Int), (0 : Int))),
    Ent.mk (Loc.blk qb) (SObj.cells [SV.vec 5 aob (List.length ys) capb, SV.func (Fn.func (42 : FuncId)) [] [], SV.int IntKind.i64 nb] (146 : TypeId)),
    Ent.mk (Loc.sl aob capb) (SObj.vecL (149 : TypeId) 2 encItI ys ((0 : Int), (0 : Int)))])) := by kernel_rfl


theorem qb_l2 (K : List Frm → Sy → Prop) (N : List Ent → SV → Prop) (J : Act → World → Prop) (u : Nat → Value) (ao : Option Addr) (cap : Nat) (bs : List Int) (ao' : Option Addr) (cap' : Nat) (ps : List Bool) (qa : Nat) (aoa : Option Addr) (capa : Nat) (xs : List (Int × Int)) (na : Int) (qb : Nat) (aob : Option Addr) (capb : Nat) (ys : List (Int × Int)) (nb : Int) (last : Int) (some : Bool) : (run Try.prog qTI5 false [] K (retP Try.prog Try.f10.results.toList N) 1500 (frm [J] (bodyOf Try.f10) [1, 1, 1, 1, 1, 1, 1, 0, 0, 0] []) ⟨mkT u 129 0 [(4, .bool false), (5, .ptr 2 qa 0), (6, .ptr 4 qb 0), (12, .int .i64 last), (13, .bool some)], qbHeap ao cap bs ao' cap' ps qa aoa capa xs na qb aob capb ys nb⟩) = (
true = true ∧
 qa = qa ∧
  match decide ((↑(List.length xs) : Int) > (0 : Int)) with
  | true =>
   true = true ∧
    qa = qa ∧
     true = true ∧
      true = true ∧
       qa = qa ∧
        match (↑(List.length xs) : Int) == (0 : Int) with
        | true =>
         true = true ∧
          true = true ∧
           qb = qb ∧
            match (↑(List.length ys) : Int) == (0 : Int) with
            | true =>
             true = true ∧
              true = true ∧
               true = true ∧
                N
                 [Ent.mk (Loc.sl ao cap) (SObj.roL 1 encI16 bs (0 : Int)), Ent.mk (Loc.sl ao' cap') (SObj.roL 1 encBool ps false),
                  Ent.mk (Loc.blk qa) (SObj.cells [SV.vec 3 aoa (List.length xs) capa, SV.func (Fn.func (41 : FuncId)) [] [], SV.int IntKind.i64 na] (146 : TypeId)),
                  Ent.mk (Loc.sl aoa capa) (SObj.vecL (149 : TypeId) 2 encItI xs ((0 : Int), (0 : Int))),
                  Ent.mk (Loc.blk qb) (SObj.cells [SV.vec 5 aob (List.length ys) capb, SV.func (Fn.func (42 : FuncId)) [] [], SV.int IntKind.i64 nb] (146 : TypeId)),
                  Ent.mk (Loc.sl aob capb) (SObj.vecL (149 : TypeId) 2 encItI ys ((0 : Int), (0 : Int)))]
                 (SV.bool false)
            | false =>
             true = true ∧
              ∃ (xs_1 : List (Int × Int)),
               (Ent.mk (Loc.sl aob capb) (SObj.vecL (149 : TypeId) 2 encItI ys ((0 : Int), (0 : Int))) =
                Ent.mk (Loc.sl aob capb) (SObj.vecL (149 : TypeId) 2 encItI xs_1 ((0 : Int), (0 : Int))) ∧
                qb = qb ∧ List.length ys = List.length xs_1 ∧ false = false) ∧
                (147 = (147 : TypeId) ∧ 0 < List.length xs_1 ∧ List.length xs_1 ≤ 2305843009213693952) ∧
                 ∃ (bef : Int → Int → Bool),
                  RI (42 : FuncId) bef ∧
                   true = true ∧
                    true = true ∧
                     true = true ∧
                      N
                       [Ent.mk (Loc.sl ao cap) (SObj.roL 1 encI16 bs (0 : Int)), Ent.mk (Loc.sl ao' cap') (SObj.roL 1 encBool ps false),
                        Ent.mk (Loc.blk qa)
                         (SObj.cells [SV.vec 3 aoa (List.length xs) capa, SV.func (Fn.func (41 : FuncId)) [] [], SV.int IntKind.i64 na] (146 : TypeId)),
                        Ent.mk (Loc.sl aoa capa) (SObj.vecL (149 : TypeId) 2 encItI xs ((0 : Int), (0 : Int))),
                        Ent.mk (Loc.blk qb)
                         (SObj.cells
                          [SV.vec 5 aob (List.length (popL (lessI bef) ((0 : Int), (0 : Int)) xs_1)) capb, SV.func (Fn.func (42 : FuncId)) [] [],
                           SV.int IntKind.i64 nb]
                          (146 : TypeId)),
                        Ent.mk (Loc.sl aob capb) (SObj.vecL (149 : TypeId) 2 encItI (popL (lessI bef) ((0 : Int), (0 : Int)) xs_1) ((0 : Int), (0 : Int)))]
                       (SV.bool false)
        | false =>
         true = true ∧
          ∃ (xs_1 : List (Int × Int)),
           (Ent.mk (Loc.sl aoa capa) (SObj.vecL (149 : TypeId) 2 encItI xs ((0 : Int), (0 : Int))) =
            Ent.mk (Loc.sl aoa capa) (SObj.vecL (149 : TypeId) 2 encItI xs_1 ((0 : Int), (0 : Int))) ∧
            qa = qa ∧ List.length xs = List.length xs_1 ∧ false = false) ∧
            (147 = (147 : TypeId) ∧ 0 < List.length xs_1 ∧ List.length xs_1 ≤ 2305843009213693952) ∧
             ∃ (bef : Int → Int → Bool),
              RI (41 : FuncId) bef ∧
               true = true ∧
                true = true ∧
                 qb = qb ∧
                  match (↑(List.length ys) : Int) == (0 : Int) with
                  | true =>
                   true = true ∧
                    true = true ∧
                     true = true ∧
                      N
                       [Ent.mk (Loc.sl ao cap) (SObj.roL 1 encI16 bs (0 : Int)), Ent.mk (Loc.sl ao' cap') (SObj.roL 1 encBool ps false),
                        Ent.mk (Loc.blk qa)
                         (SObj.cells
                          [SV.vec 3 aoa (List.length (popL (lessI bef) ((0 : Int), (0 : Int)) xs_1)) capa, SV.func (Fn.func (41 : FuncId)) [] [],
                           SV.int IntKind.i64 na]
                          (146 : TypeId)),
                        Ent.mk (Loc.sl aoa capa) (SObj.vecL (149 : TypeId) 2 encItI (popL (lessI bef) ((0 : Int), (0 : Int)) xs_1) ((0 : Int), (0 : Int))),
                        Ent.mk (Loc.blk qb)
                         (SObj.cells [SV.vec 5 aob (List.length ys) capb, SV.func (Fn.func (42 : FuncId)) [] [], SV.int IntKind.i64 nb] (146 : TypeId)),
                        Ent.mk (Loc.sl aob capb) (SObj.vecL (149 : TypeId) 2 encItI ys ((0 : Int), (0 : Int)))]
                       (SV.bool false)
                  | false =>
                   true = true ∧
                    ∃ (xs_2 : List (Int × Int)),
                     (Ent.mk (Loc.sl aob capb) (SObj.vecL (149 : TypeId) 2 encItI ys ((0 : Int), (0 : Int))) =
                      Ent.mk (Loc.sl aob capb) (SObj.vecL (149 : TypeId) 2 encItI xs_2 ((0 : Int), (0 : Int))) ∧
                      qb = qb ∧ List.length ys = List.length xs_2 ∧ false = false) ∧
                      (147 = (147 : TypeId) ∧ 0 < List.length xs_2 ∧ List.length xs_2 ≤ 2305843009213693952) ∧
                       ∃ (bef_1 : Int → Int → Bool),
                        RI (42 : FuncId) bef_1 ∧
                         match
                          (List.getD xs_1 0 ((0 : Int), (0 : Int))).1 !=
                           IntKind.wrap IntKind.i64 ((0 : Int) - (List.getD xs_2 0 ((0 : Int), (0 : Int))).1) with
                         | true =>
                          true = true ∧
                           true = true ∧
                            true = true ∧
                             N
                              [Ent.mk (Loc.sl ao cap) (SObj.roL 1 encI16 bs (0 : Int)), Ent.mk (Loc.sl ao' cap') (SObj.roL 1 encBool ps false),
                               Ent.mk (Loc.blk qa)
                                (SObj.cells
                                 [SV.vec 3 aoa (List.length (popL (lessI bef) ((0 : Int), (0 : Int)) xs_1)) capa, SV.func (Fn.func (41 : FuncId)) [] [],
                                  SV.int IntKind.i64 na]
                                 (146 : TypeId)),
                               Ent.mk (Loc.sl aoa capa)
                                (SObj.vecL (149 : TypeId) 2 encItI (popL (lessI bef) ((0 : Int), (0 : Int)) xs_1) ((0 : Int), (0 : Int))),
                               Ent.mk (Loc.blk qb)
                                (SObj.cells
                                 [SV.vec 5 aob (List.length (popL (lessI bef_1) ((0 : Int), (0 : Int)) xs_2)) capb, SV.func (Fn.func (42 : FuncId)) [] [],
                                  SV.int IntKind.i64 nb]
                                 (146 : TypeId)),
                               Ent.mk (Loc.sl aob capb)
                                (SObj.vecL (149 : TypeId) 2 encItI (popL (lessI bef_1) ((0 : Int), (0 : Int)) xs_2) ((0 : Int), (0 : Int)))]
                              (SV.bool false)
                         | false =>
                          match some with
                          | true =>
                           match decide ((List.getD xs_1 0 ((0 : Int), (0 : Int))).1 < last) with
                           | true =>
                            N
                             [Ent.mk (Loc.sl ao cap) (SObj.roL 1 encI16 bs (0 : Int)), Ent.mk (Loc.sl ao' cap') (SObj.roL 1 encBool ps false),
                              Ent.mk (Loc.blk qa)
                               (SObj.cells
                                [SV.vec 3 aoa (List.length (popL (lessI bef) ((0 : Int), (0 : Int)) xs_1)) capa, SV.func (Fn.func (41 : FuncId)) [] [],
                                 SV.int IntKind.i64 na]
                                (146 : TypeId)),
                              Ent.mk (Loc.sl aoa capa) (SObj.vecL (149 : TypeId) 2 encItI (popL (lessI bef) ((0 : Int), (0 : Int)) xs_1) ((0 : Int), (0 : Int))),
                              Ent.mk (Loc.blk qb)
                               (SObj.cells
                                [SV.vec 5 aob (List.length (popL (lessI bef_1) ((0 : Int), (0 : Int)) xs_2)) capb, SV.func (Fn.func (42 : FuncId)) [] [],
                                 SV.int IntKind.i64 nb]
                                (146 : TypeId)),
                              Ent.mk (Loc.sl aob capb)
                               (SObj.vecL (149 : TypeId) 2 encItI (popL (lessI bef_1) ((0 : Int), (0 : Int)) xs_2) ((0 : Int), (0 : Int)))]
                             (SV.bool false)
                           | false =>
                            true = true ∧
                             qa = qa ∧
                              match
                               (↑(List.length (popL (lessI bef) ((0 : Int), (0 : Int)) xs_1)) : Int) !=
                                IntKind.wrap IntKind.i64 ((↑(List.length xs) : Int) - (1 : Int)) with
                              | true =>
                               N
                                [Ent.mk (Loc.sl ao cap) (SObj.roL 1 encI16 bs (0 : Int)), Ent.mk (Loc.sl ao' cap') (SObj.roL 1 encBool ps false),
                                 Ent.mk (Loc.blk qa)
                                  (SObj.cells
                                   [SV.vec 3 aoa (List.length (popL (lessI bef) ((0 : Int), (0 : Int)) xs_1)) capa, SV.func (Fn.func (41 : FuncId)) [] [],
                                    SV.int IntKind.i64 na]
                                   (146 : TypeId)),
                                 Ent.mk (Loc.sl aoa capa)
                                  (SObj.vecL (149 : TypeId) 2 encItI (popL (lessI bef) ((0 : Int), (0 : Int)) xs_1) ((0 : Int), (0 : Int))),
                                 Ent.mk (Loc.blk qb)
                                  (SObj.cells
                                   [SV.vec 5 aob (List.length (popL (lessI bef_1) ((0 : Int), (0 : Int)) xs_2)) capb, SV.func (Fn.func (42 : FuncId)) [] [],
                                    SV.int IntKind.i64 nb]
                                   (146 : TypeId)),
                                 Ent.mk (Loc.sl aob capb)
                                  (SObj.vecL (149 : TypeId) 2 encItI (popL (lessI bef_1) ((0 : Int), (0 : Int)) xs_2) ((0 : Int), (0 : Int)))]
                                (SV.bool false)
                              | false =>
                               true = true ∧
                                qb = qb ∧
                                 match
                                  (↑(List.length (popL (lessI bef_1) ((0 : Int), (0 : Int)) xs_2)) : Int) !=
                                   IntKind.wrap IntKind.i64 ((↑(List.length xs) : Int) - (1 : Int)) with
                                 | true =>
                                  N
                                   [Ent.mk (Loc.sl ao cap) (SObj.roL 1 encI16 bs (0 : Int)), Ent.mk (Loc.sl ao' cap') (SObj.roL 1 encBool ps false),
                                    Ent.mk (Loc.blk qa)
                                     (SObj.cells
                                      [SV.vec 3 aoa (List.length (popL (lessI bef) ((0 : Int), (0 : Int)) xs_1)) capa,
                                       SV.func (Fn.func (41 : FuncId)) [] [], SV.int IntKind.i64 na]
                                      (146 : TypeId)),
                                    Ent.mk (Loc.sl aoa capa)
                                     (SObj.vecL (149 : TypeId) 2 encItI (popL (lessI bef) ((0 : Int), (0 : Int)) xs_1) ((0 : Int), (0 : Int))),
                                    Ent.mk (Loc.blk qb)
                                     (SObj.cells
                                      [SV.vec 5 aob (List.length (popL (lessI bef_1) ((0 : Int), (0 : Int)) xs_2)) capb,
                                       SV.func (Fn.func (42 : FuncId)) [] [], SV.int IntKind.i64 nb]
                                      (146 : TypeId)),
                                    Ent.mk (Loc.sl aob capb)
                                     (SObj.vecL (149 : TypeId) 2 encItI (popL (lessI bef_1) ((0 : Int), (0 : Int)) xs_2) ((0 : Int), (0 : Int)))]
                                   (SV.bool false)
                                 | false =>
                                  K
                                   (Frm.loop J ::
                                    Frm.blk 2 ::
                                     frm [] (bodyOf Try.f10) [1, 1, 1, 1, 1, 1, 1, 1] [])
                                   (Sy.mk (rawR u 0 (SV.bool false :: (SV.ptr 2 qa 0 :: (SV.ptr 4 qb 0 :: (rawR u 7 (SV.int IntKind.i64 (List.getD xs_1 0 ((0 : Int), (0 : Int))).1 :: (SV.bool true :: (SV.int IntKind.i64 (↑(List.length xs) : Int) :: (SV.int IntKind.i64 (List.getD xs_1 0 ((0 : Int), (0 : Int))).1 :: (SV.int IntKind.i64 (0 : Int) :: (SV.int IntKind.i64 (List.getD xs_2 0 ((0 : Int), (0 : Int))).1 :: (SV.int IntKind.i64 (0 : Int) :: (rawR u 19 (SV.ptr 2 qa 0 :: (SV.int IntKind.i64 (↑(List.length xs) : Int) :: (SV.bool true :: (SV.ptr 2 qa 0 :: (SV.int IntKind.i64 (↑(List.length xs) : Int) :: (SV.tuple [SV.int IntKind.i64 (List.getD xs_1 0 ((0 : Int), (0 : Int))).1, SV.int IntKind.i64 (0 : Int)] :: (SV.ptr 2 qa 0 :: (SV.tuple [SV.int IntKind.i64 (List.getD xs_1 0 ((0 : Int), (0 : Int))).1, SV.int IntKind.i64 (0 : Int)] :: (SV.int IntKind.i64 (List.getD xs_1 0 ((0 : Int), (0 : Int))).1 :: (SV.int IntKind.i64 (0 : Int) :: (SV.tuple [SV.int IntKind.i64 (List.getD xs_2 0 ((0 : Int), (0 : Int))).1, SV.int IntKind.i64 (0 : Int)] :: (SV.ptr 4 qb 0 :: (SV.tuple [SV.int IntKind.i64 (List.getD xs_2 0 ((0 : Int), (0 : Int))).1, SV.int IntKind.i64 (0 : Int)] :: (SV.int IntKind.i64 (List.getD xs_2 0 ((0 : Int), (0 : Int))).1 :: (SV.int IntKind.i64 (0 : Int) :: (SV.int IntKind.i64 (0 : Int) :: (SV.bool false :: (SV.bool false :: (SV.int IntKind.i64 (0 : Int) :: (SV.bool false :: (SV.bool false :: (SV.bool false :: (SV.int IntKind.i64 (List.getD xs_1 0 ((0 : Int), (0 : Int))).1 :: (SV.int IntKind.i64 (List.getD xs_2 0 ((0 : Int), (0 : Int))).1 :: (SV.int IntKind.i64 (IntKind.wrap IntKind.i64 ((0 : Int) - (List.getD xs_2 0 ((0 : Int), (0 : Int))).1)) :: ((SV.bool ((List.getD xs_1 0 ((0 : Int), (0 : Int))).1 != IntKind.wrap IntKind.i64 ((0 : Int) - (List.getD xs_2 0 ((0 : Int), (0 : Int))).1))) :: ((SV.bool ((List.getD xs_1 0 ((0 : Int), (0 : Int))).1 != IntKind.wrap IntKind.i64 ((0 : Int) - (List.getD xs_2 0 ((0 : Int), (0 : Int))).1))) :: (SV.bool false :: (SV.bool some :: (SV.bool true :: (SV.int IntKind.i64 (List.getD xs_1 0 ((0 : Int), (0 : Int))).1 :: (SV.int IntKind.i64 last :: (SV.bool (decide ((List.getD xs_1 0 ((0 : Int), (0 : Int))).1 < last)) :: (SV.bool (decide ((List.getD xs_1 0 ((0 : Int), (0 : Int))).1 < last)) :: (SV.bool (decide ((List.getD xs_1 0 ((0 : Int), (0 : Int))).1 < last)) :: (SV.bool false :: (SV.ptr 2 qa 0 :: (SV.int IntKind.i64 (↑(List.length (popL (lessI bef) ((0 : Int), (0 : Int)) xs_1)) : Int) :: (SV.int IntKind.i64 (↑(List.length xs) : Int) :: (SV.int IntKind.i64 (IntKind.wrap IntKind.i64 ((↑(List.length xs) : Int) - (1 : Int))) :: ((SV.bool ((↑(List.length (popL (lessI bef) ((0 : Int), (0 : Int)) xs_1)) : Int) != IntKind.wrap IntKind.i64 ((↑(List.length xs) : Int) - (1 : Int)))) :: ((SV.bool ((↑(List.length (popL (lessI bef) ((0 : Int), (0 : Int)) xs_1)) : Int) != IntKind.wrap IntKind.i64 ((↑(List.length xs) : Int) - (1 : Int)))) :: (SV.bool false :: (SV.ptr 4 qb 0 :: (SV.int IntKind.i64 (↑(List.length (popL (lessI bef_1) ((0 : Int), (0 : Int)) xs_2)) : Int) :: (SV.int IntKind.i64 (↑(List.length xs) : Int) :: (SV.int IntKind.i64 (IntKind.wrap IntKind.i64 ((↑(List.length xs) : Int) - (1 : Int))) :: ((SV.bool ((↑(List.length (popL (lessI bef_1) ((0 : Int), (0 : Int)) xs_2)) : Int) != IntKind.wrap IntKind.i64 ((↑(List.length xs) : Int) - (1 : Int)))) :: (SV.bool false :: (SV.int IntKind.i64 (List.getD xs_1 0 ((0 : Int), (0 : Int))).1 :: [])))))))))))))))))))))))))))))))))))))))))))))))))) 60)))))))) 5)))) 4)
                                    [Ent.mk (Loc.sl ao cap) (SObj.roL 1 encI16 bs (0 : Int)),
                                     Ent.mk (Loc.sl ao' cap') (SObj.roL 1 encBool ps false),
                                     Ent.mk (Loc.blk qa)
                                      (SObj.cells
                                       [SV.vec 3 aoa (List.length (popL (lessI bef) ((0 : Int), (0 : Int)) xs_1)) capa,
                                        SV.func (Fn.func (41 : FuncId)) [] [], SV.int IntKind.i64 na]
                                       (146 : TypeId)),
                                     Ent.mk (Loc.sl aoa capa)
                                      (SObj.vecL (149 : TypeId) 2 encItI (popL (lessI bef) ((0 : Int), (0 : Int)) xs_1) ((0 : Int), (0 : Int))),
                                     Ent.mk (Loc.blk qb)
                                      (SObj.cells
                                       [SV.vec 5 aob (List.length (popL (lessI bef_1) ((0 : Int), (0 : Int)) xs_2)) capb,
                                        SV.func (Fn.func (42 : FuncId)) [] [], SV.int IntKind.i64 nb]
                                       (146 : TypeId)),
                                     Ent.mk (Loc.sl aob capb)
                                      (SObj.vecL (149 : TypeId) 2 encItI (popL (lessI bef_1) ((0 : Int), (0 : Int)) xs_2) ((0 : Int), (0 : Int)))])
                          | false =>
                           true = true ∧
                            qa = qa ∧
                             match
                              (↑(List.length (popL (lessI bef) ((0 : Int), (0 : Int)) xs_1)) : Int) !=
                               IntKind.wrap IntKind.i64 ((↑(List.length xs) : Int) - (1 : Int)) with
                             | true =>
                              N
                               [Ent.mk (Loc.sl ao cap) (SObj.roL 1 encI16 bs (0 : Int)), Ent.mk (Loc.sl ao' cap') (SObj.roL 1 encBool ps false),
                                Ent.mk (Loc.blk qa)
                                 (SObj.cells
                                  [SV.vec 3 aoa (List.length (popL (lessI bef) ((0 : Int), (0 : Int)) xs_1)) capa, SV.func (Fn.func (41 : FuncId)) [] [],
                                   SV.int IntKind.i64 na]
                                  (146 : TypeId)),
                                Ent.mk (Loc.sl aoa capa)
                                 (SObj.vecL (149 : TypeId) 2 encItI (popL (lessI bef) ((0 : Int), (0 : Int)) xs_1) ((0 : Int), (0 : Int))),
                                Ent.mk (Loc.blk qb)
                                 (SObj.cells
                                  [SV.vec 5 aob (List.length (popL (lessI bef_1) ((0 : Int), (0 : Int)) xs_2)) capb, SV.func (Fn.func (42 : FuncId)) [] [],
                                   SV.int IntKind.i64 nb]
                                  (146 : TypeId)),
                                Ent.mk (Loc.sl aob capb)
                                 (SObj.vecL (149 : TypeId) 2 encItI (popL (lessI bef_1) ((0 : Int), (0 : Int)) xs_2) ((0 : Int), (0 : Int)))]
                               (SV.bool false)
                             | false =>
                              true = true ∧
                               qb = qb ∧
                                match
                                 (↑(List.length (popL (lessI bef_1) ((0 : Int), (0 : Int)) xs_2)) : Int) !=
                                  IntKind.wrap IntKind.i64 ((↑(List.length xs) : Int) - (1 : Int)) with
                                | true =>
                                 N
                                  [Ent.mk (Loc.sl ao cap) (SObj.roL 1 encI16 bs (0 : Int)), Ent.mk (Loc.sl ao' cap') (SObj.roL 1 encBool ps false),
                                   Ent.mk (Loc.blk qa)
                                    (SObj.cells
                                     [SV.vec 3 aoa (List.length (popL (lessI bef) ((0 : Int), (0 : Int)) xs_1)) capa,
                                      SV.func (Fn.func (41 : FuncId)) [] [], SV.int IntKind.i64 na]
                                     (146 : TypeId)),
                                   Ent.mk (Loc.sl aoa capa)
                                    (SObj.vecL (149 : TypeId) 2 encItI (popL (lessI bef) ((0 : Int), (0 : Int)) xs_1) ((0 : Int), (0 : Int))),
                                   Ent.mk (Loc.blk qb)
                                    (SObj.cells
                                     [SV.vec 5 aob (List.length (popL (lessI bef_1) ((0 : Int), (0 : Int)) xs_2)) capb,
                                      SV.func (Fn.func (42 : FuncId)) [] [], SV.int IntKind.i64 nb]
                                     (146 : TypeId)),
                                   Ent.mk (Loc.sl aob capb)
                                    (SObj.vecL (149 : TypeId) 2 encItI (popL (lessI bef_1) ((0 : Int), (0 : Int)) xs_2) ((0 : Int), (0 : Int)))]
                                  (SV.bool false)
                                | false =>
                                 K
                                  (Frm.loop J ::
                                   Frm.blk 2 ::
                                    frm [] (bodyOf Try.f10) [1, 1, 1, 1, 1, 1, 1, 1] [])
                                  (Sy.mk (rawR u 0 (SV.bool false :: (SV.ptr 2 qa 0 :: (SV.ptr 4 qb 0 :: (rawR u 7 (SV.int IntKind.i64 (List.getD xs_1 0 ((0 : Int), (0 : Int))).1 :: (SV.bool true :: (SV.int IntKind.i64 (↑(List.length xs) : Int) :: (SV.int IntKind.i64 (List.getD xs_1 0 ((0 : Int), (0 : Int))).1 :: (SV.int IntKind.i64 (0 : Int) :: (SV.int IntKind.i64 (List.getD xs_2 0 ((0 : Int), (0 : Int))).1 :: (SV.int IntKind.i64 (0 : Int) :: (rawR u 19 (SV.ptr 2 qa 0 :: (SV.int IntKind.i64 (↑(List.length xs) : Int) :: (SV.bool true :: (SV.ptr 2 qa 0 :: (SV.int IntKind.i64 (↑(List.length xs) : Int) :: (SV.tuple [SV.int IntKind.i64 (List.getD xs_1 0 ((0 : Int), (0 : Int))).1, SV.int IntKind.i64 (0 : Int)] :: (SV.ptr 2 qa 0 :: (SV.tuple [SV.int IntKind.i64 (List.getD xs_1 0 ((0 : Int), (0 : Int))).1, SV.int IntKind.i64 (0 : Int)] :: (SV.int IntKind.i64 (List.getD xs_1 0 ((0 : Int), (0 : Int))).1 :: (SV.int IntKind.i64 (0 : Int) :: (SV.tuple [SV.int IntKind.i64 (List.getD xs_2 0 ((0 : Int), (0 : Int))).1, SV.int IntKind.i64 (0 : Int)] :: (SV.ptr 4 qb 0 :: (SV.tuple [SV.int IntKind.i64 (List.getD xs_2 0 ((0 : Int), (0 : Int))).1, SV.int IntKind.i64 (0 : Int)] :: (SV.int IntKind.i64 (List.getD xs_2 0 ((0 : Int), (0 : Int))).1 :: (SV.int IntKind.i64 (0 : Int) :: (SV.int IntKind.i64 (0 : Int) :: (SV.bool false :: (SV.bool false :: (SV.int IntKind.i64 (0 : Int) :: (SV.bool false :: (SV.bool false :: (SV.bool false :: (SV.int IntKind.i64 (List.getD xs_1 0 ((0 : Int), (0 : Int))).1 :: (SV.int IntKind.i64 (List.getD xs_2 0 ((0 : Int), (0 : Int))).1 :: (SV.int IntKind.i64 (IntKind.wrap IntKind.i64 ((0 : Int) - (List.getD xs_2 0 ((0 : Int), (0 : Int))).1)) :: ((SV.bool ((List.getD xs_1 0 ((0 : Int), (0 : Int))).1 != IntKind.wrap IntKind.i64 ((0 : Int) - (List.getD xs_2 0 ((0 : Int), (0 : Int))).1))) :: ((SV.bool ((List.getD xs_1 0 ((0 : Int), (0 : Int))).1 != IntKind.wrap IntKind.i64 ((0 : Int) - (List.getD xs_2 0 ((0 : Int), (0 : Int))).1))) :: (SV.bool false :: (SV.bool some :: (SV.bool false :: (rawE (SV.bool false :: (SV.bool false :: (SV.bool false :: (SV.ptr 2 qa 0 :: (SV.int IntKind.i64 (↑(List.length (popL (lessI bef) ((0 : Int), (0 : Int)) xs_1)) : Int) :: (SV.int IntKind.i64 (↑(List.length xs) : Int) :: (SV.int IntKind.i64 (IntKind.wrap IntKind.i64 ((↑(List.length xs) : Int) - (1 : Int))) :: ((SV.bool ((↑(List.length (popL (lessI bef) ((0 : Int), (0 : Int)) xs_1)) : Int) != IntKind.wrap IntKind.i64 ((↑(List.length xs) : Int) - (1 : Int)))) :: ((SV.bool ((↑(List.length (popL (lessI bef) ((0 : Int), (0 : Int)) xs_1)) : Int) != IntKind.wrap IntKind.i64 ((↑(List.length xs) : Int) - (1 : Int)))) :: (SV.bool false :: (SV.ptr 4 qb 0 :: (SV.int IntKind.i64 (↑(List.length (popL (lessI bef_1) ((0 : Int), (0 : Int)) xs_2)) : Int) :: (SV.int IntKind.i64 (↑(List.length xs) : Int) :: (SV.int IntKind.i64 (IntKind.wrap IntKind.i64 ((↑(List.length xs) : Int) - (1 : Int))) :: ((SV.bool ((↑(List.length (popL (lessI bef_1) ((0 : Int), (0 : Int)) xs_2)) : Int) != IntKind.wrap IntKind.i64 ((↑(List.length xs) : Int) - (1 : Int)))) :: (SV.bool false :: (SV.int IntKind.i64 (List.getD xs_1 0 ((0 : Int), (0 : Int))).1 :: []))))))))))))))))) 3))))))))))))))))))))))))))))))) 60)))))))) 5)))) 4)
                                   [Ent.mk (Loc.sl ao cap) (SObj.roL 1 encI16 bs (0 : Int)), Ent.mk (Loc.sl ao' cap') (SObj.roL 1 encBool ps false),
                                    Ent.mk (Loc.blk qa)
                                     (SObj.cells
                                      [SV.vec 3 aoa (List.length (popL (lessI bef) ((0 : Int), (0 : Int)) xs_1)) capa,
                                       SV.func (Fn.func (41 : FuncId)) [] [], SV.int IntKind.i64 na]
                                      (146 : TypeId)),
                                    Ent.mk (Loc.sl aoa capa)
                                     (SObj.vecL (149 : TypeId) 2 encItI (popL (lessI bef) ((0 : Int), (0 : Int)) xs_1) ((0 : Int), (0 : Int))),
                                    Ent.mk (Loc.blk qb)
                                     (SObj.cells
                                      [SV.vec 5 aob (List.length (popL (lessI bef_1) ((0 : Int), (0 : Int)) xs_2)) capb,
                                       SV.func (Fn.func (42 : FuncId)) [] [], SV.int IntKind.i64 nb]
                                      (146 : TypeId)),
                                    Ent.mk (Loc.sl aob capb)
                                     (SObj.vecL (149 : TypeId) 2 encItI (popL (lessI bef_1) ((0 : Int), (0 : Int)) xs_2) ((0 : Int), (0 : Int)))])
  | false =>
   N
    [Ent.mk (Loc.sl ao cap) (SObj.roL 1 encI16 bs (0 : Int)), Ent.mk (Loc.sl ao' cap') (SObj.roL 1 encBool ps false),
     Ent.mk (Loc.blk qa) (SObj.cells [SV.vec 3 aoa (List.length xs) capa, SV.func (Fn.func (41 : FuncId)) [] [], SV.int IntKind.i64 na] (146 : TypeId)),
     Ent.mk (Loc.sl aoa capa) (SObj.vecL (149 : TypeId) 2 encItI xs ((0 : Int), (0 : Int))),
     Ent.mk (Loc.blk qb) (SObj.cells [SV.vec 5 aob (List.length ys) capb, SV.func (Fn.func (42 : FuncId)) [] [], SV.int IntKind.i64 nb] (146 : TypeId)),
     Ent.mk (Loc.sl aob capb) (SObj.vecL (149 : TypeId) 2 encItI ys ((0 : Int), (0 : Int)))]
    (SV.bool true)) := by kernel_rfl
end Go.Proofs.Ytjnkfgigpapeaaa

namespace Go.Proofs.Ytjnkfgigpapeaaa
open Go Go.RowKit

theorem kn13_a (K : List Frm → Sy → Prop) (N : List Ent → SV → Prop) : (run Try.prog qTI4 false [4] K (retP Try.prog Try.f34.results.toList N) 900 [.code (bodyOf Try.f34)] ⟨padTo 56 [], []⟩) = (
true = true ∧
 (true = true ∧ true = true) ∧
  (true = true ∧ true = true) ∧
   true = true ∧
    ∀ (b : Nat),
     K (frmR [] (bodyOf Try.f34) 4)
      (Sy.mk (SV.bool false :: (SV.ptr 0 b 0 :: (rawE (SV.ptr 0 b 0 :: (SV.ptr 0 b 0 :: (SV.bool false :: (rawE [] 44)))) 7)))
       [Ent.mk (Loc.blk b) (SObj.cells [SV.raw (Value.slice (@none Addr) 0 0), SV.func (Fn.func 77) [] [], SV.int IntKind.i64 (0 : Int)] 146)])) := by kernel_rfl


theorem kn13_b (K : List Frm → Sy → Prop) (N : List Ent → SV → Prop) (u : Nat → Value) (q : Nat) : (run Try.prog qTI4 false [] K (retP Try.prog Try.f34.results.toList N) 2500 (frmR [] (bodyOf Try.f34) 4) ⟨mkT u 56 0 [(0, .bool false), (1, .ptr 0 q 0)], [⟨.blk q, .cells [.vec 1 none 0 0, .func (.func 77) [] [], .int .i64 0] 146⟩, ⟨.sl none 0, .vecL 149 2 encItI [] ((0 : Int), (0 : Int))⟩]⟩) = (
true = true ∧
 q = q ∧
  (true = true ∧ true = true) ∧
   true = true ∧
    ∃ (xs : List (Int × Int)),
     (Ent.mk (Loc.sl (@none Addr) 0) (SObj.vecL 149 2 (fun (x : Int × Int) ↦ [SV.int IntKind.i64 x.fst, SV.int IntKind.i64 x.snd]) [] ((0 : Int), (0 : Int))) =
      Ent.mk (Loc.sl (@none Addr) 0) (SObj.vecL (149 : TypeId) 2 encItI xs ((0 : Int), (0 : Int))) ∧
      q = q ∧ 0 = List.length xs ∧ false = false) ∧
      ∃ (x : Int × Int),
       (147 = (147 : TypeId) ∧
        149 = (149 : TypeId) ∧
         [SV.int IntKind.i64 x.1, SV.int IntKind.i64 x.2] = [SV.int IntKind.i64 (3 : Int), SV.int IntKind.i64 (0 : Int)] ∧
          (List.length xs + 1) * 16 ≤ 140737488355328 ∧ List.length xs < 2305843009213693952) ∧
        ∃ (bef : Int → Int → Bool),
         RI (77 : FuncId) bef ∧
          ∀ (ao2 : Option Addr) (cap2 : Nat),
           q = q ∧
            (q = q ∧ true = true ∧ 1 = 1 ∧ 3 ≤ 3) ∧
             true = true ∧
              q = q ∧
               (true = true ∧ true = true) ∧
                true = true ∧
                 ∃ (xs_1 : List (Int × Int)),
                  (Ent.mk (Loc.sl ao2 cap2) (SObj.vecL (149 : TypeId) 2 encItI (pushL (lessI bef) ((0 : Int), (0 : Int)) xs x) ((0 : Int), (0 : Int))) =
                   Ent.mk (Loc.sl ao2 cap2) (SObj.vecL (149 : TypeId) 2 encItI xs_1 ((0 : Int), (0 : Int))) ∧
                   q = q ∧ List.length (pushL (lessI bef) ((0 : Int), (0 : Int)) xs x) = List.length xs_1 ∧ false = false) ∧
                   ∃ (x : Int × Int),
                    (147 = (147 : TypeId) ∧
                     149 = (149 : TypeId) ∧
                      [SV.int IntKind.i64 x.1, SV.int IntKind.i64 x.2] = [SV.int IntKind.i64 (1 : Int), SV.int IntKind.i64 (1 : Int)] ∧
                       (List.length xs_1 + 1) * 16 ≤ 140737488355328 ∧ List.length xs_1 < 2305843009213693952) ∧
                     ∃ (bef : Int → Int → Bool),
                      RI 77 bef ∧
                       ∀ (ao2 : Option Addr) (cap2 : Nat),
                        q = q ∧
                         (q = q ∧ true = true ∧ 1 = 1 ∧ 3 ≤ 3) ∧
                          true = true ∧
                           q = q ∧
                            (true = true ∧ true = true) ∧
                             true = true ∧
                              ∃ (xs : List (Int × Int)),
                               (Ent.mk (Loc.sl ao2 cap2)
                                (SObj.vecL (149 : TypeId) 2 encItI (pushL (lessI bef) ((0 : Int), (0 : Int)) xs_1 x) ((0 : Int), (0 : Int))) =
                                Ent.mk (Loc.sl ao2 cap2) (SObj.vecL (149 : TypeId) 2 encItI xs ((0 : Int), (0 : Int))) ∧
                                q = q ∧ List.length (pushL (lessI bef) ((0 : Int), (0 : Int)) xs_1 x) = List.length xs ∧ false = false) ∧
                                ∃ (x : Int × Int),
                                 (147 = (147 : TypeId) ∧
                                  149 = (149 : TypeId) ∧
                                   [SV.int IntKind.i64 x.1, SV.int IntKind.i64 x.2] = [SV.int IntKind.i64 (2 : Int), SV.int IntKind.i64 (2 : Int)] ∧
                                    (List.length xs + 1) * 16 ≤ 140737488355328 ∧ List.length xs < 2305843009213693952) ∧
                                  ∃ (bef : Int → Int → Bool),
                                   RI 77 bef ∧
                                    ∀ (ao2 : Option Addr) (cap2 : Nat),
                                     q = q ∧
                                      (q = q ∧ true = true ∧ 1 = 1 ∧ 3 ≤ 3) ∧
                                       true = true ∧
                                        true = true ∧
                                         q = q ∧
                                          match (↑(List.length (pushL (lessI bef) ((0 : Int), (0 : Int)) xs x)) : Int) == (0 : Int) with
                                          | true =>
                                           true = true ∧
                                            true = true ∧
                                             q = q ∧
                                              match (↑(List.length (pushL (lessI bef) ((0 : Int), (0 : Int)) xs x)) : Int) == (0 : Int) with
                                              | true =>
                                               true = true ∧
                                                (true = true ∧ true = true) ∧
                                                 (true = true ∧ true = true) ∧
                                                  true = true ∧
                                                   ∀ (b : Nat),
                                                    true = true ∧
                                                     true = true ∧
                                                      b = b ∧
                                                       N
                                                        [Ent.mk (Loc.blk q)
                                                         (SObj.cells
                                                          [SV.vec 1 ao2
                                                           (List.length (pushL (lessI bef) ((0 : Int), (0 : Int)) xs x)) cap2,
                                                           SV.func (Fn.func 77) [] [], SV.int IntKind.i64 (3 : Int)]
                                                          (146 : TypeId)),
                                                         Ent.mk (Loc.sl ao2 cap2)
                                                          (SObj.vecL (149 : TypeId) 2 encItI
                                                           (pushL (lessI bef) ((0 : Int), (0 : Int)) xs x) ((0 : Int), (0 : Int))),
                                                         Ent.mk (Loc.blk b)
                                                          (SObj.cells
                                                           [SV.raw (Value.slice (@none Addr) 0 0),
                                                            SV.func (Fn.func 79) [] [], SV.int IntKind.i64 (0 : Int)]
                                                           136)]
                                                        (SV.bool false)
                                              | false =>
                                               q = q ∧
                                                (ao2 = ao2 ∧
                                                 cap2 = cap2 ∧
                                                  List.length (pushL (lessI bef) ((0 : Int), (0 : Int)) xs x) =
                                                   List.length (pushL (lessI bef) ((0 : Int), (0 : Int)) xs x) ∧
                                                   (0 : Int) ≤ (0 : Int) ∧
                                                    (0 : Int) < (↑(List.length (pushL (lessI bef) ((0 : Int), (0 : Int)) xs x)) : Int)) ∧
                                                 (Addr.blkD ao2 = Addr.blkD ao2 ∧
                                                  Addr.offD ao2 = Addr.offD ao2 ∧
                                                   2 = 2 ∧
                                                    0 < List.length (pushL (lessI bef) ((0 : Int), (0 : Int)) xs x)) ∧
                                                  true = true ∧
                                                   (true = true ∧ true = true) ∧
                                                    (true = true ∧ true = true) ∧
                                                     true = true ∧
                                                      ∀ (b : Nat),
                                                       true = true ∧
                                                        true = true ∧
                                                         b = b ∧
                                                          N
                                                           [Ent.mk (Loc.blk q)
                                                            (SObj.cells
                                                             [SV.vec 1 ao2
                                                              (List.length (pushL (lessI bef) ((0 : Int), (0 : Int)) xs x)) cap2,
                                                              SV.func (Fn.func 77) [] [], SV.int IntKind.i64 (3 : Int)]
                                                             (146 : TypeId)),
                                                            Ent.mk (Loc.sl ao2 cap2)
                                                             (SObj.vecL (149 : TypeId) 2 encItI
                                                              (pushL (lessI bef) ((0 : Int), (0 : Int)) xs x) ((0 : Int), (0 : Int))),
                                                            Ent.mk (Loc.blk b)
                                                             (SObj.cells
                                                              [SV.raw (Value.slice (@none Addr) 0 0),
                                                               SV.func (Fn.func 79) [] [], SV.int IntKind.i64 (0 : Int)]
                                                              136)]
                                                           (SV.bool false)
                                          | false =>
                                           true = true ∧
                                            ∃ (xs_2 : List (Int × Int)),
                                             (Ent.mk (Loc.sl ao2 cap2)
                                              (SObj.vecL (149 : TypeId) 2 encItI (pushL (lessI bef) ((0 : Int), (0 : Int)) xs x)
                                               ((0 : Int), (0 : Int))) =
                                              Ent.mk (Loc.sl ao2 cap2) (SObj.vecL (149 : TypeId) 2 encItI xs_2 ((0 : Int), (0 : Int))) ∧
                                              q = q ∧ List.length (pushL (lessI bef) ((0 : Int), (0 : Int)) xs x) = List.length xs_2 ∧ false = false) ∧
                                              (147 = (147 : TypeId) ∧
                                               0 < List.length xs_2 ∧ List.length xs_2 ≤ 2305843009213693952) ∧
                                               ∃ (bef : Int → Int → Bool),
                                                RI 77 bef ∧
                                                 true = true ∧
                                                  true = true ∧
                                                   q = q ∧
                                                    match (↑(List.length (popL (lessI bef) ((0 : Int), (0 : Int)) xs_2)) : Int) == (0 : Int) with
                                                    | true =>
                                                     true = true ∧
                                                      (true = true ∧ true = true) ∧
                                                       (true = true ∧ true = true) ∧
                                                        true = true ∧
                                                         ∀ (b : Nat),
                                                          true = true ∧
                                                           true = true ∧
                                                            b = b ∧
                                                             match (List.getD xs_2 0 ((0 : Int), (0 : Int))).1 == (1 : Int) with
                                                             | true =>
                                                              N
                                                               [Ent.mk (Loc.blk q)
                                                                (SObj.cells
                                                                 [SV.vec 1 ao2
                                                                  (List.length (popL (lessI bef) ((0 : Int), (0 : Int)) xs_2))
                                                                  cap2,
                                                                  SV.func (Fn.func 77) [] [], SV.int IntKind.i64 (3 : Int)]
                                                                 (146 : TypeId)),
                                                                Ent.mk (Loc.sl ao2 cap2)
                                                                 (SObj.vecL (149 : TypeId) 2 encItI
                                                                  (popL (lessI bef) ((0 : Int), (0 : Int)) xs_2)
                                                                  ((0 : Int), (0 : Int))),
                                                                Ent.mk (Loc.blk b)
                                                                 (SObj.cells
                                                                  [SV.raw (Value.slice (@none Addr) 0 0),
                                                                   SV.func (Fn.func 79) [] [], SV.int IntKind.i64 (0 : Int)]
                                                                  136)]
                                                               (SV.bool false)
                                                             | false =>
                                                              N
                                                               [Ent.mk (Loc.blk q)
                                                                (SObj.cells
                                                                 [SV.vec 1 ao2
                                                                  (List.length (popL (lessI bef) ((0 : Int), (0 : Int)) xs_2))
                                                                  cap2,
                                                                  SV.func (Fn.func 77) [] [], SV.int IntKind.i64 (3 : Int)]
                                                                 (146 : TypeId)),
                                                                Ent.mk (Loc.sl ao2 cap2)
                                                                 (SObj.vecL (149 : TypeId) 2 encItI
                                                                  (popL (lessI bef) ((0 : Int), (0 : Int)) xs_2)
                                                                  ((0 : Int), (0 : Int))),
                                                                Ent.mk (Loc.blk b)
                                                                 (SObj.cells
                                                                  [SV.raw (Value.slice (@none Addr) 0 0),
                                                                   SV.func (Fn.func 79) [] [], SV.int IntKind.i64 (0 : Int)]
                                                                  136)]
                                                               (SV.bool false)
                                                    | false =>
                                                     q = q ∧
                                                      (ao2 = ao2 ∧
                                                       cap2 = cap2 ∧
                                                        List.length (popL (lessI bef) ((0 : Int), (0 : Int)) xs_2) =
                                                         List.length (popL (lessI bef) ((0 : Int), (0 : Int)) xs_2) ∧
                                                         (0 : Int) ≤ (0 : Int) ∧
                                                          (0 : Int) <
                                                           (↑(List.length (popL (lessI bef) ((0 : Int), (0 : Int)) xs_2)) : Int)) ∧
                                                       (Addr.blkD ao2 = Addr.blkD ao2 ∧
                                                        Addr.offD ao2 = Addr.offD ao2 ∧
                                                         2 = 2 ∧
                                                          0 < List.length (popL (lessI bef) ((0 : Int), (0 : Int)) xs_2)) ∧
                                                        true = true ∧
                                                         (true = true ∧ true = true) ∧
                                                          (true = true ∧ true = true) ∧
                                                           true = true ∧
                                                            ∀ (b : Nat),
                                                             true = true ∧
                                                              true = true ∧
                                                               b = b ∧
                                                                match
                                                                 (List.getD xs_2 0 ((0 : Int), (0 : Int))).1 == (1 : Int) with
                                                                | true =>
                                                                 match
                                                                  (List.getD (popL (lessI bef) ((0 : Int), (0 : Int)) xs_2) 0
                                                                   ((0 : Int), (0 : Int))).1 ==
                                                                   (2 : Int) with
                                                                 | true =>
                                                                  true = true ∧
                                                                   q = q ∧
                                                                    match
                                                                     (↑(List.length
                                                                      (popL (lessI bef) ((0 : Int), (0 : Int)) xs_2)) :
                                                                      Int) ==
                                                                      (2 : Int) with
                                                                    | true =>
                                                                     N
                                                                      [Ent.mk (Loc.blk q)
                                                                       (SObj.cells
                                                                        [SV.vec 1 ao2
                                                                         (List.length
                                                                          (popL (lessI bef) ((0 : Int), (0 : Int)) xs_2))
                                                                         cap2,
                                                                         SV.func (Fn.func 77) [] [],
                                                                         SV.int IntKind.i64 (3 : Int)]
                                                                        (146 : TypeId)),
                                                                       Ent.mk (Loc.sl ao2 cap2)
                                                                        (SObj.vecL (149 : TypeId) 2 encItI
                                                                         (popL (lessI bef) ((0 : Int), (0 : Int)) xs_2)
                                                                         ((0 : Int), (0 : Int))),
                                                                       Ent.mk (Loc.blk b)
                                                                        (SObj.cells
                                                                         [SV.raw
                                                                          (Value.slice (@none Addr) 0 0),
                                                                          SV.func (Fn.func 79) [] [],
                                                                          SV.int IntKind.i64 (0 : Int)]
                                                                         136)]
                                                                      (SV.bool true)
                                                                    | false =>
                                                                     N
                                                                      [Ent.mk (Loc.blk q)
                                                                       (SObj.cells
                                                                        [SV.vec 1 ao2
                                                                         (List.length
                                                                          (popL (lessI bef) ((0 : Int), (0 : Int)) xs_2))
                                                                         cap2,
                                                                         SV.func (Fn.func 77) [] [],
                                                                         SV.int IntKind.i64 (3 : Int)]
                                                                        (146 : TypeId)),
                                                                       Ent.mk (Loc.sl ao2 cap2)
                                                                        (SObj.vecL (149 : TypeId) 2 encItI
                                                                         (popL (lessI bef) ((0 : Int), (0 : Int)) xs_2)
                                                                         ((0 : Int), (0 : Int))),
                                                                       Ent.mk (Loc.blk b)
                                                                        (SObj.cells
                                                                         [SV.raw
                                                                          (Value.slice (@none Addr) 0 0),
                                                                          SV.func (Fn.func 79) [] [],
                                                                          SV.int IntKind.i64 (0 : Int)]
                                                                         136)]
                                                                      (SV.bool false)
                                                                 | false =>
                                                                  N
                                                                   [Ent.mk (Loc.blk q)
                                                                    (SObj.cells
                                                                     [SV.vec 1 ao2
                                                                      (List.length
                                                                       (popL (lessI bef) ((0 : Int), (0 : Int)) xs_2))
                                                                      cap2,
                                                                      SV.func (Fn.func 77) [] [],
                                                                      SV.int IntKind.i64 (3 : Int)]
                                                                     (146 : TypeId)),
                                                                    Ent.mk (Loc.sl ao2 cap2)
                                                                     (SObj.vecL (149 : TypeId) 2 encItI
                                                                      (popL (lessI bef) ((0 : Int), (0 : Int)) xs_2)
                                                                      ((0 : Int), (0 : Int))),
                                                                    Ent.mk (Loc.blk b)
                                                                     (SObj.cells
                                                                      [SV.raw (Value.slice (@none Addr) 0 0),
                                                                       SV.func (Fn.func 79) [] [],
                                                                       SV.int IntKind.i64 (0 : Int)]
                                                                      136)]
                                                                   (SV.bool false)
                                                                | false =>
                                                                 N
                                                                  [Ent.mk (Loc.blk q)
                                                                   (SObj.cells
                                                                    [SV.vec 1 ao2
                                                                     (List.length
                                                                      (popL (lessI bef) ((0 : Int), (0 : Int)) xs_2))
                                                                     cap2,
                                                                     SV.func (Fn.func 77) [] [],
                                                                     SV.int IntKind.i64 (3 : Int)]
                                                                    (146 : TypeId)),
                                                                   Ent.mk (Loc.sl ao2 cap2)
                                                                    (SObj.vecL (149 : TypeId) 2 encItI
                                                                     (popL (lessI bef) ((0 : Int), (0 : Int)) xs_2)
                                                                     ((0 : Int), (0 : Int))),
                                                                   Ent.mk (Loc.blk b)
                                                                    (SObj.cells
                                                                     [SV.raw (Value.slice (@none Addr) 0 0),
                                                                      SV.func (Fn.func 79) [] [],
                                                                      SV.int IntKind.i64 (0 : Int)]
                                                                     136)]
                                                                  (SV.bool false)) := by kernel_rfl
end Go.Proofs.Ytjnkfgigpapeaaa

/- QueueBoth: the loops. -/
namespace Go.Proofs.Ytjnkfgigpapeaaa
open Go Go.RowKit

theorem known13_ok : CtrOk Try.prog 34 trueC13 := by
  intro args hs N h
  unfold trueC13 at h
  split at h
  · refine Spec.lift (Φ := fun r => r = .bool true) (Spec.of_G 56 Try.func34 (c := bodyOf Try.f34) (by kernel_rfl) (by kernel_rfl) (Nat.le_of_ble_eq_true rfl) fun W F => ?_) (by rintro r rfl; exact h)
    refine G_run (kc := false) (ss := [4]) qTI4_ok hmQI 900 ?_
    rw [kn13_a]
    refine ⟨rfl, ⟨rfl, rfl⟩, ⟨rfl, rfl⟩, rfl, fun q => ?_⟩
    refine G_live 56 [(0, .bool false), (1, .ptr 0 q 0)] [⟨.blk q, .cells [.vec 1 none 0 0, .func (.func 77) [] [], .int .i64 0] 146⟩, ⟨.sl none 0, .vecL 149 2 encItI [] ((0 : Int), (0 : Int))⟩] rfl ⟨rfl, rfl, trivial⟩ (fun w hw => ?_) fun u => ?_
    · have a1 := Rep.cellsEq (l := 0) (cs' := [.vec 1 none 0 0, .func (.func 77) [] [], .int .i64 0]) rfl (by rfl) hw
      exact Rep.nilvec 149 (sz := 2) (enc := encItI) ((0 : Int), (0 : Int)) (fun _ => rfl) a1
    · refine G_run (kc := false) (ss := []) qTI4_ok hmQI 2500 ?_
      rw [kn13_b]
      repeat' first
        | (refine ⟨_, ⟨rfl, rfl, rfl, rfl⟩, ?_⟩)
        | (refine ⟨_, RI_0, ?_⟩)
        | (refine ⟨(3, 0), ⟨rfl, rfl, rfl, by decide, by decide⟩, ?_⟩)
        | (refine ⟨(1, 1), ⟨rfl, rfl, rfl, by decide, by decide⟩, ?_⟩)
        | (refine ⟨(2, 2), ⟨rfl, rfl, rfl, by decide, by decide⟩, ?_⟩)
        | exact rfl
        | exact trivial
        | assumption
        | apply And.intro
        | intro _
        | decide
        | (split <;> rename_i hh)
        | exact absurd hh (by decide)
        | fail
  · exact h.elim
theorem qTI5_ok : AllOk Try.prog qTI5 := ⟨known13_ok, qTI4_ok⟩

def negI (p : Int × Int) : Int × Int := (-p.1, p.2)
theorem negI_lt (a b : Int × Int) : (lessI fun a b : Int => decide (a > b)) (negI a) (negI b) = (lessI fun a b : Int => decide (a < b)) a b := by
  have e1 : ∀ x y : Int, decide (-x > -y) = decide (x < y) := fun x y => by
    by_cases h : x < y
    · rw [decide_eq_true h, decide_eq_true (show -x > -y by omega)]
    · rw [decide_eq_false h, decide_eq_false (show ¬ -x > -y by omega)]
  show (decide (-a.1 > -b.1) || (!decide (-b.1 > -a.1) && decide (a.2 < b.2))) = (decide (a.1 < b.1) || (!decide (b.1 < a.1) && decide (a.2 < b.2)))
  rw [e1, e1]
theorem ordI : Ordered (lessI fun a b : Int => decide (a < b)) := by
  constructor
  · intro a b h
    simp only [lessI, Bool.or_eq_true, Bool.and_eq_true, Bool.not_eq_true', decide_eq_true_eq, decide_eq_false_iff_not, Bool.or_eq_false_iff, Bool.and_eq_false_iff, Bool.not_eq_false'] at *
    omega
  · intro a b c h1 h2
    simp only [lessI, Bool.or_eq_true, Bool.and_eq_true, Bool.not_eq_true', decide_eq_true_eq, decide_eq_false_iff_not, Bool.or_eq_false_iff, Bool.and_eq_false_iff, Bool.not_eq_false'] at *
    omega

structure QBI where
  (xs : List (Int × Int)) (na i : Int) (capa capb : Nat) (aoa aob : Option Addr)
structure QBok (xs : List (Int × Int)) : Prop where
  hp : heapN (lessI fun a b : Int => decide (a < b)) ((0 : Int), (0 : Int)) xs xs.length
  rg : ∀ p ∈ xs, -32768 ≤ p.1 ∧ p.1 ≤ 32767
theorem QBok.push {xs : List (Int × Int)} (h : QBok xs) (x n : Int) (h1 : -32768 ≤ x) (h2 : x ≤ 32767) : QBok (pushL (lessI fun a b : Int => decide (a < b)) ((0 : Int), (0 : Int)) xs (x, n)) :=
  ⟨heap_pushL ordI _ h.hp, fun p hp => by
    rcases List.mem_cons.1 ((perm_pushL xs (x, n)).mem_iff.1 hp) with rfl | hp
    · exact ⟨h1, h2⟩
    · exact h.rg p hp⟩
theorem QBok.pop {xs : List (Int × Int)} (h : QBok xs) (h0 : 0 < xs.length) : QBok (popL (lessI fun a b : Int => decide (a < b)) ((0 : Int), (0 : Int)) xs) :=
  ⟨heap_popL ordI h.hp, fun p hp => h.rg p ((perm_popL (lt := (lessI fun a b : Int => decide (a < b))) (d := ((0 : Int), (0 : Int))) h0).mem_iff.1 (List.mem_cons_of_mem _ hp))⟩
theorem QBok.top {xs : List (Int × Int)} (h : QBok xs) (h0 : 0 < xs.length) : -32768 ≤ (xs.getD 0 ((0 : Int), (0 : Int))).1 ∧ (xs.getD 0 ((0 : Int), (0 : Int))).1 ≤ 32767 :=
  h.rg _ ((perm_popL (lt := (lessI fun a b : Int => decide (a < b))) (d := ((0 : Int), (0 : Int))) h0).mem_iff.1 List.mem_cons_self)
theorem QBok.first {xs : List (Int × Int)} (h : QBok xs) (h0 : 0 < xs.length) : ∀ p ∈ popL (lessI fun a b : Int => decide (a < b)) ((0 : Int), (0 : Int)) xs, (xs.getD 0 ((0 : Int), (0 : Int))).1 ≤ p.1 := by
  intro p hp
  have := pop_first ordI h.hp h0 p hp
  simp only [lessI, Bool.or_eq_true, Bool.and_eq_true, Bool.not_eq_true', decide_eq_true_eq, decide_eq_false_iff_not, Bool.or_eq_false_iff, Bool.and_eq_false_iff, Bool.not_eq_false'] at this
  omega
structure QBI.ok (bs : List Int) (s : QBI) : Prop where
  h : QBok s.xs
  l : (s.xs.length : Int) ≤ s.i
  n0 : 0 ≤ s.na
  n1 : s.na ≤ s.i
  i1 : s.i ≤ bs.length
def QBI.mu (bs : List Int) (s : QBI) : Nat := (bs.length - s.i).toNat
section
variable (ao : Option Addr) (cap : Nat) (bs : List Int) (ao' : Option Addr) (cap' : Nat) (ps : List Bool) (qa qb : Nat)
def QBI.live (s : QBI) : List (Nat × SV) := [(0, .vec 0 ao bs.length cap), (1, .vec 1 ao' ps.length cap'), (4, .bool false), (5, .ptr 2 qa 0), (6, .ptr 4 qb 0), (7, .int .i64 s.i)]
def QBI.heap (s : QBI) : List Ent := qbHeap ao cap bs ao' cap' ps qa s.aoa s.capa s.xs s.na qb s.aob s.capb (s.xs.map negI) s.na
structure QBJ where
  (xs : List (Int × Int)) (na last : Int) (some : Bool) (capa capb : Nat) (aoa aob : Option Addr)
structure QBJ.ok (s : QBJ) : Prop where
  h : QBok s.xs
  l : s.xs.length ≤ 100
  m : s.some = true → ∀ p ∈ s.xs, s.last ≤ p.1
def QBJ.live (s : QBJ) : List (Nat × SV) := [(4, .bool false), (5, .ptr 2 qa 0), (6, .ptr 4 qb 0), (12, .int .i64 s.last), (13, .bool s.some)]
def QBJ.heap (s : QBJ) : List Ent := qbHeap ao cap bs ao' cap' ps qa s.aoa s.capa s.xs s.na qb s.aob s.capb (s.xs.map negI) s.na
end

section
variable {W : World} {F : List Ch} {N : List Ent → SV → Prop} {ao : Option Addr} {cap : Nat} {bs : List Int} {ao' : Option Addr} {cap' : Nat} {ps : List Bool} {qa qb : Nat}

theorem qb_l2_G (hN : ∀ l, N l (.bool true)) (xs : List (Int × Int)) (na last : Int) (some : Bool) (capa capb : Nat) (aoa aob : Option Addr) (h1 : QBok xs) (h2 : xs.length ≤ 100) (h3 : some = true → ∀ p ∈ xs, last ≤ p.1) (u : Nat → Value) :
    G Try.prog (endQ Try.prog Try.f10 W F N) W F (frm [Back W F 129 (QBJ.live qa qb) (QBJ.heap ao cap bs ao' cap' ps qa qb) QBJ.ok (fun s => s.xs.length) xs.length] (bodyOf Try.f10) [1, 1, 1, 1, 1, 1, 1, 0, 0, 0] []) ⟨mkT u 129 0 [(4, .bool false), (5, .ptr 2 qa 0), (6, .ptr 4 qb 0), (12, .int .i64 last), (13, .bool some)], qbHeap ao cap bs ao' cap' ps qa aoa capa xs na qb aob capb (xs.map negI) na⟩ := by
  refine G_run (kc := false) (ss := []) qTI5_ok hmQI 1500 ?_
  rw [qb_l2]
  generalize hJ : Back W F 129 (QBJ.live qa qb) (QBJ.heap ao cap bs ao' cap' ps qa qb) QBJ.ok (fun s => s.xs.length) xs.length = J
  generalize hK : G Try.prog (endQ Try.prog Try.f10 W F N) W F = K
  have hl : (xs.map negI).length = xs.length := by simp
  have hpl : (popL (lessI fun a b : Int => decide (a < b)) ((0 : Int), (0 : Int)) xs).length = xs.length - 1 := length_popL xs
  have hpm : popL (lessI fun a b : Int => decide (a > b)) ((0 : Int), (0 : Int)) (xs.map negI) = (popL (lessI fun a b : Int => decide (a < b)) ((0 : Int), (0 : Int)) xs).map negI := popL_map (d := ((0 : Int), (0 : Int))) (g := negI) negI_lt xs
  have hpl2 : ((popL (lessI fun a b : Int => decide (a < b)) ((0 : Int), (0 : Int)) xs).map negI).length = xs.length - 1 := by simp [hpl]
  have htop : ((xs.map negI).getD 0 ((0 : Int), (0 : Int))).1 = -(xs.getD 0 ((0 : Int), (0 : Int))).1 := by rw [show ((0 : Int), (0 : Int)) = negI ((0 : Int), (0 : Int)) from rfl, getD_map']; rfl
  have hwl : 0 < xs.length → IntKind.wrap .i64 ((xs.length : Int) - 1) = ((xs.length - 1 : Nat) : Int) := fun h0 => by rw [IntWalk.i64_in _ (by omega)]; omega
  have hwt : 0 < xs.length → IntKind.wrap .i64 (0 - ((xs.map negI).getD 0 ((0 : Int), (0 : Int))).1) = (xs.getD 0 ((0 : Int), (0 : Int))).1 := fun h0 => by
    have := h1.top h0
    rw [htop, IntWalk.i64_in _ (by omega)]; omega
  have hlast : 0 < xs.length → some = true → last ≤ (xs.getD 0 ((0 : Int), (0 : Int))).1 := fun h0 hs => h3 hs _ ((perm_popL (lt := (lessI fun a b : Int => decide (a < b))) (d := ((0 : Int), (0 : Int))) h0).mem_iff.1 List.mem_cons_self)
  repeat' first
    | (refine ⟨_, ⟨rfl, rfl, rfl, rfl⟩, ?_⟩)
    | (refine ⟨_, RI_1, ?_⟩)
    | (refine ⟨_, RI_2, ?_⟩)
    | exact rfl
    | exact trivial
    | assumption
    | apply And.intro
    | intro _
    | (refine ⟨[(_, _)], rfl, rfl, ?_⟩)
    | (refine ⟨[_], rfl, rfl, ?_⟩)
    | (split <;> rename_i hh <;> try simp only [Bool.not_eq_true', Bool.not_eq_false', Bool.not_true, Bool.not_false, beq_iff_eq, beq_eq_false_iff_ne, decide_eq_true_eq, decide_eq_false_iff_not, Bool.true_eq, Bool.false_eq, Bool.not_eq_true, Bool.not_eq_false, bne_iff_ne, bne_eq_false_iff_eq, ne_eq, Decidable.not_not] at hh)
    | decide
    | omega
    | (exfalso; omega)
    | exact absurd trivial hh
    | exact ⟨_, rfl⟩
    | exact hN _
    | (exfalso; rw [hwt (by omega)] at hh; exact hh rfl)
    | (exfalso; exact absurd (hlast (by omega) (by first | rfl | assumption)) (by omega))
    | (exfalso; rw [hpm, hpl2, hwl (by omega)] at hh; exact hh rfl)
    | (exfalso; rw [hpl, hwl (by omega)] at hh; exact hh rfl)
    | (subst hK; subst hJ
       refine G_back (ι := QBJ) ⟨popL (lessI fun a b : Int => decide (a < b)) ((0 : Int), (0 : Int)) xs, na, (xs.getD 0 ((0 : Int), (0 : Int))).1, true, capa, capb, aoa, aob⟩ ⟨h1.pop (by omega), by dsimp only; omega, fun _ => h1.first (by omega)⟩ (by dsimp only; omega) rfl ⟨rfl, rfl, rfl, rfl, rfl, trivial⟩ fun w hw => ?_
       simp only [hpm] at hw
       exact hw)
    | fail

theorem qb_r2_G (xs : List (Int × Int)) (na i : Int) (capa capb : Nat) (aoa aob : Option Addr) (h1 : QBok xs) (h2 : 0 < xs.length) (h3 : (xs.length : Int) ≤ i + 1) (h4 : 0 ≤ na) (h5 : na ≤ i + 1) (h6 : i < bs.length) (hb : bs.length ≤ 100) (u : Nat → Value) :
    G Try.prog (endQ Try.prog Try.f10 W F N) W F (frmR [Back W F 129 (QBI.live ao cap bs ao' cap' ps qa qb) (QBI.heap ao cap bs ao' cap' ps qa qb) (QBI.ok bs) (QBI.mu bs) (bs.length - i).toNat] (bodyOf Try.f10) 12) ⟨mkT u 129 0 [(0, .vec 0 ao bs.length cap), (1, .vec 1 ao' ps.length cap'), (4, .bool false), (5, .ptr 2 qa 0), (6, .ptr 4 qb 0), (7, .int .i64 i)], qbHeap ao cap bs ao' cap' ps qa aoa capa xs na qb aob capb (xs.map negI) na⟩ := by
  refine G_run (kc := false) (ss := []) qTI5_ok hmQI 1500 ?_
  rw [qb_r2]
  generalize hJ : Back W F 129 (QBI.live ao cap bs ao' cap' ps qa qb) (QBI.heap ao cap bs ao' cap' ps qa qb) (QBI.ok bs) (QBI.mu bs) (bs.length - i).toNat = J
  generalize hK : G Try.prog (endQ Try.prog Try.f10 W F N) W F = K
  have hl : (xs.map negI).length = xs.length := by simp
  have hpl : (popL (lessI fun a b : Int => decide (a < b)) ((0 : Int), (0 : Int)) xs).length = xs.length - 1 := length_popL xs
  have hpm : popL (lessI fun a b : Int => decide (a > b)) ((0 : Int), (0 : Int)) (xs.map negI) = (popL (lessI fun a b : Int => decide (a < b)) ((0 : Int), (0 : Int)) xs).map negI := popL_map (d := ((0 : Int), (0 : Int))) (g := negI) negI_lt xs
  have htop : ((xs.map negI).getD 0 ((0 : Int), (0 : Int))).1 = -(xs.getD 0 ((0 : Int), (0 : Int))).1 := by rw [show ((0 : Int), (0 : Int)) = negI ((0 : Int), (0 : Int)) from rfl, getD_map']; rfl
  have hwt : IntKind.wrap .i64 (0 - ((xs.map negI).getD 0 ((0 : Int), (0 : Int))).1) = (xs.getD 0 ((0 : Int), (0 : Int))).1 := by
    have := h1.top h2
    rw [htop, IntWalk.i64_in _ (by omega)]; omega
  repeat' first
    | (refine ⟨_, ⟨rfl, rfl, rfl, rfl⟩, ?_⟩)
    | (refine ⟨_, RI_1, ?_⟩)
    | (refine ⟨_, RI_2, ?_⟩)
    | exact rfl
    | exact trivial
    | assumption
    | apply And.intro
    | intro _
    | (refine ⟨[(_, _)], rfl, rfl, ?_⟩)
    | (refine ⟨[_], rfl, rfl, ?_⟩)
    | (split <;> rename_i hh <;> try simp only [Bool.not_eq_true', Bool.not_eq_false', Bool.not_true, Bool.not_false, beq_iff_eq, beq_eq_false_iff_ne, decide_eq_true_eq, decide_eq_false_iff_not, Bool.true_eq, Bool.false_eq, Bool.not_eq_true, Bool.not_eq_false, bne_iff_ne, bne_eq_false_iff_eq, ne_eq, Decidable.not_not] at hh)
    | decide
    | omega
    | (exfalso; omega)
    | exact absurd trivial hh
    | exact ⟨_, rfl⟩
    | (exfalso; rw [hwt] at hh; exact hh rfl)
    | (subst hK; subst hJ
       exact G_back (ι := QBI) ⟨xs, na, i + 1, capa, capb, aoa, aob⟩ ⟨h1, by dsimp only; omega, h4, by dsimp only; omega, by dsimp only; omega⟩ (by simp only [QBI.mu]; omega) rfl ⟨rfl, rfl, rfl, rfl, rfl, congrArg (Value.int .i64) (IntWalk.i64_in _ (by omega)), trivial⟩ fun w hw => hw)
    | (subst hK; subst hJ
       refine G_back (ι := QBI) ⟨popL (lessI fun a b : Int => decide (a < b)) ((0 : Int), (0 : Int)) xs, na, i + 1, capa, capb, aoa, aob⟩ ⟨h1.pop h2, by dsimp only; omega, h4, by dsimp only; omega, by dsimp only; omega⟩ (by simp only [QBI.mu]; omega) rfl ⟨rfl, rfl, rfl, rfl, rfl, congrArg (Value.int .i64) (IntWalk.i64_in _ (by omega)), trivial⟩ fun w hw => ?_
       simp only [hpm] at hw
       exact hw)
    | fail

theorem qb_r1_G (hN : ∀ l, N l (.bool true)) (hbs : ∀ z ∈ bs, (Lit.int .i16 z).wf = true) (xs : List (Int × Int)) (na i : Int) (capa capb : Nat) (aoa aob : Option Addr) (h1 : QBok xs) (h3 : (xs.length : Int) ≤ i) (h4 : 0 ≤ na) (h5 : na ≤ i) (h6 : i ≤ bs.length) (hb : bs.length ≤ 100) (u : Nat → Value) :
    G Try.prog (endQ Try.prog Try.f10 W F N) W F (frm [Back W F 129 (QBI.live ao cap bs ao' cap' ps qa qb) (QBI.heap ao cap bs ao' cap' ps qa qb) (QBI.ok bs) (QBI.mu bs) (bs.length - i).toNat] (bodyOf Try.f10) [1, 1, 1, 1, 1, 0, 1, 0, 0] []) ⟨mkT u 129 0 [(0, .vec 0 ao bs.length cap), (1, .vec 1 ao' ps.length cap'), (4, .bool false), (5, .ptr 2 qa 0), (6, .ptr 4 qb 0), (7, .int .i64 i)], qbHeap ao cap bs ao' cap' ps qa aoa capa xs na qb aob capb (xs.map negI) na⟩ := by
  refine G_run (kc := false) (ss := [12]) qTI5_ok hmQI 1500 ?_
  rw [qb_r1]
  have hx : -32768 ≤ bs.getD i.toNat 0 ∧ bs.getD i.toNat 0 ≤ 32767 := by
    by_cases h : i.toNat < bs.length
    · have e : bs.getD i.toNat 0 = bs[i.toNat] := by simp [List.getD, h]
      have := hbs _ (List.getElem_mem h)
      rw [e]
      simp only [Lit.wf, Bool.and_eq_true, decide_eq_true_eq] at this
      exact this
    · simp [List.getD, h]
  have hw1 : IntKind.wrap .i64 (bs.getD i.toNat 0) = bs.getD i.toNat 0 := IntWalk.i64_in _ (by omega)
  have hw2 : IntKind.wrap .i64 (0 - bs.getD i.toNat 0) = -bs.getD i.toNat 0 := by rw [IntWalk.i64_in _ (by omega)]; omega
  have hwn : IntKind.wrap .i64 (na + 1) = na + 1 := IntWalk.i64_in _ (by omega)
  rw [hw1, hw2]
  generalize hJ : Back W F 129 (QBI.live ao cap bs ao' cap' ps qa qb) (QBI.heap ao cap bs ao' cap' ps qa qb) (QBI.ok bs) (QBI.mu bs) (bs.length - i).toNat = J
  generalize hK : G Try.prog (endQ Try.prog Try.f10 W F N) W F = K
  have hl : (xs.map negI).length = xs.length := by simp
  have hpm : pushL (lessI fun a b : Int => decide (a > b)) ((0 : Int), (0 : Int)) (xs.map negI) (-bs.getD i.toNat 0, na) = (pushL (lessI fun a b : Int => decide (a < b)) ((0 : Int), (0 : Int)) xs (bs.getD i.toNat 0, na)).map negI := pushL_map (d := ((0 : Int), (0 : Int))) (g := negI) negI_lt xs (bs.getD i.toNat 0, na)
  have hpl : (pushL (lessI fun a b : Int => decide (a < b)) ((0 : Int), (0 : Int)) xs (bs.getD i.toNat 0, na)).length = xs.length + 1 := length_pushL _ _
  repeat' first
    | (refine ⟨(bs.getD i.toNat 0, na), ⟨rfl, rfl, rfl, ?_, ?_⟩, ?_⟩)
    | (refine ⟨(-bs.getD i.toNat 0, na), ⟨rfl, rfl, rfl, ?_, ?_⟩, ?_⟩)
    | (refine ⟨_, ⟨rfl, rfl, rfl, rfl⟩, ?_⟩)
    | (refine ⟨_, RI_1, ?_⟩)
    | (refine ⟨_, RI_2, ?_⟩)
    | exact rfl
    | exact trivial
    | assumption
    | apply And.intro
    | intro _
    | (refine ⟨[(_, _)], rfl, rfl, ?_⟩)
    | (refine ⟨[_], rfl, rfl, ?_⟩)
    | (split <;> rename_i hh <;> try simp only [Bool.not_eq_true', Bool.not_eq_false', Bool.not_true, Bool.not_false, beq_iff_eq, beq_eq_false_iff_ne, decide_eq_true_eq, decide_eq_false_iff_not, Bool.true_eq, Bool.false_eq, Bool.not_eq_true, Bool.not_eq_false, bne_iff_ne, bne_eq_false_iff_eq, ne_eq, Decidable.not_not] at hh)
    | decide
    | omega
    | (exfalso; omega)
    | exact absurd trivial hh
    | exact ⟨_, rfl⟩
    | (rename_i aoa' capa' aob' capb'
       subst hK; subst hJ
       refine G_live 129 [(0, .vec 0 ao bs.length cap), (1, .vec 1 ao' ps.length cap'), (4, .bool false), (5, .ptr 2 qa 0), (6, .ptr 4 qb 0), (7, .int .i64 i)] (qbHeap ao cap bs ao' cap' ps qa aoa' capa' (pushL (lessI fun a b : Int => decide (a < b)) ((0 : Int), (0 : Int)) xs (bs.getD i.toNat 0, na)) (na + 1) qb aob' capb' ((pushL (lessI fun a b : Int => decide (a < b)) ((0 : Int), (0 : Int)) xs (bs.getD i.toNat 0, na)).map negI) (na + 1)) rfl ⟨rfl, rfl, rfl, rfl, rfl, rfl, trivial⟩ (fun w hw => ?_) (qb_r2_G (pushL (lessI fun a b : Int => decide (a < b)) ((0 : Int), (0 : Int)) xs (bs.getD i.toNat 0, na)) (na + 1) i capa' capb' aoa' aob' (h1.push _ _ hx.1 hx.2) (by omega) (by omega) (by omega) (by omega) (by omega) hb)
       simp only [hpm, hwn] at hw
       exact hw)
    | fail
  subst hK
  exact G_loopAt [] (bodyOf Try.f10) [1, 1, 1, 1, 1, 1, 1, 0, 0] 129 (QBJ.live qa qb) (QBJ.heap ao cap bs ao' cap' ps qa qb) QBJ.ok (fun s => s.xs.length) ⟨xs, na, 0, false, capa, capb, aoa, aob⟩ (by kernel_rfl) (fun J => by kernel_rfl) ⟨h1, by dsimp only; omega, fun h => by cases h⟩ rfl ⟨rfl, rfl, rfl, rfl, rfl, trivial⟩ (fun w hw => hw) fun s hs u => qb_l2_G hN s.xs s.na s.last s.some s.capa s.capb s.aoa s.aob hs.h hs.l hs.m u
end

theorem qb_ok (ao : Option Addr) (cap : Nat) (bs : List Int) (ao' : Option Addr) (cap' : Nat) (ps : List Bool) (hbs : ∀ z ∈ bs, (Lit.int .i16 z).wf = true) : Spec Try.prog 10 [⟨.sl ao cap, .roL 1 encI16 bs 0⟩, ⟨.sl ao' cap', .roL 1 encBool ps false⟩] [.vec 0 ao bs.length cap, .vec 1 ao' ps.length cap'] fun _ r => r = .bool true := by
  refine Spec.of_G 129 Try.func10 (c := bodyOf Try.f10) (by kernel_rfl) (by kernel_rfl) (Nat.le_of_ble_eq_true rfl) fun W F => ?_
  refine G_run (kc := false) (ss := []) qTI5_ok hmQI 900 ?_
  rw [qb_start]
  generalize hK : G Try.prog (endQ Try.prog Try.f10 W F fun _ r => r = .bool true) W F = K
  repeat' first
    | exact rfl
    | exact trivial
    | assumption
    | apply And.intro
    | intro _
    | (refine ⟨[(_, _)], rfl, rfl, ?_⟩)
    | (refine ⟨[_], rfl, rfl, ?_⟩)
    | (split <;> rename_i hh <;> try simp only [Bool.not_eq_true', Bool.not_eq_false', Bool.not_true, Bool.not_false, beq_iff_eq, beq_eq_false_iff_ne, decide_eq_true_eq, decide_eq_false_iff_not, Bool.true_eq, Bool.false_eq, Bool.not_eq_true, Bool.not_eq_false, bne_iff_ne, bne_eq_false_iff_eq, ne_eq, Decidable.not_not] at hh)
    | decide
    | omega
    | (exfalso; omega)
    | exact absurd trivial hh
    | exact ⟨_, rfl⟩
    | fail
  rename_i qa qb
  subst hK
  refine G_loopAt [] (bodyOf Try.f10) [1, 1, 1, 1, 1, 0, 1, 0] 129 (QBI.live ao cap bs ao' cap' ps qa qb) (QBI.heap ao cap bs ao' cap' ps qa qb) (QBI.ok bs) (QBI.mu bs) ⟨[], 0, 0, 0, 0, none, none⟩ (by kernel_rfl) (fun J => by kernel_rfl) ⟨⟨fun k k0 kn => by simp at kn, fun p hp => by cases hp⟩, Int.le_refl _, Int.le_refl _, Int.le_refl _, by dsimp only; omega⟩ rfl ⟨rfl, rfl, rfl, rfl, rfl, rfl, trivial⟩ (fun w hw => ?_) fun s hs u => qb_r1_G (N := fun _ r => r = .bool true) (fun l => rfl) hbs s.xs s.na s.i s.capa s.capb s.aoa s.aob hs.h hs.l hs.n0 hs.n1 hs.i1 (by omega) u
  have a1 := Rep.cellsEq (l := 2) (cs' := [.vec 3 none 0 0, .func (.func 41) [] [], .int .i64 0]) rfl (by rfl) hw
  have a2 := Rep.cellsEq (l := 3) (cs' := [.vec 5 none 0 0, .func (.func 42) [] [], .int .i64 0]) rfl (by rfl) a1
  have a3 := Rep.nilvec 149 (sz := 2) (enc := encItI) ((0 : Int), (0 : Int)) (fun _ => rfl) (Rep.nilvec 149 (sz := 2) (enc := encItI) ((0 : Int), (0 : Int)) (fun _ => rfl) a2)
  exact Rep.pick (π := [0, 1, 2, 4, 3, 5]) (by decide) rfl a3
end Go.Proofs.Ytjnkfgigpapeaaa

