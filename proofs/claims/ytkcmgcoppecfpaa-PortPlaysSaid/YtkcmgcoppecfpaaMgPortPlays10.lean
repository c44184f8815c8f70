import Derived.Test.YtkcmgcoppecfpaaMgPortPlays6
import Derived.Test.YtkcmgcoppecfpaaMgPortPlays4
set_option linter.unusedVariables false
set_option linter.unusedSimpArgs false
set_option linter.unnecessarySimpa false
set_option maxHeartbeats 0
set_option maxRecDepth 100000
namespace Go.Proofs.Ytkcmgcoppecfpaa
open Go Go.RowKit

theorem qat_start (K : List Frm → Sy → Prop) (N : List Ent → SV → Prop) (b : Nat) (aoL : Option Addr) (capL : Nat) (L : List RPt) (c1 c2 : SV) (n : ByteArray) : (run Try.prog [] false [] K (retP Try.prog Try.f70.results.toList N) 600 [.code (bodyOf Try.f70)] ⟨padTo 48 [.ptr 0 b 0, .str n], [⟨.blk b, .cells [.vec 1 aoL L.length capL, c1, c2] 30⟩, ⟨.sl aoL capL, .vecL 62 2 encRpt (L) zP⟩]⟩) = (
K (frm [] (bodyOf Try.f70) [1, 1, 0, 0] [])
 (Sy.mk (SV.ptr 0 b 0 :: (SV.str n :: (SV.raw (Value.tuple #[]) :: (SV.raw (Value.tuple #[]) :: (SV.int IntKind.i64 (0 : Int) :: (SV.bool false :: (SV.int IntKind.i64 (0 : Int) :: (rawE [] 41))))))))
  [Ent.mk (Loc.blk b) (SObj.cells [SV.vec 1 aoL (List.length L) capL, c1, c2] (30 : TypeId)),
   Ent.mk (Loc.sl aoL capL) (SObj.vecL (62 : TypeId) 2 encRpt L (RPt.mk (ByteArray.mk #[]) (@none Addr) 0 []))])) := by kernel_rfl


theorem qat_body (K : List Frm → Sy → Prop) (N : List Ent → SV → Prop) (J : Act → World → Prop) (b : Nat) (aoL : Option Addr) (capL : Nat) (L : List RPt) (c1 c2 : SV) (n : ByteArray) (i : Nat) (u : Nat → Value) : (run Try.prog [] true [] K (retP Try.prog Try.f70.results.toList N) 900 (frm [J] (bodyOf Try.f70) [1, 1, 0, 0, 0] []) ⟨mkT u 48 0 [(0, .ptr 0 b 0), (1, .str n), (6, .int .i64 (i : Int))], [⟨.blk b, .cells [.vec 1 aoL L.length capL, c1, c2] 30⟩, ⟨.sl aoL capL, .vecL 62 2 encRpt (L) zP⟩]⟩) = (
b = b ∧
 match decide ((↑i : Int) < (↑(List.length L) : Int)) with
 | true =>
  b = b ∧
   (aoL = aoL ∧ capL = capL ∧ List.length L = List.length L ∧ (0 : Int) ≤ (↑i : Int) ∧ (↑i : Int) < (↑(List.length L) : Int)) ∧
    (Addr.blkD aoL = Addr.blkD aoL ∧ Addr.offD aoL = Addr.offD aoL ∧ 2 = 2 ∧ Int.toNat (↑i : Int) < List.length L) ∧
     match sLt (List.getD L (Int.toNat (↑i : Int)) (RPt.mk (ByteArray.mk #[]) (@none Addr) 0 [])).1 n with
     | true =>
      K (Frm.loop J :: Frm.blk 0 :: frm [] (bodyOf Try.f70) [1, 1, 1] [])
       (Sy.mk (SV.ptr 0 b 0 :: (SV.str n :: (rawR u 2 (SV.int IntKind.i64 (IntKind.wrap IntKind.i64 ((↑i : Int) + (1 : Int))) :: (SV.int IntKind.i64 (↑i : Int) :: (SV.ptr 0 b 0 :: (SV.ptr 0 b 0 :: (SV.ptr 0 b 0 :: (SV.vec 1 aoL (List.length L) capL :: (SV.int IntKind.i64 (↑(List.length L) : Int) :: (SV.bool (decide ((↑i : Int) < (↑(List.length L) : Int))) :: (SV.bool true :: (SV.ptr 0 b 0 :: (SV.ptr 0 b 0 :: (SV.ptr 0 b 0 :: (SV.vec 1 aoL (List.length L) capL :: (SV.int IntKind.i64 (↑i : Int) :: (SV.eptr 1 (Addr.blkD aoL) (Addr.offD aoL) 2 (Int.toNat (↑i : Int)) 0 :: (SV.eptr 1 (Addr.blkD aoL) (Addr.offD aoL) 2 (Int.toNat (↑i : Int)) 0 :: (SV.str (List.getD L (Int.toNat (↑i : Int)) (RPt.mk (ByteArray.mk #[]) (@none Addr) 0 [])).1 :: (SV.str n :: (SV.bool (sLt (List.getD L (Int.toNat (↑i : Int)) (RPt.mk (ByteArray.mk #[]) (@none Addr) 0 [])).1 n) :: (SV.bool true :: (SV.int IntKind.i64 (↑i : Int) :: (SV.int IntKind.i64 (IntKind.wrap IntKind.i64 ((↑i : Int) + (1 : Int))) :: (rawR u 28 [] 20))))))))))))))))))))))) 4)))
        [Ent.mk (Loc.blk b) (SObj.cells [SV.vec 1 aoL (List.length L) capL, c1, c2] (30 : TypeId)),
         Ent.mk (Loc.sl aoL capL) (SObj.vecL (62 : TypeId) 2 encRpt L (RPt.mk (ByteArray.mk #[]) (@none Addr) 0 []))])
     | false =>
      b = b ∧
       match decide ((↑i : Int) < (↑(List.length L) : Int)) with
       | true =>
        b = b ∧
         (aoL = aoL ∧ capL = capL ∧ List.length L = List.length L ∧ (0 : Int) ≤ (↑i : Int) ∧ (↑i : Int) < (↑(List.length L) : Int)) ∧
          (Addr.blkD aoL = Addr.blkD aoL ∧ Addr.offD aoL = Addr.offD aoL ∧ 2 = 2 ∧ Int.toNat (↑i : Int) < List.length L) ∧
           N
            [Ent.mk (Loc.blk b) (SObj.cells [SV.vec 1 aoL (List.length L) capL, c1, c2] (30 : TypeId)),
             Ent.mk (Loc.sl aoL capL) (SObj.vecL (62 : TypeId) 2 encRpt L (RPt.mk (ByteArray.mk #[]) (@none Addr) 0 []))]
            (SV.tuple [SV.int IntKind.i64 (↑i : Int), SV.bool (sEq (List.getD L (Int.toNat (↑i : Int)) (RPt.mk (ByteArray.mk #[]) (@none Addr) 0 [])).1 n)])
       | false =>
        N
         [Ent.mk (Loc.blk b) (SObj.cells [SV.vec 1 aoL (List.length L) capL, c1, c2] (30 : TypeId)),
          Ent.mk (Loc.sl aoL capL) (SObj.vecL (62 : TypeId) 2 encRpt L (RPt.mk (ByteArray.mk #[]) (@none Addr) 0 []))]
         (SV.tuple [SV.int IntKind.i64 (↑i : Int), SV.bool false])
 | false =>
  b = b ∧
   match decide ((↑i : Int) < (↑(List.length L) : Int)) with
   | true =>
    b = b ∧
     (aoL = aoL ∧ capL = capL ∧ List.length L = List.length L ∧ (0 : Int) ≤ (↑i : Int) ∧ (↑i : Int) < (↑(List.length L) : Int)) ∧
      (Addr.blkD aoL = Addr.blkD aoL ∧ Addr.offD aoL = Addr.offD aoL ∧ 2 = 2 ∧ Int.toNat (↑i : Int) < List.length L) ∧
       N
        [Ent.mk (Loc.blk b) (SObj.cells [SV.vec 1 aoL (List.length L) capL, c1, c2] (30 : TypeId)),
         Ent.mk (Loc.sl aoL capL) (SObj.vecL (62 : TypeId) 2 encRpt L (RPt.mk (ByteArray.mk #[]) (@none Addr) 0 []))]
        (SV.tuple [SV.int IntKind.i64 (↑i : Int), SV.bool (sEq (List.getD L (Int.toNat (↑i : Int)) (RPt.mk (ByteArray.mk #[]) (@none Addr) 0 [])).1 n)])
   | false =>
    N
     [Ent.mk (Loc.blk b) (SObj.cells [SV.vec 1 aoL (List.length L) capL, c1, c2] (30 : TypeId)),
      Ent.mk (Loc.sl aoL capL) (SObj.vecL (62 : TypeId) 2 encRpt L (RPt.mk (ByteArray.mk #[]) (@none Addr) 0 []))]
     (SV.tuple [SV.int IntKind.i64 (↑i : Int), SV.bool false])) := by kernel_rfl


theorem qli_run (K : List Frm → Sy → Prop) (N : List Ent → SV → Prop) (b : Nat) (aoL : Option Addr) (capL : Nat) (L : List RPt) (nx : Int) (aoD : Option Addr) (capD : Nat) (ds : List DN) (rest : List Ent) (n : ByteArray) : (run Try.prog [(70, qatO)] true [] K (retP Try.prog Try.f13.results.toList N) 2000 [.code (bodyOf Try.f13)] ⟨padTo 50 [.ptr 0 b 0, .str n], [⟨.blk b, .cells [.vec 1 aoL (L).length capL, .int .i64 nx, .vec 2 aoD ds.length capD] 30⟩, ⟨.sl aoL capL, .vecL 62 2 encRpt (L) zP⟩, ⟨.sl aoD capD, .vecL 49 2 encDN ds DN.zero⟩, pk 0 rest]⟩) = (
true = true ∧
 (b = b ∧ (30 : TypeId) = (30 : TypeId) ∧ false = false) ∧
  ∃ (L_1 : List RPt),
   some (Ent.mk (Loc.sl aoL capL) (SObj.vecL (62 : TypeId) 2 encRpt L (RPt.mk (ByteArray.mk #[]) (@none Addr) 0 []))) =
    some (Ent.mk (Loc.sl aoL capL) (SObj.vecL (62 : TypeId) 2 encRpt L_1 (RPt.mk (ByteArray.mk #[]) (@none Addr) 0 []))) ∧
    (List.length L = List.length L_1 ∧ List.length L_1 ≤ 1000) ∧
     match sEq n (ByteArray.mk #[]) with
     | true =>
      N
       [Ent.mk (Loc.blk b) (SObj.cells [SV.vec 1 aoL (List.length L) capL, SV.int IntKind.i64 nx, SV.vec 2 aoD (List.length ds) capD] (30 : TypeId)),
        Ent.mk (Loc.sl aoL capL) (SObj.vecL (62 : TypeId) 2 encRpt L (RPt.mk (ByteArray.mk #[]) (@none Addr) 0 [])),
        Ent.mk (Loc.sl aoD capD) (SObj.vecL (49 : TypeId) 2 encDN ds (DN.mk (0 : Int) (ByteArray.mk #[]))), pk 0 rest]
       (SV.int IntKind.i64 (100 : Int))
     | false =>
      match nHas RPt.name (RPt.mk (ByteArray.mk #[]) (@none Addr) 0 []) L_1 n with
      | true =>
       N
        [Ent.mk (Loc.blk b) (SObj.cells [SV.vec 1 aoL (List.length L) capL, SV.int IntKind.i64 nx, SV.vec 2 aoD (List.length ds) capD] (30 : TypeId)),
         Ent.mk (Loc.sl aoL capL) (SObj.vecL (62 : TypeId) 2 encRpt L (RPt.mk (ByteArray.mk #[]) (@none Addr) 0 [])),
         Ent.mk (Loc.sl aoD capD) (SObj.vecL (49 : TypeId) 2 encDN ds (DN.mk (0 : Int) (ByteArray.mk #[]))), pk 0 rest]
        (SV.int IntKind.i64 (101 : Int))
      | false =>
       b = b ∧
        (true = true ∧ true = true) ∧
         (true = true ∧ 2 = 2 ∧ 0 < 2 ∧ 2 ≤ 16777216) ∧
          ∀ (b_1 : Nat),
           (aoL = aoL ∧
            capL = capL ∧
             List.length L = List.length L ∧
              some (Addr.mk b_1 0 (@none Nat)) = some (Addr.mk b_1 0 (@none Nat)) ∧
               (62 : TypeId) = 62 ∧
                2 = 2 ∧
                 2 = 2 ∧
                  0 < 1 ∧
                   true = true ∧ (List.length L + 1) * 40 ≤ 140737488355328 ∧ List.length L + 1 ≤ 9223372036854775807) ∧
            ∃ (es : List RPt),
             List.length es = 1 ∧
              denL (List.flatMap encRpt es) = denL [SV.str (ByteArray.mk #[]), SV.raw (Value.slice (@none Addr) 0 0)] ∧
               ∀ (ao2 : Option Addr) (cap2 : Nat),
                List.length L + 1 ≤ cap2 →
                 (b = b ∧ true = true ∧ 1 = 1 ∧ 1 ≤ 3) ∧
                  (b = b ∧
                   ((0 : Int) ≤ IntKind.wrap IntKind.i64 ((↑(nAt RPt.name L_1 n) : Int) + (1 : Int)) ∧
                    IntKind.wrap IntKind.i64 ((↑(nAt RPt.name L_1 n) : Int) + (1 : Int)) ≤ (↑(List.length L + 1) : Int) ∧ List.length L + 1 ≤ cap2) ∧
                    b = b ∧
                     ((0 : Int) ≤ (↑(nAt RPt.name L_1 n) : Int) ∧ (↑(nAt RPt.name L_1 n) : Int) ≤ (↑(List.length L + 1) : Int) ∧ List.length L + 1 ≤ cap2) ∧
                      (true = true ∧
                       ao2 = ao2 ∧
                        cap2 = cap2 ∧
                         ao2 = ao2 ∧
                          cap2 = cap2 ∧
                           2 = 2 ∧
                            2 = 2 ∧
                             2 = 2 ∧
                              (∀ (y : RPt), true = true) ∧
                               Int.toNat (IntKind.wrap IntKind.i64 ((↑(nAt RPt.name L_1 n) : Int) + (1 : Int))) ≤ List.length L + 1 ∧
                                List.length L + 1 ≤ List.length (L ++ es) ∧
                                 Int.toNat (↑(nAt RPt.name L_1 n) : Int) ≤ List.length L + 1 ∧ List.length L + 1 ≤ List.length (L ++ es)) ∧
                       b = b ∧
                        (true = true ∧ true = true) ∧
                         (ao2 = ao2 ∧
                          cap2 = cap2 ∧
                           List.length L + 1 =
                            List.length
                             (copyL (L ++ es) (Int.toNat (IntKind.wrap IntKind.i64 ((↑(nAt RPt.name L_1 n) : Int) + (1 : Int))))
                              (Int.toNat (↑(nAt RPt.name L_1 n) : Int))
                              (Nat.min (List.length L + 1 - Int.toNat (↑(nAt RPt.name L_1 n) : Int))
                               (List.length L + 1 - Int.toNat (IntKind.wrap IntKind.i64 ((↑(nAt RPt.name L_1 n) : Int) + (1 : Int)))))) ∧
                            (0 : Int) ≤ (↑(nAt RPt.name L_1 n) : Int) ∧ (↑(nAt RPt.name L_1 n) : Int) < (↑(List.length L + 1) : Int)) ∧
                          (Addr.blkD ao2 = Addr.blkD ao2 ∧
                           Addr.offD ao2 = Addr.offD ao2 ∧
                            2 = 2 ∧
                             Int.toNat (↑(nAt RPt.name L_1 n) : Int) <
                              List.length
                               (copyL (L ++ es) (Int.toNat (IntKind.wrap IntKind.i64 ((↑(nAt RPt.name L_1 n) : Int) + (1 : Int))))
                                (Int.toNat (↑(nAt RPt.name L_1 n) : Int))
                                (Nat.min (List.length L + 1 - Int.toNat (↑(nAt RPt.name L_1 n) : Int))
                                 (List.length L + 1 - Int.toNat (IntKind.wrap IntKind.i64 ((↑(nAt RPt.name L_1 n) : Int) + (1 : Int)))))) ∧
                              true = true ∧ 2 = 2 ∧ 2 ≤ 2) ∧
                           ∃ (e : RPt),
                            denL [SV.str e.1, SV.vec 4 e.ao (List.length e.4) e.3] = denL [SV.str n, SV.raw (Value.slice (@none Addr) 0 0)] ∧
                             N
                              [Ent.mk (Loc.blk b)
                               (SObj.cells [SV.vec 1 ao2 (List.length L + 1) cap2, SV.int IntKind.i64 nx, SV.vec 2 aoD (List.length ds) capD]
                                (30 : TypeId)),
                               Ent.mk (Loc.sl ao2 cap2)
                                (SObj.vecL (62 : TypeId) 2 encRpt
                                 (List.set
                                  (copyL (L ++ es) (Int.toNat (IntKind.wrap IntKind.i64 ((↑(nAt RPt.name L_1 n) : Int) + (1 : Int))))
                                   (Int.toNat (↑(nAt RPt.name L_1 n) : Int))
                                   (Nat.min (List.length L + 1 - Int.toNat (↑(nAt RPt.name L_1 n) : Int))
                                    (List.length L + 1 - Int.toNat (IntKind.wrap IntKind.i64 ((↑(nAt RPt.name L_1 n) : Int) + (1 : Int))))))
                                  (Int.toNat (↑(nAt RPt.name L_1 n) : Int)) e)
                                 (RPt.mk (ByteArray.mk #[]) (@none Addr) 0 [])),
                               Ent.mk (Loc.sl aoD capD) (SObj.vecL (49 : TypeId) 2 encDN ds (DN.mk (0 : Int) (ByteArray.mk #[]))), pk 0 rest,
                               Ent.mk (Loc.blk b_1) (SObj.cells [SV.str (ByteArray.mk #[]), SV.raw (Value.slice (@none Addr) 0 0)] 62)]
                              (SV.int IntKind.i64 (0 : Int))) ∧
                   b = b ∧
                    ((0 : Int) ≤ (↑(nAt RPt.name L_1 n) : Int) ∧ (↑(nAt RPt.name L_1 n) : Int) ≤ (↑(List.length L + 1) : Int) ∧ List.length L + 1 ≤ cap2) ∧
                     b = b ∧
                      ((0 : Int) ≤ IntKind.wrap IntKind.i64 ((↑(nAt RPt.name L_1 n) : Int) + (1 : Int)) ∧
                       IntKind.wrap IntKind.i64 ((↑(nAt RPt.name L_1 n) : Int) + (1 : Int)) ≤ (↑(List.length L + 1) : Int) ∧ List.length L + 1 ≤ cap2) ∧
                       (true = true ∧
                        ao2 = ao2 ∧
                         cap2 = cap2 ∧
                          ao2 = ao2 ∧
                           cap2 = cap2 ∧
                            2 = 2 ∧
                             2 = 2 ∧
                              2 = 2 ∧
                               (∀ (y : RPt), true = true) ∧
                                Int.toNat (IntKind.wrap IntKind.i64 ((↑(nAt RPt.name L_1 n) : Int) + (1 : Int))) ≤ List.length L + 1 ∧
                                 List.length L + 1 ≤ List.length (L ++ es) ∧
                                  Int.toNat (↑(nAt RPt.name L_1 n) : Int) ≤ List.length L + 1 ∧ List.length L + 1 ≤ List.length (L ++ es)) ∧
                        b = b ∧
                         (true = true ∧ true = true) ∧
                          (ao2 = ao2 ∧
                           cap2 = cap2 ∧
                            List.length L + 1 =
                             List.length
                              (copyL (L ++ es) (Int.toNat (IntKind.wrap IntKind.i64 ((↑(nAt RPt.name L_1 n) : Int) + (1 : Int))))
                               (Int.toNat (↑(nAt RPt.name L_1 n) : Int))
                               (Nat.min (List.length L + 1 - Int.toNat (↑(nAt RPt.name L_1 n) : Int))
                                (List.length L + 1 - Int.toNat (IntKind.wrap IntKind.i64 ((↑(nAt RPt.name L_1 n) : Int) + (1 : Int)))))) ∧
                             (0 : Int) ≤ (↑(nAt RPt.name L_1 n) : Int) ∧ (↑(nAt RPt.name L_1 n) : Int) < (↑(List.length L + 1) : Int)) ∧
                           (Addr.blkD ao2 = Addr.blkD ao2 ∧
                            Addr.offD ao2 = Addr.offD ao2 ∧
                             2 = 2 ∧
                              Int.toNat (↑(nAt RPt.name L_1 n) : Int) <
                               List.length
                                (copyL (L ++ es) (Int.toNat (IntKind.wrap IntKind.i64 ((↑(nAt RPt.name L_1 n) : Int) + (1 : Int))))
                                 (Int.toNat (↑(nAt RPt.name L_1 n) : Int))
                                 (Nat.min (List.length L + 1 - Int.toNat (↑(nAt RPt.name L_1 n) : Int))
                                  (List.length L + 1 - Int.toNat (IntKind.wrap IntKind.i64 ((↑(nAt RPt.name L_1 n) : Int) + (1 : Int)))))) ∧
                               true = true ∧ 2 = 2 ∧ 2 ≤ 2) ∧
                            ∃ (e : RPt),
                             denL [SV.str e.1, SV.vec 4 e.ao (List.length e.4) e.3] = denL [SV.str n, SV.raw (Value.slice (@none Addr) 0 0)] ∧
                              N
                               [Ent.mk (Loc.blk b)
                                (SObj.cells [SV.vec 1 ao2 (List.length L + 1) cap2, SV.int IntKind.i64 nx, SV.vec 2 aoD (List.length ds) capD]
                                 (30 : TypeId)),
                                Ent.mk (Loc.sl ao2 cap2)
                                 (SObj.vecL (62 : TypeId) 2 encRpt
                                  (List.set
                                   (copyL (L ++ es) (Int.toNat (IntKind.wrap IntKind.i64 ((↑(nAt RPt.name L_1 n) : Int) + (1 : Int))))
                                    (Int.toNat (↑(nAt RPt.name L_1 n) : Int))
                                    (Nat.min (List.length L + 1 - Int.toNat (↑(nAt RPt.name L_1 n) : Int))
                                     (List.length L + 1 - Int.toNat (IntKind.wrap IntKind.i64 ((↑(nAt RPt.name L_1 n) : Int) + (1 : Int))))))
                                   (Int.toNat (↑(nAt RPt.name L_1 n) : Int)) e)
                                  (RPt.mk (ByteArray.mk #[]) (@none Addr) 0 [])),
                                Ent.mk (Loc.sl aoD capD) (SObj.vecL (49 : TypeId) 2 encDN ds (DN.mk (0 : Int) (ByteArray.mk #[]))), pk 0 rest,
                                Ent.mk (Loc.blk b_1) (SObj.cells [SV.str (ByteArray.mk #[]), SV.raw (Value.slice (@none Addr) 0 0)] 62)]
                               (SV.int IntKind.i64 (0 : Int))) := by kernel_rfl


theorem qcl_run (K : List Frm → Sy → Prop) (N : List Ent → SV → Prop) (b : Nat) (aoL : Option Addr) (capL : Nat) (L : List RPt) (nx : Int) (aoD : Option Addr) (capD : Nat) (ds : List DN) (rest : List Ent) (n : ByteArray) : (run Try.prog [(70, qatO)] true [] K (retP Try.prog Try.f15.results.toList N) 2000 [.code (bodyOf Try.f15)] ⟨padTo 33 [.ptr 0 b 0, .str n], [⟨.blk b, .cells [.vec 1 aoL (L).length capL, .int .i64 nx, .vec 2 aoD ds.length capD] 30⟩, ⟨.sl aoL capL, .vecL 62 2 encRpt (L) zP⟩, ⟨.sl aoD capD, .vecL 49 2 encDN ds DN.zero⟩, pk 0 rest]⟩) = (
true = true ∧
 (b = b ∧ (30 : TypeId) = (30 : TypeId) ∧ false = false) ∧
  ∃ (L_1 : List RPt),
   some (Ent.mk (Loc.sl aoL capL) (SObj.vecL (62 : TypeId) 2 encRpt L (RPt.mk (ByteArray.mk #[]) (@none Addr) 0 []))) =
    some (Ent.mk (Loc.sl aoL capL) (SObj.vecL (62 : TypeId) 2 encRpt L_1 (RPt.mk (ByteArray.mk #[]) (@none Addr) 0 []))) ∧
    (List.length L = List.length L_1 ∧ List.length L_1 ≤ 1000) ∧
     match !nHas RPt.name (RPt.mk (ByteArray.mk #[]) (@none Addr) 0 []) L_1 n with
     | true =>
      N
       [Ent.mk (Loc.blk b) (SObj.cells [SV.vec 1 aoL (List.length L) capL, SV.int IntKind.i64 nx, SV.vec 2 aoD (List.length ds) capD] (30 : TypeId)),
        Ent.mk (Loc.sl aoL capL) (SObj.vecL (62 : TypeId) 2 encRpt L (RPt.mk (ByteArray.mk #[]) (@none Addr) 0 [])),
        Ent.mk (Loc.sl aoD capD) (SObj.vecL (49 : TypeId) 2 encDN ds (DN.mk (0 : Int) (ByteArray.mk #[]))), pk 0 rest]
       (SV.int IntKind.i64 (100 : Int))
     | false =>
      (b = b ∧
       ((0 : Int) ≤ (↑(nAt RPt.name L_1 n) : Int) ∧ (↑(nAt RPt.name L_1 n) : Int) ≤ (↑capL : Int)) ∧
        ((aoL = aoL ∧
         capL = capL ∧
          2 = 2 ∧
           2 = 2 ∧
            0 ≤ Int.toNat (↑(nAt RPt.name L_1 n) : Int) ∧
             Int.toNat (↑(nAt RPt.name L_1 n) : Int) ≤ List.length L ∧
              (Int.toNat (↑(nAt RPt.name L_1 n) : Int) - 0) * 40 ≤ 140737488355328 ∧
               Int.toNat (↑(nAt RPt.name L_1 n) : Int) - 0 ≤ 9223372036854775807) ∧
         ∀ (ao2 : Option Addr) (cap2 : Nat),
          Int.toNat (↑(nAt RPt.name L_1 n) : Int) - 0 ≤ cap2 →
           b = b ∧
            ((0 : Int) ≤ IntKind.wrap IntKind.i64 ((↑(nAt RPt.name L_1 n) : Int) + (1 : Int)) ∧
             IntKind.wrap IntKind.i64 ((↑(nAt RPt.name L_1 n) : Int) + (1 : Int)) ≤ (↑(List.length L) : Int) ∧ List.length L ≤ capL) ∧
             (ao2 = ao2 ∧
              cap2 = cap2 ∧
               Int.toNat (↑(nAt RPt.name L_1 n) : Int) - 0 = List.length (List.take (Int.toNat (↑(nAt RPt.name L_1 n) : Int) - 0) (List.drop 0 L)) ∧
                62 = 62 ∧
                 2 = 2 ∧
                  aoL = aoL ∧
                   capL = capL ∧
                    2 = 2 ∧
                     2 = 2 ∧
                      Int.toNat (IntKind.wrap IntKind.i64 ((↑(nAt RPt.name L_1 n) : Int) + (1 : Int))) ≤ List.length L ∧
                       List.length L ≤ List.length L ∧
                        (∀ (y : RPt), true = true) ∧
                         (Int.toNat (↑(nAt RPt.name L_1 n) : Int) - 0 +
                          (List.length L - Int.toNat (IntKind.wrap IntKind.i64 ((↑(nAt RPt.name L_1 n) : Int) + (1 : Int))))) *
                          40 ≤
                          140737488355328 ∧
                          Int.toNat (↑(nAt RPt.name L_1 n) : Int) - 0 +
                           (List.length L - Int.toNat (IntKind.wrap IntKind.i64 ((↑(nAt RPt.name L_1 n) : Int) + (1 : Int)))) ≤
                           9223372036854775807) ∧
              ∃ (es : List RPt),
               List.length es = List.length L - Int.toNat (IntKind.wrap IntKind.i64 ((↑(nAt RPt.name L_1 n) : Int) + (1 : Int))) ∧
                denL (List.flatMap encRpt es) =
                 denL
                  (List.flatMap encRpt
                   (List.take (List.length L - Int.toNat (IntKind.wrap IntKind.i64 ((↑(nAt RPt.name L_1 n) : Int) + (1 : Int))))
                    (List.drop (Int.toNat (IntKind.wrap IntKind.i64 ((↑(nAt RPt.name L_1 n) : Int) + (1 : Int)))) L))) ∧
                 ∀ (ao2 : Option Addr) (cap2 : Nat),
                  Int.toNat (↑(nAt RPt.name L_1 n) : Int) - 0 + (List.length L - Int.toNat (IntKind.wrap IntKind.i64 ((↑(nAt RPt.name L_1 n) : Int) + (1 : Int)))) ≤
                   cap2 →
                   (b = b ∧ true = true ∧ 1 = 1 ∧ 1 ≤ 3) ∧
                    N
                     [Ent.mk (Loc.blk b)
                      (SObj.cells
                       [SV.vec 4 ao2
                        (Int.toNat (↑(nAt RPt.name L_1 n) : Int) - 0 +
                         (List.length L - Int.toNat (IntKind.wrap IntKind.i64 ((↑(nAt RPt.name L_1 n) : Int) + (1 : Int)))))
                        cap2,
                        SV.int IntKind.i64 nx, SV.vec 2 aoD (List.length ds) capD]
                       (30 : TypeId)),
                      Ent.mk (Loc.sl aoL capL) (SObj.vecL (62 : TypeId) 2 encRpt L (RPt.mk (ByteArray.mk #[]) (@none Addr) 0 [])),
                      Ent.mk (Loc.sl aoD capD) (SObj.vecL (49 : TypeId) 2 encDN ds (DN.mk (0 : Int) (ByteArray.mk #[]))), pk 0 rest,
                      Ent.mk (Loc.sl ao2 cap2)
                       (SObj.vecL 62 2 encRpt (List.take (Int.toNat (↑(nAt RPt.name L_1 n) : Int) - 0) (List.drop 0 L) ++ es)
                        (RPt.mk (ByteArray.mk #[]) (@none Addr) 0 []))]
                     (SV.int IntKind.i64 (0 : Int))) ∧
         b = b ∧
          ((0 : Int) ≤ IntKind.wrap IntKind.i64 ((↑(nAt RPt.name L_1 n) : Int) + (1 : Int)) ∧
           IntKind.wrap IntKind.i64 ((↑(nAt RPt.name L_1 n) : Int) + (1 : Int)) ≤ (↑(List.length L) : Int) ∧ List.length L ≤ capL) ∧
           (aoL = aoL ∧
            capL = capL ∧
             2 = 2 ∧
              2 = 2 ∧
               0 ≤ Int.toNat (↑(nAt RPt.name L_1 n) : Int) ∧
                Int.toNat (↑(nAt RPt.name L_1 n) : Int) ≤ List.length L ∧
                 (Int.toNat (↑(nAt RPt.name L_1 n) : Int) - 0) * 40 ≤ 140737488355328 ∧
                  Int.toNat (↑(nAt RPt.name L_1 n) : Int) - 0 ≤ 9223372036854775807) ∧
            ∀ (ao2 : Option Addr) (cap2 : Nat),
             Int.toNat (↑(nAt RPt.name L_1 n) : Int) - 0 ≤ cap2 →
              (ao2 = ao2 ∧
               cap2 = cap2 ∧
                Int.toNat (↑(nAt RPt.name L_1 n) : Int) - 0 = List.length (List.take (Int.toNat (↑(nAt RPt.name L_1 n) : Int) - 0) (List.drop 0 L)) ∧
                 62 = 62 ∧
                  2 = 2 ∧
                   aoL = aoL ∧
                    capL = capL ∧
                     2 = 2 ∧
                      2 = 2 ∧
                       Int.toNat (IntKind.wrap IntKind.i64 ((↑(nAt RPt.name L_1 n) : Int) + (1 : Int))) ≤ List.length L ∧
                        List.length L ≤ List.length L ∧
                         (∀ (y : RPt), true = true) ∧
                          (Int.toNat (↑(nAt RPt.name L_1 n) : Int) - 0 +
                           (List.length L - Int.toNat (IntKind.wrap IntKind.i64 ((↑(nAt RPt.name L_1 n) : Int) + (1 : Int))))) *
                           40 ≤
                           140737488355328 ∧
                           Int.toNat (↑(nAt RPt.name L_1 n) : Int) - 0 +
                            (List.length L - Int.toNat (IntKind.wrap IntKind.i64 ((↑(nAt RPt.name L_1 n) : Int) + (1 : Int)))) ≤
                            9223372036854775807) ∧
               ∃ (es : List RPt),
                List.length es = List.length L - Int.toNat (IntKind.wrap IntKind.i64 ((↑(nAt RPt.name L_1 n) : Int) + (1 : Int))) ∧
                 denL (List.flatMap encRpt es) =
                  denL
                   (List.flatMap encRpt
                    (List.take (List.length L - Int.toNat (IntKind.wrap IntKind.i64 ((↑(nAt RPt.name L_1 n) : Int) + (1 : Int))))
                     (List.drop (Int.toNat (IntKind.wrap IntKind.i64 ((↑(nAt RPt.name L_1 n) : Int) + (1 : Int)))) L))) ∧
                  ∀ (ao2 : Option Addr) (cap2 : Nat),
                   Int.toNat (↑(nAt RPt.name L_1 n) : Int) - 0 + (List.length L - Int.toNat (IntKind.wrap IntKind.i64 ((↑(nAt RPt.name L_1 n) : Int) + (1 : Int)))) ≤
                    cap2 →
                    (b = b ∧ true = true ∧ 1 = 1 ∧ 1 ≤ 3) ∧
                     N
                      [Ent.mk (Loc.blk b)
                       (SObj.cells
                        [SV.vec 4 ao2
                         (Int.toNat (↑(nAt RPt.name L_1 n) : Int) - 0 +
                          (List.length L - Int.toNat (IntKind.wrap IntKind.i64 ((↑(nAt RPt.name L_1 n) : Int) + (1 : Int)))))
                         cap2,
                         SV.int IntKind.i64 nx, SV.vec 2 aoD (List.length ds) capD]
                        (30 : TypeId)),
                       Ent.mk (Loc.sl aoL capL) (SObj.vecL (62 : TypeId) 2 encRpt L (RPt.mk (ByteArray.mk #[]) (@none Addr) 0 [])),
                       Ent.mk (Loc.sl aoD capD) (SObj.vecL (49 : TypeId) 2 encDN ds (DN.mk (0 : Int) (ByteArray.mk #[]))), pk 0 rest,
                       Ent.mk (Loc.sl ao2 cap2)
                        (SObj.vecL 62 2 encRpt (List.take (Int.toNat (↑(nAt RPt.name L_1 n) : Int) - 0) (List.drop 0 L) ++ es)
                         (RPt.mk (ByteArray.mk #[]) (@none Addr) 0 []))]
                      (SV.int IntKind.i64 (0 : Int))) ∧
       b = b ∧
        ((0 : Int) ≤ IntKind.wrap IntKind.i64 ((↑(nAt RPt.name L_1 n) : Int) + (1 : Int)) ∧
         IntKind.wrap IntKind.i64 ((↑(nAt RPt.name L_1 n) : Int) + (1 : Int)) ≤ (↑(List.length L) : Int) ∧ List.length L ≤ capL) ∧
         b = b ∧
          ((0 : Int) ≤ (↑(nAt RPt.name L_1 n) : Int) ∧ (↑(nAt RPt.name L_1 n) : Int) ≤ (↑capL : Int)) ∧
           (aoL = aoL ∧
            capL = capL ∧
             2 = 2 ∧
              2 = 2 ∧
               0 ≤ Int.toNat (↑(nAt RPt.name L_1 n) : Int) ∧
                Int.toNat (↑(nAt RPt.name L_1 n) : Int) ≤ List.length L ∧
                 (Int.toNat (↑(nAt RPt.name L_1 n) : Int) - 0) * 40 ≤ 140737488355328 ∧
                  Int.toNat (↑(nAt RPt.name L_1 n) : Int) - 0 ≤ 9223372036854775807) ∧
            ∀ (ao2 : Option Addr) (cap2 : Nat),
             Int.toNat (↑(nAt RPt.name L_1 n) : Int) - 0 ≤ cap2 →
              (ao2 = ao2 ∧
               cap2 = cap2 ∧
                Int.toNat (↑(nAt RPt.name L_1 n) : Int) - 0 = List.length (List.take (Int.toNat (↑(nAt RPt.name L_1 n) : Int) - 0) (List.drop 0 L)) ∧
                 62 = 62 ∧
                  2 = 2 ∧
                   aoL = aoL ∧
                    capL = capL ∧
                     2 = 2 ∧
                      2 = 2 ∧
                       Int.toNat (IntKind.wrap IntKind.i64 ((↑(nAt RPt.name L_1 n) : Int) + (1 : Int))) ≤ List.length L ∧
                        List.length L ≤ List.length L ∧
                         (∀ (y : RPt), true = true) ∧
                          (Int.toNat (↑(nAt RPt.name L_1 n) : Int) - 0 +
                           (List.length L - Int.toNat (IntKind.wrap IntKind.i64 ((↑(nAt RPt.name L_1 n) : Int) + (1 : Int))))) *
                           40 ≤
                           140737488355328 ∧
                           Int.toNat (↑(nAt RPt.name L_1 n) : Int) - 0 +
                            (List.length L - Int.toNat (IntKind.wrap IntKind.i64 ((↑(nAt RPt.name L_1 n) : Int) + (1 : Int)))) ≤
                            9223372036854775807) ∧
               ∃ (es : List RPt),
                List.length es = List.length L - Int.toNat (IntKind.wrap IntKind.i64 ((↑(nAt RPt.name L_1 n) : Int) + (1 : Int))) ∧
                 denL (List.flatMap encRpt es) =
                  denL
                   (List.flatMap encRpt
                    (List.take (List.length L - Int.toNat (IntKind.wrap IntKind.i64 ((↑(nAt RPt.name L_1 n) : Int) + (1 : Int))))
                     (List.drop (Int.toNat (IntKind.wrap IntKind.i64 ((↑(nAt RPt.name L_1 n) : Int) + (1 : Int)))) L))) ∧
                  ∀ (ao2 : Option Addr) (cap2 : Nat),
                   Int.toNat (↑(nAt RPt.name L_1 n) : Int) - 0 + (List.length L - Int.toNat (IntKind.wrap IntKind.i64 ((↑(nAt RPt.name L_1 n) : Int) + (1 : Int)))) ≤ cap2 →
                    (b = b ∧ true = true ∧ 1 = 1 ∧ 1 ≤ 3) ∧
                     N
                      [Ent.mk (Loc.blk b)
                       (SObj.cells
                        [SV.vec 4 ao2
                         (Int.toNat (↑(nAt RPt.name L_1 n) : Int) - 0 +
                          (List.length L - Int.toNat (IntKind.wrap IntKind.i64 ((↑(nAt RPt.name L_1 n) : Int) + (1 : Int)))))
                         cap2,
                         SV.int IntKind.i64 nx, SV.vec 2 aoD (List.length ds) capD]
                        (30 : TypeId)),
                       Ent.mk (Loc.sl aoL capL) (SObj.vecL (62 : TypeId) 2 encRpt L (RPt.mk (ByteArray.mk #[]) (@none Addr) 0 [])),
                       Ent.mk (Loc.sl aoD capD) (SObj.vecL (49 : TypeId) 2 encDN ds (DN.mk (0 : Int) (ByteArray.mk #[]))), pk 0 rest,
                       Ent.mk (Loc.sl ao2 cap2)
                        (SObj.vecL 62 2 encRpt (List.take (Int.toNat (↑(nAt RPt.name L_1 n) : Int) - 0) (List.drop 0 L) ++ es)
                         (RPt.mk (ByteArray.mk #[]) (@none Addr) 0 []))]
                      (SV.int IntKind.i64 (0 : Int))) := by kernel_rfl


theorem qwa_run (K : List Frm → Sy → Prop) (N : List Ent → SV → Prop) (b : Nat) (aoL : Option Addr) (capL : Nat) (L : List RPt) (nx : Int) (aoD : Option Addr) (capD : Nat) (ds : List DN) (rest : List Ent) (g : RPt) (n : ByteArray) : (run Try.prog [(70, qatO)] true [] K (retP Try.prog Try.f27.results.toList N) 900 [.code (bodyOf Try.f27)] ⟨padTo 23 [.ptr 0 b 0, .str n], [⟨.blk b, .cells [.vec 1 aoL (L).length capL, .int .i64 nx, .vec 2 aoD ds.length capD] 30⟩, ⟨.sl aoL capL, .vecL 62 2 encRpt (L) zP⟩, ⟨.sl aoD capD, .vecL 49 2 encDN ds DN.zero⟩, pk 0 rest, ⟨.sl g.ao g.cap, .vecL 41 2 encCN g.cs CN.zero⟩]⟩) = (
true = true ∧
 (b = b ∧ (30 : TypeId) = (30 : TypeId) ∧ false = false) ∧
  ∃ (L_1 : List RPt),
   some (Ent.mk (Loc.sl aoL capL) (SObj.vecL (62 : TypeId) 2 encRpt L (RPt.mk (ByteArray.mk #[]) (@none Addr) 0 []))) =
    some (Ent.mk (Loc.sl aoL capL) (SObj.vecL (62 : TypeId) 2 encRpt L_1 (RPt.mk (ByteArray.mk #[]) (@none Addr) 0 []))) ∧
    (List.length L = List.length L_1 ∧ List.length L_1 ≤ 1000) ∧
     match !nHas RPt.name (RPt.mk (ByteArray.mk #[]) (@none Addr) 0 []) L_1 n with
     | true =>
      N
       [Ent.mk (Loc.blk b) (SObj.cells [SV.vec 1 aoL (List.length L) capL, SV.int IntKind.i64 nx, SV.vec 2 aoD (List.length ds) capD] (30 : TypeId)),
        Ent.mk (Loc.sl aoL capL) (SObj.vecL (62 : TypeId) 2 encRpt L (RPt.mk (ByteArray.mk #[]) (@none Addr) 0 [])),
        Ent.mk (Loc.sl aoD capD) (SObj.vecL (49 : TypeId) 2 encDN ds (DN.mk (0 : Int) (ByteArray.mk #[]))), pk 0 rest,
        Ent.mk (Loc.sl g.ao g.3) (SObj.vecL (41 : TypeId) 2 encCN g.4 (CN.mk (0 : Int) (ByteArray.mk #[])))]
       (SV.raw (Value.slice (@none Addr) 0 0))
     | false =>
      b = b ∧
       (aoL = aoL ∧ capL = capL ∧ List.length L = List.length L ∧ (0 : Int) ≤ (↑(nAt RPt.name L_1 n) : Int) ∧ (↑(nAt RPt.name L_1 n) : Int) < (↑(List.length L) : Int)) ∧
        (Addr.blkD aoL = Addr.blkD aoL ∧ Addr.offD aoL = Addr.offD aoL ∧ 2 = 2 ∧ Int.toNat (↑(nAt RPt.name L_1 n) : Int) < List.length L) ∧
         N
          [Ent.mk (Loc.blk b) (SObj.cells [SV.vec 1 aoL (List.length L) capL, SV.int IntKind.i64 nx, SV.vec 2 aoD (List.length ds) capD] (30 : TypeId)),
           Ent.mk (Loc.sl aoL capL) (SObj.vecL (62 : TypeId) 2 encRpt L (RPt.mk (ByteArray.mk #[]) (@none Addr) 0 [])),
           Ent.mk (Loc.sl aoD capD) (SObj.vecL (49 : TypeId) 2 encDN ds (DN.mk (0 : Int) (ByteArray.mk #[]))), pk 0 rest,
           Ent.mk (Loc.sl g.ao g.3) (SObj.vecL (41 : TypeId) 2 encCN g.4 (CN.mk (0 : Int) (ByteArray.mk #[])))]
          (SV.vec 4 (List.getD L (Int.toNat (↑(nAt RPt.name L_1 n) : Int)) (RPt.mk (ByteArray.mk #[]) (@none Addr) 0 [])).ao
           (List.length (List.getD L (Int.toNat (↑(nAt RPt.name L_1 n) : Int)) (RPt.mk (ByteArray.mk #[]) (@none Addr) 0 [])).4)
           (List.getD L (Int.toNat (↑(nAt RPt.name L_1 n) : Int)) (RPt.mk (ByteArray.mk #[]) (@none Addr) 0 [])).3)) := by kernel_rfl


theorem qse_run (K : List Frm → Sy → Prop) (N : List Ent → SV → Prop) (b : Nat) (aoL : Option Addr) (capL : Nat) (L : List RPt) (nx : Int) (aoD : Option Addr) (capD : Nat) (ds : List DN) (rest : List Ent) (pid : Int) (text : ByteArray) : (run Try.prog [] false [200001] K (retP Try.prog Try.f21.results.toList N) 900 [.code (bodyOf Try.f21)] ⟨padTo 41 [.ptr 0 b 0, .int .i64 pid, .str text], [⟨.blk b, .cells [.vec 1 aoL (L).length capL, .int .i64 nx, .vec 2 aoD ds.length capD] 30⟩, ⟨.sl aoL capL, .vecL 62 2 encRpt (L) zP⟩, ⟨.sl aoD capD, .vecL 49 2 encDN ds DN.zero⟩, pk 0 rest]⟩) = (
match decide ((↑(ByteArray.size text) : Int) > (200 : Int)) with
| true =>
 N
  [Ent.mk (Loc.blk b) (SObj.cells [SV.vec 1 aoL (List.length L) capL, SV.int IntKind.i64 nx, SV.vec 2 aoD (List.length ds) capD] (30 : TypeId)),
   Ent.mk (Loc.sl aoL capL) (SObj.vecL (62 : TypeId) 2 encRpt L (RPt.mk (ByteArray.mk #[]) (@none Addr) 0 [])),
   Ent.mk (Loc.sl aoD capD) (SObj.vecL (49 : TypeId) 2 encDN ds (DN.mk (0 : Int) (ByteArray.mk #[]))), pk 0 rest]
  (SV.int IntKind.i64 (100 : Int))
| false =>
 b = b ∧
  match decide ((↑(List.length ds) : Int) ≥ (16 : Int)) with
  | true =>
   N
    [Ent.mk (Loc.blk b) (SObj.cells [SV.vec 1 aoL (List.length L) capL, SV.int IntKind.i64 nx, SV.vec 2 aoD (List.length ds) capD] (30 : TypeId)),
     Ent.mk (Loc.sl aoL capL) (SObj.vecL (62 : TypeId) 2 encRpt L (RPt.mk (ByteArray.mk #[]) (@none Addr) 0 [])),
     Ent.mk (Loc.sl aoD capD) (SObj.vecL (49 : TypeId) 2 encDN ds (DN.mk (0 : Int) (ByteArray.mk #[]))), pk 0 rest]
    (SV.int IntKind.i64 (102 : Int))
  | false =>
   b = b ∧
    b = b ∧
     b = b ∧
      (true = true ∧ true = true) ∧
       ((aoD = aoD ∧ capD = capD ∧ List.length ds = List.length ds ∧ (↑(List.length ds) : Int) = (↑(List.length ds) : Int) ∧ (↑(List.length ds) : Int) = (↑(List.length ds) : Int)) ∧
        (Ent.mk (Loc.blk b) (SObj.cells [SV.vec 1 aoL (List.length L) capL, SV.int IntKind.i64 nx, SV.vec 2 aoD (List.length ds) capD] (30 : TypeId)) =
         Ent.mk (Loc.blk b) (SObj.cells [SV.vec 1 aoL (List.length L) capL, SV.int IntKind.i64 nx, SV.vec 2 aoD (List.length ds) capD] (30 : TypeId)) ∧
         True) ∧
         (true = true ∧ 2 = 2 ∧ 0 < 2 ∧ 2 ≤ 16777216) ∧
          ∀ (b_1 : Nat),
           (Ent.mk (Loc.blk b) (SObj.cells [SV.vec 1 aoL (List.length L) capL, SV.int IntKind.i64 nx, SV.vec 2 aoD (List.length ds) capD] (30 : TypeId)) =
            Ent.mk (Loc.blk b) (SObj.cells [SV.vec 1 aoL (List.length L) capL, SV.int IntKind.i64 nx, SV.vec 2 aoD (List.length ds) capD] (30 : TypeId)) ∧
            True) ∧
            (aoD = aoD ∧
             List.length ds = List.length ds ∧
              List.length ds = List.length ds ∧
               some (Addr.mk b_1 0 (@none Nat)) = some (Addr.mk b_1 0 (@none Nat)) ∧
                (49 : TypeId) = 49 ∧
                 2 = 2 ∧
                  2 = 2 ∧
                   0 < 1 ∧
                    true = true ∧ (List.length ds + 1) * 24 ≤ 140737488355328 ∧ List.length ds + 1 ≤ 9223372036854775807) ∧
             ∃ (es : List DN),
              List.length es = 1 ∧
               denL (List.flatMap encDN es) = denL [SV.int IntKind.i64 pid, SV.str text] ∧
                ∀ (ao2 : Option Addr) (cap2 : Nat),
                 List.length ds + 1 ≤ cap2 →
                  (Ent.mk (Loc.blk b) (SObj.cells [SV.vec 1 aoL (List.length L) capL, SV.int IntKind.i64 nx, SV.vec 2 aoD (List.length ds) capD] (30 : TypeId)) =
                   Ent.mk (Loc.blk b)
                    (SObj.cells [SV.vec 1 aoL (List.length L) capL, SV.int IntKind.i64 nx, SV.vec 2 aoD (List.length ds) capD] (30 : TypeId)) ∧
                   True) ∧
                   (b = b ∧ true = true ∧ 1 = 1 ∧ 3 ≤ 3) ∧
                    N
                     [Ent.mk (Loc.blk b)
                      (SObj.cells [SV.vec 1 aoL (List.length L) capL, SV.int IntKind.i64 nx, SV.vec 2 ao2 (List.length ds + 1) cap2] (30 : TypeId)),
                      Ent.mk (Loc.sl aoL capL) (SObj.vecL (62 : TypeId) 2 encRpt L (RPt.mk (ByteArray.mk #[]) (@none Addr) 0 [])),
                      Ent.mk (Loc.sl ao2 cap2) (SObj.vecL (49 : TypeId) 2 encDN (ds ++ es) (DN.mk (0 : Int) (ByteArray.mk #[]))), pk 0 rest,
                      Ent.mk (Loc.blk b_1) (SObj.cells [SV.int IntKind.i64 pid, SV.str text] 49)]
                     (SV.int IntKind.i64 (0 : Int))) ∧
        (true = true ∧ 2 = 2 ∧ 0 < 2 ∧ 2 ≤ 16777216) ∧
         ∀ (b_1 : Nat),
          (Ent.mk (Loc.blk b) (SObj.cells [SV.vec 1 aoL (List.length L) capL, SV.int IntKind.i64 nx, SV.vec 2 aoD (List.length ds) capD] (30 : TypeId)) =
           Ent.mk (Loc.blk b) (SObj.cells [SV.vec 1 aoL (List.length L) capL, SV.int IntKind.i64 nx, SV.vec 2 aoD (List.length ds) capD] (30 : TypeId)) ∧
           True) ∧
           (aoD = aoD ∧ capD = capD ∧ List.length ds = List.length ds ∧ (↑(List.length ds) : Int) = (↑(List.length ds) : Int) ∧ (↑(List.length ds) : Int) = (↑(List.length ds) : Int)) ∧
            (Ent.mk (Loc.blk b) (SObj.cells [SV.vec 1 aoL (List.length L) capL, SV.int IntKind.i64 nx, SV.vec 2 aoD (List.length ds) capD] (30 : TypeId)) =
             Ent.mk (Loc.blk b) (SObj.cells [SV.vec 1 aoL (List.length L) capL, SV.int IntKind.i64 nx, SV.vec 2 aoD (List.length ds) capD] (30 : TypeId)) ∧
             True) ∧
             (aoD = aoD ∧
              List.length ds = List.length ds ∧
               List.length ds = List.length ds ∧
                some (Addr.mk b_1 0 (@none Nat)) = some (Addr.mk b_1 0 (@none Nat)) ∧
                 (49 : TypeId) = 49 ∧
                  2 = 2 ∧
                   2 = 2 ∧
                    0 < 1 ∧
                     true = true ∧ (List.length ds + 1) * 24 ≤ 140737488355328 ∧ List.length ds + 1 ≤ 9223372036854775807) ∧
              ∃ (es : List DN),
               List.length es = 1 ∧
                denL (List.flatMap encDN es) = denL [SV.int IntKind.i64 pid, SV.str text] ∧
                 ∀ (ao2 : Option Addr) (cap2 : Nat),
                  List.length ds + 1 ≤ cap2 →
                   (Ent.mk (Loc.blk b) (SObj.cells [SV.vec 1 aoL (List.length L) capL, SV.int IntKind.i64 nx, SV.vec 2 aoD (List.length ds) capD] (30 : TypeId)) =
                    Ent.mk (Loc.blk b)
                     (SObj.cells [SV.vec 1 aoL (List.length L) capL, SV.int IntKind.i64 nx, SV.vec 2 aoD (List.length ds) capD] (30 : TypeId)) ∧
                    True) ∧
                    (b = b ∧ true = true ∧ 1 = 1 ∧ 3 ≤ 3) ∧
                     N
                      [Ent.mk (Loc.blk b)
                       (SObj.cells [SV.vec 1 aoL (List.length L) capL, SV.int IntKind.i64 nx, SV.vec 2 ao2 (List.length ds + 1) cap2] (30 : TypeId)),
                       Ent.mk (Loc.sl aoL capL) (SObj.vecL (62 : TypeId) 2 encRpt L (RPt.mk (ByteArray.mk #[]) (@none Addr) 0 [])),
                       Ent.mk (Loc.sl ao2 cap2) (SObj.vecL (49 : TypeId) 2 encDN (ds ++ es) (DN.mk (0 : Int) (ByteArray.mk #[]))), pk 0 rest,
                       Ent.mk (Loc.blk b_1) (SObj.cells [SV.int IntKind.i64 pid, SV.str text] 49)]
                      (SV.int IntKind.i64 (0 : Int))) := by kernel_rfl


theorem qre_run (K : List Frm → Sy → Prop) (N : List Ent → SV → Prop) (b : Nat) (aoL : Option Addr) (capL : Nat) (L : List RPt) (nx : Int) (aoD : Option Addr) (capD : Nat) (ds : List DN) (rest : List Ent) : (run Try.prog [] false [] K (retP Try.prog Try.f23.results.toList N) 900 [.code (bodyOf Try.f23)] ⟨padTo 27 [.ptr 0 b 0], [⟨.blk b, .cells [.vec 1 aoL (L).length capL, .int .i64 nx, .vec 2 aoD ds.length capD] 30⟩, ⟨.sl aoL capL, .vecL 62 2 encRpt (L) zP⟩, ⟨.sl aoD capD, .vecL 49 2 encDN ds DN.zero⟩, pk 0 rest]⟩) = (
∀ (b_1 : Nat),
 b = b ∧
  match (↑(List.length ds) : Int) == (0 : Int) with
  | true =>
   (true = true ∧ true = true) ∧
    (b_1 = b_1 ∧ true = true ∧ 2 = 2 ∧ 2 ≤ 2) ∧
     (b_1 = b_1 ∧ 2 = 2) ∧
      N
       [Ent.mk (Loc.blk b) (SObj.cells [SV.vec 1 aoL (List.length L) capL, SV.int IntKind.i64 nx, SV.vec 2 aoD (List.length ds) capD] (30 : TypeId)),
        Ent.mk (Loc.sl aoL capL) (SObj.vecL (62 : TypeId) 2 encRpt L (RPt.mk (ByteArray.mk #[]) (@none Addr) 0 [])),
        Ent.mk (Loc.sl aoD capD) (SObj.vecL (49 : TypeId) 2 encDN ds (DN.mk (0 : Int) (ByteArray.mk #[]))), pk 0 rest,
        Ent.mk (Loc.blk b_1) (SObj.cells [SV.int IntKind.i64 (0 : Int), SV.str (ByteArray.mk #[])] 49)]
       (SV.tuple [SV.agg [SV.int IntKind.i64 (0 : Int), SV.str (ByteArray.mk #[])], SV.bool false])
  | false =>
   b = b ∧
    (aoD = aoD ∧ capD = capD ∧ List.length ds = List.length ds ∧ (0 : Int) ≤ (0 : Int) ∧ (0 : Int) < (↑(List.length ds) : Int)) ∧
     (Addr.blkD aoD = Addr.blkD aoD ∧ Addr.offD aoD = Addr.offD aoD ∧ 2 = 2 ∧ 0 < List.length ds ∧ 2 = 2) ∧
      ∀ (b_2 : Nat),
       (b_2 = b_2 ∧ true = true ∧ 2 = 2 ∧ 2 ≤ 2) ∧
        b = b ∧
         ((0 : Int) ≤ (1 : Int) ∧ (1 : Int) ≤ (↑(List.length ds) : Int) ∧ List.length ds ≤ capD) ∧
          (b = b ∧ true = true ∧ 1 = 1 ∧ 3 ≤ 3) ∧
           (b_2 = b_2 ∧ 2 = 2) ∧
            (b_1 = b_1 ∧ true = true ∧ 2 = 2 ∧ 2 ≤ 2) ∧
             (b_1 = b_1 ∧ 2 = 2) ∧
              N
               [Ent.mk (Loc.blk b)
                (SObj.cells [SV.vec 1 aoL (List.length L) capL, SV.int IntKind.i64 nx, SV.sub 2 aoD capD 2 1 (List.length ds)] (30 : TypeId)),
                Ent.mk (Loc.sl aoL capL) (SObj.vecL (62 : TypeId) 2 encRpt L (RPt.mk (ByteArray.mk #[]) (@none Addr) 0 [])),
                Ent.mk (Loc.sl aoD capD) (SObj.vecL (49 : TypeId) 2 encDN ds (DN.mk (0 : Int) (ByteArray.mk #[]))), pk 0 rest,
                Ent.mk (Loc.blk b_1)
                 (SObj.cells
                  [SV.int IntKind.i64 (List.getD ds 0 (DN.mk (0 : Int) (ByteArray.mk #[]))).1, SV.str (List.getD ds 0 (DN.mk (0 : Int) (ByteArray.mk #[]))).2]
                  49),
                Ent.mk (Loc.blk b_2)
                 (SObj.cells
                  [SV.int IntKind.i64 (List.getD ds 0 (DN.mk (0 : Int) (ByteArray.mk #[]))).1, SV.str (List.getD ds 0 (DN.mk (0 : Int) (ByteArray.mk #[]))).2]
                  49)]
               (SV.tuple
                [SV.agg [SV.int IntKind.i64 (List.getD ds 0 (DN.mk (0 : Int) (ByteArray.mk #[]))).1, SV.str (List.getD ds 0 (DN.mk (0 : Int) (ByteArray.mk #[]))).2],
                 SV.bool true])) := by kernel_rfl
end Go.Proofs.Ytkcmgcoppecfpaa

namespace Go.Proofs.Ytkcmgcoppecfpaa
open Go Go.RowKit

theorem pli_none (K : List Frm → Sy → Prop) (N : List Ent → SV → Prop) (b bm : Nat) (sk : List (Key × Nat)) (aoD : Option Addr) (capD : Nat) (ds : List DN) (la : Int) (rest : List Ent) (n : ByteArray) : (run Try.prog [] true [] K (retP Try.prog Try.f12.results.toList N) 600 [.code (bodyOf Try.f12)] ⟨padTo 26 [.ptr 0 b 0, .str n], [⟨.blk b, .cells [.map 1 bm, .vec 2 aoD ds.length capD, .int .i64 la] 131⟩, ⟨.blk bm, .map1 none encPq sk (.s n) none⟩, ⟨.sl aoD capD, .vecL 49 2 encDN ds DN.zero⟩, pk 0 rest]⟩) = (
match sEq n (ByteArray.mk #[]) with
| true =>
 N
  [Ent.mk (Loc.blk b) (SObj.cells [SV.map 1 bm, SV.vec 2 aoD (List.length ds) capD, SV.int IntKind.i64 la] (131 : TypeId)),
   Ent.mk (Loc.blk bm) (SObj.map1 (@none IntKind) encPq sk (Key.s n) (@none SV)), Ent.mk (Loc.sl aoD capD) (SObj.vecL (49 : TypeId) 2 encDN ds (DN.mk (0 : Int) (ByteArray.mk #[]))),
   pk 0 rest]
  (SV.int IntKind.i64 (100 : Int))
| false =>
 b = b ∧
  (bm = bm ∧ Key.s n = Key.s n ∧ @none IntKind = @none IntKind) ∧
   b = b ∧
    (true = true ∧ true = true) ∧
     true = true ∧
      ∀ (b_1 : Nat),
       (bm = bm ∧ @none IntKind = @none IntKind ∧ @none IntKind = @none IntKind) ∧
        ∃ (u : Nat),
         den (SV.ptr 3 u 0) = den (SV.ptr 4 b_1 0) ∧
          N
           [Ent.mk (Loc.blk b) (SObj.cells [SV.map 1 bm, SV.vec 2 aoD (List.length ds) capD, SV.int IntKind.i64 la] (131 : TypeId)),
            Ent.mk (Loc.blk bm) (SObj.map1 (@none IntKind) encPq (mset sk (Key.s n) u) (Key.s n) (some (SV.ptr 4 b_1 0))),
            Ent.mk (Loc.sl aoD capD) (SObj.vecL (49 : TypeId) 2 encDN ds (DN.mk (0 : Int) (ByteArray.mk #[]))), pk 0 rest,
            Ent.mk (Loc.blk b_1) (SObj.cells [SV.raw (Value.slice (@none Addr) 0 0)] 135)]
           (SV.int IntKind.i64 (0 : Int))) := by kernel_rfl


theorem pcl_none (K : List Frm → Sy → Prop) (N : List Ent → SV → Prop) (b bm : Nat) (sk : List (Key × Nat)) (aoD : Option Addr) (capD : Nat) (ds : List DN) (la : Int) (rest : List Ent) (n : ByteArray) : (run Try.prog [] true [] K (retP Try.prog Try.f14.results.toList N) 600 [.code (bodyOf Try.f14)] ⟨padTo 23 [.ptr 0 b 0, .str n], [⟨.blk b, .cells [.map 1 bm, .vec 2 aoD ds.length capD, .int .i64 la] 131⟩, ⟨.blk bm, .map1 none encPq sk (.s n) none⟩, ⟨.sl aoD capD, .vecL 49 2 encDN ds DN.zero⟩, pk 0 rest]⟩) = (
b = b ∧
 (bm = bm ∧ Key.s n = Key.s n ∧ @none IntKind = @none IntKind) ∧
  N
   [Ent.mk (Loc.blk b) (SObj.cells [SV.map 1 bm, SV.vec 2 aoD (List.length ds) capD, SV.int IntKind.i64 la] (131 : TypeId)),
    Ent.mk (Loc.blk bm) (SObj.map1 (@none IntKind) encPq sk (Key.s n) (@none SV)), Ent.mk (Loc.sl aoD capD) (SObj.vecL (49 : TypeId) 2 encDN ds (DN.mk (0 : Int) (ByteArray.mk #[]))),
    pk 0 rest]
   (SV.int IntKind.i64 (100 : Int))) := by kernel_rfl


theorem pco_none (K : List Frm → Sy → Prop) (N : List Ent → SV → Prop) (b bm : Nat) (sk : List (Key × Nat)) (aoD : Option Addr) (capD : Nat) (ds : List DN) (la : Int) (rest : List Ent) (n text : ByteArray) : (run Try.prog [(71, inl Try.prog [] true Try.f71 300)] true [] K (retP Try.prog Try.f16.results.toList N) 900 [.code (bodyOf Try.f16)] ⟨padTo 47 [.ptr 0 b 0, .str n, .str text], [⟨.blk b, .cells [.map 1 bm, .vec 2 aoD ds.length capD, .int .i64 la] 131⟩, ⟨.blk bm, .map1 none encPq sk (.s n) none⟩, ⟨.sl aoD capD, .vecL 49 2 encDN ds DN.zero⟩, pk 0 rest]⟩) = (
b = b ∧
 (bm = bm ∧ Key.s n = Key.s n ∧ @none IntKind = @none IntKind) ∧
  N
   [Ent.mk (Loc.blk b) (SObj.cells [SV.map 1 bm, SV.vec 2 aoD (List.length ds) capD, SV.int IntKind.i64 la] (131 : TypeId)),
    Ent.mk (Loc.blk bm) (SObj.map1 (@none IntKind) encPq sk (Key.s n) (@none SV)), Ent.mk (Loc.sl aoD capD) (SObj.vecL (49 : TypeId) 2 encDN ds (DN.mk (0 : Int) (ByteArray.mk #[]))),
    pk 0 rest]
   (SV.tuple [SV.int IntKind.i64 (0 : Int), SV.int IntKind.i64 (100 : Int)])) := by kernel_rfl


theorem pac_none (K : List Frm → Sy → Prop) (N : List Ent → SV → Prop) (b bm : Nat) (sk : List (Key × Nat)) (aoD : Option Addr) (capD : Nat) (ds : List DN) (la : Int) (rest : List Ent) (n : ByteArray) : (run Try.prog [(72, inl Try.prog [] false Try.f72 300)] false [] K (retP Try.prog Try.f18.results.toList N) 900 [.code (bodyOf Try.f18)] ⟨padTo 28 [.ptr 0 b 0, .str n], [⟨.blk b, .cells [.map 1 bm, .vec 2 aoD ds.length capD, .int .i64 la] 131⟩, ⟨.blk bm, .map1 none encPq sk (.s n) none⟩, ⟨.sl aoD capD, .vecL 49 2 encDN ds DN.zero⟩, pk 0 rest]⟩) = (
∀ (b_1 : Nat),
 b = b ∧
  (bm = bm ∧ Key.s n = Key.s n ∧ @none IntKind = @none IntKind) ∧
   (true = true ∧ true = true) ∧
    (b_1 = b_1 ∧ true = true ∧ 2 = 2 ∧ 2 ≤ 2) ∧
     (b_1 = b_1 ∧ 2 = 2) ∧
      N
       [Ent.mk (Loc.blk b) (SObj.cells [SV.map 1 bm, SV.vec 2 aoD (List.length ds) capD, SV.int IntKind.i64 la] (131 : TypeId)),
        Ent.mk (Loc.blk bm) (SObj.map1 (@none IntKind) encPq sk (Key.s n) (@none SV)),
        Ent.mk (Loc.sl aoD capD) (SObj.vecL (49 : TypeId) 2 encDN ds (DN.mk (0 : Int) (ByteArray.mk #[]))), pk 0 rest,
        Ent.mk (Loc.blk b_1) (SObj.cells [SV.int IntKind.i64 (0 : Int), SV.str (ByteArray.mk #[])] 41)]
       (SV.tuple [SV.agg [SV.int IntKind.i64 (0 : Int), SV.str (ByteArray.mk #[])], SV.int IntKind.i64 (100 : Int)])) := by kernel_rfl


theorem pwa_none (K : List Frm → Sy → Prop) (N : List Ent → SV → Prop) (b bm : Nat) (sk : List (Key × Nat)) (aoD : Option Addr) (capD : Nat) (ds : List DN) (la : Int) (rest : List Ent) (n : ByteArray) : (run Try.prog [(75, cloneC 41 2 24)] true [] K (retP Try.prog Try.f26.results.toList N) 900 [.code (bodyOf Try.f26)] ⟨padTo 23 [.ptr 0 b 0, .str n], [⟨.blk b, .cells [.map 1 bm, .vec 2 aoD ds.length capD, .int .i64 la] 131⟩, ⟨.blk bm, .map1 none encPq sk (.s n) none⟩, ⟨.sl aoD capD, .vecL 49 2 encDN ds DN.zero⟩, pk 0 rest]⟩) = (
b = b ∧
 (bm = bm ∧ Key.s n = Key.s n ∧ @none IntKind = @none IntKind) ∧
  N
   [Ent.mk (Loc.blk b) (SObj.cells [SV.map 1 bm, SV.vec 2 aoD (List.length ds) capD, SV.int IntKind.i64 la] (131 : TypeId)),
    Ent.mk (Loc.blk bm) (SObj.map1 (@none IntKind) encPq sk (Key.s n) (@none SV)), Ent.mk (Loc.sl aoD capD) (SObj.vecL (49 : TypeId) 2 encDN ds (DN.mk (0 : Int) (ByteArray.mk #[]))),
    pk 0 rest]
   (SV.raw (Value.slice (@none Addr) 0 0))) := by kernel_rfl


theorem pli_some (K : List Frm → Sy → Prop) (N : List Ent → SV → Prop) (b bm : Nat) (sk : List (Key × Nat)) (aoD : Option Addr) (capD : Nat) (ds : List DN) (la : Int) (rest : List Ent) (xb : Nat) (xa : Option Addr) (xc : Nat) (cs : List CN) (n : ByteArray) : (run Try.prog [] true [] K (retP Try.prog Try.f12.results.toList N) 600 [.code (bodyOf Try.f12)] ⟨padTo 26 [.ptr 0 b 0, .str n], [⟨.blk b, .cells [.map 1 bm, .vec 2 aoD ds.length capD, .int .i64 la] 131⟩, ⟨.blk bm, .map1 none encPq sk (.s n) (some (.ptr 3 xb 0))⟩, ⟨.sl aoD capD, .vecL 49 2 encDN ds DN.zero⟩, ⟨.blk xb, .cells [.vec 4 xa cs.length xc] 135⟩, ⟨.sl xa xc, .vecL 41 2 encCN cs CN.zero⟩, pk 0 rest]⟩) = (
match sEq n (ByteArray.mk #[]) with
| true =>
 N
  [Ent.mk (Loc.blk b) (SObj.cells [SV.map 1 bm, SV.vec 2 aoD (List.length ds) capD, SV.int IntKind.i64 la] (131 : TypeId)),
   Ent.mk (Loc.blk bm) (SObj.map1 (@none IntKind) encPq sk (Key.s n) (some (SV.ptr 3 xb 0))),
   Ent.mk (Loc.sl aoD capD) (SObj.vecL (49 : TypeId) 2 encDN ds (DN.mk (0 : Int) (ByteArray.mk #[]))),
   Ent.mk (Loc.blk xb) (SObj.cells [SV.vec 4 xa (List.length cs) xc] (135 : TypeId)),
   Ent.mk (Loc.sl xa xc) (SObj.vecL (41 : TypeId) 2 encCN cs (CN.mk (0 : Int) (ByteArray.mk #[]))), pk 0 rest]
  (SV.int IntKind.i64 (100 : Int))
| false =>
 b = b ∧
  (bm = bm ∧ Key.s n = Key.s n ∧ @none IntKind = @none IntKind) ∧
   N
    [Ent.mk (Loc.blk b) (SObj.cells [SV.map 1 bm, SV.vec 2 aoD (List.length ds) capD, SV.int IntKind.i64 la] (131 : TypeId)),
     Ent.mk (Loc.blk bm) (SObj.map1 (@none IntKind) encPq sk (Key.s n) (some (SV.ptr 3 xb 0))),
     Ent.mk (Loc.sl aoD capD) (SObj.vecL (49 : TypeId) 2 encDN ds (DN.mk (0 : Int) (ByteArray.mk #[]))),
     Ent.mk (Loc.blk xb) (SObj.cells [SV.vec 4 xa (List.length cs) xc] (135 : TypeId)),
     Ent.mk (Loc.sl xa xc) (SObj.vecL (41 : TypeId) 2 encCN cs (CN.mk (0 : Int) (ByteArray.mk #[]))), pk 0 rest]
    (SV.int IntKind.i64 (101 : Int))) := by kernel_rfl


theorem pcl_some (K : List Frm → Sy → Prop) (N : List Ent → SV → Prop) (b bm : Nat) (sk : List (Key × Nat)) (aoD : Option Addr) (capD : Nat) (ds : List DN) (la : Int) (rest : List Ent) (xb : Nat) (xa : Option Addr) (xc : Nat) (cs : List CN) (n : ByteArray) : (run Try.prog [] true [] K (retP Try.prog Try.f14.results.toList N) 600 [.code (bodyOf Try.f14)] ⟨padTo 23 [.ptr 0 b 0, .str n], [⟨.blk b, .cells [.map 1 bm, .vec 2 aoD ds.length capD, .int .i64 la] 131⟩, ⟨.blk bm, .map1 none encPq sk (.s n) (some (.ptr 3 xb 0))⟩, ⟨.sl aoD capD, .vecL 49 2 encDN ds DN.zero⟩, ⟨.blk xb, .cells [.vec 4 xa cs.length xc] 135⟩, ⟨.sl xa xc, .vecL 41 2 encCN cs CN.zero⟩, pk 0 rest]⟩) = (
b = b ∧
 (bm = bm ∧ Key.s n = Key.s n ∧ @none IntKind = @none IntKind) ∧
  b = b ∧
   (bm = bm ∧ @none IntKind = @none IntKind ∧ @none IntKind = @none IntKind) ∧
    N
     [Ent.mk (Loc.blk b) (SObj.cells [SV.map 1 bm, SV.vec 2 aoD (List.length ds) capD, SV.int IntKind.i64 la] (131 : TypeId)),
      Ent.mk (Loc.blk bm) (SObj.mapL (@none IntKind) encPq (mdel sk (Key.s n))), Ent.mk (Loc.sl aoD capD) (SObj.vecL (49 : TypeId) 2 encDN ds (DN.mk (0 : Int) (ByteArray.mk #[]))),
      Ent.mk (Loc.blk xb) (SObj.cells [SV.vec 4 xa (List.length cs) xc] (135 : TypeId)),
      Ent.mk (Loc.sl xa xc) (SObj.vecL (41 : TypeId) 2 encCN cs (CN.mk (0 : Int) (ByteArray.mk #[]))), pk 0 rest]
     (SV.int IntKind.i64 (0 : Int))) := by kernel_rfl


theorem pco_some (K : List Frm → Sy → Prop) (N : List Ent → SV → Prop) (b bm : Nat) (sk : List (Key × Nat)) (aoD : Option Addr) (capD : Nat) (ds : List DN) (la : Int) (rest : List Ent) (xb : Nat) (xa : Option Addr) (xc : Nat) (cs : List CN) (n text : ByteArray) : (run Try.prog [(71, inl Try.prog [] true Try.f71 300)] true [] K (retP Try.prog Try.f16.results.toList N) 900 [.code (bodyOf Try.f16)] ⟨padTo 47 [.ptr 0 b 0, .str n, .str text], [⟨.blk b, .cells [.map 1 bm, .vec 2 aoD ds.length capD, .int .i64 la] 131⟩, ⟨.blk bm, .map1 none encPq sk (.s n) (some (.ptr 3 xb 0))⟩, ⟨.sl aoD capD, .vecL 49 2 encDN ds DN.zero⟩, ⟨.blk xb, .cells [.vec 4 xa cs.length xc] 135⟩, ⟨.sl xa xc, .vecL 41 2 encCN cs CN.zero⟩, pk 0 rest]⟩) = (
b = b ∧
 (bm = bm ∧ Key.s n = Key.s n ∧ @none IntKind = @none IntKind) ∧
  match decide ((↑(ByteArray.size text) : Int) > (200 : Int)) with
  | true =>
   N
    [Ent.mk (Loc.blk b) (SObj.cells [SV.map 1 bm, SV.vec 2 aoD (List.length ds) capD, SV.int IntKind.i64 la] (131 : TypeId)),
     Ent.mk (Loc.blk bm) (SObj.map1 (@none IntKind) encPq sk (Key.s n) (some (SV.ptr 3 xb 0))),
     Ent.mk (Loc.sl aoD capD) (SObj.vecL (49 : TypeId) 2 encDN ds (DN.mk (0 : Int) (ByteArray.mk #[]))),
     Ent.mk (Loc.blk xb) (SObj.cells [SV.vec 4 xa (List.length cs) xc] (135 : TypeId)),
     Ent.mk (Loc.sl xa xc) (SObj.vecL (41 : TypeId) 2 encCN cs (CN.mk (0 : Int) (ByteArray.mk #[]))), pk 0 rest]
    (SV.tuple [SV.int IntKind.i64 (0 : Int), SV.int IntKind.i64 (100 : Int)])
  | false =>
   b = b ∧
    (true = true ∧ true = true) ∧
     true = true ∧
      true = true ∧
       ∀ (b_1 : Nat),
        xb = xb ∧
         match decide ((↑(List.length cs) : Int) ≥ (16 : Int)) with
         | true =>
          N
           [Ent.mk (Loc.blk b) (SObj.cells [SV.map 1 bm, SV.vec 2 aoD (List.length ds) capD, SV.int IntKind.i64 la] (131 : TypeId)),
            Ent.mk (Loc.blk bm) (SObj.map1 (@none IntKind) encPq sk (Key.s n) (some (SV.ptr 3 xb 0))),
            Ent.mk (Loc.sl aoD capD) (SObj.vecL (49 : TypeId) 2 encDN ds (DN.mk (0 : Int) (ByteArray.mk #[]))),
            Ent.mk (Loc.blk xb) (SObj.cells [SV.vec 4 xa (List.length cs) xc] (135 : TypeId)),
            Ent.mk (Loc.sl xa xc) (SObj.vecL (41 : TypeId) 2 encCN cs (CN.mk (0 : Int) (ByteArray.mk #[]))), pk 0 rest,
            Ent.mk (Loc.blk b_1) (SObj.cells [SV.int IntKind.i64 (IntKind.wrap IntKind.i64 (la + (1 : Int))), SV.str text] 41)]
           (SV.tuple [SV.int IntKind.i64 (0 : Int), SV.int IntKind.i64 (102 : Int)])
         | false =>
          xb = xb ∧
           (b_1 = b_1 ∧ 2 = 2) ∧
            (true = true ∧ 2 = 2 ∧ 0 < 2 ∧ 2 ≤ 16777216) ∧
             ∀ (b_2 : Nat),
              (Ent.mk (Loc.blk b) (SObj.cells [SV.map 1 bm, SV.vec 2 aoD (List.length ds) capD, SV.int IntKind.i64 la] (131 : TypeId)) =
               Ent.mk (Loc.blk b) (SObj.cells [SV.map 1 bm, SV.vec 2 aoD (List.length ds) capD, SV.int IntKind.i64 la] (131 : TypeId)) ∧
               Ent.mk (Loc.blk bm) (SObj.map1 (@none IntKind) encPq sk (Key.s n) (some (SV.ptr 3 xb 0))) =
                Ent.mk (Loc.blk bm) (SObj.map1 (@none IntKind) encPq sk (Key.s n) (some (SV.ptr 3 xb 0))) ∧
                Ent.mk (Loc.sl aoD capD) (SObj.vecL (49 : TypeId) 2 encDN ds (DN.mk (0 : Int) (ByteArray.mk #[]))) =
                 Ent.mk (Loc.sl aoD capD) (SObj.vecL (49 : TypeId) 2 encDN ds (DN.mk (0 : Int) (ByteArray.mk #[]))) ∧
                 Ent.mk (Loc.blk xb) (SObj.cells [SV.vec 4 xa (List.length cs) xc] (135 : TypeId)) =
                  Ent.mk (Loc.blk xb) (SObj.cells [SV.vec 4 xa (List.length cs) xc] (135 : TypeId)) ∧
                  Ent.mk (Loc.sl xa xc) (SObj.vecL (41 : TypeId) 2 encCN cs (CN.mk (0 : Int) (ByteArray.mk #[]))) =
                   Ent.mk (Loc.sl xa xc) (SObj.vecL (41 : TypeId) 2 encCN cs (CN.mk (0 : Int) (ByteArray.mk #[]))) ∧
                   pk 0 rest = pk 0 rest ∧
                    Ent.mk (Loc.blk b_1) (SObj.cells [SV.int IntKind.i64 (IntKind.wrap IntKind.i64 (la + (1 : Int))), SV.str text] 41) =
                     Ent.mk (Loc.blk b_1) (SObj.cells [SV.int IntKind.i64 (IntKind.wrap IntKind.i64 (la + (1 : Int))), SV.str text] 41) ∧
                     True) ∧
               (xa = xa ∧
                xc = xc ∧
                 List.length cs = List.length cs ∧
                  some (Addr.mk b_2 0 (@none Nat)) = some (Addr.mk b_2 0 (@none Nat)) ∧
                   (41 : TypeId) = 41 ∧
                    2 = 2 ∧
                     2 = 2 ∧
                      0 < 1 ∧
                       true = true ∧ (List.length cs + 1) * 24 ≤ 140737488355328 ∧ List.length cs + 1 ≤ 9223372036854775807) ∧
                ∃ (es : List CN),
                 List.length es = 1 ∧
                  denL (List.flatMap encCN es) = denL [SV.int IntKind.i64 (IntKind.wrap IntKind.i64 (la + (1 : Int))), SV.str text] ∧
                   ∀ (ao2 : Option Addr) (cap2 : Nat),
                    List.length cs + 1 ≤ cap2 →
                     (xb = xb ∧ true = true ∧ 1 = 1 ∧ 1 ≤ 1) ∧
                      b = b ∧
                       (b = b ∧ true = true ∧ 1 = 1 ∧ 3 ≤ 3) ∧
                        b = b ∧
                         N
                          [Ent.mk (Loc.blk b)
                           (SObj.cells [SV.map 1 bm, SV.vec 2 aoD (List.length ds) capD, SV.int IntKind.i64 (IntKind.wrap IntKind.i64 (la + (1 : Int)))]
                            (131 : TypeId)),
                           Ent.mk (Loc.blk bm) (SObj.map1 (@none IntKind) encPq sk (Key.s n) (some (SV.ptr 3 xb 0))),
                           Ent.mk (Loc.sl aoD capD) (SObj.vecL (49 : TypeId) 2 encDN ds (DN.mk (0 : Int) (ByteArray.mk #[]))),
                           Ent.mk (Loc.blk xb) (SObj.cells [SV.vec 4 ao2 (List.length cs + 1) cap2] (135 : TypeId)),
                           Ent.mk (Loc.sl ao2 cap2) (SObj.vecL (41 : TypeId) 2 encCN (cs ++ es) (CN.mk (0 : Int) (ByteArray.mk #[]))), pk 0 rest,
                           Ent.mk (Loc.blk b_1) (SObj.cells [SV.int IntKind.i64 (IntKind.wrap IntKind.i64 (la + (1 : Int))), SV.str text] 41),
                           Ent.mk (Loc.blk b_2) (SObj.cells [SV.int IntKind.i64 (IntKind.wrap IntKind.i64 (la + (1 : Int))), SV.str text] 41)]
                          (SV.tuple [SV.int IntKind.i64 (IntKind.wrap IntKind.i64 (la + (1 : Int))), SV.int IntKind.i64 (0 : Int)])) := by kernel_rfl


theorem pac_some (K : List Frm → Sy → Prop) (N : List Ent → SV → Prop) (b bm : Nat) (sk : List (Key × Nat)) (aoD : Option Addr) (capD : Nat) (ds : List DN) (la : Int) (rest : List Ent) (xb : Nat) (xa : Option Addr) (xc : Nat) (cs : List CN) (n : ByteArray) : (run Try.prog [(72, inl Try.prog [] false Try.f72 300)] false [] K (retP Try.prog Try.f18.results.toList N) 900 [.code (bodyOf Try.f18)] ⟨padTo 28 [.ptr 0 b 0, .str n], [⟨.blk b, .cells [.map 1 bm, .vec 2 aoD ds.length capD, .int .i64 la] 131⟩, ⟨.blk bm, .map1 none encPq sk (.s n) (some (.ptr 3 xb 0))⟩, ⟨.sl aoD capD, .vecL 49 2 encDN ds DN.zero⟩, ⟨.blk xb, .cells [.vec 4 xa cs.length xc] 135⟩, ⟨.sl xa xc, .vecL 41 2 encCN cs CN.zero⟩, pk 0 rest]⟩) = (
∀ (b_1 : Nat),
 b = b ∧
  (bm = bm ∧ Key.s n = Key.s n ∧ @none IntKind = @none IntKind) ∧
   true = true ∧
    ∀ (b_2 b_3 : Nat),
     xb = xb ∧
      match (↑(List.length cs) : Int) == (0 : Int) with
      | true =>
       (b_3 = b_3 ∧ 2 = 2) ∧
        (b_2 = b_2 ∧ true = true ∧ 2 = 2 ∧ 2 ≤ 2) ∧
         (b_2 = b_2 ∧ 2 = 2) ∧
          ∀ (b_4 : Nat),
           (b_4 = b_4 ∧ true = true ∧ 2 = 2 ∧ 2 ≤ 2) ∧
            (true = true ∧ true = true) ∧
             (b_1 = b_1 ∧ true = true ∧ 2 = 2 ∧ 2 ≤ 2) ∧
              (b_1 = b_1 ∧ 2 = 2) ∧
               N
                [Ent.mk (Loc.blk b) (SObj.cells [SV.map 1 bm, SV.vec 2 aoD (List.length ds) capD, SV.int IntKind.i64 la] (131 : TypeId)),
                 Ent.mk (Loc.blk bm) (SObj.map1 (@none IntKind) encPq sk (Key.s n) (some (SV.ptr 3 xb 0))),
                 Ent.mk (Loc.sl aoD capD) (SObj.vecL (49 : TypeId) 2 encDN ds (DN.mk (0 : Int) (ByteArray.mk #[]))),
                 Ent.mk (Loc.blk xb) (SObj.cells [SV.vec 4 xa (List.length cs) xc] (135 : TypeId)),
                 Ent.mk (Loc.sl xa xc) (SObj.vecL (41 : TypeId) 2 encCN cs (CN.mk (0 : Int) (ByteArray.mk #[]))), pk 0 rest,
                 Ent.mk (Loc.blk b_1) (SObj.cells [SV.int IntKind.i64 (0 : Int), SV.str (ByteArray.mk #[])] 41),
                 Ent.mk (Loc.blk b_2) (SObj.cells [SV.int IntKind.i64 (0 : Int), SV.str (ByteArray.mk #[])] 41),
                 Ent.mk (Loc.blk b_3) (SObj.cells [SV.int IntKind.i64 (0 : Int), SV.str (ByteArray.mk #[])] 41),
                 Ent.mk (Loc.blk b_4) (SObj.cells [SV.int IntKind.i64 (0 : Int), SV.str (ByteArray.mk #[])] 41)]
                (SV.tuple [SV.agg [SV.int IntKind.i64 (0 : Int), SV.str (ByteArray.mk #[])], SV.int IntKind.i64 (100 : Int)])
      | false =>
       xb = xb ∧
        (xa = xa ∧ xc = xc ∧ List.length cs = List.length cs ∧ (0 : Int) ≤ (0 : Int) ∧ (0 : Int) < (↑(List.length cs) : Int)) ∧
         (Addr.blkD xa = Addr.blkD xa ∧ Addr.offD xa = Addr.offD xa ∧ 2 = 2 ∧ 0 < List.length cs ∧ 2 = 2) ∧
          (xb = xb ∧
           ((0 : Int) ≤ (1 : Int) ∧ (1 : Int) ≤ (↑(List.length cs) : Int) ∧ List.length cs ≤ xc) ∧
            (b_3 = b_3 ∧ true = true ∧ 2 = 2 ∧ 2 ≤ 2) ∧
             (xb = xb ∧ true = true ∧ 1 = 1 ∧ 1 ≤ 1) ∧
              (b_3 = b_3 ∧ 2 = 2) ∧
               (b_2 = b_2 ∧ true = true ∧ 2 = 2 ∧ 2 ≤ 2) ∧
                (b_2 = b_2 ∧ 2 = 2) ∧
                 ∀ (b_4 : Nat),
                  (b_4 = b_4 ∧ true = true ∧ 2 = 2 ∧ 2 ≤ 2) ∧
                   (b_4 = b_4 ∧ 2 = 2) ∧
                    (b_1 = b_1 ∧ true = true ∧ 2 = 2 ∧ 2 ≤ 2) ∧
                     (b_1 = b_1 ∧ 2 = 2) ∧
                      N
                       [Ent.mk (Loc.blk b) (SObj.cells [SV.map 1 bm, SV.vec 2 aoD (List.length ds) capD, SV.int IntKind.i64 la] (131 : TypeId)),
                        Ent.mk (Loc.blk bm) (SObj.map1 (@none IntKind) encPq sk (Key.s n) (some (SV.ptr 3 xb 0))),
                        Ent.mk (Loc.sl aoD capD) (SObj.vecL (49 : TypeId) 2 encDN ds (DN.mk (0 : Int) (ByteArray.mk #[]))),
                        Ent.mk (Loc.blk xb) (SObj.cells [SV.sub 4 xa xc 2 1 (List.length cs)] (135 : TypeId)),
                        Ent.mk (Loc.sl xa xc) (SObj.vecL (41 : TypeId) 2 encCN cs (CN.mk (0 : Int) (ByteArray.mk #[]))), pk 0 rest,
                        Ent.mk (Loc.blk b_1)
                         (SObj.cells
                          [SV.int IntKind.i64 (List.getD cs 0 (CN.mk (0 : Int) (ByteArray.mk #[]))).1,
                           SV.str (List.getD cs 0 (CN.mk (0 : Int) (ByteArray.mk #[]))).2]
                          41),
                        Ent.mk (Loc.blk b_2)
                         (SObj.cells
                          [SV.int IntKind.i64 (List.getD cs 0 (CN.mk (0 : Int) (ByteArray.mk #[]))).1,
                           SV.str (List.getD cs 0 (CN.mk (0 : Int) (ByteArray.mk #[]))).2]
                          41),
                        Ent.mk (Loc.blk b_3)
                         (SObj.cells
                          [SV.int IntKind.i64 (List.getD cs 0 (CN.mk (0 : Int) (ByteArray.mk #[]))).1,
                           SV.str (List.getD cs 0 (CN.mk (0 : Int) (ByteArray.mk #[]))).2]
                          41),
                        Ent.mk (Loc.blk b_4)
                         (SObj.cells
                          [SV.int IntKind.i64 (List.getD cs 0 (CN.mk (0 : Int) (ByteArray.mk #[]))).1,
                           SV.str (List.getD cs 0 (CN.mk (0 : Int) (ByteArray.mk #[]))).2]
                          41)]
                       (SV.tuple
                        [SV.agg
                         [SV.int IntKind.i64 (List.getD cs 0 (CN.mk (0 : Int) (ByteArray.mk #[]))).1,
                          SV.str (List.getD cs 0 (CN.mk (0 : Int) (ByteArray.mk #[]))).2],
                         SV.int IntKind.i64 (0 : Int)])) ∧
           (b_3 = b_3 ∧ true = true ∧ 2 = 2 ∧ 2 ≤ 2) ∧
            xb = xb ∧
             ((0 : Int) ≤ (1 : Int) ∧ (1 : Int) ≤ (↑(List.length cs) : Int) ∧ List.length cs ≤ xc) ∧
              (xb = xb ∧ true = true ∧ 1 = 1 ∧ 1 ≤ 1) ∧
               (b_3 = b_3 ∧ 2 = 2) ∧
                (b_2 = b_2 ∧ true = true ∧ 2 = 2 ∧ 2 ≤ 2) ∧
                 (b_2 = b_2 ∧ 2 = 2) ∧
                  ∀ (b_4 : Nat),
                   (b_4 = b_4 ∧ true = true ∧ 2 = 2 ∧ 2 ≤ 2) ∧
                    (b_4 = b_4 ∧ 2 = 2) ∧
                     (b_1 = b_1 ∧ true = true ∧ 2 = 2 ∧ 2 ≤ 2) ∧
                      (b_1 = b_1 ∧ 2 = 2) ∧
                       N
                        [Ent.mk (Loc.blk b) (SObj.cells [SV.map 1 bm, SV.vec 2 aoD (List.length ds) capD, SV.int IntKind.i64 la] (131 : TypeId)),
                         Ent.mk (Loc.blk bm) (SObj.map1 (@none IntKind) encPq sk (Key.s n) (some (SV.ptr 3 xb 0))),
                         Ent.mk (Loc.sl aoD capD) (SObj.vecL (49 : TypeId) 2 encDN ds (DN.mk (0 : Int) (ByteArray.mk #[]))),
                         Ent.mk (Loc.blk xb) (SObj.cells [SV.sub 4 xa xc 2 1 (List.length cs)] (135 : TypeId)),
                         Ent.mk (Loc.sl xa xc) (SObj.vecL (41 : TypeId) 2 encCN cs (CN.mk (0 : Int) (ByteArray.mk #[]))), pk 0 rest,
                         Ent.mk (Loc.blk b_1)
                          (SObj.cells
                           [SV.int IntKind.i64 (List.getD cs 0 (CN.mk (0 : Int) (ByteArray.mk #[]))).1,
                            SV.str (List.getD cs 0 (CN.mk (0 : Int) (ByteArray.mk #[]))).2]
                           41),
                         Ent.mk (Loc.blk b_2)
                          (SObj.cells
                           [SV.int IntKind.i64 (List.getD cs 0 (CN.mk (0 : Int) (ByteArray.mk #[]))).1,
                            SV.str (List.getD cs 0 (CN.mk (0 : Int) (ByteArray.mk #[]))).2]
                           41),
                         Ent.mk (Loc.blk b_3)
                          (SObj.cells
                           [SV.int IntKind.i64 (List.getD cs 0 (CN.mk (0 : Int) (ByteArray.mk #[]))).1,
                            SV.str (List.getD cs 0 (CN.mk (0 : Int) (ByteArray.mk #[]))).2]
                           41),
                         Ent.mk (Loc.blk b_4)
                          (SObj.cells
                           [SV.int IntKind.i64 (List.getD cs 0 (CN.mk (0 : Int) (ByteArray.mk #[]))).1,
                            SV.str (List.getD cs 0 (CN.mk (0 : Int) (ByteArray.mk #[]))).2]
                           41)]
                        (SV.tuple
                         [SV.agg
                          [SV.int IntKind.i64 (List.getD cs 0 (CN.mk (0 : Int) (ByteArray.mk #[]))).1,
                           SV.str (List.getD cs 0 (CN.mk (0 : Int) (ByteArray.mk #[]))).2],
                          SV.int IntKind.i64 (0 : Int)])) := by kernel_rfl


theorem pwa_some (K : List Frm → Sy → Prop) (N : List Ent → SV → Prop) (b bm : Nat) (sk : List (Key × Nat)) (aoD : Option Addr) (capD : Nat) (ds : List DN) (la : Int) (rest : List Ent) (xb : Nat) (xa : Option Addr) (xc : Nat) (cs : List CN) (n : ByteArray) : (run Try.prog [(75, cloneC 41 2 24)] true [] K (retP Try.prog Try.f26.results.toList N) 900 [.code (bodyOf Try.f26)] ⟨padTo 23 [.ptr 0 b 0, .str n], [⟨.blk b, .cells [.map 1 bm, .vec 2 aoD ds.length capD, .int .i64 la] 131⟩, ⟨.blk bm, .map1 none encPq sk (.s n) (some (.ptr 3 xb 0))⟩, ⟨.sl aoD capD, .vecL 49 2 encDN ds DN.zero⟩, ⟨.blk xb, .cells [.vec 4 xa cs.length xc] 135⟩, ⟨.sl xa xc, .vecL 41 2 encCN cs CN.zero⟩, pk 0 rest]⟩) = (
b = b ∧
 (bm = bm ∧ Key.s n = Key.s n ∧ @none IntKind = @none IntKind) ∧
  xb = xb ∧
   true = true ∧
    (xa = xa ∧
     xc = xc ∧
      List.length cs = List.length cs ∧
       (41 : TypeId) = (41 : TypeId) ∧ 2 = 2 ∧ List.length cs * 24 ≤ 140737488355328 ∧ List.length cs ≤ 9223372036854775807) ∧
     ∀ (ao2 : Option Addr) (cap2 : Nat),
      List.length cs ≤ cap2 →
       N
        [Ent.mk (Loc.blk b) (SObj.cells [SV.map 1 bm, SV.vec 2 aoD (List.length ds) capD, SV.int IntKind.i64 la] (131 : TypeId)),
         Ent.mk (Loc.blk bm) (SObj.map1 (@none IntKind) encPq sk (Key.s n) (some (SV.ptr 3 xb 0))),
         Ent.mk (Loc.sl aoD capD) (SObj.vecL (49 : TypeId) 2 encDN ds (DN.mk (0 : Int) (ByteArray.mk #[]))),
         Ent.mk (Loc.blk xb) (SObj.cells [SV.vec 4 xa (List.length cs) xc] (135 : TypeId)),
         Ent.mk (Loc.sl xa xc) (SObj.vecL (41 : TypeId) 2 encCN cs (CN.mk (0 : Int) (ByteArray.mk #[]))), pk 0 rest,
         Ent.mk (Loc.sl ao2 cap2) (SObj.vecL (41 : TypeId) 2 encCN cs (CN.mk (0 : Int) (ByteArray.mk #[])))]
        (SV.vec 6 ao2 (List.length cs) cap2)) := by kernel_rfl


theorem pse_run (K : List Frm → Sy → Prop) (N : List Ent → SV → Prop) (b bm : Nat) (sk : List (Key × Nat)) (aoD : Option Addr) (capD : Nat) (ds : List DN) (la : Int) (rest : List Ent) (pid : Int) (text : ByteArray) : (run Try.prog [(73, inl Try.prog [] true Try.f73 300)] true [] K (retP Try.prog Try.f20.results.toList N) 900 [.code (bodyOf Try.f20)] ⟨padTo 18 [.ptr 0 b 0, .int .i64 pid, .str text], [⟨.blk b, .cells [.map 1 bm, .vec 2 aoD ds.length capD, .int .i64 la] 131⟩, ⟨.blk bm, .mapL none encPq sk⟩, ⟨.sl aoD capD, .vecL 49 2 encDN ds DN.zero⟩, pk 0 rest]⟩) = (
match decide ((↑(ByteArray.size text) : Int) > (200 : Int)) with
| true =>
 N
  [Ent.mk (Loc.blk b) (SObj.cells [SV.map 1 bm, SV.vec 2 aoD (List.length ds) capD, SV.int IntKind.i64 la] (131 : TypeId)), Ent.mk (Loc.blk bm) (SObj.mapL (@none IntKind) encPq sk),
   Ent.mk (Loc.sl aoD capD) (SObj.vecL (49 : TypeId) 2 encDN ds (DN.mk (0 : Int) (ByteArray.mk #[]))), pk 0 rest]
  (SV.int IntKind.i64 (100 : Int))
| false =>
 (true = true ∧ true = true) ∧
  true = true ∧
   true = true ∧
    ∀ (b_1 : Nat),
     b = b ∧
      match decide ((↑(List.length ds) : Int) ≥ (16 : Int)) with
      | true =>
       N
        [Ent.mk (Loc.blk b) (SObj.cells [SV.map 1 bm, SV.vec 2 aoD (List.length ds) capD, SV.int IntKind.i64 la] (131 : TypeId)),
         Ent.mk (Loc.blk bm) (SObj.mapL (@none IntKind) encPq sk), Ent.mk (Loc.sl aoD capD) (SObj.vecL (49 : TypeId) 2 encDN ds (DN.mk (0 : Int) (ByteArray.mk #[]))),
         pk 0 rest, Ent.mk (Loc.blk b_1) (SObj.cells [SV.int IntKind.i64 pid, SV.str text] 49)]
        (SV.int IntKind.i64 (102 : Int))
      | false =>
       b = b ∧
        (b_1 = b_1 ∧ 2 = 2) ∧
         (true = true ∧ 2 = 2 ∧ 0 < 2 ∧ 2 ≤ 16777216) ∧
          ∀ (b_2 : Nat),
           (Ent.mk (Loc.blk b) (SObj.cells [SV.map 1 bm, SV.vec 2 aoD (List.length ds) capD, SV.int IntKind.i64 la] (131 : TypeId)) =
            Ent.mk (Loc.blk b) (SObj.cells [SV.map 1 bm, SV.vec 2 aoD (List.length ds) capD, SV.int IntKind.i64 la] (131 : TypeId)) ∧
            Ent.mk (Loc.blk bm) (SObj.mapL (@none IntKind) encPq sk) = Ent.mk (Loc.blk bm) (SObj.mapL (@none IntKind) encPq sk) ∧
             Ent.mk (Loc.sl aoD capD) (SObj.vecL (49 : TypeId) 2 encDN ds (DN.mk (0 : Int) (ByteArray.mk #[]))) =
              Ent.mk (Loc.sl aoD capD) (SObj.vecL (49 : TypeId) 2 encDN ds (DN.mk (0 : Int) (ByteArray.mk #[]))) ∧
              pk 0 rest = pk 0 rest ∧
               Ent.mk (Loc.blk b_1) (SObj.cells [SV.int IntKind.i64 pid, SV.str text] 49) =
                Ent.mk (Loc.blk b_1) (SObj.cells [SV.int IntKind.i64 pid, SV.str text] 49) ∧
                True) ∧
            (aoD = aoD ∧
             capD = capD ∧
              List.length ds = List.length ds ∧
               some (Addr.mk b_2 0 (@none Nat)) = some (Addr.mk b_2 0 (@none Nat)) ∧
                (49 : TypeId) = 49 ∧
                 2 = 2 ∧
                  2 = 2 ∧
                   0 < 1 ∧
                    true = true ∧ (List.length ds + 1) * 24 ≤ 140737488355328 ∧ List.length ds + 1 ≤ 9223372036854775807) ∧
             ∃ (es : List DN),
              List.length es = 1 ∧
               denL (List.flatMap encDN es) = denL [SV.int IntKind.i64 pid, SV.str text] ∧
                ∀ (ao2 : Option Addr) (cap2 : Nat),
                 List.length ds + 1 ≤ cap2 →
                  (b = b ∧ true = true ∧ 1 = 1 ∧ 2 ≤ 3) ∧
                   N
                    [Ent.mk (Loc.blk b) (SObj.cells [SV.map 1 bm, SV.vec 2 ao2 (List.length ds + 1) cap2, SV.int IntKind.i64 la] (131 : TypeId)),
                     Ent.mk (Loc.blk bm) (SObj.mapL (@none IntKind) encPq sk),
                     Ent.mk (Loc.sl ao2 cap2) (SObj.vecL (49 : TypeId) 2 encDN (ds ++ es) (DN.mk (0 : Int) (ByteArray.mk #[]))), pk 0 rest,
                     Ent.mk (Loc.blk b_1) (SObj.cells [SV.int IntKind.i64 pid, SV.str text] 49),
                     Ent.mk (Loc.blk b_2) (SObj.cells [SV.int IntKind.i64 pid, SV.str text] 49)]
                    (SV.int IntKind.i64 (0 : Int))) := by kernel_rfl


theorem pre_run (K : List Frm → Sy → Prop) (N : List Ent → SV → Prop) (b bm : Nat) (sk : List (Key × Nat)) (aoD : Option Addr) (capD : Nat) (ds : List DN) (la : Int) (rest : List Ent) : (run Try.prog [(74, inl Try.prog [] false Try.f74 300)] false [] K (retP Try.prog Try.f22.results.toList N) 900 [.code (bodyOf Try.f22)] ⟨padTo 10 [.ptr 0 b 0], [⟨.blk b, .cells [.map 1 bm, .vec 2 aoD ds.length capD, .int .i64 la] 131⟩, ⟨.blk bm, .mapL none encPq sk⟩, ⟨.sl aoD capD, .vecL 49 2 encDN ds DN.zero⟩, pk 0 rest]⟩) = (
∀ (b_1 : Nat),
 true = true ∧
  ∀ (b_2 b_3 : Nat),
   b = b ∧
    match (↑(List.length ds) : Int) == (0 : Int) with
    | true =>
     (b_3 = b_3 ∧ 2 = 2) ∧
      (b_2 = b_2 ∧ true = true ∧ 2 = 2 ∧ 2 ≤ 2) ∧
       (b_2 = b_2 ∧ 2 = 2) ∧
        (b_1 = b_1 ∧ true = true ∧ 2 = 2 ∧ 2 ≤ 2) ∧
         (b_1 = b_1 ∧ 2 = 2) ∧
          N
           [Ent.mk (Loc.blk b) (SObj.cells [SV.map 1 bm, SV.vec 2 aoD (List.length ds) capD, SV.int IntKind.i64 la] (131 : TypeId)),
            Ent.mk (Loc.blk bm) (SObj.mapL (@none IntKind) encPq sk), Ent.mk (Loc.sl aoD capD) (SObj.vecL (49 : TypeId) 2 encDN ds (DN.mk (0 : Int) (ByteArray.mk #[]))),
            pk 0 rest, Ent.mk (Loc.blk b_1) (SObj.cells [SV.int IntKind.i64 (0 : Int), SV.str (ByteArray.mk #[])] 49),
            Ent.mk (Loc.blk b_2) (SObj.cells [SV.int IntKind.i64 (0 : Int), SV.str (ByteArray.mk #[])] 49),
            Ent.mk (Loc.blk b_3) (SObj.cells [SV.int IntKind.i64 (0 : Int), SV.str (ByteArray.mk #[])] 49)]
           (SV.tuple [SV.agg [SV.int IntKind.i64 (0 : Int), SV.str (ByteArray.mk #[])], SV.bool false])
    | false =>
     b = b ∧
      (aoD = aoD ∧ capD = capD ∧ List.length ds = List.length ds ∧ (0 : Int) ≤ (0 : Int) ∧ (0 : Int) < (↑(List.length ds) : Int)) ∧
       (Addr.blkD aoD = Addr.blkD aoD ∧ Addr.offD aoD = Addr.offD aoD ∧ 2 = 2 ∧ 0 < List.length ds ∧ 2 = 2) ∧
        (b = b ∧
         ((0 : Int) ≤ (1 : Int) ∧ (1 : Int) ≤ (↑(List.length ds) : Int) ∧ List.length ds ≤ capD) ∧
          (b_3 = b_3 ∧ true = true ∧ 2 = 2 ∧ 2 ≤ 2) ∧
           (b = b ∧ true = true ∧ 1 = 1 ∧ 2 ≤ 3) ∧
            (b_3 = b_3 ∧ 2 = 2) ∧
             (b_2 = b_2 ∧ true = true ∧ 2 = 2 ∧ 2 ≤ 2) ∧
              (b_2 = b_2 ∧ 2 = 2) ∧
               (b_1 = b_1 ∧ true = true ∧ 2 = 2 ∧ 2 ≤ 2) ∧
                (b_1 = b_1 ∧ 2 = 2) ∧
                 N
                  [Ent.mk (Loc.blk b) (SObj.cells [SV.map 1 bm, SV.sub 2 aoD capD 2 1 (List.length ds), SV.int IntKind.i64 la] (131 : TypeId)),
                   Ent.mk (Loc.blk bm) (SObj.mapL (@none IntKind) encPq sk),
                   Ent.mk (Loc.sl aoD capD) (SObj.vecL (49 : TypeId) 2 encDN ds (DN.mk (0 : Int) (ByteArray.mk #[]))), pk 0 rest,
                   Ent.mk (Loc.blk b_1)
                    (SObj.cells
                     [SV.int IntKind.i64 (List.getD ds 0 (DN.mk (0 : Int) (ByteArray.mk #[]))).1, SV.str (List.getD ds 0 (DN.mk (0 : Int) (ByteArray.mk #[]))).2]
                     49),
                   Ent.mk (Loc.blk b_2)
                    (SObj.cells
                     [SV.int IntKind.i64 (List.getD ds 0 (DN.mk (0 : Int) (ByteArray.mk #[]))).1, SV.str (List.getD ds 0 (DN.mk (0 : Int) (ByteArray.mk #[]))).2]
                     49),
                   Ent.mk (Loc.blk b_3)
                    (SObj.cells
                     [SV.int IntKind.i64 (List.getD ds 0 (DN.mk (0 : Int) (ByteArray.mk #[]))).1, SV.str (List.getD ds 0 (DN.mk (0 : Int) (ByteArray.mk #[]))).2]
                     49)]
                  (SV.tuple
                   [SV.agg
                    [SV.int IntKind.i64 (List.getD ds 0 (DN.mk (0 : Int) (ByteArray.mk #[]))).1,
                     SV.str (List.getD ds 0 (DN.mk (0 : Int) (ByteArray.mk #[]))).2],
                    SV.bool true])) ∧
         (b_3 = b_3 ∧ true = true ∧ 2 = 2 ∧ 2 ≤ 2) ∧
          b = b ∧
           ((0 : Int) ≤ (1 : Int) ∧ (1 : Int) ≤ (↑(List.length ds) : Int) ∧ List.length ds ≤ capD) ∧
            (b = b ∧ true = true ∧ 1 = 1 ∧ 2 ≤ 3) ∧
             (b_3 = b_3 ∧ 2 = 2) ∧
              (b_2 = b_2 ∧ true = true ∧ 2 = 2 ∧ 2 ≤ 2) ∧
               (b_2 = b_2 ∧ 2 = 2) ∧
                (b_1 = b_1 ∧ true = true ∧ 2 = 2 ∧ 2 ≤ 2) ∧
                 (b_1 = b_1 ∧ 2 = 2) ∧
                  N
                   [Ent.mk (Loc.blk b) (SObj.cells [SV.map 1 bm, SV.sub 2 aoD capD 2 1 (List.length ds), SV.int IntKind.i64 la] (131 : TypeId)),
                    Ent.mk (Loc.blk bm) (SObj.mapL (@none IntKind) encPq sk),
                    Ent.mk (Loc.sl aoD capD) (SObj.vecL (49 : TypeId) 2 encDN ds (DN.mk (0 : Int) (ByteArray.mk #[]))), pk 0 rest,
                    Ent.mk (Loc.blk b_1)
                     (SObj.cells
                      [SV.int IntKind.i64 (List.getD ds 0 (DN.mk (0 : Int) (ByteArray.mk #[]))).1, SV.str (List.getD ds 0 (DN.mk (0 : Int) (ByteArray.mk #[]))).2]
                      49),
                    Ent.mk (Loc.blk b_2)
                     (SObj.cells
                      [SV.int IntKind.i64 (List.getD ds 0 (DN.mk (0 : Int) (ByteArray.mk #[]))).1, SV.str (List.getD ds 0 (DN.mk (0 : Int) (ByteArray.mk #[]))).2]
                      49),
                    Ent.mk (Loc.blk b_3)
                     (SObj.cells
                      [SV.int IntKind.i64 (List.getD ds 0 (DN.mk (0 : Int) (ByteArray.mk #[]))).1, SV.str (List.getD ds 0 (DN.mk (0 : Int) (ByteArray.mk #[]))).2]
                      49)]
                   (SV.tuple
                    [SV.agg
                     [SV.int IntKind.i64 (List.getD ds 0 (DN.mk (0 : Int) (ByteArray.mk #[]))).1,
                      SV.str (List.getD ds 0 (DN.mk (0 : Int) (ByteArray.mk #[]))).2],
                     SV.bool true])) := by kernel_rfl


theorem pdg_run (K : List Frm → Sy → Prop) (N : List Ent → SV → Prop) (b bm : Nat) (sk : List (Key × Nat)) (aoD : Option Addr) (capD : Nat) (ds : List DN) (la : Int) (rest : List Ent) : (run Try.prog [] true [] K (retP Try.prog Try.f24.results.toList N) 600 [.code (bodyOf Try.f24)] ⟨padTo 9 [.ptr 0 b 0], [⟨.blk b, .cells [.map 1 bm, .vec 2 aoD ds.length capD, .int .i64 la] 131⟩, ⟨.blk bm, .mapL none encPq sk⟩, ⟨.sl aoD capD, .vecL 49 2 encDN ds DN.zero⟩, pk 0 rest]⟩) = (
b = b ∧
 N
  [Ent.mk (Loc.blk b) (SObj.cells [SV.map 1 bm, SV.vec 2 aoD (List.length ds) capD, SV.int IntKind.i64 la] (131 : TypeId)), Ent.mk (Loc.blk bm) (SObj.mapL (@none IntKind) encPq sk),
   Ent.mk (Loc.sl aoD capD) (SObj.vecL (49 : TypeId) 2 encDN ds (DN.mk (0 : Int) (ByteArray.mk #[]))), pk 0 rest]
  (SV.int IntKind.i64 (↑(List.length ds) : Int))) := by kernel_rfl
end Go.Proofs.Ytkcmgcoppecfpaa

namespace Go.Proofs.Ytkcmgcoppecfpaa
open Go Go.RowKit

theorem clone_run (K : List Frm → Sy → Prop) (N : List Ent → SV → Prop) (α : Type) (enc : α → List SV) (xs : List α) (d : α) (ao : Option Addr) (cap : Nat) : (run Try.prog [] false [] K (retP Try.prog Try.f75.results.toList N) 300 [.code (bodyOf Try.f75)] ⟨padTo 8 [.vec 0 ao xs.length cap], [⟨.sl ao cap, .vecL 41 2 enc xs d⟩]⟩) = (
match Option.isNone ao with
| true => N [Ent.mk (Loc.sl ao cap) (SObj.vecL (41 : TypeId) 2 enc xs d)] (SV.raw (Value.slice (@none Addr) 0 0))
| false =>
 ∀ (b : Nat),
  (some (Addr.mk b 0 (@none Nat)) = some (Addr.mk b 0 (@none Nat)) ∧
   0 = 0 ∧
    0 = 0 ∧
     0 = 0 ∧
      0 = 0 ∧
       ao = ao ∧
        41 = 41 ∧
         2 = 2 ∧
          2 = 2 ∧ List.length xs = List.length xs ∧ List.length xs * 24 ≤ 140737488355328 ∧ List.length xs ≤ 9223372036854775807) ∧
   ∀ (ao2 : Option Addr) (cap2 : Nat),
    List.length xs ≤ cap2 →
     N [Ent.mk (Loc.sl ao cap) (SObj.vecL (41 : TypeId) 2 enc xs d), Ent.mk (Loc.sl ao2 cap2) (SObj.vecL 41 2 enc xs d)] (SV.vec 1 ao2 (List.length xs) cap2)) := by kernel_rfl
end Go.Proofs.Ytkcmgcoppecfpaa

/- slices.Clone of the program's slices. -/
namespace Go.Proofs.Ytkcmgcoppecfpaa
open Go Go.RowKit

theorem hmX : Try.prog.follows .mixedOrders = true := by kernel_rfl
theorem cloneConn_ok : CtrOk Try.prog 75 (cloneC 41 2 24) := by
  refine clone_ok fun α enc xs d ao cap g1 g2 => ?_
  refine Spec.of_G 8 Try.func75 (c := bodyOf Try.f75) (by kernel_rfl) (by kernel_rfl) (Nat.le_of_ble_eq_true rfl) fun W F => ?_
  refine G_run (Cs := []) (kc := false) (ss := []) trivial hmX 300 ?_
  rw [clone_run]
  split <;> rename_i hh
  · exact .inl ⟨hh, rfl, rfl⟩
  · intro b
    refine ⟨⟨rfl, rfl, rfl, rfl, rfl, rfl, rfl, rfl, rfl, rfl, g1, g2⟩, fun ao2 cap2 h => .inr ⟨ao2, cap2, h, rfl, rfl⟩⟩
end Go.Proofs.Ytkcmgcoppecfpaa

