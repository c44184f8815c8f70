import Derived.Test.YtihajdkipkfiiaaMgGroupPlays6
/- YtihajdkipkfiiaaRg1Run -/
namespace Go.Proofs.Ytihajdkipkfiiaa
set_option linter.unusedVariables false
open Go Go.RowKit
set_option maxHeartbeats 0
set_option maxRecDepth 100000
set_option linter.unusedVariables false
set_option maxRecDepth 100000

theorem rAt_start (K : List Frm → Sy → Prop) (N : List Ent → SV → Prop) (aoL : Option Addr) (capL : Nat) (L : List RGrp) (aoN : Option Addr) (capN : Nat) (nt : List ByteArray) (b : Nat) (rest : List Ent) (name : ByteArray) : (run Try.prog [] false [] K (retP Try.prog Try.f89.results.toList N) 600 [.code (bodyOf Try.f89)] ⟨padTo 48 [.ptr 0 b 0, .str name], [⟨.blk b, .cells [.vec 1 aoL (L).length capL, .vec 2 aoN (nt).length capN] 103⟩, ⟨.sl aoL capL, .vecL 112 2 encR (L) zR⟩, ⟨.sl aoN capN, .vecL 9 1 encS (nt) ByteArray.empty⟩, pk 0 rest]⟩) = (
K (frm [] (bodyOf Try.f89) [1, 1, 0, 0] [])
 (Sy.mk (SV.ptr 0 b 0 :: (SV.str name :: (SV.raw (Value.tuple #[]) :: (SV.raw (Value.tuple #[]) :: (SV.int IntKind.i64 (0 : Int) :: (SV.bool false :: (SV.int IntKind.i64 (0 : Int) :: (rawE [] 41))))))))
  [Ent.mk (Loc.blk b) (SObj.cells [SV.vec 1 aoL (List.length L) capL, SV.vec 2 aoN (List.length nt) capN] (103 : TypeId)),
   Ent.mk (Loc.sl aoL capL) (SObj.vecL (112 : TypeId) 2 encR L (RGrp.mk (ByteArray.mk #[]) (@none Addr) 0 [])),
   Ent.mk (Loc.sl aoN capN) (SObj.vecL (9 : TypeId) 1 encS nt ByteArray.empty), pk 0 rest])) := by kernel_rfl


theorem rAt_body (K : List Frm → Sy → Prop) (N : List Ent → SV → Prop) (J : Act → World → Prop) (aoL : Option Addr) (capL : Nat) (L : List RGrp) (aoN : Option Addr) (capN : Nat) (nt : List ByteArray) (b : Nat) (rest : List Ent) (name : ByteArray) (i : Nat) (u : Nat → Value) : (run Try.prog [] true [] K (retP Try.prog Try.f89.results.toList N) 900 (frm [J] (bodyOf Try.f89) [1, 1, 0, 0, 0] []) ⟨mkT u 48 0 [(0, .ptr 0 b 0), (1, .str name), (6, .int .i64 (i : Int))], [⟨.blk b, .cells [.vec 1 aoL (L).length capL, .vec 2 aoN (nt).length capN] 103⟩, ⟨.sl aoL capL, .vecL 112 2 encR (L) zR⟩, ⟨.sl aoN capN, .vecL 9 1 encS (nt) ByteArray.empty⟩, pk 0 rest]⟩) = (
b = b ∧
 match decide ((↑i : Int) < (↑(List.length L) : Int)) with
 | true =>
  b = b ∧
   (aoL = aoL ∧ capL = capL ∧ List.length L = List.length L ∧ (0 : Int) ≤ (↑i : Int) ∧ (↑i : Int) < (↑(List.length L) : Int)) ∧
    (Addr.blkD aoL = Addr.blkD aoL ∧ Addr.offD aoL = Addr.offD aoL ∧ 2 = 2 ∧ Int.toNat (↑i : Int) < List.length L) ∧
     match sLt (List.getD L (Int.toNat (↑i : Int)) (RGrp.mk (ByteArray.mk #[]) (@none Addr) 0 [])).1 name with
     | true =>
      K (Frm.loop J :: Frm.blk 0 :: frm [] (bodyOf Try.f89) [1, 1, 1] [])
       (Sy.mk (SV.ptr 0 b 0 :: (SV.str name :: (rawR u 2 (SV.int IntKind.i64 (IntKind.wrap IntKind.i64 ((↑i : Int) + (1 : Int))) :: (SV.int IntKind.i64 (↑i : Int) :: (SV.ptr 0 b 0 :: (SV.ptr 0 b 0 :: (SV.ptr 0 b 0 :: (SV.vec 1 aoL (List.length L) capL :: (SV.int IntKind.i64 (↑(List.length L) : Int) :: (SV.bool (decide ((↑i : Int) < (↑(List.length L) : Int))) :: (SV.bool true :: (SV.ptr 0 b 0 :: (SV.ptr 0 b 0 :: (SV.ptr 0 b 0 :: (SV.vec 1 aoL (List.length L) capL :: (SV.int IntKind.i64 (↑i : Int) :: (SV.eptr 1 (Addr.blkD aoL) (Addr.offD aoL) 2 (Int.toNat (↑i : Int)) 0 :: (SV.eptr 1 (Addr.blkD aoL) (Addr.offD aoL) 2 (Int.toNat (↑i : Int)) 0 :: (SV.str (List.getD L (Int.toNat (↑i : Int)) (RGrp.mk (ByteArray.mk #[]) (@none Addr) 0 [])).1 :: (SV.str name :: (SV.bool (sLt (List.getD L (Int.toNat (↑i : Int)) (RGrp.mk (ByteArray.mk #[]) (@none Addr) 0 [])).1 name) :: (SV.bool true :: (SV.int IntKind.i64 (↑i : Int) :: (SV.int IntKind.i64 (IntKind.wrap IntKind.i64 ((↑i : Int) + (1 : Int))) :: (rawR u 28 [] 20))))))))))))))))))))))) 4)))
        [Ent.mk (Loc.blk b) (SObj.cells [SV.vec 1 aoL (List.length L) capL, SV.vec 2 aoN (List.length nt) capN] (103 : TypeId)),
         Ent.mk (Loc.sl aoL capL) (SObj.vecL (112 : TypeId) 2 encR L (RGrp.mk (ByteArray.mk #[]) (@none Addr) 0 [])),
         Ent.mk (Loc.sl aoN capN) (SObj.vecL (9 : TypeId) 1 encS nt ByteArray.empty), pk 0 rest])
     | false =>
      b = b ∧
       match decide ((↑i : Int) < (↑(List.length L) : Int)) with
       | true =>
        b = b ∧
         (aoL = aoL ∧ capL = capL ∧ List.length L = List.length L ∧ (0 : Int) ≤ (↑i : Int) ∧ (↑i : Int) < (↑(List.length L) : Int)) ∧
          (Addr.blkD aoL = Addr.blkD aoL ∧ Addr.offD aoL = Addr.offD aoL ∧ 2 = 2 ∧ Int.toNat (↑i : Int) < List.length L) ∧
           N
            [Ent.mk (Loc.blk b) (SObj.cells [SV.vec 1 aoL (List.length L) capL, SV.vec 2 aoN (List.length nt) capN] (103 : TypeId)),
             Ent.mk (Loc.sl aoL capL) (SObj.vecL (112 : TypeId) 2 encR L (RGrp.mk (ByteArray.mk #[]) (@none Addr) 0 [])),
             Ent.mk (Loc.sl aoN capN) (SObj.vecL (9 : TypeId) 1 encS nt ByteArray.empty), pk 0 rest]
            (SV.tuple [SV.int IntKind.i64 (↑i : Int), SV.bool (sEq (List.getD L (Int.toNat (↑i : Int)) (RGrp.mk (ByteArray.mk #[]) (@none Addr) 0 [])).1 name)])
       | false =>
        N
         [Ent.mk (Loc.blk b) (SObj.cells [SV.vec 1 aoL (List.length L) capL, SV.vec 2 aoN (List.length nt) capN] (103 : TypeId)),
          Ent.mk (Loc.sl aoL capL) (SObj.vecL (112 : TypeId) 2 encR L (RGrp.mk (ByteArray.mk #[]) (@none Addr) 0 [])),
          Ent.mk (Loc.sl aoN capN) (SObj.vecL (9 : TypeId) 1 encS nt ByteArray.empty), pk 0 rest]
         (SV.tuple [SV.int IntKind.i64 (↑i : Int), SV.bool false])
 | false =>
  b = b ∧
   match decide ((↑i : Int) < (↑(List.length L) : Int)) with
   | true =>
    b = b ∧
     (aoL = aoL ∧ capL = capL ∧ List.length L = List.length L ∧ (0 : Int) ≤ (↑i : Int) ∧ (↑i : Int) < (↑(List.length L) : Int)) ∧
      (Addr.blkD aoL = Addr.blkD aoL ∧ Addr.offD aoL = Addr.offD aoL ∧ 2 = 2 ∧ Int.toNat (↑i : Int) < List.length L) ∧
       N
        [Ent.mk (Loc.blk b) (SObj.cells [SV.vec 1 aoL (List.length L) capL, SV.vec 2 aoN (List.length nt) capN] (103 : TypeId)),
         Ent.mk (Loc.sl aoL capL) (SObj.vecL (112 : TypeId) 2 encR L (RGrp.mk (ByteArray.mk #[]) (@none Addr) 0 [])),
         Ent.mk (Loc.sl aoN capN) (SObj.vecL (9 : TypeId) 1 encS nt ByteArray.empty), pk 0 rest]
        (SV.tuple [SV.int IntKind.i64 (↑i : Int), SV.bool (sEq (List.getD L (Int.toNat (↑i : Int)) (RGrp.mk (ByteArray.mk #[]) (@none Addr) 0 [])).1 name)])
   | false =>
    N
     [Ent.mk (Loc.blk b) (SObj.cells [SV.vec 1 aoL (List.length L) capL, SV.vec 2 aoN (List.length nt) capN] (103 : TypeId)),
      Ent.mk (Loc.sl aoL capL) (SObj.vecL (112 : TypeId) 2 encR L (RGrp.mk (ByteArray.mk #[]) (@none Addr) 0 [])),
      Ent.mk (Loc.sl aoN capN) (SObj.vecL (9 : TypeId) 1 encS nt ByteArray.empty), pk 0 rest]
     (SV.tuple [SV.int IntKind.i64 (↑i : Int), SV.bool false])) := by kernel_rfl


theorem rMk_start (K : List Frm → Sy → Prop) (N : List Ent → SV → Prop) (r : RG) (b : Nat) (name : ByteArray) : (run Try.prog [(89, adtC rgE ratM)] false [6] K (retP Try.prog Try.f59.results.toList N) 600 [.code (bodyOf Try.f59)] ⟨padTo 50 [.ptr 0 b 0, .str name], [pkA b rgE r]⟩) = (
true = true ∧
 b = b ∧
  ∃ (h : RG = RG),
   AdtIs (fun (s : RG) (b : Nat) ↦ packs (rgE s b)) rgE ∧
    rOk r ∧
     match sEq name (ByteArray.mk #[]) with
     | true => N [pkA b rgE r] (SV.int IntKind.i64 (90 : Int))
     | false =>
      match rHas r.3 name with
      | true => N [pkA b rgE r] (SV.int IntKind.i64 (91 : Int))
      | false =>
       K (frmR [] (bodyOf Try.f59) 6)
        (Sy.mk (SV.ptr 0 b 0 :: (SV.str name :: (SV.raw (Value.tuple #[]) :: (SV.raw (Value.tuple #[]) :: (SV.int IntKind.i64 (0 : Int) :: (SV.int IntKind.i64 (↑(rAt r.3 name) : Int) :: (SV.bool (rHas r.3 name) :: (SV.tuple [SV.int IntKind.i64 (↑(rAt r.3 name) : Int), SV.bool (rHas r.3 name)] :: (SV.ptr 0 b 0 :: (SV.str name :: (SV.tuple [SV.int IntKind.i64 (↑(rAt r.3 name) : Int), SV.bool (rHas r.3 name)] :: (SV.int IntKind.i64 (↑(rAt r.3 name) : Int) :: (SV.bool (rHas r.3 name) :: (SV.bool false :: (SV.str name :: (SV.bool (sEq name (ByteArray.mk #[])) :: (SV.bool false :: (SV.bool (rHas r.3 name) :: (rawE [] 32)))))))))))))))))))
         [pkA b rgE r])) := by kernel_rfl


theorem rMk_6 (K : List Frm → Sy → Prop) (N : List Ent → SV → Prop) (aoL : Option Addr) (capL : Nat) (L : List RGrp) (aoN : Option Addr) (capN : Nat) (nt : List ByteArray) (b : Nat) (rest : List Ent) (name : ByteArray) (i : Nat) (u : Nat → Value) : (run Try.prog [] true [] K (retP Try.prog Try.f59.results.toList N) 1500 (frmR [] (bodyOf Try.f59) 6) ⟨mkT u 50 0 [(0, .ptr 0 b 0), (1, .str name), (5, .int .i64 (i : Int))], [⟨.blk b, .cells [.vec 1 aoL (L).length capL, .vec 2 aoN (nt).length capN] 103⟩, ⟨.sl aoL capL, .vecL 112 2 encR (L) zR⟩, ⟨.sl aoN capN, .vecL 9 1 encS (nt) ByteArray.empty⟩, pk 0 rest]⟩) = (
b = b ∧
 (true = true ∧ true = true) ∧
  (true = true ∧ 2 = 2 ∧ 0 < 2 ∧ 2 ≤ 16777216) ∧
   ∀ (b_1 : Nat),
    (aoL = aoL ∧
     capL = capL ∧
      List.length L = List.length L ∧
       some (Addr.mk b_1 0 (@none Nat)) = some (Addr.mk b_1 0 (@none Nat)) ∧
        (112 : TypeId) = 112 ∧
         2 = 2 ∧
          2 = 2 ∧
           0 < 1 ∧ true = true ∧ (List.length L + 1) * 40 ≤ 140737488355328 ∧ List.length L + 1 ≤ 9223372036854775807) ∧
     ∃ (es : List RGrp),
      List.length es = 1 ∧
       denL (List.flatMap encR es) = denL [SV.str (ByteArray.mk #[]), SV.raw (Value.slice (@none Addr) 0 0)] ∧
        ∀ (ao2 : Option Addr) (cap2 : Nat),
         List.length L + 1 ≤ cap2 →
          (b = b ∧ true = true ∧ 1 = 1 ∧ 1 ≤ 2) ∧
           (b = b ∧
            ((0 : Int) ≤ IntKind.wrap IntKind.i64 ((↑i : Int) + (1 : Int)) ∧
             IntKind.wrap IntKind.i64 ((↑i : Int) + (1 : Int)) ≤ (↑(List.length L + 1) : Int) ∧ List.length L + 1 ≤ cap2) ∧
             b = b ∧
              ((0 : Int) ≤ (↑i : Int) ∧ (↑i : Int) ≤ (↑(List.length L + 1) : Int) ∧ List.length L + 1 ≤ cap2) ∧
               (true = true ∧
                ao2 = ao2 ∧
                 cap2 = cap2 ∧
                  ao2 = ao2 ∧
                   cap2 = cap2 ∧
                    2 = 2 ∧
                     2 = 2 ∧
                      2 = 2 ∧
                       (∀ (y : RGrp), true = true) ∧
                        Int.toNat (IntKind.wrap IntKind.i64 ((↑i : Int) + (1 : Int))) ≤ List.length L + 1 ∧
                         List.length L + 1 ≤ List.length (L ++ es) ∧
                          Int.toNat (↑i : Int) ≤ List.length L + 1 ∧ List.length L + 1 ≤ List.length (L ++ es)) ∧
                b = b ∧
                 (true = true ∧ true = true) ∧
                  (ao2 = ao2 ∧
                   cap2 = cap2 ∧
                    List.length L + 1 =
                     List.length
                      (copyL (L ++ es) (Int.toNat (IntKind.wrap IntKind.i64 ((↑i : Int) + (1 : Int)))) (Int.toNat (↑i : Int))
                       (Nat.min (List.length L + 1 - Int.toNat (↑i : Int))
                        (List.length L + 1 - Int.toNat (IntKind.wrap IntKind.i64 ((↑i : Int) + (1 : Int)))))) ∧
                     (0 : Int) ≤ (↑i : Int) ∧ (↑i : Int) < (↑(List.length L + 1) : Int)) ∧
                   (Addr.blkD ao2 = Addr.blkD ao2 ∧
                    Addr.offD ao2 = Addr.offD ao2 ∧
                     2 = 2 ∧
                      Int.toNat (↑i : Int) <
                       List.length
                        (copyL (L ++ es) (Int.toNat (IntKind.wrap IntKind.i64 ((↑i : Int) + (1 : Int)))) (Int.toNat (↑i : Int))
                         (Nat.min (List.length L + 1 - Int.toNat (↑i : Int))
                          (List.length L + 1 - Int.toNat (IntKind.wrap IntKind.i64 ((↑i : Int) + (1 : Int)))))) ∧
                       true = true ∧ 2 = 2 ∧ 2 ≤ 2) ∧
                    ∃ (e : RGrp),
                     denL [SV.str e.1, SV.vec 4 e.ao (List.length e.4) e.3] = denL [SV.str name, SV.raw (Value.slice (@none Addr) 0 0)] ∧
                      N
                       [Ent.mk (Loc.blk b) (SObj.cells [SV.vec 1 ao2 (List.length L + 1) cap2, SV.vec 2 aoN (List.length nt) capN] (103 : TypeId)),
                        Ent.mk (Loc.sl ao2 cap2)
                         (SObj.vecL (112 : TypeId) 2 encR
                          (List.set
                           (copyL (L ++ es) (Int.toNat (IntKind.wrap IntKind.i64 ((↑i : Int) + (1 : Int)))) (Int.toNat (↑i : Int))
                            (Nat.min (List.length L + 1 - Int.toNat (↑i : Int))
                             (List.length L + 1 - Int.toNat (IntKind.wrap IntKind.i64 ((↑i : Int) + (1 : Int))))))
                           (Int.toNat (↑i : Int)) e)
                          (RGrp.mk (ByteArray.mk #[]) (@none Addr) 0 [])),
                        Ent.mk (Loc.sl aoN capN) (SObj.vecL (9 : TypeId) 1 encS nt ByteArray.empty), pk 0 rest,
                        Ent.mk (Loc.blk b_1) (SObj.cells [SV.str (ByteArray.mk #[]), SV.raw (Value.slice (@none Addr) 0 0)] 112)]
                       (SV.int IntKind.i64 (0 : Int))) ∧
            b = b ∧
             ((0 : Int) ≤ (↑i : Int) ∧ (↑i : Int) ≤ (↑(List.length L + 1) : Int) ∧ List.length L + 1 ≤ cap2) ∧
              b = b ∧
               ((0 : Int) ≤ IntKind.wrap IntKind.i64 ((↑i : Int) + (1 : Int)) ∧
                IntKind.wrap IntKind.i64 ((↑i : Int) + (1 : Int)) ≤ (↑(List.length L + 1) : Int) ∧ List.length L + 1 ≤ cap2) ∧
                (true = true ∧
                 ao2 = ao2 ∧
                  cap2 = cap2 ∧
                   ao2 = ao2 ∧
                    cap2 = cap2 ∧
                     2 = 2 ∧
                      2 = 2 ∧
                       2 = 2 ∧
                        (∀ (y : RGrp), true = true) ∧
                         Int.toNat (IntKind.wrap IntKind.i64 ((↑i : Int) + (1 : Int))) ≤ List.length L + 1 ∧
                          List.length L + 1 ≤ List.length (L ++ es) ∧
                           Int.toNat (↑i : Int) ≤ List.length L + 1 ∧ List.length L + 1 ≤ List.length (L ++ es)) ∧
                 b = b ∧
                  (true = true ∧ true = true) ∧
                   (ao2 = ao2 ∧
                    cap2 = cap2 ∧
                     List.length L + 1 =
                      List.length
                       (copyL (L ++ es) (Int.toNat (IntKind.wrap IntKind.i64 ((↑i : Int) + (1 : Int)))) (Int.toNat (↑i : Int))
                        (Nat.min (List.length L + 1 - Int.toNat (↑i : Int))
                         (List.length L + 1 - Int.toNat (IntKind.wrap IntKind.i64 ((↑i : Int) + (1 : Int)))))) ∧
                      (0 : Int) ≤ (↑i : Int) ∧ (↑i : Int) < (↑(List.length L + 1) : Int)) ∧
                    (Addr.blkD ao2 = Addr.blkD ao2 ∧
                     Addr.offD ao2 = Addr.offD ao2 ∧
                      2 = 2 ∧
                       Int.toNat (↑i : Int) <
                        List.length
                         (copyL (L ++ es) (Int.toNat (IntKind.wrap IntKind.i64 ((↑i : Int) + (1 : Int)))) (Int.toNat (↑i : Int))
                          (Nat.min (List.length L + 1 - Int.toNat (↑i : Int))
                           (List.length L + 1 - Int.toNat (IntKind.wrap IntKind.i64 ((↑i : Int) + (1 : Int)))))) ∧
                        true = true ∧ 2 = 2 ∧ 2 ≤ 2) ∧
                     ∃ (e : RGrp),
                      denL [SV.str e.1, SV.vec 4 e.ao (List.length e.4) e.3] = denL [SV.str name, SV.raw (Value.slice (@none Addr) 0 0)] ∧
                       N
                        [Ent.mk (Loc.blk b) (SObj.cells [SV.vec 1 ao2 (List.length L + 1) cap2, SV.vec 2 aoN (List.length nt) capN] (103 : TypeId)),
                         Ent.mk (Loc.sl ao2 cap2)
                          (SObj.vecL (112 : TypeId) 2 encR
                           (List.set
                            (copyL (L ++ es) (Int.toNat (IntKind.wrap IntKind.i64 ((↑i : Int) + (1 : Int)))) (Int.toNat (↑i : Int))
                             (Nat.min (List.length L + 1 - Int.toNat (↑i : Int))
                              (List.length L + 1 - Int.toNat (IntKind.wrap IntKind.i64 ((↑i : Int) + (1 : Int))))))
                            (Int.toNat (↑i : Int)) e)
                           (RGrp.mk (ByteArray.mk #[]) (@none Addr) 0 [])),
                         Ent.mk (Loc.sl aoN capN) (SObj.vecL (9 : TypeId) 1 encS nt ByteArray.empty), pk 0 rest,
                         Ent.mk (Loc.blk b_1) (SObj.cells [SV.str (ByteArray.mk #[]), SV.raw (Value.slice (@none Addr) 0 0)] 112)]
                        (SV.int IntKind.i64 (0 : Int))) := by kernel_rfl


theorem rFg_start (K : List Frm → Sy → Prop) (N : List Ent → SV → Prop) (aoL : Option Addr) (capL : Nat) (L : List RGrp) (aoN : Option Addr) (capN : Nat) (nt : List ByteArray) (b : Nat) (rest : List Ent) (name : ByteArray) : (run Try.prog [] false [] K (retP Try.prog Try.f92.results.toList N) 600 [.code (bodyOf Try.f92)] ⟨padTo 38 [.ptr 0 b 0, .str name], [⟨.blk b, .cells [.vec 1 aoL (L).length capL, .vec 2 aoN (nt).length capN] 103⟩, ⟨.sl aoL capL, .vecL 112 2 encR (L) zR⟩, ⟨.sl aoN capN, .vecL 9 1 encS (nt) ByteArray.empty⟩, pk 0 rest]⟩) = (
K (frm [] (bodyOf Try.f92) [1, 0, 1, 0] [])
 (Sy.mk (SV.ptr 0 b 0 :: (SV.str name :: (SV.raw (Value.tuple #[]) :: (SV.raw (Value.tuple #[]) :: (SV.raw (Value.slice (@none Addr) 0 0) :: (SV.int IntKind.i64 (0 : Int) :: (rawE [] 32)))))))
  [Ent.mk (Loc.blk b) (SObj.cells [SV.vec 1 aoL (List.length L) capL, SV.vec 2 aoN (List.length nt) capN] (103 : TypeId)),
   Ent.mk (Loc.sl aoL capL) (SObj.vecL (112 : TypeId) 2 encR L (RGrp.mk (ByteArray.mk #[]) (@none Addr) 0 [])),
   Ent.mk (Loc.sl aoN capN) (SObj.vecL (9 : TypeId) 1 encS nt ByteArray.empty), pk 0 rest])) := by kernel_rfl


theorem rFg_body (K : List Frm → Sy → Prop) (N : List Ent → SV → Prop) (J : Act → World → Prop) (aoL : Option Addr) (capL : Nat) (L : List RGrp) (aoN : Option Addr) (capN : Nat) (nt : List ByteArray) (b : Nat) (rest : List Ent) (name : ByteArray) (i : Nat) (got : List ByteArray) (ag : Option Addr) (cg : Nat) (u : Nat → Value) : (run Try.prog [] false [] K (retP Try.prog Try.f92.results.toList N) 1200 (frm [J] (bodyOf Try.f92) [1, 0, 1, 0, 0] []) ⟨mkT u 38 0 [(0, .ptr 0 b 0), (1, .str name), (4, .vec 4 ag got.length cg), (5, .int .i64 (i : Int))], [⟨.blk b, .cells [.vec 1 aoL (L).length capL, .vec 2 aoN (nt).length capN] 103⟩, ⟨.sl aoL capL, .vecL 112 2 encR (L) zR⟩, ⟨.sl aoN capN, .vecL 9 1 encS (nt) ByteArray.empty⟩, pk 0 rest, ⟨.sl ag cg, .vecL 9 1 encS (got) ByteArray.empty⟩]⟩) = (
b = b ∧
 match decide ((↑i : Int) < (↑(List.length nt) : Int)) with
 | true =>
  b = b ∧
   (aoN = aoN ∧ capN = capN ∧ List.length nt = List.length nt ∧ (0 : Int) ≤ (↑i : Int) ∧ (↑i : Int) < (↑(List.length nt) : Int)) ∧
    (Addr.blkD aoN = Addr.blkD aoN ∧ Addr.offD aoN = Addr.offD aoN ∧ 1 = 1 ∧ Int.toNat (↑i : Int) < List.length nt) ∧
     match !sEq (List.getD nt (Int.toNat (↑i : Int)) ByteArray.empty) name with
     | true =>
      b = b ∧
       (aoN = aoN ∧ capN = capN ∧ List.length nt = List.length nt ∧ (0 : Int) ≤ (↑i : Int) ∧ (↑i : Int) < (↑(List.length nt) : Int)) ∧
        (Addr.blkD aoN = Addr.blkD aoN ∧ Addr.offD aoN = Addr.offD aoN ∧ 1 = 1 ∧ Int.toNat (↑i : Int) < List.length nt) ∧
         (true = true ∧ 1 = 1 ∧ 0 < 1 ∧ 1 ≤ 16777216) ∧
          ∀ (b_1 : Nat),
           (ag = ag ∧
            cg = cg ∧
             List.length got = List.length got ∧
              some (Addr.mk b_1 0 (@none Nat)) = some (Addr.mk b_1 0 (@none Nat)) ∧
               (9 : TypeId) = 9 ∧
                1 = 1 ∧
                 1 = 1 ∧
                  0 < 1 ∧
                   true = true ∧ (List.length got + 1) * 16 ≤ 140737488355328 ∧ List.length got + 1 ≤ 9223372036854775807) ∧
            ∃ (es : List ByteArray),
             List.length es = 1 ∧
              denL (List.flatMap encS es) = denL [SV.str (List.getD nt (Int.toNat (↑i : Int)) ByteArray.empty)] ∧
               ∀ (ao2 : Option Addr) (cap2 : Nat),
                List.length got + 1 ≤ cap2 →
                 K (Frm.loop J :: Frm.blk 0 :: frmR [] (bodyOf Try.f92) 6)
                  (Sy.mk (SV.ptr 0 b 0 :: (SV.str name :: (SV.raw (u 2) :: (SV.raw (u 3) :: (SV.vec 4 ao2 (List.length got + 1) cap2 :: (SV.int IntKind.i64 (IntKind.wrap IntKind.i64 ((↑i : Int) + (1 : Int))) :: (SV.int IntKind.i64 (↑i : Int) :: (SV.ptr 0 b 0 :: (SV.ptr 0 b 0 :: (SV.ptr 0 b 1 :: (SV.vec 2 aoN (List.length nt) capN :: (SV.int IntKind.i64 (↑(List.length nt) : Int) :: (SV.bool true :: (SV.int IntKind.i64 (↑i : Int) :: (SV.int IntKind.i64 (IntKind.wrap IntKind.i64 ((↑i : Int) + (1 : Int))) :: (SV.ptr 0 b 0 :: (SV.ptr 0 b 0 :: (SV.ptr 0 b 1 :: (SV.vec 2 aoN (List.length nt) capN :: (SV.int IntKind.i64 (↑i : Int) :: (SV.eptr 2 (Addr.blkD aoN) (Addr.offD aoN) 1 (Int.toNat (↑i : Int)) 0 :: (SV.str (List.getD nt (Int.toNat (↑i : Int)) ByteArray.empty) :: (SV.str name :: (SV.bool true :: (SV.vec 4 ag (List.length got) cg :: (SV.ptr 0 b 0 :: (SV.ptr 0 b 0 :: (SV.ptr 0 b 1 :: (SV.vec 2 aoN (List.length nt) capN :: (SV.int IntKind.i64 (↑i : Int) :: (SV.eptr 2 (Addr.blkD aoN) (Addr.offD aoN) 1 (Int.toNat (↑i : Int)) 0 :: (SV.str (List.getD nt (Int.toNat (↑i : Int)) ByteArray.empty) :: (SV.vec 5 (some (Addr.mk b_1 0 (@none Nat))) 1 1 :: (SV.vec 4 ao2 (List.length got + 1) cap2 :: (rawR u 34 [] 4)))))))))))))))))))))))))))))))))))
                   [Ent.mk (Loc.blk b) (SObj.cells [SV.vec 1 aoL (List.length L) capL, SV.vec 2 aoN (List.length nt) capN] (103 : TypeId)),
                    Ent.mk (Loc.sl aoL capL) (SObj.vecL (112 : TypeId) 2 encR L (RGrp.mk (ByteArray.mk #[]) (@none Addr) 0 [])),
                    Ent.mk (Loc.sl aoN capN) (SObj.vecL (9 : TypeId) 1 encS nt ByteArray.empty), pk 0 rest,
                    Ent.mk (Loc.sl ao2 cap2) (SObj.vecL (9 : TypeId) 1 encS (got ++ es) ByteArray.empty),
                    Ent.mk (Loc.blk b_1) (SObj.cells [SV.str (List.getD nt (Int.toNat (↑i : Int)) ByteArray.empty)] 9)])
     | false =>
      K (Frm.loop J :: Frm.blk 0 :: frmR [] (bodyOf Try.f92) 6)
       (Sy.mk (SV.ptr 0 b 0 :: (SV.str name :: (SV.raw (u 2) :: (SV.raw (u 3) :: (SV.vec 4 ag (List.length got) cg :: (SV.int IntKind.i64 (IntKind.wrap IntKind.i64 ((↑i : Int) + (1 : Int))) :: (SV.int IntKind.i64 (↑i : Int) :: (SV.ptr 0 b 0 :: (SV.ptr 0 b 0 :: (SV.ptr 0 b 1 :: (SV.vec 2 aoN (List.length nt) capN :: (SV.int IntKind.i64 (↑(List.length nt) : Int) :: (SV.bool true :: (SV.int IntKind.i64 (↑i : Int) :: (SV.int IntKind.i64 (IntKind.wrap IntKind.i64 ((↑i : Int) + (1 : Int))) :: (SV.ptr 0 b 0 :: (SV.ptr 0 b 0 :: (SV.ptr 0 b 1 :: (SV.vec 2 aoN (List.length nt) capN :: (SV.int IntKind.i64 (↑i : Int) :: (SV.eptr 2 (Addr.blkD aoN) (Addr.offD aoN) 1 (Int.toNat (↑i : Int)) 0 :: (SV.str (List.getD nt (Int.toNat (↑i : Int)) ByteArray.empty) :: (SV.str name :: (SV.bool false :: (rawR u 24 [] 14)))))))))))))))))))))))))
        [Ent.mk (Loc.blk b) (SObj.cells [SV.vec 1 aoL (List.length L) capL, SV.vec 2 aoN (List.length nt) capN] (103 : TypeId)),
         Ent.mk (Loc.sl aoL capL) (SObj.vecL (112 : TypeId) 2 encR L (RGrp.mk (ByteArray.mk #[]) (@none Addr) 0 [])),
         Ent.mk (Loc.sl aoN capN) (SObj.vecL (9 : TypeId) 1 encS nt ByteArray.empty), pk 0 rest,
         Ent.mk (Loc.sl ag cg) (SObj.vecL (9 : TypeId) 1 encS got ByteArray.empty)])
 | false =>
  (b = b ∧ true = true ∧ 1 = 1 ∧ 2 ≤ 2) ∧
   N
    [Ent.mk (Loc.blk b) (SObj.cells [SV.vec 1 aoL (List.length L) capL, SV.vec 4 ag (List.length got) cg] (103 : TypeId)),
     Ent.mk (Loc.sl aoL capL) (SObj.vecL (112 : TypeId) 2 encR L (RGrp.mk (ByteArray.mk #[]) (@none Addr) 0 [])),
     Ent.mk (Loc.sl aoN capN) (SObj.vecL (9 : TypeId) 1 encS nt ByteArray.empty), pk 0 rest, Ent.mk (Loc.sl ag cg) (SObj.vecL (9 : TypeId) 1 encS got ByteArray.empty)]
    (SV.tuple [])) := by kernel_rfl
end Go.Proofs.Ytihajdkipkfiiaa

/- YtihajdkipkfiiaaRg1 -/
/- The document's groups: at, Make, forget. -/
namespace Go.Proofs.Ytihajdkipkfiiaa
open Go Go.RowKit
set_option linter.unusedVariables false
set_option linter.unusedSimpArgs false
set_option linter.unnecessarySimpa false
set_option maxHeartbeats 0

theorem hmR : Try.prog.follows .mixedOrders = true := by kernel_rfl
theorem tw_len {α : Type} (p : α → Bool) : ∀ (l : List α) (i : Nat), i ≤ l.length → (∀ x ∈ l.take i, p x = true) → (∀ h : i < l.length, p l[i] = false) → (l.takeWhile p).length = i
  | [], i, h, _, _ => by
    have : i = 0 := by simpa using h
    subst this; rfl
  | x :: l, 0, _, _, h2 => by
    have := h2 (by simp)
    simp only [List.getElem_cons_zero] at this
    rw [List.takeWhile_cons, if_neg (by rw [this]; decide)]
    rfl
  | x :: l, i + 1, h, h1, h2 => by
    have hx : p x = true := h1 x (by simp)
    have ih := tw_len p l i (by simpa using h) (fun y hy => h1 y (by simp [hy])) (fun hlt => by
      have := h2 (by simpa using hlt)
      simpa using this)
    rw [List.takeWhile_cons, if_pos hx, List.length_cons, ih]
theorem tw_le {α : Type} (p : α → Bool) (l : List α) : (l.takeWhile p).length ≤ l.length := (List.takeWhile_prefix _).length_le
theorem rAt_le (L : List RGrp) (n : ByteArray) : rAt L n ≤ L.length := tw_le _ _
theorem getD_ltR {α : Type} (l : List α) (d : α) (i : Nat) (h : i < l.length) : l.getD i d = l[i] := by simp [List.getD, h]
theorem copy_ins {α : Type} (L : List α) (z new : α) (i : Nat) (h : i ≤ L.length) : (copyL (L ++ [z]) (i + 1) i (Nat.min (L.length + 1 - i) (L.length + 1 - (i + 1)))).set i new = L.take i ++ new :: L.drop i := by
  have hm : Nat.min (L.length + 1 - i) (L.length + 1 - (i + 1)) = L.length - i := by
    have := Nat.min_eq_right (a := L.length + 1 - i) (b := L.length + 1 - (i + 1)) (by omega)
    have h2 : L.length + 1 - (i + 1) = L.length - i := by omega
    rw [← h2]; exact this
  rw [hm]
  obtain ⟨x, y, rfl, hx⟩ : ∃ x y, L = x ++ y ∧ x.length = i := ⟨L.take i, L.drop i, (List.take_append_drop i L).symm, by simp; omega⟩
  subst hx
  obtain ⟨a, ha⟩ : ∃ a, (y ++ [z]).take 1 = [a] := by cases y <;> exact ⟨_, rfl⟩
  have e1 : ((x ++ y) ++ [z]).take (x.length + 1) = x ++ [a] := by
    rw [List.append_assoc, List.take_append, List.take_of_length_le (by omega), show x.length + 1 - x.length = 1 by omega, ha]
  have e2 : ((x ++ y) ++ [z]).drop x.length = y ++ [z] := by rw [List.append_assoc, List.drop_left]
  have e3 : (x ++ y).length - x.length = y.length := by simp
  have e4 : ((x ++ y) ++ [z]).drop (x.length + 1 + y.length) = [] := List.drop_of_length_le (by simp; omega)
  unfold copyL
  rw [e1, e2, e3, List.take_left, e4, List.append_nil, List.take_left, List.drop_left, List.append_assoc]
  rw [List.set_append_right _ _ (Nat.le_refl _)]
  simp
theorem set_split {α : Type} (l : List α) (i : Nat) (a : α) (h : i < l.length) : l.set i a = l.take i ++ a :: l.drop (i + 1) := List.set_eq_take_append_cons_drop.trans (by rw [if_pos h])
section
variable {W w : World} {F : List Ch} {r : RG} {b i : Nat}
theorem rg_open (hi : i < r.L.length) (hr : Rep W F (rgE r b) w) : Rep W F [⟨.blk b, .cells [.vec 1 r.aoL (r.L).length r.capL, .vec 2 r.aoN (r.notes).length r.capN] 103⟩, ⟨.sl r.aoL r.capL, .vecL 112 2 encR (r.L) zR⟩, ⟨.sl r.aoN r.capN, .vecL 9 1 encS (r.notes) ByteArray.empty⟩, pk 0 ((r.L.take i).map pidE ++ (r.L.drop (i + 1)).map pidE), pidE r.L[i]] w := by
  have e : r.L.map pidE = (r.L.take i).map pidE ++ pidE r.L[i] :: (r.L.drop (i + 1)).map pidE := by
    rw [← List.map_cons, ← List.map_append]
    congr 1
    rw [← List.drop_eq_getElem_cons hi, List.take_append_drop]
  unfold rgE at hr
  rw [e] at hr
  have h1 := Rep.outP (p := [⟨.blk b, .cells [.vec 1 r.aoL (r.L).length r.capL, .vec 2 r.aoN (r.notes).length r.capN] 103⟩, ⟨.sl r.aoL r.capL, .vecL 112 2 encR (r.L) zR⟩, ⟨.sl r.aoN r.capN, .vecL 9 1 encS (r.notes) ByteArray.empty⟩]) (t := []) hr
  exact Rep.pick (π := [0, 1, 2, 4, 3]) (by decide) rfl h1
theorem rg_close {a1 a2 a3 : Ent} {g : RGrp} {L : List RGrp} (hi : i < L.length) (hr : Rep W F [a1, a2, a3, pk 0 ((L.take i).map pidE ++ (L.drop (i + 1)).map pidE), pidE g] w) : Rep W F [a1, a2, a3, pk 0 ((L.set i g).map pidE)] w := by
  have h0 := Rep.pick (π := [0, 1, 2, 4, 3]) (by decide) rfl hr
  have h1 := Rep.intoP (p := [a1, a2, a3]) (t := []) (e := pidE g) h0
  have e : (L.set i g).map pidE = (L.take i).map pidE ++ pidE g :: (L.drop (i + 1)).map pidE := by rw [set_split _ _ _ hi]; simp
  rw [e]; exact h1
theorem set_selfL {α : Type} (l : List α) (i : Nat) (h : i < l.length) : l.set i l[i] = l := List.set_getElem_self h
end
theorem rAt_ok : CtrOk Try.prog 89 (adtC rgE ratM) := adt_ok fun b r rest N h => by
  unfold ratM at h
  split at h
  case h_2 => exact h.elim
  rename_i name
  obtain ⟨ho, h⟩ := h
  have hL := ho.1
  refine Spec.pre (hs' := [⟨.blk b, .cells [.vec 1 r.aoL (r.L).length r.capL, .vec 2 r.aoN (r.notes).length r.capN] 103⟩, ⟨.sl r.aoL r.capL, .vecL 112 2 encR (r.L) zR⟩, ⟨.sl r.aoN r.capN, .vecL 9 1 encS (r.notes) ByteArray.empty⟩, pk 0 (r.L.map pidE)]) (args' := [.ptr 0 b 0, .str name]) (fun W F w hr => hr) rfl ?_
  refine Spec.of_G 48 Try.func89 (c := bodyOf Try.f89) (by kernel_rfl) (by kernel_rfl) (Nat.le_of_ble_eq_true rfl) fun W F => ?_
  refine G_run (kc := false) (ss := []) (Cs := []) trivial hmR 600 ?_
  rw [rAt_start]
  refine G_loopAt (ι := Nat) [] (bodyOf Try.f89) [1, 1, 0, 0] 48 (fun i => [(0, .ptr 0 b 0), (1, .str name), (6, .int .i64 (i : Int))]) (fun _ => [⟨.blk b, .cells [.vec 1 r.aoL (r.L).length r.capL, .vec 2 r.aoN (r.notes).length r.capN] 103⟩, ⟨.sl r.aoL r.capL, .vecL 112 2 encR (r.L) zR⟩, ⟨.sl r.aoN r.capN, .vecL 9 1 encS (r.notes) ByteArray.empty⟩, pk 0 (r.L.map pidE)]) (fun i => i ≤ r.L.length ∧ ∀ g ∈ r.L.take i, sLt g.name name = true) (fun i => r.L.length - i) 0 (by kernel_rfl) (fun J => by kernel_rfl) ⟨Nat.zero_le _, fun g hg => by simp at hg⟩ rfl ⟨rfl, rfl, rfl, trivial⟩ (fun w hw => hw) ?_
  rintro i ⟨hi, hv⟩ u
  try dsimp only at hi hv ⊢
  simp only [List.nil_append, List.cons_append]
  refine G_run (kc := true) (ss := []) (Cs := []) trivial hmR 900 ?_
  rw [rAt_body]
  have w1 : IntKind.wrap .i64 ((i : Int) + 1) = ((i + 1 : Nat) : Int) := IntWalk.i64_in _ (by omega)
  rw [Int.toNat_natCast]
  refine ⟨rfl, ?_⟩
  cases hlt : decide ((i : Int) < (r.L.length : Int)) with
  | false =>
    simp only [decide_eq_false_iff_not] at hlt
    have e : rAt r.L name = i := tw_len _ _ _ hi hv fun h => by omega
    refine ⟨rfl, r, fun W F w hr => hr, ?_⟩
    have h2 : rHas r.L name = false := by
      unfold rHas
      rw [e, decide_eq_false (by omega)]; rfl
    rw [e, h2] at h
    exact h
  | true =>
    simp only [decide_eq_true_eq] at hlt
    have hi2 : i < r.L.length := by omega
    have hg : ∀ d, r.L.getD i d = r.L[i] := fun d => getD_ltR _ _ _ hi2
    rw [hg]
    refine ⟨rfl, ⟨rfl, rfl, rfl, by omega, by omega⟩, ⟨rfl, rfl, rfl, hi2⟩, ?_⟩
    cases hc : sLt r.L[i].name name with
    | true =>
      refine G_back (i + 1) ⟨hi2, fun g hgm => ?_⟩ (by omega) rfl ⟨rfl, rfl, congrArg (Value.int .i64) w1, trivial⟩ (fun w hw => hw)
      rw [List.take_succ_eq_append_getElem hi2] at hgm
      rcases List.mem_append.1 hgm with hgm | hgm
      · exact hv g hgm
      · rw [List.mem_singleton.1 hgm]; exact hc
    | false =>
      have e : rAt r.L name = i := tw_len _ _ _ hi hv fun _ => hc
      have h2 : rHas r.L name = sEq r.L[i].name name := by
        unfold rHas
        rw [e, decide_eq_true hi2, hg]; rfl
      rw [e, h2] at h
      exact ⟨rfl, rfl, ⟨rfl, rfl, rfl, by omega, by omega⟩, ⟨rfl, rfl, rfl, hi2⟩, r, fun W F w hr => hr, h⟩
theorem rMk_ok : CtrOk Try.prog 59 (adtC rgE rmakeM) := adt_ok fun b r rest N h => by
  unfold rmakeM at h
  split at h
  case h_2 => exact h.elim
  rename_i name
  obtain ⟨ho, h⟩ := h
  have hL := ho.1
  refine Spec.pre (hs' := [pkA b rgE r]) (args' := [.ptr 0 b 0, .str name]) (fun W F w hr => Rep.pkA1 hr) rfl ?_
  refine Spec.of_G 50 Try.func59 (c := bodyOf Try.f59) (by kernel_rfl) (by kernel_rfl) (Nat.le_of_ble_eq_true rfl) fun W F => ?_
  refine G_run (kc := false) (ss := [6]) (Cs := [(89, adtC rgE ratM)]) ⟨rAt_ok, trivial⟩ hmR 600 ?_
  rw [rMk_start]
  refine ⟨rfl, rfl, rfl, HEq.rfl, ho, ?_⟩
  unfold rMake at h
  cases hn : sEq name ⟨#[]⟩ with
  | true =>
    rw [hn] at h
    exact ⟨r, fun W F w hr => hr.unpkA1, h none 0⟩
  | false =>
    rw [hn] at h
    cases hh : rHas r.L name with
    | true =>
      rw [hh] at h
      exact ⟨r, fun W F w hr => hr.unpkA1, h none 0⟩
    | false =>
      rw [hh] at h
      dsimp only at h ⊢
      refine G_live 50 [(0, .ptr 0 b 0), (1, .str name), (5, .int .i64 (rAt r.L name : Int))] [⟨.blk b, .cells [.vec 1 r.aoL (r.L).length r.capL, .vec 2 r.aoN (r.notes).length r.capN] 103⟩, ⟨.sl r.aoL r.capL, .vecL 112 2 encR (r.L) zR⟩, ⟨.sl r.aoN r.capN, .vecL 9 1 encS (r.notes) ByteArray.empty⟩, pk 0 (r.L.map pidE)] rfl ⟨rfl, rfl, rfl, trivial⟩ (fun w hr => hr.unpkA1) fun u => ?_
      refine G_run (kc := true) (ss := []) (Cs := []) trivial hmR 1500 ?_
      rw [rMk_6]
      have hi := rAt_le r.L name
      generalize rAt r.L name = i at hi h ⊢
      have w1 : IntKind.wrap .i64 ((i : Int) + 1) = ((i + 1 : Nat) : Int) := IntWalk.i64_in _ (by omega)
      rw [w1, Int.toNat_natCast, Int.toNat_natCast]
      have hcl := copy_ins r.L zR ⟨name, none, 0, []⟩ i hi
      have hcn : (copyL (r.L ++ [zR]) (i + 1) i (Nat.min (r.L.length + 1 - i) (r.L.length + 1 - (i + 1)))).length = r.L.length + 1 := by
        have := congrArg List.length hcl
        rw [List.length_set] at this
        rw [this]; simp; omega
      have fin : ∀ (ao2 : Option Addr) (cap2 : Nat) (e4 : Ent), (fun h' res => ∃ r', (∀ W F w, Rep W F h' w → Rep W F (rgE r' b) w) ∧ N r' res) [⟨.blk b, .cells [.vec 1 ao2 (r.L.length + 1) cap2, .vec 2 r.aoN r.notes.length r.capN] 103⟩, ⟨.sl ao2 cap2, .vecL 112 2 encR ((copyL (r.L ++ [zR]) (i + 1) i (Nat.min (r.L.length + 1 - i) (r.L.length + 1 - (i + 1)))).set i ⟨name, none, 0, []⟩) zR⟩, ⟨.sl r.aoN r.capN, .vecL 9 1 encS (r.notes) ByteArray.empty⟩, pk 0 (r.L.map pidE), e4] (.int .i64 0) := fun ao2 cap2 e4 => by
        refine ⟨_, fun W F w hr => ?_, h ao2 cap2⟩
        have h1 := Rep.pick (π := [0, 1, 2, 3]) (by decide) rfl hr
        rw [hcl] at h1
        have em : r.L.map pidE = (r.L.take i).map pidE ++ (r.L.drop i).map pidE := by rw [← List.map_append, List.take_append_drop]
        rw [em] at h1
        have h3 := Rep.nilvec 3 (sz := 1) (enc := encI1) 0 (fun _ => rfl) h1
        have h4 := Rep.pick (π := [0, 1, 2, 4, 3]) (by decide) rfl h3
        have h5 := Rep.intoP (t := []) (e := pidE ⟨name, none, 0, []⟩) (p := [_, _, _]) h4
        unfold rgE
        have e5 : (r.L.take i ++ (⟨name, none, 0, []⟩ : RGrp) :: r.L.drop i).map pidE = (r.L.take i).map pidE ++ pidE ⟨name, none, 0, []⟩ :: (r.L.drop i).map pidE := by simp
        have e6 : (r.L.take i ++ (⟨name, none, 0, []⟩ : RGrp) :: r.L.drop i).length = r.L.length + 1 := by simp; omega
        dsimp only
        rw [e5, e6]
        exact h5
      repeat' first
        | exact rfl
        | exact fin _ _ _
        | (refine ⟨[zR], rfl, rfl, fun ao2 cap2 _ => ?_⟩)
        | (refine ⟨⟨name, none, 0, []⟩, rfl, ?_⟩)
        | exact (hcn.symm)
        | (rw [show (⟨⟨#[]⟩, none, 0, []⟩ : RGrp) = zR from rfl]; rw [hcn]; omega)
        | (rw [List.length_append]; simp; omega)
        | apply And.intro
        | (refine fun _ => ?_)
        | (show _ ≤ _; omega)
        | (show _ < _; omega)
        | fail
theorem rFg_ok : CtrOk Try.prog 92 (adtC rgE rforgetM) := adt_ok fun b r rest N h => by
  unfold rforgetM at h
  split at h
  case h_2 => exact h.elim
  rename_i name
  obtain ⟨ho, h⟩ := h
  have hN := ho.2.1
  refine Spec.pre (hs' := [⟨.blk b, .cells [.vec 1 r.aoL (r.L).length r.capL, .vec 2 r.aoN (r.notes).length r.capN] 103⟩, ⟨.sl r.aoL r.capL, .vecL 112 2 encR (r.L) zR⟩, ⟨.sl r.aoN r.capN, .vecL 9 1 encS (r.notes) ByteArray.empty⟩, pk 0 (r.L.map pidE)]) (args' := [.ptr 0 b 0, .str name]) (fun W F w hr => hr) rfl ?_
  refine Spec.of_G 38 Try.func92 (c := bodyOf Try.f92) (by kernel_rfl) (by kernel_rfl) (Nat.le_of_ble_eq_true rfl) fun W F => ?_
  refine G_run (kc := false) (ss := []) (Cs := []) trivial hmR 600 ?_
  rw [rFg_start]
  refine G_loopAt (ι := Nat × Option Addr × Nat × List ByteArray) [] (bodyOf Try.f92) [1, 0, 1, 0] 38 (fun x => [(0, .ptr 0 b 0), (1, .str name), (4, .vec 4 x.2.1 x.2.2.2.length x.2.2.1), (5, .int .i64 (x.1 : Int))]) (fun x => [⟨.blk b, .cells [.vec 1 r.aoL (r.L).length r.capL, .vec 2 r.aoN (r.notes).length r.capN] 103⟩, ⟨.sl r.aoL r.capL, .vecL 112 2 encR (r.L) zR⟩, ⟨.sl r.aoN r.capN, .vecL 9 1 encS (r.notes) ByteArray.empty⟩, pk 0 (r.L.map pidE), ⟨.sl x.2.1 x.2.2.1, .vecL 9 1 encS (x.2.2.2) ByteArray.empty⟩]) (fun x => x.1 ≤ r.notes.length ∧ x.2.2.2 = (r.notes.take x.1).filter fun y => !sEq y name) (fun x => r.notes.length - x.1) (0, none, 0, []) (by kernel_rfl) (fun J => by kernel_rfl) ⟨Nat.zero_le _, rfl⟩ rfl ⟨rfl, rfl, rfl, rfl, trivial⟩ (fun w hw => Rep.nilvec 9 (sz := 1) (enc := encS) ByteArray.empty (fun _ => rfl) hw) ?_
  rintro ⟨i, ag, cg, got⟩ ⟨hi, hv⟩ u
  dsimp only at hi hv
  try dsimp only
  simp only [List.nil_append, List.cons_append]
  refine G_run (kc := false) (ss := []) (Cs := []) trivial hmR 1200 ?_
  rw [rFg_body]
  have w1 : IntKind.wrap .i64 ((i : Int) + 1) = ((i + 1 : Nat) : Int) := IntWalk.i64_in _ (by omega)
  have hgl : got.length ≤ 1000000 := by
    have h1 := List.length_filter_le (fun y => !sEq y name) (r.notes.take i)
    rw [hv]
    simp at h1
    omega
  rw [Int.toNat_natCast]
  cases hlt : decide ((i : Int) < (r.notes.length : Int)) with
  | false =>
    simp only [decide_eq_false_iff_not] at hlt
    rw [List.take_of_length_le (by omega)] at hv
    subst hv
    have fin := h ag cg
    refine ⟨rfl, ?_⟩
    repeat' first
      | exact rfl
      | (refine ⟨{ r with notes := r.notes.filter (fun y => !sEq y name), aoN := ag, capN := cg }, fun W F w hr => ?_, fin⟩
         have g1 := Rep.pick (π := [0, 1, 4, 3]) (by decide) rfl hr
         exact Rep.cellsEq (l := 0) (cs' := [.vec 1 r.aoL r.L.length r.capL, .vec 2 ag (r.notes.filter fun y => !sEq y name).length cg]) rfl (by rfl) g1)
      | apply And.intro
      | (show _ ≤ _; omega)
      | fail
  | true =>
    simp only [decide_eq_true_eq] at hlt
    have hi2 : i < r.notes.length := by omega
    have hg : ∀ d, r.notes.getD i d = r.notes[i] := fun d => getD_ltR _ _ _ hi2
    rw [hg]
    have hback : ∀ (tm : List SV) (a : Option Addr) (c : Nat) (l : List ByteArray) (x : List Ent), l = ((r.notes.take (i + 1)).filter fun y => !sEq y name) → lenN tm = 38 → liveOk tm [(0, .ptr 0 b 0), (1, .str name), (4, .vec 4 a l.length c), (5, .int .i64 ((i + 1 : Nat) : Int))] → G Try.prog (endQ Try.prog Try.f92 W F (fun h' res => ∃ r', (∀ W F w, Rep W F h' w → Rep W F (rgE r' b) w) ∧ N r' res)) W F (.loop (Back W F 38 (fun x : Nat × Option Addr × Nat × List ByteArray => [(0, .ptr 0 b 0), (1, .str name), (4, .vec 4 x.2.1 x.2.2.2.length x.2.2.1), (5, .int .i64 (x.1 : Int))]) (fun x => [⟨.blk b, .cells [.vec 1 r.aoL (r.L).length r.capL, .vec 2 r.aoN (r.notes).length r.capN] 103⟩, ⟨.sl r.aoL r.capL, .vecL 112 2 encR (r.L) zR⟩, ⟨.sl r.aoN r.capN, .vecL 9 1 encS (r.notes) ByteArray.empty⟩, pk 0 (r.L.map pidE), ⟨.sl x.2.1 x.2.2.1, .vecL 9 1 encS (x.2.2.2) ByteArray.empty⟩]) (fun x => x.1 ≤ r.notes.length ∧ x.2.2.2 = (r.notes.take x.1).filter fun y => !sEq y name) (fun x => r.notes.length - x.1) (r.notes.length - i)) :: .blk 0 :: frm [] (bodyOf Try.f92) [1, 1] []) ⟨tm, [⟨.blk b, .cells [.vec 1 r.aoL (r.L).length r.capL, .vec 2 r.aoN (r.notes).length r.capN] 103⟩, ⟨.sl r.aoL r.capL, .vecL 112 2 encR (r.L) zR⟩, ⟨.sl r.aoN r.capN, .vecL 9 1 encS (r.notes) ByteArray.empty⟩, pk 0 (r.L.map pidE), ⟨.sl a c, .vecL 9 1 encS (l) ByteArray.empty⟩] ++ x⟩ := fun tm a c l x hl g1 g2 =>
      G_back (i + 1, a, c, l) ⟨hi2, hl⟩ (by dsimp only; omega) g1 g2 (fun w hw => Rep.dropR hw)
    have hnx : ((r.notes.take (i + 1)).filter fun y => !sEq y name) = got ++ if sEq r.notes[i] name then [] else [r.notes[i]] := by
      rw [List.take_succ_eq_append_getElem hi2, List.filter_append, ← hv]
      congr 1
      cases hq : sEq r.notes[i] name <;> simp [List.filter_cons, hq]
    cases hc : sEq r.notes[i] name with
    | true =>
      have hl : got = ((r.notes.take (i + 1)).filter fun y => !sEq y name) := by rw [hnx, hc]; simp
      rw [Bool.not_true]
      repeat' first
        | exact rfl
        | exact hi2
        | exact hback _ _ _ _ [] hl rfl ⟨rfl, rfl, rfl, congrArg (Value.int .i64) w1, trivial⟩
        | apply And.intro
        | (show _ ≤ _; omega)
        | (show _ < _; omega)
        | fail
    | false =>
      have hl : got ++ [r.notes[i]] = ((r.notes.take (i + 1)).filter fun y => !sEq y name) := by rw [hnx, hc]; rfl
      rw [Bool.not_false]
      repeat' first
        | exact rfl
        | exact hi2
        | (refine ⟨[r.notes[i]], rfl, rfl, fun ao2 cap2 _ => ?_⟩)
        | exact hback _ _ _ _ [_] hl rfl ⟨rfl, rfl, by rw [List.length_append]; rfl, congrArg (Value.int .i64) w1, trivial⟩
        | apply And.intro
        | (refine fun b1 => ?_)
        | (show _ ≤ _; omega)
        | (show _ < _; omega)
        | fail
end Go.Proofs.Ytihajdkipkfiiaa

/- YtihajdkipkfiiaaRg2Run -/
namespace Go.Proofs.Ytihajdkipkfiiaa
set_option linter.unusedVariables false
open Go Go.RowKit
set_option maxHeartbeats 0
set_option maxRecDepth 100000
set_option linter.unusedVariables false
set_option maxRecDepth 100000

theorem rRm_start (K : List Frm → Sy → Prop) (N : List Ent → SV → Prop) (r : RG) (b : Nat) (name : ByteArray) : (run Try.prog [(89, adtC rgE ratM)] false [4] K (retP Try.prog Try.f61.results.toList N) 600 [.code (bodyOf Try.f61)] ⟨padTo 48 [.ptr 0 b 0, .str name], [pkA b rgE r]⟩) = (
true = true ∧
 b = b ∧
  ∃ (h : RG = RG),
   AdtIs (fun (s : RG) (b : Nat) ↦ packs (rgE s b)) rgE ∧
    rOk r ∧
     match !rHas r.3 name with
     | true => N [pkA b rgE r] (SV.int IntKind.i64 (90 : Int))
     | false =>
      K (frmR [] (bodyOf Try.f61) 4)
       (Sy.mk (SV.ptr 0 b 0 :: (SV.str name :: (SV.raw (Value.tuple #[]) :: (SV.raw (Value.tuple #[]) :: (SV.int IntKind.i64 (0 : Int) :: (SV.int IntKind.i64 (↑(rAt r.3 name) : Int) :: (SV.bool (rHas r.3 name) :: (SV.tuple [SV.int IntKind.i64 (↑(rAt r.3 name) : Int), SV.bool (rHas r.3 name)] :: (SV.ptr 0 b 0 :: (SV.str name :: (SV.tuple [SV.int IntKind.i64 (↑(rAt r.3 name) : Int), SV.bool (rHas r.3 name)] :: (SV.int IntKind.i64 (↑(rAt r.3 name) : Int) :: (SV.bool (rHas r.3 name) :: (SV.bool false :: (SV.bool (rHas r.3 name) :: ((SV.bool !rHas r.3 name) :: (rawE [] 32)))))))))))))))))
        [pkA b rgE r])) := by kernel_rfl


theorem rRm_4 (K : List Frm → Sy → Prop) (N : List Ent → SV → Prop) (aoL : Option Addr) (capL : Nat) (L : List RGrp) (aoN : Option Addr) (capN : Nat) (nt : List ByteArray) (b : Nat) (rest : List Ent) (name : ByteArray) (i : Nat) (u : Nat → Value) : (run Try.prog [] true [7] K (retP Try.prog Try.f61.results.toList N) 1500 (frmR [] (bodyOf Try.f61) 4) ⟨mkT u 48 0 [(0, .ptr 0 b 0), (1, .str name), (5, .int .i64 (i : Int))], [⟨.blk b, .cells [.vec 1 aoL (L).length capL, .vec 2 aoN (nt).length capN] 103⟩, ⟨.sl aoL capL, .vecL 112 2 encR (L) zR⟩, ⟨.sl aoN capN, .vecL 9 1 encS (nt) ByteArray.empty⟩, pk 0 rest]⟩) = (
b = b ∧
 (aoL = aoL ∧ capL = capL ∧ List.length L = List.length L ∧ (0 : Int) ≤ (↑i : Int) ∧ (↑i : Int) < (↑(List.length L) : Int)) ∧
  (Addr.blkD aoL = Addr.blkD aoL ∧ Addr.offD aoL = Addr.offD aoL ∧ 2 = 2 ∧ Int.toNat (↑i : Int) < List.length L) ∧
   match decide ((↑(List.length (List.getD L (Int.toNat (↑i : Int)) (RGrp.mk (ByteArray.mk #[]) (@none Addr) 0 [])).4) : Int) > (0 : Int)) with
   | true =>
    N
     [Ent.mk (Loc.blk b) (SObj.cells [SV.vec 1 aoL (List.length L) capL, SV.vec 2 aoN (List.length nt) capN] (103 : TypeId)),
      Ent.mk (Loc.sl aoL capL) (SObj.vecL (112 : TypeId) 2 encR L (RGrp.mk (ByteArray.mk #[]) (@none Addr) 0 [])),
      Ent.mk (Loc.sl aoN capN) (SObj.vecL (9 : TypeId) 1 encS nt ByteArray.empty), pk 0 rest]
     (SV.int IntKind.i64 (91 : Int))
   | false =>
    (b = b ∧
     ((0 : Int) ≤ (↑i : Int) ∧ (↑i : Int) ≤ (↑capL : Int)) ∧
      ((aoL = aoL ∧
       capL = capL ∧
        2 = 2 ∧
         2 = 2 ∧
          0 ≤ Int.toNat (↑i : Int) ∧
           Int.toNat (↑i : Int) ≤ List.length L ∧
            (Int.toNat (↑i : Int) - 0) * 40 ≤ 140737488355328 ∧ Int.toNat (↑i : Int) - 0 ≤ 9223372036854775807) ∧
       ∀ (ao2 : Option Addr) (cap2 : Nat),
        Int.toNat (↑i : Int) - 0 ≤ cap2 →
         b = b ∧
          ((0 : Int) ≤ IntKind.wrap IntKind.i64 ((↑i : Int) + (1 : Int)) ∧ IntKind.wrap IntKind.i64 ((↑i : Int) + (1 : Int)) ≤ (↑(List.length L) : Int) ∧ List.length L ≤ capL) ∧
           (ao2 = ao2 ∧
            cap2 = cap2 ∧
             Int.toNat (↑i : Int) - 0 = List.length (List.take (Int.toNat (↑i : Int) - 0) (List.drop 0 L)) ∧
              112 = 112 ∧
               2 = 2 ∧
                aoL = aoL ∧
                 capL = capL ∧
                  2 = 2 ∧
                   2 = 2 ∧
                    Int.toNat (IntKind.wrap IntKind.i64 ((↑i : Int) + (1 : Int))) ≤ List.length L ∧
                     List.length L ≤ List.length L ∧
                      (∀ (y : RGrp), true = true) ∧
                       (Int.toNat (↑i : Int) - 0 + (List.length L - Int.toNat (IntKind.wrap IntKind.i64 ((↑i : Int) + (1 : Int))))) * 40 ≤
                        140737488355328 ∧
                        Int.toNat (↑i : Int) - 0 + (List.length L - Int.toNat (IntKind.wrap IntKind.i64 ((↑i : Int) + (1 : Int)))) ≤
                         9223372036854775807) ∧
            ∃ (es : List RGrp),
             List.length es = List.length L - Int.toNat (IntKind.wrap IntKind.i64 ((↑i : Int) + (1 : Int))) ∧
              denL (List.flatMap encR es) =
               denL
                (List.flatMap encR
                 (List.take (List.length L - Int.toNat (IntKind.wrap IntKind.i64 ((↑i : Int) + (1 : Int))))
                  (List.drop (Int.toNat (IntKind.wrap IntKind.i64 ((↑i : Int) + (1 : Int)))) L))) ∧
               ∀ (ao2_1 : Option Addr) (cap2_1 : Nat),
                Int.toNat (↑i : Int) - 0 + (List.length L - Int.toNat (IntKind.wrap IntKind.i64 ((↑i : Int) + (1 : Int)))) ≤ cap2_1 →
                 (b = b ∧ true = true ∧ 1 = 1 ∧ 1 ≤ 2) ∧
                  K (frmR [] (bodyOf Try.f61) 7)
                   (Sy.mk (SV.ptr 0 b 0 :: (SV.str name :: (rawR u 2 (SV.int IntKind.i64 (↑i : Int) :: (rawR u 6 (SV.bool false :: (SV.ptr 0 b 0 :: (SV.ptr 0 b 0 :: (SV.ptr 0 b 0 :: (SV.vec 1 aoL (List.length L) capL :: (SV.int IntKind.i64 (↑i : Int) :: (SV.eptr 1 (Addr.blkD aoL) (Addr.offD aoL) 2 (Int.toNat (↑i : Int)) 0 :: (SV.eptr 1 (Addr.blkD aoL) (Addr.offD aoL) 2 (Int.toNat (↑i : Int)) 1 :: (SV.vec 4 (List.getD L (Int.toNat (↑i : Int)) (RGrp.mk (ByteArray.mk #[]) (@none Addr) 0 [])).ao (List.length (List.getD L (Int.toNat (↑i : Int)) (RGrp.mk (ByteArray.mk #[]) (@none Addr) 0 [])).4) (List.getD L (Int.toNat (↑i : Int)) (RGrp.mk (ByteArray.mk #[]) (@none Addr) 0 [])).3 :: (SV.int IntKind.i64 (↑(List.length (List.getD L (Int.toNat (↑i : Int)) (RGrp.mk (ByteArray.mk #[]) (@none Addr) 0 [])).4) : Int) :: (SV.bool (decide ((↑(List.length (List.getD L (Int.toNat (↑i : Int)) (RGrp.mk (ByteArray.mk #[]) (@none Addr) 0 [])).4) : Int) > (0 : Int))) :: (SV.ptr 0 b 0 :: (SV.ptr 0 b 0 :: (SV.ptr 0 b 0 :: (SV.ptr 0 b 0 :: (SV.vec 1 aoL (List.length L) capL :: (SV.int IntKind.i64 (↑i : Int) :: (SV.sub 1 aoL capL 2 0 (Int.toNat (↑i : Int)) :: (SV.vec 4 ao2 (Int.toNat (↑i : Int) - 0) cap2 :: (SV.ptr 0 b 0 :: (SV.ptr 0 b 0 :: (SV.ptr 0 b 0 :: (SV.vec 1 aoL (List.length L) capL :: (SV.int IntKind.i64 (↑i : Int) :: (SV.int IntKind.i64 (IntKind.wrap IntKind.i64 ((↑i : Int) + (1 : Int))) :: (SV.sub 1 aoL capL 2 (Int.toNat (IntKind.wrap IntKind.i64 ((↑i : Int) + (1 : Int)))) (List.length L) :: (SV.vec 4 ao2_1 (Int.toNat (↑i : Int) - 0 + (List.length L - Int.toNat (IntKind.wrap IntKind.i64 ((↑i : Int) + (1 : Int))))) cap2_1 :: (SV.ptr 0 b 0 :: (SV.ptr 0 b 0 :: (rawR u 45 [] 3)))))))))))))))))))))))))))))) 10)) 3)))
                    [Ent.mk (Loc.blk b)
                     (SObj.cells
                      [SV.vec 4 ao2_1 (Int.toNat (↑i : Int) - 0 + (List.length L - Int.toNat (IntKind.wrap IntKind.i64 ((↑i : Int) + (1 : Int))))) cap2_1,
                       SV.vec 2 aoN (List.length nt) capN]
                      (103 : TypeId)),
                     Ent.mk (Loc.sl aoL capL) (SObj.vecL (112 : TypeId) 2 encR L (RGrp.mk (ByteArray.mk #[]) (@none Addr) 0 [])),
                     Ent.mk (Loc.sl aoN capN) (SObj.vecL (9 : TypeId) 1 encS nt ByteArray.empty), pk 0 rest,
                     Ent.mk (Loc.sl ao2_1 cap2_1)
                      (SObj.vecL 112 2 encR (List.take (Int.toNat (↑i : Int) - 0) (List.drop 0 L) ++ es)
                       (RGrp.mk (ByteArray.mk #[]) (@none Addr) 0 []))])) ∧
       b = b ∧
        ((0 : Int) ≤ IntKind.wrap IntKind.i64 ((↑i : Int) + (1 : Int)) ∧ IntKind.wrap IntKind.i64 ((↑i : Int) + (1 : Int)) ≤ (↑(List.length L) : Int) ∧ List.length L ≤ capL) ∧
         (aoL = aoL ∧
          capL = capL ∧
           2 = 2 ∧
            2 = 2 ∧
             0 ≤ Int.toNat (↑i : Int) ∧
              Int.toNat (↑i : Int) ≤ List.length L ∧
               (Int.toNat (↑i : Int) - 0) * 40 ≤ 140737488355328 ∧ Int.toNat (↑i : Int) - 0 ≤ 9223372036854775807) ∧
          ∀ (ao2 : Option Addr) (cap2 : Nat),
           Int.toNat (↑i : Int) - 0 ≤ cap2 →
            (ao2 = ao2 ∧
             cap2 = cap2 ∧
              Int.toNat (↑i : Int) - 0 = List.length (List.take (Int.toNat (↑i : Int) - 0) (List.drop 0 L)) ∧
               112 = 112 ∧
                2 = 2 ∧
                 aoL = aoL ∧
                  capL = capL ∧
                   2 = 2 ∧
                    2 = 2 ∧
                     Int.toNat (IntKind.wrap IntKind.i64 ((↑i : Int) + (1 : Int))) ≤ List.length L ∧
                      List.length L ≤ List.length L ∧
                       (∀ (y : RGrp), true = true) ∧
                        (Int.toNat (↑i : Int) - 0 + (List.length L - Int.toNat (IntKind.wrap IntKind.i64 ((↑i : Int) + (1 : Int))))) * 40 ≤
                         140737488355328 ∧
                         Int.toNat (↑i : Int) - 0 + (List.length L - Int.toNat (IntKind.wrap IntKind.i64 ((↑i : Int) + (1 : Int)))) ≤
                          9223372036854775807) ∧
             ∃ (es : List RGrp),
              List.length es = List.length L - Int.toNat (IntKind.wrap IntKind.i64 ((↑i : Int) + (1 : Int))) ∧
               denL (List.flatMap encR es) =
                denL
                 (List.flatMap encR
                  (List.take (List.length L - Int.toNat (IntKind.wrap IntKind.i64 ((↑i : Int) + (1 : Int))))
                   (List.drop (Int.toNat (IntKind.wrap IntKind.i64 ((↑i : Int) + (1 : Int)))) L))) ∧
                ∀ (ao2_1 : Option Addr) (cap2_1 : Nat),
                 Int.toNat (↑i : Int) - 0 + (List.length L - Int.toNat (IntKind.wrap IntKind.i64 ((↑i : Int) + (1 : Int)))) ≤ cap2_1 →
                  (b = b ∧ true = true ∧ 1 = 1 ∧ 1 ≤ 2) ∧
                   K (frmR [] (bodyOf Try.f61) 7)
                    (Sy.mk (SV.ptr 0 b 0 :: (SV.str name :: (rawR u 2 (SV.int IntKind.i64 (↑i : Int) :: (rawR u 6 (SV.bool false :: (SV.ptr 0 b 0 :: (SV.ptr 0 b 0 :: (SV.ptr 0 b 0 :: (SV.vec 1 aoL (List.length L) capL :: (SV.int IntKind.i64 (↑i : Int) :: (SV.eptr 1 (Addr.blkD aoL) (Addr.offD aoL) 2 (Int.toNat (↑i : Int)) 0 :: (SV.eptr 1 (Addr.blkD aoL) (Addr.offD aoL) 2 (Int.toNat (↑i : Int)) 1 :: (SV.vec 4 (List.getD L (Int.toNat (↑i : Int)) (RGrp.mk (ByteArray.mk #[]) (@none Addr) 0 [])).ao (List.length (List.getD L (Int.toNat (↑i : Int)) (RGrp.mk (ByteArray.mk #[]) (@none Addr) 0 [])).4) (List.getD L (Int.toNat (↑i : Int)) (RGrp.mk (ByteArray.mk #[]) (@none Addr) 0 [])).3 :: (SV.int IntKind.i64 (↑(List.length (List.getD L (Int.toNat (↑i : Int)) (RGrp.mk (ByteArray.mk #[]) (@none Addr) 0 [])).4) : Int) :: (SV.bool (decide ((↑(List.length (List.getD L (Int.toNat (↑i : Int)) (RGrp.mk (ByteArray.mk #[]) (@none Addr) 0 [])).4) : Int) > (0 : Int))) :: (SV.ptr 0 b 0 :: (SV.ptr 0 b 0 :: (SV.ptr 0 b 0 :: (SV.ptr 0 b 0 :: (SV.vec 1 aoL (List.length L) capL :: (SV.int IntKind.i64 (↑i : Int) :: (SV.sub 1 aoL capL 2 0 (Int.toNat (↑i : Int)) :: (SV.vec 4 ao2 (Int.toNat (↑i : Int) - 0) cap2 :: (SV.ptr 0 b 0 :: (SV.ptr 0 b 0 :: (SV.ptr 0 b 0 :: (SV.vec 1 aoL (List.length L) capL :: (SV.int IntKind.i64 (↑i : Int) :: (SV.int IntKind.i64 (IntKind.wrap IntKind.i64 ((↑i : Int) + (1 : Int))) :: (SV.sub 1 aoL capL 2 (Int.toNat (IntKind.wrap IntKind.i64 ((↑i : Int) + (1 : Int)))) (List.length L) :: (SV.vec 4 ao2_1 (Int.toNat (↑i : Int) - 0 + (List.length L - Int.toNat (IntKind.wrap IntKind.i64 ((↑i : Int) + (1 : Int))))) cap2_1 :: (SV.ptr 0 b 0 :: (SV.ptr 0 b 0 :: (rawR u 45 [] 3)))))))))))))))))))))))))))))) 10)) 3)))
                     [Ent.mk (Loc.blk b)
                      (SObj.cells
                       [SV.vec 4 ao2_1 (Int.toNat (↑i : Int) - 0 + (List.length L - Int.toNat (IntKind.wrap IntKind.i64 ((↑i : Int) + (1 : Int))))) cap2_1,
                        SV.vec 2 aoN (List.length nt) capN]
                       (103 : TypeId)),
                      Ent.mk (Loc.sl aoL capL) (SObj.vecL (112 : TypeId) 2 encR L (RGrp.mk (ByteArray.mk #[]) (@none Addr) 0 [])),
                      Ent.mk (Loc.sl aoN capN) (SObj.vecL (9 : TypeId) 1 encS nt ByteArray.empty), pk 0 rest,
                      Ent.mk (Loc.sl ao2_1 cap2_1)
                       (SObj.vecL 112 2 encR (List.take (Int.toNat (↑i : Int) - 0) (List.drop 0 L) ++ es)
                        (RGrp.mk (ByteArray.mk #[]) (@none Addr) 0 []))])) ∧
     b = b ∧
      ((0 : Int) ≤ IntKind.wrap IntKind.i64 ((↑i : Int) + (1 : Int)) ∧ IntKind.wrap IntKind.i64 ((↑i : Int) + (1 : Int)) ≤ (↑(List.length L) : Int) ∧ List.length L ≤ capL) ∧
       b = b ∧
        ((0 : Int) ≤ (↑i : Int) ∧ (↑i : Int) ≤ (↑capL : Int)) ∧
         (aoL = aoL ∧
          capL = capL ∧
           2 = 2 ∧
            2 = 2 ∧
             0 ≤ Int.toNat (↑i : Int) ∧
              Int.toNat (↑i : Int) ≤ List.length L ∧
               (Int.toNat (↑i : Int) - 0) * 40 ≤ 140737488355328 ∧ Int.toNat (↑i : Int) - 0 ≤ 9223372036854775807) ∧
          ∀ (ao2 : Option Addr) (cap2 : Nat),
           Int.toNat (↑i : Int) - 0 ≤ cap2 →
            (ao2 = ao2 ∧
             cap2 = cap2 ∧
              Int.toNat (↑i : Int) - 0 = List.length (List.take (Int.toNat (↑i : Int) - 0) (List.drop 0 L)) ∧
               112 = 112 ∧
                2 = 2 ∧
                 aoL = aoL ∧
                  capL = capL ∧
                   2 = 2 ∧
                    2 = 2 ∧
                     Int.toNat (IntKind.wrap IntKind.i64 ((↑i : Int) + (1 : Int))) ≤ List.length L ∧
                      List.length L ≤ List.length L ∧
                       (∀ (y : RGrp), true = true) ∧
                        (Int.toNat (↑i : Int) - 0 + (List.length L - Int.toNat (IntKind.wrap IntKind.i64 ((↑i : Int) + (1 : Int))))) * 40 ≤
                         140737488355328 ∧
                         Int.toNat (↑i : Int) - 0 + (List.length L - Int.toNat (IntKind.wrap IntKind.i64 ((↑i : Int) + (1 : Int)))) ≤ 9223372036854775807) ∧
             ∃ (es : List RGrp),
              List.length es = List.length L - Int.toNat (IntKind.wrap IntKind.i64 ((↑i : Int) + (1 : Int))) ∧
               denL (List.flatMap encR es) =
                denL
                 (List.flatMap encR
                  (List.take (List.length L - Int.toNat (IntKind.wrap IntKind.i64 ((↑i : Int) + (1 : Int))))
                   (List.drop (Int.toNat (IntKind.wrap IntKind.i64 ((↑i : Int) + (1 : Int)))) L))) ∧
                ∀ (ao2_1 : Option Addr) (cap2_1 : Nat),
                 Int.toNat (↑i : Int) - 0 + (List.length L - Int.toNat (IntKind.wrap IntKind.i64 ((↑i : Int) + (1 : Int)))) ≤ cap2_1 →
                  (b = b ∧ true = true ∧ 1 = 1 ∧ 1 ≤ 2) ∧
                   K (frmR [] (bodyOf Try.f61) 7)
                    (Sy.mk (SV.ptr 0 b 0 :: (SV.str name :: (rawR u 2 (SV.int IntKind.i64 (↑i : Int) :: (rawR u 6 (SV.bool false :: (SV.ptr 0 b 0 :: (SV.ptr 0 b 0 :: (SV.ptr 0 b 0 :: (SV.vec 1 aoL (List.length L) capL :: (SV.int IntKind.i64 (↑i : Int) :: (SV.eptr 1 (Addr.blkD aoL) (Addr.offD aoL) 2 (Int.toNat (↑i : Int)) 0 :: (SV.eptr 1 (Addr.blkD aoL) (Addr.offD aoL) 2 (Int.toNat (↑i : Int)) 1 :: (SV.vec 4 (List.getD L (Int.toNat (↑i : Int)) (RGrp.mk (ByteArray.mk #[]) (@none Addr) 0 [])).ao (List.length (List.getD L (Int.toNat (↑i : Int)) (RGrp.mk (ByteArray.mk #[]) (@none Addr) 0 [])).4) (List.getD L (Int.toNat (↑i : Int)) (RGrp.mk (ByteArray.mk #[]) (@none Addr) 0 [])).3 :: (SV.int IntKind.i64 (↑(List.length (List.getD L (Int.toNat (↑i : Int)) (RGrp.mk (ByteArray.mk #[]) (@none Addr) 0 [])).4) : Int) :: (SV.bool (decide ((↑(List.length (List.getD L (Int.toNat (↑i : Int)) (RGrp.mk (ByteArray.mk #[]) (@none Addr) 0 [])).4) : Int) > (0 : Int))) :: (SV.ptr 0 b 0 :: (SV.ptr 0 b 0 :: (SV.ptr 0 b 0 :: (SV.ptr 0 b 0 :: (SV.vec 1 aoL (List.length L) capL :: (SV.int IntKind.i64 (↑i : Int) :: (SV.sub 1 aoL capL 2 0 (Int.toNat (↑i : Int)) :: (SV.vec 4 ao2 (Int.toNat (↑i : Int) - 0) cap2 :: (SV.ptr 0 b 0 :: (SV.ptr 0 b 0 :: (SV.ptr 0 b 0 :: (SV.vec 1 aoL (List.length L) capL :: (SV.int IntKind.i64 (↑i : Int) :: (SV.int IntKind.i64 (IntKind.wrap IntKind.i64 ((↑i : Int) + (1 : Int))) :: (SV.sub 1 aoL capL 2 (Int.toNat (IntKind.wrap IntKind.i64 ((↑i : Int) + (1 : Int)))) (List.length L) :: (SV.vec 4 ao2_1 (Int.toNat (↑i : Int) - 0 + (List.length L - Int.toNat (IntKind.wrap IntKind.i64 ((↑i : Int) + (1 : Int))))) cap2_1 :: (SV.ptr 0 b 0 :: (SV.ptr 0 b 0 :: (rawR u 45 [] 3)))))))))))))))))))))))))))))) 10)) 3)))
                     [Ent.mk (Loc.blk b)
                      (SObj.cells
                       [SV.vec 4 ao2_1 (Int.toNat (↑i : Int) - 0 + (List.length L - Int.toNat (IntKind.wrap IntKind.i64 ((↑i : Int) + (1 : Int))))) cap2_1,
                        SV.vec 2 aoN (List.length nt) capN]
                       (103 : TypeId)),
                      Ent.mk (Loc.sl aoL capL) (SObj.vecL (112 : TypeId) 2 encR L (RGrp.mk (ByteArray.mk #[]) (@none Addr) 0 [])),
                      Ent.mk (Loc.sl aoN capN) (SObj.vecL (9 : TypeId) 1 encS nt ByteArray.empty), pk 0 rest,
                      Ent.mk (Loc.sl ao2_1 cap2_1)
                       (SObj.vecL 112 2 encR (List.take (Int.toNat (↑i : Int) - 0) (List.drop 0 L) ++ es)
                        (RGrp.mk (ByteArray.mk #[]) (@none Addr) 0 []))])) := by kernel_rfl


theorem rRm_7 (K : List Frm → Sy → Prop) (N : List Ent → SV → Prop) (r : RG) (b : Nat) (name : ByteArray) (u : Nat → Value) : (run Try.prog [(92, adtC rgE rforgetM)] false [] K (retP Try.prog Try.f61.results.toList N) 900 (frmR [] (bodyOf Try.f61) 7) ⟨mkT u 48 0 [(0, .ptr 0 b 0), (1, .str name)], [pkA b rgE r]⟩) = (
true = true ∧
 b = b ∧
  ∃ (h : RG = RG),
   AdtIs (fun (s : RG) (b : Nat) ↦ packs (rgE s b)) rgE ∧
    rOk r ∧ ∀ (ao : Option Addr) (cap : Nat), N [pkA b rgE (RG.mk r.aoL r.2 r.3 ao cap (List.filter (fun (x : ByteArray) ↦ !sEq x name) r.6))] (SV.int IntKind.i64 (0 : Int))) := by kernel_rfl


theorem rOf_start (K : List Frm → Sy → Prop) (N : List Ent → SV → Prop) (aoL : Option Addr) (capL : Nat) (L : List RGrp) (aoN : Option Addr) (capN : Nat) (nt : List ByteArray) (b : Nat) (rest : List Ent) (pid : Int) : (run Try.prog [] false [] K (retP Try.prog Try.f66.results.toList N) 600 [.code (bodyOf Try.f66)] ⟨padTo 51 [.ptr 0 b 0, .int .i64 pid], [⟨.blk b, .cells [.vec 1 aoL (L).length capL, .vec 2 aoN (nt).length capN] 103⟩, ⟨.sl aoL capL, .vecL 112 2 encR (L) zR⟩, ⟨.sl aoN capN, .vecL 9 1 encS (nt) ByteArray.empty⟩, pk 0 rest]⟩) = (
K (frm [] (bodyOf Try.f66) [1, 0, 1, 0] [])
 (Sy.mk (SV.ptr 0 b 0 :: (SV.int IntKind.i64 pid :: (SV.raw (Value.tuple #[]) :: (SV.raw (Value.tuple #[]) :: (SV.str (ByteArray.mk #[]) :: (SV.bool false :: (SV.int IntKind.i64 (0 : Int) :: (rawE [] 44))))))))
  [Ent.mk (Loc.blk b) (SObj.cells [SV.vec 1 aoL (List.length L) capL, SV.vec 2 aoN (List.length nt) capN] (103 : TypeId)),
   Ent.mk (Loc.sl aoL capL) (SObj.vecL (112 : TypeId) 2 encR L (RGrp.mk (ByteArray.mk #[]) (@none Addr) 0 [])),
   Ent.mk (Loc.sl aoN capN) (SObj.vecL (9 : TypeId) 1 encS nt ByteArray.empty), pk 0 rest])) := by kernel_rfl


theorem rOf_1 (K : List Frm → Sy → Prop) (N : List Ent → SV → Prop) (J : Act → World → Prop) (aoL : Option Addr) (capL : Nat) (L : List RGrp) (aoN : Option Addr) (capN : Nat) (nt : List ByteArray) (b : Nat) (rest : List Ent) (pid : Int) (i : Nat) (u : Nat → Value) : (run Try.prog [] false [] K (retP Try.prog Try.f66.results.toList N) 900 (frm [J] (bodyOf Try.f66) [1, 0, 1, 0, 0] []) ⟨mkT u 51 0 [(0, .ptr 0 b 0), (1, .int .i64 pid), (6, .int .i64 (i : Int))], [⟨.blk b, .cells [.vec 1 aoL (L).length capL, .vec 2 aoN (nt).length capN] 103⟩, ⟨.sl aoL capL, .vecL 112 2 encR (L) zR⟩, ⟨.sl aoN capN, .vecL 9 1 encS (nt) ByteArray.empty⟩, pk 0 rest]⟩) = (
b = b ∧
 match decide ((↑i : Int) < (↑(List.length L) : Int)) with
 | true =>
  K (frm [J] (bodyOf Try.f66) [1, 0, 1, 0, 0, 1, 0, 0, 1, 0] [])
   (Sy.mk (SV.ptr 0 b 0 :: (SV.int IntKind.i64 pid :: (rawR u 2 (SV.int IntKind.i64 (↑i : Int) :: (SV.int IntKind.i64 (0 : Int) :: (SV.int IntKind.i64 (↑i : Int) :: (SV.ptr 0 b 0 :: (SV.ptr 0 b 0 :: (SV.ptr 0 b 0 :: (SV.vec 1 aoL (List.length L) capL :: (SV.int IntKind.i64 (↑(List.length L) : Int) :: (SV.bool true :: (rawR u 15 [] 36)))))))))) 4)))
    [Ent.mk (Loc.blk b) (SObj.cells [SV.vec 1 aoL (List.length L) capL, SV.vec 2 aoN (List.length nt) capN] (103 : TypeId)),
     Ent.mk (Loc.sl aoL capL) (SObj.vecL (112 : TypeId) 2 encR L (RGrp.mk (ByteArray.mk #[]) (@none Addr) 0 [])),
     Ent.mk (Loc.sl aoN capN) (SObj.vecL (9 : TypeId) 1 encS nt ByteArray.empty), pk 0 rest])
 | false =>
  N
   [Ent.mk (Loc.blk b) (SObj.cells [SV.vec 1 aoL (List.length L) capL, SV.vec 2 aoN (List.length nt) capN] (103 : TypeId)),
    Ent.mk (Loc.sl aoL capL) (SObj.vecL (112 : TypeId) 2 encR L (RGrp.mk (ByteArray.mk #[]) (@none Addr) 0 [])),
    Ent.mk (Loc.sl aoN capN) (SObj.vecL (9 : TypeId) 1 encS nt ByteArray.empty), pk 0 rest]
   (SV.tuple [SV.str (ByteArray.mk #[]), SV.bool false])) := by kernel_rfl


theorem rOf_2 (K : List Frm → Sy → Prop) (N : List Ent → SV → Prop) (J0 J1 : Act → World → Prop) (aoL : Option Addr) (capL : Nat) (L : List RGrp) (aoN : Option Addr) (capN : Nat) (nt : List ByteArray) (b : Nat) (rest : List Ent) (pid : Int) (i k : Nat) (g : RGrp) (u : Nat → Value) : (run Try.prog [] false [] K (retP Try.prog Try.f66.results.toList N) 900 (frm [J0, J1] (bodyOf Try.f66) [1, 0, 1, 0, 0, 1, 0, 0, 1, 0, 0] []) ⟨mkT u 51 0 [(0, .ptr 0 b 0), (1, .int .i64 pid), (6, .int .i64 (i : Int)), (7, .int .i64 (k : Int))], [⟨.blk b, .cells [.vec 1 aoL (L).length capL, .vec 2 aoN (nt).length capN] 103⟩, ⟨.sl aoL capL, .vecL 112 2 encR (L) zR⟩, ⟨.sl aoN capN, .vecL 9 1 encS (nt) ByteArray.empty⟩, pk 0 rest, ⟨.sl g.ao g.cap, .vecL 3 1 encI1 (g.pids) 0⟩]⟩) = (
b = b ∧
 (aoL = aoL ∧ capL = capL ∧ List.length L = List.length L ∧ (0 : Int) ≤ (↑i : Int) ∧ (↑i : Int) < (↑(List.length L) : Int)) ∧
  (Addr.blkD aoL = Addr.blkD aoL ∧ Addr.offD aoL = Addr.offD aoL ∧ 2 = 2 ∧ Int.toNat (↑i : Int) < List.length L) ∧
   match decide ((↑k : Int) < (↑(List.length (List.getD L (Int.toNat (↑i : Int)) (RGrp.mk (ByteArray.mk #[]) (@none Addr) 0 [])).4) : Int)) with
   | true =>
    b = b ∧
     (aoL = aoL ∧ capL = capL ∧ List.length L = List.length L ∧ (0 : Int) ≤ (↑i : Int) ∧ (↑i : Int) < (↑(List.length L) : Int)) ∧
      (Addr.blkD aoL = Addr.blkD aoL ∧ Addr.offD aoL = Addr.offD aoL ∧ 2 = 2 ∧ Int.toNat (↑i : Int) < List.length L) ∧
       (g.ao = (List.getD L (Int.toNat (↑i : Int)) (RGrp.mk (ByteArray.mk #[]) (@none Addr) 0 [])).ao ∧
        g.3 = (List.getD L (Int.toNat (↑i : Int)) (RGrp.mk (ByteArray.mk #[]) (@none Addr) 0 [])).3 ∧
         List.length (List.getD L (Int.toNat (↑i : Int)) (RGrp.mk (ByteArray.mk #[]) (@none Addr) 0 [])).4 = List.length g.4 ∧
          (0 : Int) ≤ (↑k : Int) ∧ (↑k : Int) < (↑(List.length (List.getD L (Int.toNat (↑i : Int)) (RGrp.mk (ByteArray.mk #[]) (@none Addr) 0 [])).4) : Int)) ∧
        (Addr.blkD (List.getD L (Int.toNat (↑i : Int)) (RGrp.mk (ByteArray.mk #[]) (@none Addr) 0 [])).ao = Addr.blkD g.ao ∧
         Addr.offD (List.getD L (Int.toNat (↑i : Int)) (RGrp.mk (ByteArray.mk #[]) (@none Addr) 0 [])).ao = Addr.offD g.ao ∧
          1 = 1 ∧ Int.toNat (↑k : Int) < List.length g.4) ∧
         match List.getD g.4 (Int.toNat (↑k : Int)) (0 : Int) == pid with
         | true =>
          b = b ∧
           (aoL = aoL ∧ capL = capL ∧ List.length L = List.length L ∧ (0 : Int) ≤ (↑i : Int) ∧ (↑i : Int) < (↑(List.length L) : Int)) ∧
            (Addr.blkD aoL = Addr.blkD aoL ∧ Addr.offD aoL = Addr.offD aoL ∧ 2 = 2 ∧ Int.toNat (↑i : Int) < List.length L) ∧
             N
              [Ent.mk (Loc.blk b) (SObj.cells [SV.vec 1 aoL (List.length L) capL, SV.vec 2 aoN (List.length nt) capN] (103 : TypeId)),
               Ent.mk (Loc.sl aoL capL) (SObj.vecL (112 : TypeId) 2 encR L (RGrp.mk (ByteArray.mk #[]) (@none Addr) 0 [])),
               Ent.mk (Loc.sl aoN capN) (SObj.vecL (9 : TypeId) 1 encS nt ByteArray.empty), pk 0 rest,
               Ent.mk (Loc.sl g.ao g.3) (SObj.vecL (3 : TypeId) 1 encI1 g.4 (0 : Int))]
              (SV.tuple [SV.str (List.getD L (Int.toNat (↑i : Int)) (RGrp.mk (ByteArray.mk #[]) (@none Addr) 0 [])).1, SV.bool true])
         | false =>
          K (Frm.loop J1 :: Frm.blk 2 :: Frm.blk 1 :: frmR [J0] (bodyOf Try.f66) 3)
           (Sy.mk (SV.ptr 0 b 0 :: (SV.int IntKind.i64 pid :: (rawR u 2 (SV.int IntKind.i64 (↑i : Int) :: (SV.int IntKind.i64 (IntKind.wrap IntKind.i64 ((↑k : Int) + (1 : Int))) :: (rawR u 8 (SV.int IntKind.i64 (↑k : Int) :: (SV.ptr 0 b 0 :: (SV.ptr 0 b 0 :: (SV.ptr 0 b 0 :: (SV.vec 1 aoL (List.length L) capL :: (SV.int IntKind.i64 (↑i : Int) :: (SV.eptr 1 (Addr.blkD aoL) (Addr.offD aoL) 2 (Int.toNat (↑i : Int)) 0 :: (SV.eptr 1 (Addr.blkD aoL) (Addr.offD aoL) 2 (Int.toNat (↑i : Int)) 1 :: (SV.vec 4 (List.getD L (Int.toNat (↑i : Int)) (RGrp.mk (ByteArray.mk #[]) (@none Addr) 0 [])).ao (List.length (List.getD L (Int.toNat (↑i : Int)) (RGrp.mk (ByteArray.mk #[]) (@none Addr) 0 [])).4) (List.getD L (Int.toNat (↑i : Int)) (RGrp.mk (ByteArray.mk #[]) (@none Addr) 0 [])).3 :: (SV.int IntKind.i64 (↑(List.length (List.getD L (Int.toNat (↑i : Int)) (RGrp.mk (ByteArray.mk #[]) (@none Addr) 0 [])).4) : Int) :: (SV.bool true :: (SV.int IntKind.i64 (↑k : Int) :: (SV.int IntKind.i64 (IntKind.wrap IntKind.i64 ((↑k : Int) + (1 : Int))) :: (SV.ptr 0 b 0 :: (SV.ptr 0 b 0 :: (SV.ptr 0 b 0 :: (SV.vec 1 aoL (List.length L) capL :: (SV.int IntKind.i64 (↑i : Int) :: (SV.eptr 1 (Addr.blkD aoL) (Addr.offD aoL) 2 (Int.toNat (↑i : Int)) 0 :: (SV.eptr 1 (Addr.blkD aoL) (Addr.offD aoL) 2 (Int.toNat (↑i : Int)) 1 :: (SV.vec 4 (List.getD L (Int.toNat (↑i : Int)) (RGrp.mk (ByteArray.mk #[]) (@none Addr) 0 [])).ao (List.length (List.getD L (Int.toNat (↑i : Int)) (RGrp.mk (ByteArray.mk #[]) (@none Addr) 0 [])).4) (List.getD L (Int.toNat (↑i : Int)) (RGrp.mk (ByteArray.mk #[]) (@none Addr) 0 [])).3 :: (SV.int IntKind.i64 (↑k : Int) :: (SV.eptr 4 (Addr.blkD (List.getD L (Int.toNat (↑i : Int)) (RGrp.mk (ByteArray.mk #[]) (@none Addr) 0 [])).ao) (Addr.offD (List.getD L (Int.toNat (↑i : Int)) (RGrp.mk (ByteArray.mk #[]) (@none Addr) 0 [])).ao) 1 (Int.toNat (↑k : Int)) 0 :: (SV.int IntKind.i64 (List.getD g.4 (Int.toNat (↑k : Int)) (0 : Int)) :: (SV.int IntKind.i64 pid :: (SV.bool false :: (rawR u 43 [] 8))))))))))))))))))))))))))) 9))) 4)))
            [Ent.mk (Loc.blk b) (SObj.cells [SV.vec 1 aoL (List.length L) capL, SV.vec 2 aoN (List.length nt) capN] (103 : TypeId)),
             Ent.mk (Loc.sl aoL capL) (SObj.vecL (112 : TypeId) 2 encR L (RGrp.mk (ByteArray.mk #[]) (@none Addr) 0 [])),
             Ent.mk (Loc.sl aoN capN) (SObj.vecL (9 : TypeId) 1 encS nt ByteArray.empty), pk 0 rest,
             Ent.mk (Loc.sl g.ao g.3) (SObj.vecL (3 : TypeId) 1 encI1 g.4 (0 : Int))])
   | false =>
    K (Frm.loop J0 :: Frm.blk 0 :: frm [] (bodyOf Try.f66) [1, 1] [])
     (Sy.mk (SV.ptr 0 b 0 :: (SV.int IntKind.i64 pid :: (rawR u 2 (SV.int IntKind.i64 (IntKind.wrap IntKind.i64 ((↑i : Int) + (1 : Int))) :: (SV.int IntKind.i64 (↑k : Int) :: (rawR u 8 (SV.int IntKind.i64 (↑i : Int) :: (SV.int IntKind.i64 (IntKind.wrap IntKind.i64 ((↑i : Int) + (1 : Int))) :: (SV.int IntKind.i64 (↑k : Int) :: (SV.ptr 0 b 0 :: (SV.ptr 0 b 0 :: (SV.ptr 0 b 0 :: (SV.vec 1 aoL (List.length L) capL :: (SV.int IntKind.i64 (↑i : Int) :: (SV.eptr 1 (Addr.blkD aoL) (Addr.offD aoL) 2 (Int.toNat (↑i : Int)) 0 :: (SV.eptr 1 (Addr.blkD aoL) (Addr.offD aoL) 2 (Int.toNat (↑i : Int)) 1 :: (SV.vec 4 (List.getD L (Int.toNat (↑i : Int)) (RGrp.mk (ByteArray.mk #[]) (@none Addr) 0 [])).ao (List.length (List.getD L (Int.toNat (↑i : Int)) (RGrp.mk (ByteArray.mk #[]) (@none Addr) 0 [])).4) (List.getD L (Int.toNat (↑i : Int)) (RGrp.mk (ByteArray.mk #[]) (@none Addr) 0 [])).3 :: (SV.int IntKind.i64 (↑(List.length (List.getD L (Int.toNat (↑i : Int)) (RGrp.mk (ByteArray.mk #[]) (@none Addr) 0 [])).4) : Int) :: (SV.bool false :: (rawR u 28 [] 23)))))))))))))) 7))) 4)))
      [Ent.mk (Loc.blk b) (SObj.cells [SV.vec 1 aoL (List.length L) capL, SV.vec 2 aoN (List.length nt) capN] (103 : TypeId)),
       Ent.mk (Loc.sl aoL capL) (SObj.vecL (112 : TypeId) 2 encR L (RGrp.mk (ByteArray.mk #[]) (@none Addr) 0 [])),
       Ent.mk (Loc.sl aoN capN) (SObj.vecL (9 : TypeId) 1 encS nt ByteArray.empty), pk 0 rest, Ent.mk (Loc.sl g.ao g.3) (SObj.vecL (3 : TypeId) 1 encI1 g.4 (0 : Int))])) := by kernel_rfl


theorem rMb_start (K : List Frm → Sy → Prop) (N : List Ent → SV → Prop) (r : RG) (b : Nat) (name : ByteArray) : (run Try.prog [(89, adtC rgE ratM)] false [4] K (retP Try.prog Try.f67.results.toList N) 600 [.code (bodyOf Try.f67)] ⟨padTo 24 [.ptr 0 b 0, .str name], [pkA b rgE r]⟩) = (
true = true ∧
 b = b ∧
  ∃ (h : RG = RG),
   AdtIs (fun (s : RG) (b : Nat) ↦ packs (rgE s b)) rgE ∧
    rOk r ∧
     match !rHas r.3 name with
     | true => N [pkA b rgE r] (SV.raw (Value.slice (@none Addr) 0 0))
     | false =>
      K (frmR [] (bodyOf Try.f67) 4)
       (Sy.mk (SV.ptr 0 b 0 :: (SV.str name :: (SV.raw (Value.tuple #[]) :: (SV.raw (Value.tuple #[]) :: (SV.raw (Value.slice (@none Addr) 0 0) :: (SV.int IntKind.i64 (↑(rAt r.3 name) : Int) :: (SV.bool (rHas r.3 name) :: (SV.tuple [SV.int IntKind.i64 (↑(rAt r.3 name) : Int), SV.bool (rHas r.3 name)] :: (SV.ptr 0 b 0 :: (SV.str name :: (SV.tuple [SV.int IntKind.i64 (↑(rAt r.3 name) : Int), SV.bool (rHas r.3 name)] :: (SV.int IntKind.i64 (↑(rAt r.3 name) : Int) :: (SV.bool (rHas r.3 name) :: (SV.bool (rHas r.3 name) :: (SV.bool false :: (rawE [] 9))))))))))))))))
        [pkA b rgE r])) := by kernel_rfl


theorem rMb_4 (K : List Frm → Sy → Prop) (N : List Ent → SV → Prop) (aoL : Option Addr) (capL : Nat) (L : List RGrp) (aoN : Option Addr) (capN : Nat) (nt : List ByteArray) (b : Nat) (rest : List Ent) (i : Nat) (g : RGrp) (u : Nat → Value) : (run Try.prog [] false [] K (retP Try.prog Try.f67.results.toList N) 900 (frmR [] (bodyOf Try.f67) 4) ⟨mkT u 24 0 [(0, .ptr 0 b 0), (5, .int .i64 (i : Int))], [⟨.blk b, .cells [.vec 1 aoL (L).length capL, .vec 2 aoN (nt).length capN] 103⟩, ⟨.sl aoL capL, .vecL 112 2 encR (L) zR⟩, ⟨.sl aoN capN, .vecL 9 1 encS (nt) ByteArray.empty⟩, pk 0 rest, ⟨.sl g.ao g.cap, .vecL 3 1 encI1 (g.pids) 0⟩]⟩) = (
b = b ∧
 (aoL = aoL ∧ capL = capL ∧ List.length L = List.length L ∧ (0 : Int) ≤ (↑i : Int) ∧ (↑i : Int) < (↑(List.length L) : Int)) ∧
  (Addr.blkD aoL = Addr.blkD aoL ∧ Addr.offD aoL = Addr.offD aoL ∧ 2 = 2 ∧ Int.toNat (↑i : Int) < List.length L) ∧
   (g.ao = (List.getD L (Int.toNat (↑i : Int)) (RGrp.mk (ByteArray.mk #[]) (@none Addr) 0 [])).ao ∧
    List.length (List.getD L (Int.toNat (↑i : Int)) (RGrp.mk (ByteArray.mk #[]) (@none Addr) 0 [])).4 = List.length g.4 ∧
     1 = 1 ∧
      List.length (List.getD L (Int.toNat (↑i : Int)) (RGrp.mk (ByteArray.mk #[]) (@none Addr) 0 [])).4 * 8 ≤ 140737488355328 ∧
       List.length (List.getD L (Int.toNat (↑i : Int)) (RGrp.mk (ByteArray.mk #[]) (@none Addr) 0 [])).4 ≤ 9223372036854775807) ∧
    ∀ (ao2 : Option Addr) (cap2 : Nat),
     List.length (List.getD L (Int.toNat (↑i : Int)) (RGrp.mk (ByteArray.mk #[]) (@none Addr) 0 [])).4 ≤ cap2 →
      N
       [Ent.mk (Loc.blk b) (SObj.cells [SV.vec 1 aoL (List.length L) capL, SV.vec 2 aoN (List.length nt) capN] (103 : TypeId)),
        Ent.mk (Loc.sl aoL capL) (SObj.vecL (112 : TypeId) 2 encR L (RGrp.mk (ByteArray.mk #[]) (@none Addr) 0 [])),
        Ent.mk (Loc.sl aoN capN) (SObj.vecL (9 : TypeId) 1 encS nt ByteArray.empty), pk 0 rest, Ent.mk (Loc.sl g.ao g.3) (SObj.vecL (3 : TypeId) 1 encI1 g.4 (0 : Int)),
        Ent.mk (Loc.sl ao2 cap2) (SObj.vecL 3 1 encI1 g.4 (0 : Int))]
       (SV.vec 5 ao2 (List.length (List.getD L (Int.toNat (↑i : Int)) (RGrp.mk (ByteArray.mk #[]) (@none Addr) 0 [])).4) cap2)) := by kernel_rfl


theorem rEm_start (K : List Frm → Sy → Prop) (N : List Ent → SV → Prop) (r : RG) (b : Nat) : (run Try.prog [] false [] K (retP Try.prog Try.f64.results.toList N) 600 [.code (bodyOf Try.f64)] ⟨padTo 47 [.ptr 0 b 0], [pkA b rgE r]⟩) = (
K (frm [] (bodyOf Try.f64) [1, 0, 0] [])
 (Sy.mk (SV.ptr 0 b 0 :: (SV.raw (Value.tuple #[]) :: (SV.str (ByteArray.mk #[]) :: (SV.bool false :: (rawE [] 43)))))
  [pkA b rgE r])) := by kernel_rfl


theorem rEm_1 (K : List Frm → Sy → Prop) (N : List Ent → SV → Prop) (J : Act → World → Prop) (aoL : Option Addr) (capL : Nat) (L : List RGrp) (aoN : Option Addr) (capN : Nat) (nt : List ByteArray) (b : Nat) (rest : List Ent) (u : Nat → Value) : (run Try.prog [] false [4] K (retP Try.prog Try.f64.results.toList N) 900 (frm [J] (bodyOf Try.f64) [1, 0, 0, 0] []) ⟨mkT u 47 0 [(0, .ptr 0 b 0)], [⟨.blk b, .cells [.vec 1 aoL (L).length capL, .vec 2 aoN (nt).length capN] 103⟩, ⟨.sl aoL capL, .vecL 112 2 encR (L) zR⟩, ⟨.sl aoN capN, .vecL 9 1 encS (nt) ByteArray.empty⟩, pk 0 rest]⟩) = (
b = b ∧
 match decide ((↑(List.length nt) : Int) > (0 : Int)) with
 | true =>
  b = b ∧
   (aoN = aoN ∧ capN = capN ∧ List.length nt = List.length nt ∧ (0 : Int) ≤ (0 : Int) ∧ (0 : Int) < (↑(List.length nt) : Int)) ∧
    (Addr.blkD aoN = Addr.blkD aoN ∧ Addr.offD aoN = Addr.offD aoN ∧ 1 = 1 ∧ 0 < List.length nt) ∧
     b = b ∧
      ((0 : Int) ≤ (1 : Int) ∧ (1 : Int) ≤ (↑(List.length nt) : Int) ∧ List.length nt ≤ capN) ∧
       (b = b ∧ true = true ∧ 1 = 1 ∧ 2 ≤ 2) ∧
        K (frmR [J] (bodyOf Try.f64) 4)
         (Sy.mk (SV.ptr 0 b 0 :: (rawR u 1 (SV.str (List.getD nt 0 ByteArray.empty) :: (SV.raw (u 5) :: (SV.raw (u 6) :: (SV.ptr 0 b 0 :: (SV.ptr 0 b 0 :: (SV.ptr 0 b 1 :: (SV.vec 2 aoN (List.length nt) capN :: (SV.int IntKind.i64 (↑(List.length nt) : Int) :: (SV.bool true :: (SV.ptr 0 b 0 :: (SV.ptr 0 b 0 :: (SV.ptr 0 b 1 :: (SV.vec 2 aoN (List.length nt) capN :: (SV.eptr 2 (Addr.blkD aoN) (Addr.offD aoN) 1 0 0 :: (SV.str (List.getD nt 0 ByteArray.empty) :: (SV.ptr 0 b 0 :: (SV.ptr 0 b 0 :: (SV.ptr 0 b 0 :: (SV.ptr 0 b 1 :: (SV.vec 2 aoN (List.length nt) capN :: (SV.sub 2 aoN capN 1 1 (List.length nt) :: (SV.ptr 0 b 0 :: (SV.ptr 0 b 1 :: (rawR u 27 [] 20)))))))))))))))))))))))) 3))
          [Ent.mk (Loc.blk b) (SObj.cells [SV.vec 1 aoL (List.length L) capL, SV.sub 2 aoN capN 1 1 (List.length nt)] (103 : TypeId)),
           Ent.mk (Loc.sl aoL capL) (SObj.vecL (112 : TypeId) 2 encR L (RGrp.mk (ByteArray.mk #[]) (@none Addr) 0 [])),
           Ent.mk (Loc.sl aoN capN) (SObj.vecL (9 : TypeId) 1 encS nt ByteArray.empty), pk 0 rest])
 | false =>
  N
   [Ent.mk (Loc.blk b) (SObj.cells [SV.vec 1 aoL (List.length L) capL, SV.vec 2 aoN (List.length nt) capN] (103 : TypeId)),
    Ent.mk (Loc.sl aoL capL) (SObj.vecL (112 : TypeId) 2 encR L (RGrp.mk (ByteArray.mk #[]) (@none Addr) 0 [])),
    Ent.mk (Loc.sl aoN capN) (SObj.vecL (9 : TypeId) 1 encS nt ByteArray.empty), pk 0 rest]
   (SV.tuple [SV.str (ByteArray.mk #[]), SV.bool false])) := by kernel_rfl


theorem rEm_4 (K : List Frm → Sy → Prop) (N : List Ent → SV → Prop) (J0 : Act → World → Prop) (r : RG) (b : Nat) (n : ByteArray) (u : Nat → Value) : (run Try.prog [(89, adtC rgE ratM)] false [5] K (retP Try.prog Try.f64.results.toList N) 900 (frmR [J0] (bodyOf Try.f64) 4) ⟨mkT u 47 0 [(0, .ptr 0 b 0), (4, .str n)], [pkA b rgE r]⟩) = (
true = true ∧
 b = b ∧
  ∃ (h : RG = RG),
   AdtIs (fun (s : RG) (b : Nat) ↦ packs (rgE s b)) rgE ∧
    rOk r ∧
     K (frmR [J0] (bodyOf Try.f64) 5)
      (Sy.mk (SV.ptr 0 b 0 :: (rawR u 1 (SV.str n :: (SV.int IntKind.i64 (↑(rAt r.3 n) : Int) :: (SV.bool (rHas r.3 n) :: (rawR u 7 (SV.tuple [SV.int IntKind.i64 (↑(rAt r.3 n) : Int), SV.bool (rHas r.3 n)] :: (SV.ptr 0 b 0 :: (SV.str n :: (SV.tuple [SV.int IntKind.i64 (↑(rAt r.3 n) : Int), SV.bool (rHas r.3 n)] :: (SV.int IntKind.i64 (↑(rAt r.3 n) : Int) :: (SV.bool (rHas r.3 n) :: (rawR u 33 [] 14))))))) 20)))) 3))
       [pkA b rgE r])) := by kernel_rfl


theorem rEm_5 (K : List Frm → Sy → Prop) (N : List Ent → SV → Prop) (J0 : Act → World → Prop) (aoL : Option Addr) (capL : Nat) (L : List RGrp) (aoN : Option Addr) (capN : Nat) (nt : List ByteArray) (b : Nat) (rest : List Ent) (n : ByteArray) (i : Nat) (ok : Bool) (u : Nat → Value) : (run Try.prog [] false [] K (retP Try.prog Try.f64.results.toList N) 900 (frmR [J0] (bodyOf Try.f64) 5) ⟨mkT u 47 0 [(0, .ptr 0 b 0), (4, .str n), (5, .int .i64 (i : Int)), (6, .bool ok)], [⟨.blk b, .cells [.vec 1 aoL (L).length capL, .vec 2 aoN (nt).length capN] 103⟩, ⟨.sl aoL capL, .vecL 112 2 encR (L) zR⟩, ⟨.sl aoN capN, .vecL 9 1 encS (nt) ByteArray.empty⟩, pk 0 rest]⟩) = (
match ok with
| true =>
 b = b ∧
  (aoL = aoL ∧ capL = capL ∧ List.length L = List.length L ∧ (0 : Int) ≤ (↑i : Int) ∧ (↑i : Int) < (↑(List.length L) : Int)) ∧
   (Addr.blkD aoL = Addr.blkD aoL ∧ Addr.offD aoL = Addr.offD aoL ∧ 2 = 2 ∧ Int.toNat (↑i : Int) < List.length L) ∧
    match (↑(List.length (List.getD L (Int.toNat (↑i : Int)) (RGrp.mk (ByteArray.mk #[]) (@none Addr) 0 [])).4) : Int) == (0 : Int) with
    | true =>
     N
      [Ent.mk (Loc.blk b) (SObj.cells [SV.vec 1 aoL (List.length L) capL, SV.vec 2 aoN (List.length nt) capN] (103 : TypeId)),
       Ent.mk (Loc.sl aoL capL) (SObj.vecL (112 : TypeId) 2 encR L (RGrp.mk (ByteArray.mk #[]) (@none Addr) 0 [])),
       Ent.mk (Loc.sl aoN capN) (SObj.vecL (9 : TypeId) 1 encS nt ByteArray.empty), pk 0 rest]
      (SV.tuple [SV.str n, SV.bool true])
    | false =>
     K (Frm.loop J0 :: Frm.blk 0 :: frm [] (bodyOf Try.f64) [1, 1] [])
      (Sy.mk (SV.ptr 0 b 0 :: (rawR u 1 (SV.str n :: (SV.int IntKind.i64 (↑i : Int) :: (SV.bool ok :: (rawR u 7 (SV.bool ok :: (SV.bool true :: (SV.ptr 0 b 0 :: (SV.ptr 0 b 0 :: (SV.ptr 0 b 0 :: (SV.vec 1 aoL (List.length L) capL :: (SV.int IntKind.i64 (↑i : Int) :: (SV.eptr 1 (Addr.blkD aoL) (Addr.offD aoL) 2 (Int.toNat (↑i : Int)) 0 :: (SV.eptr 1 (Addr.blkD aoL) (Addr.offD aoL) 2 (Int.toNat (↑i : Int)) 1 :: (SV.vec 4 (List.getD L (Int.toNat (↑i : Int)) (RGrp.mk (ByteArray.mk #[]) (@none Addr) 0 [])).ao (List.length (List.getD L (Int.toNat (↑i : Int)) (RGrp.mk (ByteArray.mk #[]) (@none Addr) 0 [])).4) (List.getD L (Int.toNat (↑i : Int)) (RGrp.mk (ByteArray.mk #[]) (@none Addr) 0 [])).3 :: (SV.int IntKind.i64 (↑(List.length (List.getD L (Int.toNat (↑i : Int)) (RGrp.mk (ByteArray.mk #[]) (@none Addr) 0 [])).4) : Int) :: ((SV.bool ((↑(List.length (List.getD L (Int.toNat (↑i : Int)) (RGrp.mk (ByteArray.mk #[]) (@none Addr) 0 [])).4) : Int) == (0 : Int))) :: (SV.bool false :: (SV.raw (u 46) :: [])))))))))))))) 26)))) 3))
       [Ent.mk (Loc.blk b) (SObj.cells [SV.vec 1 aoL (List.length L) capL, SV.vec 2 aoN (List.length nt) capN] (103 : TypeId)),
        Ent.mk (Loc.sl aoL capL) (SObj.vecL (112 : TypeId) 2 encR L (RGrp.mk (ByteArray.mk #[]) (@none Addr) 0 [])),
        Ent.mk (Loc.sl aoN capN) (SObj.vecL (9 : TypeId) 1 encS nt ByteArray.empty), pk 0 rest])
| false =>
 K (Frm.loop J0 :: Frm.blk 0 :: frm [] (bodyOf Try.f64) [1, 1] [])
  (Sy.mk (SV.ptr 0 b 0 :: (rawR u 1 (SV.str n :: (SV.int IntKind.i64 (↑i : Int) :: (SV.bool ok :: (rawR u 7 (SV.bool ok :: (SV.bool false :: (rawE (SV.bool false :: (SV.raw (u 46) :: [])) 10))) 26)))) 3))
   [Ent.mk (Loc.blk b) (SObj.cells [SV.vec 1 aoL (List.length L) capL, SV.vec 2 aoN (List.length nt) capN] (103 : TypeId)),
    Ent.mk (Loc.sl aoL capL) (SObj.vecL (112 : TypeId) 2 encR L (RGrp.mk (ByteArray.mk #[]) (@none Addr) 0 [])),
    Ent.mk (Loc.sl aoN capN) (SObj.vecL (9 : TypeId) 1 encS nt ByteArray.empty), pk 0 rest])) := by kernel_rfl
end Go.Proofs.Ytihajdkipkfiiaa

