import Derived.Test.YtihajdkipkfiiaaMgTrackPlays7
import Derived.Test.YtihajdkipkfiiaaMgTrackPlays6
import Derived.Test.YtihajdkipkfiiaaMgTrackPlays5
/- YtihajdkipkfiiaaTq1Run -/
namespace Go.Proofs.Ytihajdkipkfiiaa
set_option linter.unusedVariables false
open Go Go.RowKit
set_option maxHeartbeats 0
set_option maxRecDepth 100000
set_option linter.unusedVariables false
set_option maxRecDepth 100000

theorem tq_start (K : List Frm → Sy → Prop) (N : List Ent → SV → Prop) (ao : Option Addr) (cap : Nat) (bs : List StepT) : (run Try.prog tqT false [] K (retP Try.prog Try.f10.results.toList N) 600 [.code (bodyOf Try.f10)] ⟨padTo 471 [.vec 0 ao bs.length cap], [⟨.sl ao cap, .roL 5 encStepT bs StepT.zero⟩, factsT bs]⟩) = (
true = true ∧
 match decide ((↑(List.length bs) : Int) > (100 : Int)) with
 | true => N [Ent.mk (Loc.sl ao cap) (SObj.roL 5 encStepT bs (StepT.mk (0 : Int) (0 : Int) (0 : Int) (ByteArray.mk #[]) (@none Addr) 0 0 [])), factsT bs] (SV.bool true)
 | false =>
  true = true ∧
   ∀ (b bo bp : Nat),
    K (frm [] (bodyOf Try.f10) [1, 1, 1, 1, 1, 0, 1, 0] [])
     (Sy.mk (SV.vec 0 ao (List.length bs) cap :: (SV.raw (Value.tuple #[]) :: (SV.bool false :: (SV.ptr 2 b 0 :: (SV.raw (Value.slice (@none Addr) 0 0) :: (SV.int IntKind.i64 (0 : Int) :: (rawE (SV.bool true :: (SV.bool false :: (SV.vec 0 ao (List.length bs) cap :: (SV.int IntKind.i64 (↑(List.length bs) : Int) :: (SV.bool false :: (SV.ptr 2 b 0 :: (rawE [] 433))))))) 26)))))))
      [Ent.mk (Loc.sl ao cap) (SObj.roL 5 encStepT bs (StepT.mk (0 : Int) (0 : Int) (0 : Int) (ByteArray.mk #[]) (@none Addr) 0 0 [])), factsT bs,
       pkA b trkE (Trk.mk bo bp [] [])])) := by kernel_rfl


theorem tq_l1 (K : List Frm → Sy → Prop) (N : List Ent → SV → Prop) (J : Act → World → Prop) (ao : Option Addr) (cap : Nat) (bs : List StepT) (b : Nat) (s : Trk) (am : Option Addr) (cm : Nat) (m : PRow) (i : Nat) (u : Nat → Value) : (run Try.prog tqT false [11, 81] K (retP Try.prog Try.f10.results.toList N) 900 (frm [J] (bodyOf Try.f10) [1, 1, 1, 1, 1, 0, 1, 0, 0] []) ⟨mkT u 471 0 [(0, .vec 0 ao bs.length cap), (3, .ptr 2 b 0), (4, .vec 3 am (m).length cm), (5, .int .i64 (i : Int))], [⟨.sl ao cap, .roL 5 encStepT bs StepT.zero⟩, factsT bs, pkA b trkE (s), ⟨.sl am cm, .vecL 88 2 encPr (m) zPr⟩]⟩) = (
match decide ((↑i : Int) < (↑(List.length bs) : Int)) with
| true =>
 (ao = ao ∧ cap = cap ∧ List.length bs = List.length bs ∧ (0 : Int) ≤ (↑i : Int) ∧ (↑i : Int) < (↑(List.length bs) : Int)) ∧
  (Addr.blkD ao = Addr.blkD ao ∧ Addr.offD ao = Addr.offD ao ∧ 5 = 5 ∧ Int.toNat (↑i : Int) < List.length bs ∧ 5 = 5) ∧
   ∀ (b_1 : Nat),
    (b_1 = b_1 ∧ true = true ∧ 5 = 5 ∧ 5 ≤ 5) ∧
     K (frmR [J] (bodyOf Try.f10) 11)
      (Sy.mk (SV.vec 0 ao (List.length bs) cap :: (SV.raw (u 1) :: (SV.raw (u 2) :: (SV.ptr 2 b 0 :: (SV.vec 3 am (List.length m) cm :: (SV.int IntKind.i64 (↑i : Int) :: (SV.ptr 4 b_1 0 :: (rawR u 7 (SV.int IntKind.i64 (↑i : Int) :: (SV.vec 0 ao (List.length bs) cap :: (SV.int IntKind.i64 (↑(List.length bs) : Int) :: (SV.bool true :: (SV.raw (u 42) :: (SV.raw (u 43) :: (SV.vec 0 ao (List.length bs) cap :: (SV.int IntKind.i64 (↑i : Int) :: (SV.eptr 0 (Addr.blkD ao) (Addr.offD ao) 5 (Int.toNat (↑i : Int)) 0 :: (SV.agg [SV.int IntKind.i64 (List.getD bs (Int.toNat (↑i : Int)) (StepT.mk (0 : Int) (0 : Int) (0 : Int) (ByteArray.mk #[]) (@none Addr) 0 0 [])).1, SV.int IntKind.i64 (List.getD bs (Int.toNat (↑i : Int)) (StepT.mk (0 : Int) (0 : Int) (0 : Int) (ByteArray.mk #[]) (@none Addr) 0 0 [])).2, SV.int IntKind.i64 (List.getD bs (Int.toNat (↑i : Int)) (StepT.mk (0 : Int) (0 : Int) (0 : Int) (ByteArray.mk #[]) (@none Addr) 0 0 [])).3, SV.str (List.getD bs (Int.toNat (↑i : Int)) (StepT.mk (0 : Int) (0 : Int) (0 : Int) (ByteArray.mk #[]) (@none Addr) 0 0 [])).4, SV.raw (Value.slice (List.getD bs (Int.toNat (↑i : Int)) (StepT.mk (0 : Int) (0 : Int) (0 : Int) (ByteArray.mk #[]) (@none Addr) 0 0 [])).ao (List.getD bs (Int.toNat (↑i : Int)) (StepT.mk (0 : Int) (0 : Int) (0 : Int) (ByteArray.mk #[]) (@none Addr) 0 0 [])).6 (List.getD bs (Int.toNat (↑i : Int)) (StepT.mk (0 : Int) (0 : Int) (0 : Int) (ByteArray.mk #[]) (@none Addr) 0 0 [])).7)] :: (rawR u 48 [] 423))))))))))) 31))))))))
       [Ent.mk (Loc.sl ao cap) (SObj.roL 5 encStepT bs (StepT.mk (0 : Int) (0 : Int) (0 : Int) (ByteArray.mk #[]) (@none Addr) 0 0 [])), factsT bs, pkA b trkE s,
        Ent.mk (Loc.sl am cm) (SObj.vecL (88 : TypeId) 2 encPr m ((0 : Int), ByteArray.mk #[])),
        Ent.mk (Loc.blk b_1)
         (SObj.cells
          [SV.int IntKind.i64 (List.getD bs (Int.toNat (↑i : Int)) (StepT.mk (0 : Int) (0 : Int) (0 : Int) (ByteArray.mk #[]) (@none Addr) 0 0 [])).1,
           SV.int IntKind.i64 (List.getD bs (Int.toNat (↑i : Int)) (StepT.mk (0 : Int) (0 : Int) (0 : Int) (ByteArray.mk #[]) (@none Addr) 0 0 [])).2,
           SV.int IntKind.i64 (List.getD bs (Int.toNat (↑i : Int)) (StepT.mk (0 : Int) (0 : Int) (0 : Int) (ByteArray.mk #[]) (@none Addr) 0 0 [])).3,
           SV.str (List.getD bs (Int.toNat (↑i : Int)) (StepT.mk (0 : Int) (0 : Int) (0 : Int) (ByteArray.mk #[]) (@none Addr) 0 0 [])).4,
           SV.raw
            (Value.slice (List.getD bs (Int.toNat (↑i : Int)) (StepT.mk (0 : Int) (0 : Int) (0 : Int) (ByteArray.mk #[]) (@none Addr) 0 0 [])).ao
             (List.getD bs (Int.toNat (↑i : Int)) (StepT.mk (0 : Int) (0 : Int) (0 : Int) (ByteArray.mk #[]) (@none Addr) 0 0 [])).6
             (List.getD bs (Int.toNat (↑i : Int)) (StepT.mk (0 : Int) (0 : Int) (0 : Int) (ByteArray.mk #[]) (@none Addr) 0 0 [])).7)]
          84)])
| false =>
 K (frmR [] (bodyOf Try.f10) 81)
  (Sy.mk (SV.vec 0 ao (List.length bs) cap :: (SV.raw (u 1) :: (SV.raw (u 2) :: (SV.ptr 2 b 0 :: (SV.vec 3 am (List.length m) cm :: (SV.int IntKind.i64 (↑i : Int) :: (rawR u 6 (SV.int IntKind.i64 (↑i : Int) :: (SV.vec 0 ao (List.length bs) cap :: (SV.int IntKind.i64 (↑(List.length bs) : Int) :: (SV.bool false :: (rawR u 42 [] 429))))) 32)))))))
   [Ent.mk (Loc.sl ao cap) (SObj.roL 5 encStepT bs (StepT.mk (0 : Int) (0 : Int) (0 : Int) (ByteArray.mk #[]) (@none Addr) 0 0 [])), factsT bs, pkA b trkE s,
    Ent.mk (Loc.sl am cm) (SObj.vecL (88 : TypeId) 2 encPr m ((0 : Int), ByteArray.mk #[]))])) := by kernel_rfl


theorem tq_11 (K : List Frm → Sy → Prop) (N : List Ent → SV → Prop) (J0 : Act → World → Prop) (ao : Option Addr) (cap : Nat) (bs : List StepT) (b : Nat) (s : Trk) (am : Option Addr) (cm : Nat) (m : PRow) (i : Nat) (x : StepT) (b6 : Nat) (u : Nat → Value) : (run Try.prog tqT false [15, 43, 50, 57] K (retP Try.prog Try.f10.results.toList N) 1500 (frmR [J0] (bodyOf Try.f10) 11) ⟨mkT u 471 0 [(0, .vec 0 ao bs.length cap), (3, .ptr 2 b 0), (4, .vec 3 am (m).length cm), (5, .int .i64 (i : Int)), (6, .ptr 4 b6 0)], [⟨.sl ao cap, .roL 5 encStepT bs StepT.zero⟩, factsT bs, pkA b trkE (s), ⟨.sl am cm, .vecL 88 2 encPr (m) zPr⟩, ⟨.blk b6, .cells [.int .i64 x.what, .int .i64 x.a, .int .i64 x.b, .str x.unit, .vec 5 x.ao x.pids.length x.cap] 84⟩, ⟨.sl x.ao x.cap, .roL 1 encI1 x.pids 0⟩]⟩) = (
b6 = b6 ∧
 match decide ((↑(ByteArray.size x.4) : Int) > (100 : Int)) with
 | true =>
  N
   [Ent.mk (Loc.sl ao cap) (SObj.roL 5 encStepT bs (StepT.mk (0 : Int) (0 : Int) (0 : Int) (ByteArray.mk #[]) (@none Addr) 0 0 [])), factsT bs, pkA b trkE s,
    Ent.mk (Loc.sl am cm) (SObj.vecL (88 : TypeId) 2 encPr m ((0 : Int), ByteArray.mk #[])),
    Ent.mk (Loc.blk b6) (SObj.cells [SV.int IntKind.i64 x.1, SV.int IntKind.i64 x.2, SV.int IntKind.i64 x.3, SV.str x.4, SV.vec 5 x.ao (List.length x.8) x.7] (84 : TypeId)),
    Ent.mk (Loc.sl x.ao x.7) (SObj.roL 1 encI1 x.8 (0 : Int))]
   (SV.bool true)
 | false =>
  b6 = b6 ∧
   match decide ((↑(List.length x.8) : Int) > (30 : Int)) with
   | true =>
    N
     [Ent.mk (Loc.sl ao cap) (SObj.roL 5 encStepT bs (StepT.mk (0 : Int) (0 : Int) (0 : Int) (ByteArray.mk #[]) (@none Addr) 0 0 [])), factsT bs, pkA b trkE s,
      Ent.mk (Loc.sl am cm) (SObj.vecL (88 : TypeId) 2 encPr m ((0 : Int), ByteArray.mk #[])),
      Ent.mk (Loc.blk b6) (SObj.cells [SV.int IntKind.i64 x.1, SV.int IntKind.i64 x.2, SV.int IntKind.i64 x.3, SV.str x.4, SV.vec 5 x.ao (List.length x.8) x.7] (84 : TypeId)),
      Ent.mk (Loc.sl x.ao x.7) (SObj.roL 1 encI1 x.8 (0 : Int))]
     (SV.bool true)
   | false =>
    b6 = b6 ∧
     true = true ∧
      ∃ (m_1 : PRow),
       some (Ent.mk (Loc.sl am cm) (SObj.vecL (88 : TypeId) 2 encPr m ((0 : Int), ByteArray.mk #[]))) = some (vecP am cm m_1) ∧
        (List.length m = List.length m_1 ∧ List.length m_1 ≤ 1000000) ∧
         b6 = b6 ∧
          match x.1 == (0 : Int) with
          | true =>
           K (frmR [J0] (bodyOf Try.f10) 43)
            (Sy.mk (SV.vec 0 ao (List.length bs) cap :: (SV.raw (u 1) :: (SV.raw (u 2) :: (SV.ptr 2 b 0 :: (SV.vec 3 am (List.length m) cm :: (SV.int IntKind.i64 (↑i : Int) :: (SV.ptr 4 b6 0 :: (SV.int IntKind.i64 (atP m_1 x.2) :: (rawR u 8 (SV.ptr 4 b6 3 :: (SV.str x.4 :: (SV.int IntKind.i64 (↑(ByteArray.size x.4) : Int) :: (SV.bool (decide ((↑(ByteArray.size x.4) : Int) > (100 : Int))) :: (SV.bool false :: (SV.ptr 4 b6 4 :: (SV.vec 5 x.ao (List.length x.8) x.7 :: (SV.int IntKind.i64 (↑(List.length x.8) : Int) :: (SV.bool (decide ((↑(List.length x.8) : Int) > (30 : Int))) :: (SV.bool false :: (SV.vec 3 am (List.length m) cm :: (SV.ptr 4 b6 1 :: (SV.int IntKind.i64 x.2 :: (SV.int IntKind.i64 (atP m_1 x.2) :: (SV.ptr 4 b6 0 :: (SV.int IntKind.i64 x.1 :: (rawR u 64 (SV.bool true :: ((SV.bool (x.1 == (0 : Int))) :: (rawR u 187 [] 284))) 121))))))))))))))))) 40)))))))))
             [Ent.mk (Loc.sl ao cap) (SObj.roL 5 encStepT bs (StepT.mk (0 : Int) (0 : Int) (0 : Int) (ByteArray.mk #[]) (@none Addr) 0 0 [])), factsT bs,
              pkA b trkE s, Ent.mk (Loc.sl am cm) (SObj.vecL (88 : TypeId) 2 encPr m ((0 : Int), ByteArray.mk #[])),
              Ent.mk (Loc.blk b6)
               (SObj.cells [SV.int IntKind.i64 x.1, SV.int IntKind.i64 x.2, SV.int IntKind.i64 x.3, SV.str x.4, SV.vec 5 x.ao (List.length x.8) x.7] (84 : TypeId)),
              Ent.mk (Loc.sl x.ao x.7) (SObj.roL 1 encI1 x.8 (0 : Int))])
          | false =>
           match x.1 == (1 : Int) with
           | true =>
            K (frmR [J0] (bodyOf Try.f10) 43)
             (Sy.mk (SV.vec 0 ao (List.length bs) cap :: (SV.raw (u 1) :: (SV.raw (u 2) :: (SV.ptr 2 b 0 :: (SV.vec 3 am (List.length m) cm :: (SV.int IntKind.i64 (↑i : Int) :: (SV.ptr 4 b6 0 :: (SV.int IntKind.i64 (atP m_1 x.2) :: (rawR u 8 (SV.ptr 4 b6 3 :: (SV.str x.4 :: (SV.int IntKind.i64 (↑(ByteArray.size x.4) : Int) :: (SV.bool (decide ((↑(ByteArray.size x.4) : Int) > (100 : Int))) :: (SV.bool false :: (SV.ptr 4 b6 4 :: (SV.vec 5 x.ao (List.length x.8) x.7 :: (SV.int IntKind.i64 (↑(List.length x.8) : Int) :: (SV.bool (decide ((↑(List.length x.8) : Int) > (30 : Int))) :: (SV.bool false :: (SV.vec 3 am (List.length m) cm :: (SV.ptr 4 b6 1 :: (SV.int IntKind.i64 x.2 :: (SV.int IntKind.i64 (atP m_1 x.2) :: (SV.ptr 4 b6 0 :: (SV.int IntKind.i64 x.1 :: (rawR u 64 (SV.bool true :: ((SV.bool (x.1 == (0 : Int))) :: ((SV.bool (x.1 == (1 : Int))) :: (rawR u 188 [] 283)))) 121))))))))))))))))) 40)))))))))
              [Ent.mk (Loc.sl ao cap) (SObj.roL 5 encStepT bs (StepT.mk (0 : Int) (0 : Int) (0 : Int) (ByteArray.mk #[]) (@none Addr) 0 0 [])), factsT bs,
               pkA b trkE s, Ent.mk (Loc.sl am cm) (SObj.vecL (88 : TypeId) 2 encPr m ((0 : Int), ByteArray.mk #[])),
               Ent.mk (Loc.blk b6)
                (SObj.cells [SV.int IntKind.i64 x.1, SV.int IntKind.i64 x.2, SV.int IntKind.i64 x.3, SV.str x.4, SV.vec 5 x.ao (List.length x.8) x.7] (84 : TypeId)),
               Ent.mk (Loc.sl x.ao x.7) (SObj.roL 1 encI1 x.8 (0 : Int))])
           | false =>
            match x.1 == (2 : Int) with
            | true =>
             K (frmR [J0] (bodyOf Try.f10) 43)
              (Sy.mk (SV.vec 0 ao (List.length bs) cap :: (SV.raw (u 1) :: (SV.raw (u 2) :: (SV.ptr 2 b 0 :: (SV.vec 3 am (List.length m) cm :: (SV.int IntKind.i64 (↑i : Int) :: (SV.ptr 4 b6 0 :: (SV.int IntKind.i64 (atP m_1 x.2) :: (rawR u 8 (SV.ptr 4 b6 3 :: (SV.str x.4 :: (SV.int IntKind.i64 (↑(ByteArray.size x.4) : Int) :: (SV.bool (decide ((↑(ByteArray.size x.4) : Int) > (100 : Int))) :: (SV.bool false :: (SV.ptr 4 b6 4 :: (SV.vec 5 x.ao (List.length x.8) x.7 :: (SV.int IntKind.i64 (↑(List.length x.8) : Int) :: (SV.bool (decide ((↑(List.length x.8) : Int) > (30 : Int))) :: (SV.bool false :: (SV.vec 3 am (List.length m) cm :: (SV.ptr 4 b6 1 :: (SV.int IntKind.i64 x.2 :: (SV.int IntKind.i64 (atP m_1 x.2) :: (SV.ptr 4 b6 0 :: (SV.int IntKind.i64 x.1 :: (rawR u 64 (SV.bool true :: ((SV.bool (x.1 == (0 : Int))) :: ((SV.bool (x.1 == (1 : Int))) :: ((SV.bool (x.1 == (2 : Int))) :: (rawR u 189 [] 282))))) 121))))))))))))))))) 40)))))))))
               [Ent.mk (Loc.sl ao cap) (SObj.roL 5 encStepT bs (StepT.mk (0 : Int) (0 : Int) (0 : Int) (ByteArray.mk #[]) (@none Addr) 0 0 [])), factsT bs,
                pkA b trkE s, Ent.mk (Loc.sl am cm) (SObj.vecL (88 : TypeId) 2 encPr m ((0 : Int), ByteArray.mk #[])),
                Ent.mk (Loc.blk b6)
                 (SObj.cells [SV.int IntKind.i64 x.1, SV.int IntKind.i64 x.2, SV.int IntKind.i64 x.3, SV.str x.4, SV.vec 5 x.ao (List.length x.8) x.7] (84 : TypeId)),
                Ent.mk (Loc.sl x.ao x.7) (SObj.roL 1 encI1 x.8 (0 : Int))])
            | false =>
             match x.1 == (3 : Int) with
             | true =>
              K (frmR [J0] (bodyOf Try.f10) 50)
               (Sy.mk (SV.vec 0 ao (List.length bs) cap :: (SV.raw (u 1) :: (SV.raw (u 2) :: (SV.ptr 2 b 0 :: (SV.vec 3 am (List.length m) cm :: (SV.int IntKind.i64 (↑i : Int) :: (SV.ptr 4 b6 0 :: (SV.int IntKind.i64 (atP m_1 x.2) :: (rawR u 8 (SV.ptr 4 b6 3 :: (SV.str x.4 :: (SV.int IntKind.i64 (↑(ByteArray.size x.4) : Int) :: (SV.bool (decide ((↑(ByteArray.size x.4) : Int) > (100 : Int))) :: (SV.bool false :: (SV.ptr 4 b6 4 :: (SV.vec 5 x.ao (List.length x.8) x.7 :: (SV.int IntKind.i64 (↑(List.length x.8) : Int) :: (SV.bool (decide ((↑(List.length x.8) : Int) > (30 : Int))) :: (SV.bool false :: (SV.vec 3 am (List.length m) cm :: (SV.ptr 4 b6 1 :: (SV.int IntKind.i64 x.2 :: (SV.int IntKind.i64 (atP m_1 x.2) :: (SV.ptr 4 b6 0 :: (SV.int IntKind.i64 x.1 :: (rawR u 64 (SV.bool false :: ((SV.bool (x.1 == (0 : Int))) :: ((SV.bool (x.1 == (1 : Int))) :: ((SV.bool (x.1 == (2 : Int))) :: (rawR u 189 (SV.bool true :: ((SV.bool (x.1 == (3 : Int))) :: (rawR u 220 [] 251))) 29))))) 121))))))))))))))))) 40)))))))))
                [Ent.mk (Loc.sl ao cap) (SObj.roL 5 encStepT bs (StepT.mk (0 : Int) (0 : Int) (0 : Int) (ByteArray.mk #[]) (@none Addr) 0 0 [])), factsT bs,
                 pkA b trkE s, Ent.mk (Loc.sl am cm) (SObj.vecL (88 : TypeId) 2 encPr m ((0 : Int), ByteArray.mk #[])),
                 Ent.mk (Loc.blk b6)
                  (SObj.cells [SV.int IntKind.i64 x.1, SV.int IntKind.i64 x.2, SV.int IntKind.i64 x.3, SV.str x.4, SV.vec 5 x.ao (List.length x.8) x.7] (84 : TypeId)),
                 Ent.mk (Loc.sl x.ao x.7) (SObj.roL 1 encI1 x.8 (0 : Int))])
             | false =>
              match x.1 == (4 : Int) with
              | true =>
               K (frmR [J0] (bodyOf Try.f10) 50)
                (Sy.mk (SV.vec 0 ao (List.length bs) cap :: (SV.raw (u 1) :: (SV.raw (u 2) :: (SV.ptr 2 b 0 :: (SV.vec 3 am (List.length m) cm :: (SV.int IntKind.i64 (↑i : Int) :: (SV.ptr 4 b6 0 :: (SV.int IntKind.i64 (atP m_1 x.2) :: (rawR u 8 (SV.ptr 4 b6 3 :: (SV.str x.4 :: (SV.int IntKind.i64 (↑(ByteArray.size x.4) : Int) :: (SV.bool (decide ((↑(ByteArray.size x.4) : Int) > (100 : Int))) :: (SV.bool false :: (SV.ptr 4 b6 4 :: (SV.vec 5 x.ao (List.length x.8) x.7 :: (SV.int IntKind.i64 (↑(List.length x.8) : Int) :: (SV.bool (decide ((↑(List.length x.8) : Int) > (30 : Int))) :: (SV.bool false :: (SV.vec 3 am (List.length m) cm :: (SV.ptr 4 b6 1 :: (SV.int IntKind.i64 x.2 :: (SV.int IntKind.i64 (atP m_1 x.2) :: (SV.ptr 4 b6 0 :: (SV.int IntKind.i64 x.1 :: (rawR u 64 (SV.bool false :: ((SV.bool (x.1 == (0 : Int))) :: ((SV.bool (x.1 == (1 : Int))) :: ((SV.bool (x.1 == (2 : Int))) :: (rawR u 189 (SV.bool true :: ((SV.bool (x.1 == (3 : Int))) :: ((SV.bool (x.1 == (4 : Int))) :: (rawR u 221 [] 250)))) 29))))) 121))))))))))))))))) 40)))))))))
                 [Ent.mk (Loc.sl ao cap) (SObj.roL 5 encStepT bs (StepT.mk (0 : Int) (0 : Int) (0 : Int) (ByteArray.mk #[]) (@none Addr) 0 0 [])), factsT bs,
                  pkA b trkE s, Ent.mk (Loc.sl am cm) (SObj.vecL (88 : TypeId) 2 encPr m ((0 : Int), ByteArray.mk #[])),
                  Ent.mk (Loc.blk b6)
                   (SObj.cells [SV.int IntKind.i64 x.1, SV.int IntKind.i64 x.2, SV.int IntKind.i64 x.3, SV.str x.4, SV.vec 5 x.ao (List.length x.8) x.7] (84 : TypeId)),
                  Ent.mk (Loc.sl x.ao x.7) (SObj.roL 1 encI1 x.8 (0 : Int))])
              | false =>
               match x.1 == (5 : Int) with
               | true =>
                K (frmR [J0] (bodyOf Try.f10) 57)
                 (Sy.mk (SV.vec 0 ao (List.length bs) cap :: (SV.raw (u 1) :: (SV.raw (u 2) :: (SV.ptr 2 b 0 :: (SV.vec 3 am (List.length m) cm :: (SV.int IntKind.i64 (↑i : Int) :: (SV.ptr 4 b6 0 :: (SV.int IntKind.i64 (atP m_1 x.2) :: (rawR u 8 (SV.ptr 4 b6 3 :: (SV.str x.4 :: (SV.int IntKind.i64 (↑(ByteArray.size x.4) : Int) :: (SV.bool (decide ((↑(ByteArray.size x.4) : Int) > (100 : Int))) :: (SV.bool false :: (SV.ptr 4 b6 4 :: (SV.vec 5 x.ao (List.length x.8) x.7 :: (SV.int IntKind.i64 (↑(List.length x.8) : Int) :: (SV.bool (decide ((↑(List.length x.8) : Int) > (30 : Int))) :: (SV.bool false :: (SV.vec 3 am (List.length m) cm :: (SV.ptr 4 b6 1 :: (SV.int IntKind.i64 x.2 :: (SV.int IntKind.i64 (atP m_1 x.2) :: (SV.ptr 4 b6 0 :: (SV.int IntKind.i64 x.1 :: (rawR u 64 (SV.bool false :: ((SV.bool (x.1 == (0 : Int))) :: ((SV.bool (x.1 == (1 : Int))) :: ((SV.bool (x.1 == (2 : Int))) :: (rawR u 189 (SV.bool false :: ((SV.bool (x.1 == (3 : Int))) :: ((SV.bool (x.1 == (4 : Int))) :: (rawR u 221 (SV.bool true :: ((SV.bool (x.1 == (5 : Int))) :: (rawR u 257 [] 214))) 34)))) 29))))) 121))))))))))))))))) 40)))))))))
                  [Ent.mk (Loc.sl ao cap) (SObj.roL 5 encStepT bs (StepT.mk (0 : Int) (0 : Int) (0 : Int) (ByteArray.mk #[]) (@none Addr) 0 0 [])), factsT bs,
                   pkA b trkE s, Ent.mk (Loc.sl am cm) (SObj.vecL (88 : TypeId) 2 encPr m ((0 : Int), ByteArray.mk #[])),
                   Ent.mk (Loc.blk b6)
                    (SObj.cells [SV.int IntKind.i64 x.1, SV.int IntKind.i64 x.2, SV.int IntKind.i64 x.3, SV.str x.4, SV.vec 5 x.ao (List.length x.8) x.7] (84 : TypeId)),
                   Ent.mk (Loc.sl x.ao x.7) (SObj.roL 1 encI1 x.8 (0 : Int))])
               | false =>
                match x.1 == (6 : Int) with
                | true =>
                 K (frmR [J0] (bodyOf Try.f10) 57)
                  (Sy.mk (SV.vec 0 ao (List.length bs) cap :: (SV.raw (u 1) :: (SV.raw (u 2) :: (SV.ptr 2 b 0 :: (SV.vec 3 am (List.length m) cm :: (SV.int IntKind.i64 (↑i : Int) :: (SV.ptr 4 b6 0 :: (SV.int IntKind.i64 (atP m_1 x.2) :: (rawR u 8 (SV.ptr 4 b6 3 :: (SV.str x.4 :: (SV.int IntKind.i64 (↑(ByteArray.size x.4) : Int) :: (SV.bool (decide ((↑(ByteArray.size x.4) : Int) > (100 : Int))) :: (SV.bool false :: (SV.ptr 4 b6 4 :: (SV.vec 5 x.ao (List.length x.8) x.7 :: (SV.int IntKind.i64 (↑(List.length x.8) : Int) :: (SV.bool (decide ((↑(List.length x.8) : Int) > (30 : Int))) :: (SV.bool false :: (SV.vec 3 am (List.length m) cm :: (SV.ptr 4 b6 1 :: (SV.int IntKind.i64 x.2 :: (SV.int IntKind.i64 (atP m_1 x.2) :: (SV.ptr 4 b6 0 :: (SV.int IntKind.i64 x.1 :: (rawR u 64 (SV.bool false :: ((SV.bool (x.1 == (0 : Int))) :: ((SV.bool (x.1 == (1 : Int))) :: ((SV.bool (x.1 == (2 : Int))) :: (rawR u 189 (SV.bool false :: ((SV.bool (x.1 == (3 : Int))) :: ((SV.bool (x.1 == (4 : Int))) :: (rawR u 221 (SV.bool true :: ((SV.bool (x.1 == (5 : Int))) :: ((SV.bool (x.1 == (6 : Int))) :: (rawR u 258 [] 213)))) 34)))) 29))))) 121))))))))))))))))) 40)))))))))
                   [Ent.mk (Loc.sl ao cap) (SObj.roL 5 encStepT bs (StepT.mk (0 : Int) (0 : Int) (0 : Int) (ByteArray.mk #[]) (@none Addr) 0 0 [])),
                    factsT bs, pkA b trkE s, Ent.mk (Loc.sl am cm) (SObj.vecL (88 : TypeId) 2 encPr m ((0 : Int), ByteArray.mk #[])),
                    Ent.mk (Loc.blk b6)
                     (SObj.cells [SV.int IntKind.i64 x.1, SV.int IntKind.i64 x.2, SV.int IntKind.i64 x.3, SV.str x.4, SV.vec 5 x.ao (List.length x.8) x.7] (84 : TypeId)),
                    Ent.mk (Loc.sl x.ao x.7) (SObj.roL 1 encI1 x.8 (0 : Int))])
                | false =>
                 K (frmR [J0] (bodyOf Try.f10) 15)
                  (Sy.mk (SV.vec 0 ao (List.length bs) cap :: (SV.raw (u 1) :: (SV.raw (u 2) :: (SV.ptr 2 b 0 :: (SV.vec 3 am (List.length m) cm :: (SV.int IntKind.i64 (↑i : Int) :: (SV.ptr 4 b6 0 :: (SV.int IntKind.i64 (atP m_1 x.2) :: (rawR u 8 (SV.ptr 4 b6 3 :: (SV.str x.4 :: (SV.int IntKind.i64 (↑(ByteArray.size x.4) : Int) :: (SV.bool (decide ((↑(ByteArray.size x.4) : Int) > (100 : Int))) :: (SV.bool false :: (SV.ptr 4 b6 4 :: (SV.vec 5 x.ao (List.length x.8) x.7 :: (SV.int IntKind.i64 (↑(List.length x.8) : Int) :: (SV.bool (decide ((↑(List.length x.8) : Int) > (30 : Int))) :: (SV.bool false :: (SV.vec 3 am (List.length m) cm :: (SV.ptr 4 b6 1 :: (SV.int IntKind.i64 x.2 :: (SV.int IntKind.i64 (atP m_1 x.2) :: (SV.ptr 4 b6 0 :: (SV.int IntKind.i64 x.1 :: (rawR u 64 (SV.bool false :: ((SV.bool (x.1 == (0 : Int))) :: ((SV.bool (x.1 == (1 : Int))) :: ((SV.bool (x.1 == (2 : Int))) :: (rawR u 189 (SV.bool false :: ((SV.bool (x.1 == (3 : Int))) :: ((SV.bool (x.1 == (4 : Int))) :: (rawR u 221 (SV.bool false :: ((SV.bool (x.1 == (5 : Int))) :: ((SV.bool (x.1 == (6 : Int))) :: (rawR u 258 [] 213)))) 34)))) 29))))) 121))))))))))))))))) 40)))))))))
                   [Ent.mk (Loc.sl ao cap) (SObj.roL 5 encStepT bs (StepT.mk (0 : Int) (0 : Int) (0 : Int) (ByteArray.mk #[]) (@none Addr) 0 0 [])),
                    factsT bs, pkA b trkE s, Ent.mk (Loc.sl am cm) (SObj.vecL (88 : TypeId) 2 encPr m ((0 : Int), ByteArray.mk #[])),
                    Ent.mk (Loc.blk b6)
                     (SObj.cells [SV.int IntKind.i64 x.1, SV.int IntKind.i64 x.2, SV.int IntKind.i64 x.3, SV.str x.4, SV.vec 5 x.ao (List.length x.8) x.7] (84 : TypeId)),
                    Ent.mk (Loc.sl x.ao x.7) (SObj.roL 1 encI1 x.8 (0 : Int))])) := by kernel_rfl


theorem tq_43 (K : List Frm → Sy → Prop) (N : List Ent → SV → Prop) (J0 : Act → World → Prop) (ao : Option Addr) (cap : Nat) (bs : List StepT) (b : Nat) (s : Trk) (am : Option Addr) (cm : Nat) (m : PRow) (i : Nat) (x : StepT) (b6 : Nat) (k : Int) (u : Nat → Value) : (run Try.prog tqT false [62] K (retP Try.prog Try.f10.results.toList N) 1500 (frmR [J0] (bodyOf Try.f10) 43) ⟨mkT u 471 0 [(0, .vec 0 ao bs.length cap), (3, .ptr 2 b 0), (4, .vec 3 am (m).length cm), (5, .int .i64 (i : Int)), (6, .ptr 4 b6 0), (7, .int .i64 k)], [⟨.sl ao cap, .roL 5 encStepT bs StepT.zero⟩, factsT bs, pkA b trkE (s), ⟨.sl am cm, .vecL 88 2 encPr (m) zPr⟩, ⟨.blk b6, .cells [.int .i64 x.what, .int .i64 x.a, .int .i64 x.b, .str x.unit, .vec 5 x.ao x.pids.length x.cap] 84⟩, ⟨.sl x.ao x.cap, .roL 1 encI1 x.pids 0⟩]⟩) = (
b6 = b6 ∧
 match !sEq x.4 (ByteArray.mk #[]) with
 | true =>
  b6 = b6 ∧
   match decide (x.2 ≥ (2 : Int)) with
   | true =>
    b6 = b6 ∧
     b6 = b6 ∧
      true = true ∧
       b = b ∧
        ∃ (h : Trk = Trk),
         AdtIs (fun (s : Trk) (b : Nat) ↦ packs (trkE s b)) trkE ∧
          ∀ (nb : Nat),
           match !((tAdd s x.4 x.2 nb).2 == (0 : Int)) == decide (k < (0 : Int)) with
           | true =>
            N
             [Ent.mk (Loc.sl ao cap) (SObj.roL 5 encStepT bs (StepT.mk (0 : Int) (0 : Int) (0 : Int) (ByteArray.mk #[]) (@none Addr) 0 0 [])), factsT bs,
              pkA b trkE (tAdd s x.4 x.2 nb).1, Ent.mk (Loc.sl am cm) (SObj.vecL (88 : TypeId) 2 encPr m ((0 : Int), ByteArray.mk #[])),
              Ent.mk (Loc.blk b6)
               (SObj.cells [SV.int IntKind.i64 x.1, SV.int IntKind.i64 x.2, SV.int IntKind.i64 x.3, SV.str x.4, SV.vec 5 x.ao (List.length x.8) x.7] (84 : TypeId)),
              Ent.mk (Loc.sl x.ao x.7) (SObj.roL 1 encI1 x.8 (0 : Int))]
             (SV.bool false)
           | false =>
            match decide (k < (0 : Int)) with
            | true =>
             b6 = b6 ∧
              b6 = b6 ∧
               (true = true ∧ true = true) ∧
                true = true ∧
                 ∃ (m_1 : PRow),
                  some (Ent.mk (Loc.sl am cm) (SObj.vecL (88 : TypeId) 2 encPr m ((0 : Int), ByteArray.mk #[]))) = some (vecP am cm m_1) ∧
                   (List.length m = List.length m_1 ∧ List.length m_1 ≤ 1000000) ∧
                    ∀ (ao' : Option Addr) (cap' : Nat),
                     K (frmR [J0] (bodyOf Try.f10) 62)
                      (Sy.mk (SV.vec 0 ao (List.length bs) cap :: (SV.raw (u 1) :: (SV.raw (u 2) :: (SV.ptr 2 b 0 :: (SV.vec 6 ao' (List.length (insP m_1 (x.2, x.4))) cap' :: (SV.int IntKind.i64 (↑i : Int) :: (SV.ptr 4 b6 0 :: (SV.int IntKind.i64 k :: (SV.bool (decide (k < (0 : Int))) :: (rawR u 9 (SV.ptr 4 b6 3 :: (SV.str x.4 :: ((SV.bool !sEq x.4 (ByteArray.mk #[])) :: (SV.bool true :: (SV.ptr 4 b6 1 :: (SV.int IntKind.i64 x.2 :: (SV.bool (decide (x.2 ≥ (2 : Int))) :: (SV.bool (decide (x.2 ≥ (2 : Int))) :: (SV.bool true :: (SV.int IntKind.i64 k :: (SV.bool (decide (k < (0 : Int))) :: (SV.bool (decide (k < (0 : Int))) :: (SV.ptr 2 b 0 :: (SV.ptr 4 b6 3 :: (SV.str x.4 :: (SV.ptr 4 b6 1 :: (SV.int IntKind.i64 x.2 :: (SV.int IntKind.i64 (tAdd s x.4 x.2 nb).2 :: ((SV.bool ((tAdd s x.4 x.2 nb).2 == (0 : Int))) :: (SV.bool (decide (k < (0 : Int))) :: (SV.bool false :: (SV.bool true :: (SV.vec 3 am (List.length m) cm :: (SV.ptr 4 b6 1 :: (SV.int IntKind.i64 x.2 :: (SV.ptr 4 b6 3 :: (SV.str x.4 :: (SV.agg [SV.int IntKind.i64 x.2, SV.str x.4] :: (SV.vec 6 ao' (List.length (insP m_1 (x.2, x.4))) cap' :: (rawR u 218 [] 253)))))))))))))))))))))))))))))) 180))))))))))
                       [Ent.mk (Loc.sl ao cap) (SObj.roL 5 encStepT bs (StepT.mk (0 : Int) (0 : Int) (0 : Int) (ByteArray.mk #[]) (@none Addr) 0 0 [])),
                        factsT bs, pkA b trkE (tAdd s x.4 x.2 nb).1, Ent.mk (Loc.sl am cm) (SObj.vecL (88 : TypeId) 2 encPr m ((0 : Int), ByteArray.mk #[])),
                        Ent.mk (Loc.blk b6)
                         (SObj.cells [SV.int IntKind.i64 x.1, SV.int IntKind.i64 x.2, SV.int IntKind.i64 x.3, SV.str x.4, SV.vec 5 x.ao (List.length x.8) x.7]
                          (84 : TypeId)),
                        Ent.mk (Loc.sl x.ao x.7) (SObj.roL 1 encI1 x.8 (0 : Int)), vecP ao' cap' (insP m_1 (x.2, x.4))])
            | false =>
             K (frmR [J0] (bodyOf Try.f10) 62)
              (Sy.mk (SV.vec 0 ao (List.length bs) cap :: (SV.raw (u 1) :: (SV.raw (u 2) :: (SV.ptr 2 b 0 :: (SV.vec 3 am (List.length m) cm :: (SV.int IntKind.i64 (↑i : Int) :: (SV.ptr 4 b6 0 :: (SV.int IntKind.i64 k :: (SV.bool (decide (k < (0 : Int))) :: (rawR u 9 (SV.ptr 4 b6 3 :: (SV.str x.4 :: ((SV.bool !sEq x.4 (ByteArray.mk #[])) :: (SV.bool true :: (SV.ptr 4 b6 1 :: (SV.int IntKind.i64 x.2 :: (SV.bool (decide (x.2 ≥ (2 : Int))) :: (SV.bool (decide (x.2 ≥ (2 : Int))) :: (SV.bool true :: (SV.int IntKind.i64 k :: (SV.bool (decide (k < (0 : Int))) :: (SV.bool (decide (k < (0 : Int))) :: (SV.ptr 2 b 0 :: (SV.ptr 4 b6 3 :: (SV.str x.4 :: (SV.ptr 4 b6 1 :: (SV.int IntKind.i64 x.2 :: (SV.int IntKind.i64 (tAdd s x.4 x.2 nb).2 :: ((SV.bool ((tAdd s x.4 x.2 nb).2 == (0 : Int))) :: (SV.bool (decide (k < (0 : Int))) :: (SV.bool false :: (SV.bool false :: (rawR u 211 [] 260))))))))))))))))))))))) 180))))))))))
               [Ent.mk (Loc.sl ao cap) (SObj.roL 5 encStepT bs (StepT.mk (0 : Int) (0 : Int) (0 : Int) (ByteArray.mk #[]) (@none Addr) 0 0 [])), factsT bs,
                pkA b trkE (tAdd s x.4 x.2 nb).1, Ent.mk (Loc.sl am cm) (SObj.vecL (88 : TypeId) 2 encPr m ((0 : Int), ByteArray.mk #[])),
                Ent.mk (Loc.blk b6)
                 (SObj.cells [SV.int IntKind.i64 x.1, SV.int IntKind.i64 x.2, SV.int IntKind.i64 x.3, SV.str x.4, SV.vec 5 x.ao (List.length x.8) x.7] (84 : TypeId)),
                Ent.mk (Loc.sl x.ao x.7) (SObj.roL 1 encI1 x.8 (0 : Int))])
   | false =>
    b6 = b6 ∧
     b6 = b6 ∧
      true = true ∧
       b = b ∧
        ∃ (h : Trk = Trk),
         AdtIs (fun (s : Trk) (b : Nat) ↦ packs (trkE s b)) trkE ∧
          ∀ (nb : Nat),
           match !((tAdd s x.4 x.2 nb).2 == (0 : Int)) == false with
           | true =>
            N
             [Ent.mk (Loc.sl ao cap) (SObj.roL 5 encStepT bs (StepT.mk (0 : Int) (0 : Int) (0 : Int) (ByteArray.mk #[]) (@none Addr) 0 0 [])), factsT bs,
              pkA b trkE (tAdd s x.4 x.2 nb).1, Ent.mk (Loc.sl am cm) (SObj.vecL (88 : TypeId) 2 encPr m ((0 : Int), ByteArray.mk #[])),
              Ent.mk (Loc.blk b6)
               (SObj.cells [SV.int IntKind.i64 x.1, SV.int IntKind.i64 x.2, SV.int IntKind.i64 x.3, SV.str x.4, SV.vec 5 x.ao (List.length x.8) x.7] (84 : TypeId)),
              Ent.mk (Loc.sl x.ao x.7) (SObj.roL 1 encI1 x.8 (0 : Int))]
             (SV.bool false)
           | false =>
            K (frmR [J0] (bodyOf Try.f10) 62)
             (Sy.mk (SV.vec 0 ao (List.length bs) cap :: (SV.raw (u 1) :: (SV.raw (u 2) :: (SV.ptr 2 b 0 :: (SV.vec 3 am (List.length m) cm :: (SV.int IntKind.i64 (↑i : Int) :: (SV.ptr 4 b6 0 :: (SV.int IntKind.i64 k :: (SV.bool false :: (rawR u 9 (SV.ptr 4 b6 3 :: (SV.str x.4 :: ((SV.bool !sEq x.4 (ByteArray.mk #[])) :: (SV.bool true :: (SV.ptr 4 b6 1 :: (SV.int IntKind.i64 x.2 :: (SV.bool (decide (x.2 ≥ (2 : Int))) :: (SV.bool (decide (x.2 ≥ (2 : Int))) :: (SV.bool false :: (SV.raw (Value.tuple #[]) :: (SV.raw (Value.tuple #[]) :: (SV.bool false :: (SV.ptr 2 b 0 :: (SV.ptr 4 b6 3 :: (SV.str x.4 :: (SV.ptr 4 b6 1 :: (SV.int IntKind.i64 x.2 :: (SV.int IntKind.i64 (tAdd s x.4 x.2 nb).2 :: ((SV.bool ((tAdd s x.4 x.2 nb).2 == (0 : Int))) :: (SV.bool false :: (SV.bool false :: (SV.bool false :: (rawR u 211 [] 260))))))))))))))))))))))) 180))))))))))
              [Ent.mk (Loc.sl ao cap) (SObj.roL 5 encStepT bs (StepT.mk (0 : Int) (0 : Int) (0 : Int) (ByteArray.mk #[]) (@none Addr) 0 0 [])), factsT bs,
               pkA b trkE (tAdd s x.4 x.2 nb).1, Ent.mk (Loc.sl am cm) (SObj.vecL (88 : TypeId) 2 encPr m ((0 : Int), ByteArray.mk #[])),
               Ent.mk (Loc.blk b6)
                (SObj.cells [SV.int IntKind.i64 x.1, SV.int IntKind.i64 x.2, SV.int IntKind.i64 x.3, SV.str x.4, SV.vec 5 x.ao (List.length x.8) x.7] (84 : TypeId)),
               Ent.mk (Loc.sl x.ao x.7) (SObj.roL 1 encI1 x.8 (0 : Int))])
 | false =>
  b6 = b6 ∧
   b6 = b6 ∧
    true = true ∧
     b = b ∧
      ∃ (h : Trk = Trk),
       AdtIs (fun (s : Trk) (b : Nat) ↦ packs (trkE s b)) trkE ∧
        ∀ (nb : Nat),
         match !((tAdd s x.4 x.2 nb).2 == (0 : Int)) == false with
         | true =>
          N
           [Ent.mk (Loc.sl ao cap) (SObj.roL 5 encStepT bs (StepT.mk (0 : Int) (0 : Int) (0 : Int) (ByteArray.mk #[]) (@none Addr) 0 0 [])), factsT bs,
            pkA b trkE (tAdd s x.4 x.2 nb).1, Ent.mk (Loc.sl am cm) (SObj.vecL (88 : TypeId) 2 encPr m ((0 : Int), ByteArray.mk #[])),
            Ent.mk (Loc.blk b6)
             (SObj.cells [SV.int IntKind.i64 x.1, SV.int IntKind.i64 x.2, SV.int IntKind.i64 x.3, SV.str x.4, SV.vec 5 x.ao (List.length x.8) x.7] (84 : TypeId)),
            Ent.mk (Loc.sl x.ao x.7) (SObj.roL 1 encI1 x.8 (0 : Int))]
           (SV.bool false)
         | false =>
          K (frmR [J0] (bodyOf Try.f10) 62)
           (Sy.mk (SV.vec 0 ao (List.length bs) cap :: (SV.raw (u 1) :: (SV.raw (u 2) :: (SV.ptr 2 b 0 :: (SV.vec 3 am (List.length m) cm :: (SV.int IntKind.i64 (↑i : Int) :: (SV.ptr 4 b6 0 :: (SV.int IntKind.i64 k :: (SV.bool false :: (rawR u 9 (SV.ptr 4 b6 3 :: (SV.str x.4 :: ((SV.bool !sEq x.4 (ByteArray.mk #[])) :: (SV.bool false :: (rawE (SV.bool false :: (SV.bool false :: (SV.raw (Value.tuple #[]) :: (SV.raw (Value.tuple #[]) :: (SV.bool false :: (SV.ptr 2 b 0 :: (SV.ptr 4 b6 3 :: (SV.str x.4 :: (SV.ptr 4 b6 1 :: (SV.int IntKind.i64 x.2 :: (SV.int IntKind.i64 (tAdd s x.4 x.2 nb).2 :: ((SV.bool ((tAdd s x.4 x.2 nb).2 == (0 : Int))) :: (SV.bool false :: (SV.bool false :: (SV.bool false :: (rawR u 211 [] 260)))))))))))))))) 3))))) 180))))))))))
            [Ent.mk (Loc.sl ao cap) (SObj.roL 5 encStepT bs (StepT.mk (0 : Int) (0 : Int) (0 : Int) (ByteArray.mk #[]) (@none Addr) 0 0 [])), factsT bs,
             pkA b trkE (tAdd s x.4 x.2 nb).1, Ent.mk (Loc.sl am cm) (SObj.vecL (88 : TypeId) 2 encPr m ((0 : Int), ByteArray.mk #[])),
             Ent.mk (Loc.blk b6)
              (SObj.cells [SV.int IntKind.i64 x.1, SV.int IntKind.i64 x.2, SV.int IntKind.i64 x.3, SV.str x.4, SV.vec 5 x.ao (List.length x.8) x.7] (84 : TypeId)),
             Ent.mk (Loc.sl x.ao x.7) (SObj.roL 1 encI1 x.8 (0 : Int))])) := by kernel_rfl


theorem tq_50 (K : List Frm → Sy → Prop) (N : List Ent → SV → Prop) (J0 : Act → World → Prop) (ao : Option Addr) (cap : Nat) (bs : List StepT) (b : Nat) (s : Trk) (am : Option Addr) (cm : Nat) (m : PRow) (i : Nat) (x : StepT) (b6 : Nat) (k : Int) (u : Nat → Value) : (run Try.prog tqT false [62] K (retP Try.prog Try.f10.results.toList N) 1500 (frmR [J0] (bodyOf Try.f10) 50) ⟨mkT u 471 0 [(0, .vec 0 ao bs.length cap), (3, .ptr 2 b 0), (4, .vec 3 am (m).length cm), (5, .int .i64 (i : Int)), (6, .ptr 4 b6 0), (7, .int .i64 k)], [⟨.sl ao cap, .roL 5 encStepT bs StepT.zero⟩, factsT bs, pkA b trkE (s), ⟨.sl am cm, .vecL 88 2 encPr (m) zPr⟩, ⟨.blk b6, .cells [.int .i64 x.what, .int .i64 x.a, .int .i64 x.b, .str x.unit, .vec 5 x.ao x.pids.length x.cap] 84⟩, ⟨.sl x.ao x.cap, .roL 1 encI1 x.pids 0⟩]⟩) = (
match decide (k ≥ (0 : Int)) with
| true =>
 b6 = b6 ∧
  match decide (x.3 ≥ (2 : Int)) with
  | true =>
   b6 = b6 ∧
    true = true ∧
     ∃ (m_1 : PRow),
      some (Ent.mk (Loc.sl am cm) (SObj.vecL (88 : TypeId) 2 encPr m ((0 : Int), ByteArray.mk #[]))) = some (vecP am cm m_1) ∧
       (List.length m = List.length m_1 ∧ List.length m_1 ≤ 1000000) ∧
        b6 = b6 ∧
         b6 = b6 ∧
          true = true ∧
           b = b ∧
            ∃ (h : Trk = Trk),
             AdtIs (fun (s : Trk) (b : Nat) ↦ packs (trkE s b)) trkE ∧
              ∀ (nb : Nat),
               match !((tFork s x.2 x.3 nb).2 == (0 : Int)) == decide (atP m_1 x.3 < (0 : Int)) with
               | true =>
                N
                 [Ent.mk (Loc.sl ao cap) (SObj.roL 5 encStepT bs (StepT.mk (0 : Int) (0 : Int) (0 : Int) (ByteArray.mk #[]) (@none Addr) 0 0 [])), factsT bs,
                  pkA b trkE (tFork s x.2 x.3 nb).1, Ent.mk (Loc.sl am cm) (SObj.vecL (88 : TypeId) 2 encPr m ((0 : Int), ByteArray.mk #[])),
                  Ent.mk (Loc.blk b6)
                   (SObj.cells [SV.int IntKind.i64 x.1, SV.int IntKind.i64 x.2, SV.int IntKind.i64 x.3, SV.str x.4, SV.vec 5 x.ao (List.length x.8) x.7] (84 : TypeId)),
                  Ent.mk (Loc.sl x.ao x.7) (SObj.roL 1 encI1 x.8 (0 : Int))]
                 (SV.bool false)
               | false =>
                match decide (atP m_1 x.3 < (0 : Int)) with
                | true =>
                 (b6 = b6 ∧
                  (am = am ∧ cm = cm ∧ List.length m = List.length m ∧ (0 : Int) ≤ k ∧ k < (↑(List.length m) : Int)) ∧
                   (Addr.blkD am = Addr.blkD am ∧ Addr.offD am = Addr.offD am ∧ 2 = 2 ∧ Int.toNat k < List.length m) ∧
                    (true = true ∧ true = true) ∧
                     true = true ∧
                      ∃ (m_2 : PRow),
                       some (Ent.mk (Loc.sl am cm) (SObj.vecL (88 : TypeId) 2 encPr m ((0 : Int), ByteArray.mk #[]))) = some (vecP am cm m_2) ∧
                        (List.length m = List.length m_2 ∧ List.length m_2 ≤ 1000000) ∧
                         ∀ (ao' : Option Addr) (cap' : Nat),
                          K (frmR [J0] (bodyOf Try.f10) 62)
                           (Sy.mk (SV.vec 0 ao (List.length bs) cap :: (SV.raw (u 1) :: (SV.raw (u 2) :: (SV.ptr 2 b 0 :: (SV.vec 6 ao' (List.length (insP m_2 (x.3, (List.getD m (Int.toNat k) ((0 : Int), ByteArray.mk #[])).2))) cap' :: (SV.int IntKind.i64 (↑i : Int) :: (SV.ptr 4 b6 0 :: (SV.int IntKind.i64 k :: (SV.raw (u 8) :: (SV.bool (decide (atP m_1 x.3 < (0 : Int))) :: (rawR u 10 (SV.int IntKind.i64 k :: (SV.bool (decide (k ≥ (0 : Int))) :: (SV.bool true :: (SV.ptr 4 b6 2 :: (SV.int IntKind.i64 x.3 :: (SV.bool (decide (x.3 ≥ (2 : Int))) :: (SV.bool (decide (x.3 ≥ (2 : Int))) :: (SV.bool true :: (SV.vec 3 am (List.length m) cm :: (SV.ptr 4 b6 2 :: (SV.int IntKind.i64 x.3 :: (SV.int IntKind.i64 (atP m_1 x.3) :: (SV.bool (decide (atP m_1 x.3 < (0 : Int))) :: (SV.bool (decide (atP m_1 x.3 < (0 : Int))) :: (SV.ptr 2 b 0 :: (SV.ptr 4 b6 1 :: (SV.int IntKind.i64 x.2 :: (SV.ptr 4 b6 2 :: (SV.int IntKind.i64 x.3 :: (SV.int IntKind.i64 (tFork s x.2 x.3 nb).2 :: ((SV.bool ((tFork s x.2 x.3 nb).2 == (0 : Int))) :: (SV.bool (decide (atP m_1 x.3 < (0 : Int))) :: (SV.bool false :: (SV.bool true :: (SV.vec 3 am (List.length m) cm :: (SV.ptr 4 b6 2 :: (SV.int IntKind.i64 x.3 :: (SV.vec 3 am (List.length m) cm :: (SV.int IntKind.i64 k :: (SV.eptr 3 (Addr.blkD am) (Addr.offD am) 2 (Int.toNat k) 0 :: (SV.eptr 3 (Addr.blkD am) (Addr.offD am) 2 (Int.toNat k) 1 :: (SV.str (List.getD m (Int.toNat k) ((0 : Int), ByteArray.mk #[])).2 :: (SV.agg [SV.int IntKind.i64 x.3, SV.str (List.getD m (Int.toNat k) ((0 : Int), ByteArray.mk #[])).2] :: (SV.vec 6 ao' (List.length (insP m_2 (x.3, (List.getD m (Int.toNat k) ((0 : Int), ByteArray.mk #[])).2))) cap' :: (rawR u 255 [] 216))))))))))))))))))))))))))))))))))) 211)))))))))))
                            [Ent.mk (Loc.sl ao cap)
                             (SObj.roL 5 encStepT bs (StepT.mk (0 : Int) (0 : Int) (0 : Int) (ByteArray.mk #[]) (@none Addr) 0 0 [])),
                             factsT bs, pkA b trkE (tFork s x.2 x.3 nb).1,
                             Ent.mk (Loc.sl am cm) (SObj.vecL (88 : TypeId) 2 encPr m ((0 : Int), ByteArray.mk #[])),
                             Ent.mk (Loc.blk b6)
                              (SObj.cells
                               [SV.int IntKind.i64 x.1, SV.int IntKind.i64 x.2, SV.int IntKind.i64 x.3, SV.str x.4, SV.vec 5 x.ao (List.length x.8) x.7]
                               (84 : TypeId)),
                             Ent.mk (Loc.sl x.ao x.7) (SObj.roL 1 encI1 x.8 (0 : Int)),
                             vecP ao' cap' (insP m_2 (x.3, (List.getD m (Int.toNat k) ((0 : Int), ByteArray.mk #[])).2))])) ∧
                  (am = am ∧ cm = cm ∧ List.length m = List.length m ∧ (0 : Int) ≤ k ∧ k < (↑(List.length m) : Int)) ∧
                   (b6 = b6 ∧
                    (Addr.blkD am = Addr.blkD am ∧ Addr.offD am = Addr.offD am ∧ 2 = 2 ∧ Int.toNat k < List.length m) ∧
                     (true = true ∧ true = true) ∧
                      true = true ∧
                       ∃ (m_2 : PRow),
                        some (Ent.mk (Loc.sl am cm) (SObj.vecL (88 : TypeId) 2 encPr m ((0 : Int), ByteArray.mk #[]))) = some (vecP am cm m_2) ∧
                         (List.length m = List.length m_2 ∧ List.length m_2 ≤ 1000000) ∧
                          ∀ (ao' : Option Addr) (cap' : Nat),
                           K (frmR [J0] (bodyOf Try.f10) 62)
                            (Sy.mk (SV.vec 0 ao (List.length bs) cap :: (SV.raw (u 1) :: (SV.raw (u 2) :: (SV.ptr 2 b 0 :: (SV.vec 6 ao' (List.length (insP m_2 (x.3, (List.getD m (Int.toNat k) ((0 : Int), ByteArray.mk #[])).2))) cap' :: (SV.int IntKind.i64 (↑i : Int) :: (SV.ptr 4 b6 0 :: (SV.int IntKind.i64 k :: (SV.raw (u 8) :: (SV.bool (decide (atP m_1 x.3 < (0 : Int))) :: (rawR u 10 (SV.int IntKind.i64 k :: (SV.bool (decide (k ≥ (0 : Int))) :: (SV.bool true :: (SV.ptr 4 b6 2 :: (SV.int IntKind.i64 x.3 :: (SV.bool (decide (x.3 ≥ (2 : Int))) :: (SV.bool (decide (x.3 ≥ (2 : Int))) :: (SV.bool true :: (SV.vec 3 am (List.length m) cm :: (SV.ptr 4 b6 2 :: (SV.int IntKind.i64 x.3 :: (SV.int IntKind.i64 (atP m_1 x.3) :: (SV.bool (decide (atP m_1 x.3 < (0 : Int))) :: (SV.bool (decide (atP m_1 x.3 < (0 : Int))) :: (SV.ptr 2 b 0 :: (SV.ptr 4 b6 1 :: (SV.int IntKind.i64 x.2 :: (SV.ptr 4 b6 2 :: (SV.int IntKind.i64 x.3 :: (SV.int IntKind.i64 (tFork s x.2 x.3 nb).2 :: ((SV.bool ((tFork s x.2 x.3 nb).2 == (0 : Int))) :: (SV.bool (decide (atP m_1 x.3 < (0 : Int))) :: (SV.bool false :: (SV.bool true :: (SV.vec 3 am (List.length m) cm :: (SV.ptr 4 b6 2 :: (SV.int IntKind.i64 x.3 :: (SV.vec 3 am (List.length m) cm :: (SV.int IntKind.i64 k :: (SV.eptr 3 (Addr.blkD am) (Addr.offD am) 2 (Int.toNat k) 0 :: (SV.eptr 3 (Addr.blkD am) (Addr.offD am) 2 (Int.toNat k) 1 :: (SV.str (List.getD m (Int.toNat k) ((0 : Int), ByteArray.mk #[])).2 :: (SV.agg [SV.int IntKind.i64 x.3, SV.str (List.getD m (Int.toNat k) ((0 : Int), ByteArray.mk #[])).2] :: (SV.vec 6 ao' (List.length (insP m_2 (x.3, (List.getD m (Int.toNat k) ((0 : Int), ByteArray.mk #[])).2))) cap' :: (rawR u 255 [] 216))))))))))))))))))))))))))))))))))) 211)))))))))))
                             [Ent.mk (Loc.sl ao cap)
                              (SObj.roL 5 encStepT bs (StepT.mk (0 : Int) (0 : Int) (0 : Int) (ByteArray.mk #[]) (@none Addr) 0 0 [])),
                              factsT bs, pkA b trkE (tFork s x.2 x.3 nb).1,
                              Ent.mk (Loc.sl am cm) (SObj.vecL (88 : TypeId) 2 encPr m ((0 : Int), ByteArray.mk #[])),
                              Ent.mk (Loc.blk b6)
                               (SObj.cells
                                [SV.int IntKind.i64 x.1, SV.int IntKind.i64 x.2, SV.int IntKind.i64 x.3, SV.str x.4, SV.vec 5 x.ao (List.length x.8) x.7]
                                (84 : TypeId)),
                              Ent.mk (Loc.sl x.ao x.7) (SObj.roL 1 encI1 x.8 (0 : Int)),
                              vecP ao' cap' (insP m_2 (x.3, (List.getD m (Int.toNat k) ((0 : Int), ByteArray.mk #[])).2))])) ∧
                    (Addr.blkD am = Addr.blkD am ∧ Addr.offD am = Addr.offD am ∧ 2 = 2 ∧ Int.toNat k < List.length m) ∧
                     b6 = b6 ∧
                      (true = true ∧ true = true) ∧
                       true = true ∧
                        ∃ (m_2 : PRow),
                         some (Ent.mk (Loc.sl am cm) (SObj.vecL (88 : TypeId) 2 encPr m ((0 : Int), ByteArray.mk #[]))) = some (vecP am cm m_2) ∧
                          (List.length m = List.length m_2 ∧ List.length m_2 ≤ 1000000) ∧
                           ∀ (ao' : Option Addr) (cap' : Nat),
                            K (frmR [J0] (bodyOf Try.f10) 62)
                             (Sy.mk (SV.vec 0 ao (List.length bs) cap :: (SV.raw (u 1) :: (SV.raw (u 2) :: (SV.ptr 2 b 0 :: (SV.vec 6 ao' (List.length (insP m_2 (x.3, (List.getD m (Int.toNat k) ((0 : Int), ByteArray.mk #[])).2))) cap' :: (SV.int IntKind.i64 (↑i : Int) :: (SV.ptr 4 b6 0 :: (SV.int IntKind.i64 k :: (SV.raw (u 8) :: (SV.bool (decide (atP m_1 x.3 < (0 : Int))) :: (rawR u 10 (SV.int IntKind.i64 k :: (SV.bool (decide (k ≥ (0 : Int))) :: (SV.bool true :: (SV.ptr 4 b6 2 :: (SV.int IntKind.i64 x.3 :: (SV.bool (decide (x.3 ≥ (2 : Int))) :: (SV.bool (decide (x.3 ≥ (2 : Int))) :: (SV.bool true :: (SV.vec 3 am (List.length m) cm :: (SV.ptr 4 b6 2 :: (SV.int IntKind.i64 x.3 :: (SV.int IntKind.i64 (atP m_1 x.3) :: (SV.bool (decide (atP m_1 x.3 < (0 : Int))) :: (SV.bool (decide (atP m_1 x.3 < (0 : Int))) :: (SV.ptr 2 b 0 :: (SV.ptr 4 b6 1 :: (SV.int IntKind.i64 x.2 :: (SV.ptr 4 b6 2 :: (SV.int IntKind.i64 x.3 :: (SV.int IntKind.i64 (tFork s x.2 x.3 nb).2 :: ((SV.bool ((tFork s x.2 x.3 nb).2 == (0 : Int))) :: (SV.bool (decide (atP m_1 x.3 < (0 : Int))) :: (SV.bool false :: (SV.bool true :: (SV.vec 3 am (List.length m) cm :: (SV.ptr 4 b6 2 :: (SV.int IntKind.i64 x.3 :: (SV.vec 3 am (List.length m) cm :: (SV.int IntKind.i64 k :: (SV.eptr 3 (Addr.blkD am) (Addr.offD am) 2 (Int.toNat k) 0 :: (SV.eptr 3 (Addr.blkD am) (Addr.offD am) 2 (Int.toNat k) 1 :: (SV.str (List.getD m (Int.toNat k) ((0 : Int), ByteArray.mk #[])).2 :: (SV.agg [SV.int IntKind.i64 x.3, SV.str (List.getD m (Int.toNat k) ((0 : Int), ByteArray.mk #[])).2] :: (SV.vec 6 ao' (List.length (insP m_2 (x.3, (List.getD m (Int.toNat k) ((0 : Int), ByteArray.mk #[])).2))) cap' :: (rawR u 255 [] 216))))))))))))))))))))))))))))))))))) 211)))))))))))
                              [Ent.mk (Loc.sl ao cap)
                               (SObj.roL 5 encStepT bs (StepT.mk (0 : Int) (0 : Int) (0 : Int) (ByteArray.mk #[]) (@none Addr) 0 0 [])),
                               factsT bs, pkA b trkE (tFork s x.2 x.3 nb).1,
                               Ent.mk (Loc.sl am cm) (SObj.vecL (88 : TypeId) 2 encPr m ((0 : Int), ByteArray.mk #[])),
                               Ent.mk (Loc.blk b6)
                                (SObj.cells
                                 [SV.int IntKind.i64 x.1, SV.int IntKind.i64 x.2, SV.int IntKind.i64 x.3, SV.str x.4, SV.vec 5 x.ao (List.length x.8) x.7]
                                 (84 : TypeId)),
                               Ent.mk (Loc.sl x.ao x.7) (SObj.roL 1 encI1 x.8 (0 : Int)),
                               vecP ao' cap' (insP m_2 (x.3, (List.getD m (Int.toNat k) ((0 : Int), ByteArray.mk #[])).2))])
                | false =>
                 K (frmR [J0] (bodyOf Try.f10) 62)
                  (Sy.mk (SV.vec 0 ao (List.length bs) cap :: (SV.raw (u 1) :: (SV.raw (u 2) :: (SV.ptr 2 b 0 :: (SV.vec 3 am (List.length m) cm :: (SV.int IntKind.i64 (↑i : Int) :: (SV.ptr 4 b6 0 :: (SV.int IntKind.i64 k :: (SV.raw (u 8) :: (SV.bool (decide (atP m_1 x.3 < (0 : Int))) :: (rawR u 10 (SV.int IntKind.i64 k :: (SV.bool (decide (k ≥ (0 : Int))) :: (SV.bool true :: (SV.ptr 4 b6 2 :: (SV.int IntKind.i64 x.3 :: (SV.bool (decide (x.3 ≥ (2 : Int))) :: (SV.bool (decide (x.3 ≥ (2 : Int))) :: (SV.bool true :: (SV.vec 3 am (List.length m) cm :: (SV.ptr 4 b6 2 :: (SV.int IntKind.i64 x.3 :: (SV.int IntKind.i64 (atP m_1 x.3) :: (SV.bool (decide (atP m_1 x.3 < (0 : Int))) :: (SV.bool (decide (atP m_1 x.3 < (0 : Int))) :: (SV.ptr 2 b 0 :: (SV.ptr 4 b6 1 :: (SV.int IntKind.i64 x.2 :: (SV.ptr 4 b6 2 :: (SV.int IntKind.i64 x.3 :: (SV.int IntKind.i64 (tFork s x.2 x.3 nb).2 :: ((SV.bool ((tFork s x.2 x.3 nb).2 == (0 : Int))) :: (SV.bool (decide (atP m_1 x.3 < (0 : Int))) :: (SV.bool false :: (SV.bool false :: (rawR u 245 [] 226))))))))))))))))))))))))) 211)))))))))))
                   [Ent.mk (Loc.sl ao cap) (SObj.roL 5 encStepT bs (StepT.mk (0 : Int) (0 : Int) (0 : Int) (ByteArray.mk #[]) (@none Addr) 0 0 [])),
                    factsT bs, pkA b trkE (tFork s x.2 x.3 nb).1, Ent.mk (Loc.sl am cm) (SObj.vecL (88 : TypeId) 2 encPr m ((0 : Int), ByteArray.mk #[])),
                    Ent.mk (Loc.blk b6)
                     (SObj.cells [SV.int IntKind.i64 x.1, SV.int IntKind.i64 x.2, SV.int IntKind.i64 x.3, SV.str x.4, SV.vec 5 x.ao (List.length x.8) x.7] (84 : TypeId)),
                    Ent.mk (Loc.sl x.ao x.7) (SObj.roL 1 encI1 x.8 (0 : Int))])
  | false =>
   b6 = b6 ∧
    b6 = b6 ∧
     true = true ∧
      b = b ∧
       ∃ (h : Trk = Trk),
        AdtIs (fun (s : Trk) (b : Nat) ↦ packs (trkE s b)) trkE ∧
         ∀ (nb : Nat),
          match !((tFork s x.2 x.3 nb).2 == (0 : Int)) == false with
          | true =>
           N
            [Ent.mk (Loc.sl ao cap) (SObj.roL 5 encStepT bs (StepT.mk (0 : Int) (0 : Int) (0 : Int) (ByteArray.mk #[]) (@none Addr) 0 0 [])), factsT bs,
             pkA b trkE (tFork s x.2 x.3 nb).1, Ent.mk (Loc.sl am cm) (SObj.vecL (88 : TypeId) 2 encPr m ((0 : Int), ByteArray.mk #[])),
             Ent.mk (Loc.blk b6)
              (SObj.cells [SV.int IntKind.i64 x.1, SV.int IntKind.i64 x.2, SV.int IntKind.i64 x.3, SV.str x.4, SV.vec 5 x.ao (List.length x.8) x.7] (84 : TypeId)),
             Ent.mk (Loc.sl x.ao x.7) (SObj.roL 1 encI1 x.8 (0 : Int))]
            (SV.bool false)
          | false =>
           K (frmR [J0] (bodyOf Try.f10) 62)
            (Sy.mk (SV.vec 0 ao (List.length bs) cap :: (SV.raw (u 1) :: (SV.raw (u 2) :: (SV.ptr 2 b 0 :: (SV.vec 3 am (List.length m) cm :: (SV.int IntKind.i64 (↑i : Int) :: (SV.ptr 4 b6 0 :: (SV.int IntKind.i64 k :: (SV.raw (u 8) :: (SV.bool false :: (rawR u 10 (SV.int IntKind.i64 k :: (SV.bool (decide (k ≥ (0 : Int))) :: (SV.bool true :: (SV.ptr 4 b6 2 :: (SV.int IntKind.i64 x.3 :: (SV.bool (decide (x.3 ≥ (2 : Int))) :: (SV.bool (decide (x.3 ≥ (2 : Int))) :: (SV.bool false :: (rawE (SV.bool false :: (SV.ptr 2 b 0 :: (SV.ptr 4 b6 1 :: (SV.int IntKind.i64 x.2 :: (SV.ptr 4 b6 2 :: (SV.int IntKind.i64 x.3 :: (SV.int IntKind.i64 (tFork s x.2 x.3 nb).2 :: ((SV.bool ((tFork s x.2 x.3 nb).2 == (0 : Int))) :: (SV.bool false :: (SV.bool false :: (SV.bool false :: (rawR u 245 [] 226)))))))))))) 5))))))))) 211)))))))))))
             [Ent.mk (Loc.sl ao cap) (SObj.roL 5 encStepT bs (StepT.mk (0 : Int) (0 : Int) (0 : Int) (ByteArray.mk #[]) (@none Addr) 0 0 [])), factsT bs,
              pkA b trkE (tFork s x.2 x.3 nb).1, Ent.mk (Loc.sl am cm) (SObj.vecL (88 : TypeId) 2 encPr m ((0 : Int), ByteArray.mk #[])),
              Ent.mk (Loc.blk b6)
               (SObj.cells [SV.int IntKind.i64 x.1, SV.int IntKind.i64 x.2, SV.int IntKind.i64 x.3, SV.str x.4, SV.vec 5 x.ao (List.length x.8) x.7] (84 : TypeId)),
              Ent.mk (Loc.sl x.ao x.7) (SObj.roL 1 encI1 x.8 (0 : Int))])
| false =>
 b6 = b6 ∧
  b6 = b6 ∧
   true = true ∧
    b = b ∧
     ∃ (h : Trk = Trk),
      AdtIs (fun (s : Trk) (b : Nat) ↦ packs (trkE s b)) trkE ∧
       ∀ (nb : Nat),
        match !((tFork s x.2 x.3 nb).2 == (0 : Int)) == false with
        | true =>
         N
          [Ent.mk (Loc.sl ao cap) (SObj.roL 5 encStepT bs (StepT.mk (0 : Int) (0 : Int) (0 : Int) (ByteArray.mk #[]) (@none Addr) 0 0 [])), factsT bs,
           pkA b trkE (tFork s x.2 x.3 nb).1, Ent.mk (Loc.sl am cm) (SObj.vecL (88 : TypeId) 2 encPr m ((0 : Int), ByteArray.mk #[])),
           Ent.mk (Loc.blk b6) (SObj.cells [SV.int IntKind.i64 x.1, SV.int IntKind.i64 x.2, SV.int IntKind.i64 x.3, SV.str x.4, SV.vec 5 x.ao (List.length x.8) x.7] (84 : TypeId)),
           Ent.mk (Loc.sl x.ao x.7) (SObj.roL 1 encI1 x.8 (0 : Int))]
          (SV.bool false)
        | false =>
         K (frmR [J0] (bodyOf Try.f10) 62)
          (Sy.mk (SV.vec 0 ao (List.length bs) cap :: (SV.raw (u 1) :: (SV.raw (u 2) :: (SV.ptr 2 b 0 :: (SV.vec 3 am (List.length m) cm :: (SV.int IntKind.i64 (↑i : Int) :: (SV.ptr 4 b6 0 :: (SV.int IntKind.i64 k :: (SV.raw (u 8) :: (SV.bool false :: (rawR u 10 (SV.int IntKind.i64 k :: (SV.bool (decide (k ≥ (0 : Int))) :: (SV.bool false :: (rawE (SV.bool false :: (SV.bool false :: (rawE (SV.bool false :: (SV.ptr 2 b 0 :: (SV.ptr 4 b6 1 :: (SV.int IntKind.i64 x.2 :: (SV.ptr 4 b6 2 :: (SV.int IntKind.i64 x.3 :: (SV.int IntKind.i64 (tFork s x.2 x.3 nb).2 :: ((SV.bool ((tFork s x.2 x.3 nb).2 == (0 : Int))) :: (SV.bool false :: (SV.bool false :: (SV.bool false :: (rawR u 245 [] 226)))))))))))) 5))) 3)))) 211)))))))))))
           [Ent.mk (Loc.sl ao cap) (SObj.roL 5 encStepT bs (StepT.mk (0 : Int) (0 : Int) (0 : Int) (ByteArray.mk #[]) (@none Addr) 0 0 [])), factsT bs,
            pkA b trkE (tFork s x.2 x.3 nb).1, Ent.mk (Loc.sl am cm) (SObj.vecL (88 : TypeId) 2 encPr m ((0 : Int), ByteArray.mk #[])),
            Ent.mk (Loc.blk b6)
             (SObj.cells [SV.int IntKind.i64 x.1, SV.int IntKind.i64 x.2, SV.int IntKind.i64 x.3, SV.str x.4, SV.vec 5 x.ao (List.length x.8) x.7] (84 : TypeId)),
            Ent.mk (Loc.sl x.ao x.7) (SObj.roL 1 encI1 x.8 (0 : Int))])) := by kernel_rfl


theorem tq_57 (K : List Frm → Sy → Prop) (N : List Ent → SV → Prop) (J0 : Act → World → Prop) (ao : Option Addr) (cap : Nat) (bs : List StepT) (b : Nat) (s : Trk) (am : Option Addr) (cm : Nat) (m : PRow) (i : Nat) (x : StepT) (b6 : Nat) (k : Int) (u : Nat → Value) : (run Try.prog tqT false [62] K (retP Try.prog Try.f10.results.toList N) 1500 (frmR [J0] (bodyOf Try.f10) 57) ⟨mkT u 471 0 [(0, .vec 0 ao bs.length cap), (3, .ptr 2 b 0), (4, .vec 3 am (m).length cm), (5, .int .i64 (i : Int)), (6, .ptr 4 b6 0), (7, .int .i64 k)], [⟨.sl ao cap, .roL 5 encStepT bs StepT.zero⟩, factsT bs, pkA b trkE (s), ⟨.sl am cm, .vecL 88 2 encPr (m) zPr⟩, ⟨.blk b6, .cells [.int .i64 x.what, .int .i64 x.a, .int .i64 x.b, .str x.unit, .vec 5 x.ao x.pids.length x.cap] 84⟩, ⟨.sl x.ao x.cap, .roL 1 encI1 x.pids 0⟩]⟩) = (
b6 = b6 ∧
 true = true ∧
  b = b ∧
   ∃ (h : Trk = Trk),
    AdtIs (fun (s : Trk) (b : Nat) ↦ packs (trkE s b)) trkE ∧
     tOk s x.2 ∧
      match decide (k < (0 : Int)) with
      | true =>
       match (tGone s x.2).2.2 != (190 : Int) with
       | true =>
        true = true ∧
         true = true ∧
          true = true ∧
           true = true ∧
            true = true ∧
             true = true ∧
              true = true ∧
               true = true ∧
                true = true ∧
                 true = true ∧
                  true = true ∧
                   N
                    [Ent.mk (Loc.sl ao cap) (SObj.roL 5 encStepT bs (StepT.mk (0 : Int) (0 : Int) (0 : Int) (ByteArray.mk #[]) (@none Addr) 0 0 [])),
                     factsT bs, pkA b trkE (tGone s x.2).1, Ent.mk (Loc.sl am cm) (SObj.vecL (88 : TypeId) 2 encPr m ((0 : Int), ByteArray.mk #[])),
                     Ent.mk (Loc.blk b6)
                      (SObj.cells [SV.int IntKind.i64 x.1, SV.int IntKind.i64 x.2, SV.int IntKind.i64 x.3, SV.str x.4, SV.vec 5 x.ao (List.length x.8) x.7]
                       (84 : TypeId)),
                     Ent.mk (Loc.sl x.ao x.7) (SObj.roL 1 encI1 x.8 (0 : Int))]
                    (SV.bool false)
       | false =>
        match !sEq (tGone s x.2).2.1 (ByteArray.mk #[]) with
        | true =>
         true = true ∧
          true = true ∧
           true = true ∧
            true = true ∧
             true = true ∧
              true = true ∧
               true = true ∧
                true = true ∧
                 true = true ∧
                  true = true ∧
                   true = true ∧
                    N
                     [Ent.mk (Loc.sl ao cap) (SObj.roL 5 encStepT bs (StepT.mk (0 : Int) (0 : Int) (0 : Int) (ByteArray.mk #[]) (@none Addr) 0 0 [])),
                      factsT bs, pkA b trkE (tGone s x.2).1, Ent.mk (Loc.sl am cm) (SObj.vecL (88 : TypeId) 2 encPr m ((0 : Int), ByteArray.mk #[])),
                      Ent.mk (Loc.blk b6)
                       (SObj.cells [SV.int IntKind.i64 x.1, SV.int IntKind.i64 x.2, SV.int IntKind.i64 x.3, SV.str x.4, SV.vec 5 x.ao (List.length x.8) x.7]
                        (84 : TypeId)),
                      Ent.mk (Loc.sl x.ao x.7) (SObj.roL 1 encI1 x.8 (0 : Int))]
                     (SV.bool false)
        | false =>
         match decide (k ≥ (0 : Int)) with
         | true =>
          match (tGone s x.2).2.2 != (0 : Int) with
          | true =>
           N
            [Ent.mk (Loc.sl ao cap) (SObj.roL 5 encStepT bs (StepT.mk (0 : Int) (0 : Int) (0 : Int) (ByteArray.mk #[]) (@none Addr) 0 0 [])), factsT bs,
             pkA b trkE (tGone s x.2).1, Ent.mk (Loc.sl am cm) (SObj.vecL (88 : TypeId) 2 encPr m ((0 : Int), ByteArray.mk #[])),
             Ent.mk (Loc.blk b6)
              (SObj.cells [SV.int IntKind.i64 x.1, SV.int IntKind.i64 x.2, SV.int IntKind.i64 x.3, SV.str x.4, SV.vec 5 x.ao (List.length x.8) x.7] (84 : TypeId)),
             Ent.mk (Loc.sl x.ao x.7) (SObj.roL 1 encI1 x.8 (0 : Int))]
            (SV.bool false)
          | false =>
           (am = am ∧ cm = cm ∧ List.length m = List.length m ∧ (0 : Int) ≤ k ∧ k < (↑(List.length m) : Int)) ∧
            (Addr.blkD am = Addr.blkD am ∧ Addr.offD am = Addr.offD am ∧ 2 = 2 ∧ Int.toNat k < List.length m) ∧
             match !sEq (tGone s x.2).2.1 (List.getD m (Int.toNat k) ((0 : Int), ByteArray.mk #[])).2 with
             | true =>
              N
               [Ent.mk (Loc.sl ao cap) (SObj.roL 5 encStepT bs (StepT.mk (0 : Int) (0 : Int) (0 : Int) (ByteArray.mk #[]) (@none Addr) 0 0 [])), factsT bs,
                pkA b trkE (tGone s x.2).1, Ent.mk (Loc.sl am cm) (SObj.vecL (88 : TypeId) 2 encPr m ((0 : Int), ByteArray.mk #[])),
                Ent.mk (Loc.blk b6)
                 (SObj.cells [SV.int IntKind.i64 x.1, SV.int IntKind.i64 x.2, SV.int IntKind.i64 x.3, SV.str x.4, SV.vec 5 x.ao (List.length x.8) x.7] (84 : TypeId)),
                Ent.mk (Loc.sl x.ao x.7) (SObj.roL 1 encI1 x.8 (0 : Int))]
               (SV.bool false)
             | false =>
              match decide (k ≥ (0 : Int)) with
              | true =>
               true = true ∧
                ∃ (m_1 : PRow),
                 ∃ (i_1 : Nat),
                  some (Ent.mk (Loc.sl am cm) (SObj.vecL (88 : TypeId) 2 encPr m ((0 : Int), ByteArray.mk #[]))) = some (vecP am cm m_1) ∧
                   (List.length m = List.length m_1 ∧ List.length m_1 ≤ 1000000 ∧ k = (↑i_1 : Int) ∧ i_1 < List.length m_1) ∧
                    ∀ (ao' : Option Addr) (cap' : Nat),
                     K (frmR [J0] (bodyOf Try.f10) 62)
                      (Sy.mk (SV.vec 0 ao (List.length bs) cap :: (SV.raw (u 1) :: (SV.raw (u 2) :: (SV.ptr 2 b 0 :: (SV.vec 6 ao' (List.length (outP m_1 i_1)) cap' :: (SV.int IntKind.i64 (↑i : Int) :: (SV.ptr 4 b6 0 :: (SV.int IntKind.i64 k :: (SV.raw (u 8) :: (SV.raw (u 9) :: (SV.str (tGone s x.2).2.1 :: (SV.int IntKind.i64 (tGone s x.2).2.2 :: (rawR u 12 (SV.tuple [SV.str (tGone s x.2).2.1, SV.int IntKind.i64 (tGone s x.2).2.2] :: (SV.ptr 2 b 0 :: (SV.ptr 4 b6 1 :: (SV.int IntKind.i64 x.2 :: (SV.tuple [SV.str (tGone s x.2).2.1, SV.int IntKind.i64 (tGone s x.2).2.2] :: (SV.str (tGone s x.2).2.1 :: (SV.int IntKind.i64 (tGone s x.2).2.2 :: (SV.int IntKind.i64 k :: (SV.bool (decide (k < (0 : Int))) :: (SV.bool true :: (SV.int IntKind.i64 (tGone s x.2).2.2 :: ((SV.bool ((tGone s x.2).2.2 != (190 : Int))) :: (SV.bool false :: (SV.str (tGone s x.2).2.1 :: ((SV.bool !sEq (tGone s x.2).2.1 (ByteArray.mk #[])) :: ((SV.bool !sEq (tGone s x.2).2.1 (ByteArray.mk #[])) :: ((SV.bool !sEq (tGone s x.2).2.1 (ByteArray.mk #[])) :: (SV.bool false :: (SV.int IntKind.i64 k :: (SV.bool (decide (k ≥ (0 : Int))) :: (SV.bool true :: (SV.int IntKind.i64 (tGone s x.2).2.2 :: ((SV.bool ((tGone s x.2).2.2 != (0 : Int))) :: (SV.bool false :: (SV.str (tGone s x.2).2.1 :: (SV.vec 3 am (List.length m) cm :: (SV.int IntKind.i64 k :: (SV.eptr 3 (Addr.blkD am) (Addr.offD am) 2 (Int.toNat k) 0 :: (SV.eptr 3 (Addr.blkD am) (Addr.offD am) 2 (Int.toNat k) 1 :: (SV.str (List.getD m (Int.toNat k) ((0 : Int), ByteArray.mk #[])).2 :: ((SV.bool !sEq (tGone s x.2).2.1 (List.getD m (Int.toNat k) ((0 : Int), ByteArray.mk #[])).2) :: ((SV.bool !sEq (tGone s x.2).2.1 (List.getD m (Int.toNat k) ((0 : Int), ByteArray.mk #[])).2) :: ((SV.bool !sEq (tGone s x.2).2.1 (List.getD m (Int.toNat k) ((0 : Int), ByteArray.mk #[])).2) :: (SV.bool false :: (SV.int IntKind.i64 k :: (SV.bool true :: (SV.vec 3 am (List.length m) cm :: (SV.int IntKind.i64 k :: (SV.vec 6 ao' (List.length (outP m_1 i_1)) cap' :: (rawR u 297 [] 174)))))))))))))))))))))))))))))))))))))))) 246)))))))))))))
                       [Ent.mk (Loc.sl ao cap) (SObj.roL 5 encStepT bs (StepT.mk (0 : Int) (0 : Int) (0 : Int) (ByteArray.mk #[]) (@none Addr) 0 0 [])),
                        factsT bs, pkA b trkE (tGone s x.2).1, Ent.mk (Loc.sl am cm) (SObj.vecL (88 : TypeId) 2 encPr m ((0 : Int), ByteArray.mk #[])),
                        Ent.mk (Loc.blk b6)
                         (SObj.cells [SV.int IntKind.i64 x.1, SV.int IntKind.i64 x.2, SV.int IntKind.i64 x.3, SV.str x.4, SV.vec 5 x.ao (List.length x.8) x.7]
                          (84 : TypeId)),
                        Ent.mk (Loc.sl x.ao x.7) (SObj.roL 1 encI1 x.8 (0 : Int)), vecP ao' cap' (outP m_1 i_1)])
              | false =>
               K (frmR [J0] (bodyOf Try.f10) 62)
                (Sy.mk (SV.vec 0 ao (List.length bs) cap :: (SV.raw (u 1) :: (SV.raw (u 2) :: (SV.ptr 2 b 0 :: (SV.vec 3 am (List.length m) cm :: (SV.int IntKind.i64 (↑i : Int) :: (SV.ptr 4 b6 0 :: (SV.int IntKind.i64 k :: (SV.raw (u 8) :: (SV.raw (u 9) :: (SV.str (tGone s x.2).2.1 :: (SV.int IntKind.i64 (tGone s x.2).2.2 :: (rawR u 12 (SV.tuple [SV.str (tGone s x.2).2.1, SV.int IntKind.i64 (tGone s x.2).2.2] :: (SV.ptr 2 b 0 :: (SV.ptr 4 b6 1 :: (SV.int IntKind.i64 x.2 :: (SV.tuple [SV.str (tGone s x.2).2.1, SV.int IntKind.i64 (tGone s x.2).2.2] :: (SV.str (tGone s x.2).2.1 :: (SV.int IntKind.i64 (tGone s x.2).2.2 :: (SV.int IntKind.i64 k :: (SV.bool (decide (k < (0 : Int))) :: (SV.bool true :: (SV.int IntKind.i64 (tGone s x.2).2.2 :: ((SV.bool ((tGone s x.2).2.2 != (190 : Int))) :: (SV.bool false :: (SV.str (tGone s x.2).2.1 :: ((SV.bool !sEq (tGone s x.2).2.1 (ByteArray.mk #[])) :: ((SV.bool !sEq (tGone s x.2).2.1 (ByteArray.mk #[])) :: ((SV.bool !sEq (tGone s x.2).2.1 (ByteArray.mk #[])) :: (SV.bool false :: (SV.int IntKind.i64 k :: (SV.bool (decide (k ≥ (0 : Int))) :: (SV.bool true :: (SV.int IntKind.i64 (tGone s x.2).2.2 :: ((SV.bool ((tGone s x.2).2.2 != (0 : Int))) :: (SV.bool false :: (SV.str (tGone s x.2).2.1 :: (SV.vec 3 am (List.length m) cm :: (SV.int IntKind.i64 k :: (SV.eptr 3 (Addr.blkD am) (Addr.offD am) 2 (Int.toNat k) 0 :: (SV.eptr 3 (Addr.blkD am) (Addr.offD am) 2 (Int.toNat k) 1 :: (SV.str (List.getD m (Int.toNat k) ((0 : Int), ByteArray.mk #[])).2 :: ((SV.bool !sEq (tGone s x.2).2.1 (List.getD m (Int.toNat k) ((0 : Int), ByteArray.mk #[])).2) :: ((SV.bool !sEq (tGone s x.2).2.1 (List.getD m (Int.toNat k) ((0 : Int), ByteArray.mk #[])).2) :: ((SV.bool !sEq (tGone s x.2).2.1 (List.getD m (Int.toNat k) ((0 : Int), ByteArray.mk #[])).2) :: (SV.bool false :: (SV.int IntKind.i64 k :: (SV.bool false :: (rawR u 294 [] 177))))))))))))))))))))))))))))))))))))) 246)))))))))))))
                 [Ent.mk (Loc.sl ao cap) (SObj.roL 5 encStepT bs (StepT.mk (0 : Int) (0 : Int) (0 : Int) (ByteArray.mk #[]) (@none Addr) 0 0 [])), factsT bs,
                  pkA b trkE (tGone s x.2).1, Ent.mk (Loc.sl am cm) (SObj.vecL (88 : TypeId) 2 encPr m ((0 : Int), ByteArray.mk #[])),
                  Ent.mk (Loc.blk b6)
                   (SObj.cells [SV.int IntKind.i64 x.1, SV.int IntKind.i64 x.2, SV.int IntKind.i64 x.3, SV.str x.4, SV.vec 5 x.ao (List.length x.8) x.7] (84 : TypeId)),
                  Ent.mk (Loc.sl x.ao x.7) (SObj.roL 1 encI1 x.8 (0 : Int))])
         | false =>
          true = true ∧
           true = true ∧
            true = true ∧
             true = true ∧
              true = true ∧
               true = true ∧
                true = true ∧
                 match decide (k ≥ (0 : Int)) with
                 | true =>
                  true = true ∧
                   ∃ (m_1 : PRow),
                    ∃ (i_1 : Nat),
                     some (Ent.mk (Loc.sl am cm) (SObj.vecL (88 : TypeId) 2 encPr m ((0 : Int), ByteArray.mk #[]))) = some (vecP am cm m_1) ∧
                      (List.length m = List.length m_1 ∧ List.length m_1 ≤ 1000000 ∧ k = (↑i_1 : Int) ∧ i_1 < List.length m_1) ∧
                       ∀ (ao' : Option Addr) (cap' : Nat),
                        K (frmR [J0] (bodyOf Try.f10) 62)
                         (Sy.mk (SV.vec 0 ao (List.length bs) cap :: (SV.raw (u 1) :: (SV.raw (u 2) :: (SV.ptr 2 b 0 :: (SV.vec 6 ao' (List.length (outP m_1 i_1)) cap' :: (SV.int IntKind.i64 (↑i : Int) :: (SV.ptr 4 b6 0 :: (SV.int IntKind.i64 k :: (SV.raw (u 8) :: (SV.raw (u 9) :: (SV.str (tGone s x.2).2.1 :: (SV.int IntKind.i64 (tGone s x.2).2.2 :: (rawR u 12 (SV.tuple [SV.str (tGone s x.2).2.1, SV.int IntKind.i64 (tGone s x.2).2.2] :: (SV.ptr 2 b 0 :: (SV.ptr 4 b6 1 :: (SV.int IntKind.i64 x.2 :: (SV.tuple [SV.str (tGone s x.2).2.1, SV.int IntKind.i64 (tGone s x.2).2.2] :: (SV.str (tGone s x.2).2.1 :: (SV.int IntKind.i64 (tGone s x.2).2.2 :: (SV.int IntKind.i64 k :: (SV.bool (decide (k < (0 : Int))) :: (SV.bool true :: (SV.int IntKind.i64 (tGone s x.2).2.2 :: ((SV.bool ((tGone s x.2).2.2 != (190 : Int))) :: (SV.bool false :: (SV.str (tGone s x.2).2.1 :: ((SV.bool !sEq (tGone s x.2).2.1 (ByteArray.mk #[])) :: ((SV.bool !sEq (tGone s x.2).2.1 (ByteArray.mk #[])) :: ((SV.bool !sEq (tGone s x.2).2.1 (ByteArray.mk #[])) :: (SV.bool false :: (SV.int IntKind.i64 k :: (SV.bool (decide (k ≥ (0 : Int))) :: (SV.bool false :: (rawE (SV.bool false :: (SV.bool false :: (SV.int IntKind.i64 k :: (SV.bool true :: (SV.vec 3 am (List.length m) cm :: (SV.int IntKind.i64 k :: (SV.vec 6 ao' (List.length (outP m_1 i_1)) cap' :: (rawR u 297 [] 174)))))))) 11)))))))))))))))))))))) 246)))))))))))))
                          [Ent.mk (Loc.sl ao cap)
                           (SObj.roL 5 encStepT bs (StepT.mk (0 : Int) (0 : Int) (0 : Int) (ByteArray.mk #[]) (@none Addr) 0 0 [])),
                           factsT bs, pkA b trkE (tGone s x.2).1, Ent.mk (Loc.sl am cm) (SObj.vecL (88 : TypeId) 2 encPr m ((0 : Int), ByteArray.mk #[])),
                           Ent.mk (Loc.blk b6)
                            (SObj.cells [SV.int IntKind.i64 x.1, SV.int IntKind.i64 x.2, SV.int IntKind.i64 x.3, SV.str x.4, SV.vec 5 x.ao (List.length x.8) x.7]
                             (84 : TypeId)),
                           Ent.mk (Loc.sl x.ao x.7) (SObj.roL 1 encI1 x.8 (0 : Int)), vecP ao' cap' (outP m_1 i_1)])
                 | false =>
                  K (frmR [J0] (bodyOf Try.f10) 62)
                   (Sy.mk (SV.vec 0 ao (List.length bs) cap :: (SV.raw (u 1) :: (SV.raw (u 2) :: (SV.ptr 2 b 0 :: (SV.vec 3 am (List.length m) cm :: (SV.int IntKind.i64 (↑i : Int) :: (SV.ptr 4 b6 0 :: (SV.int IntKind.i64 k :: (SV.raw (u 8) :: (SV.raw (u 9) :: (SV.str (tGone s x.2).2.1 :: (SV.int IntKind.i64 (tGone s x.2).2.2 :: (rawR u 12 (SV.tuple [SV.str (tGone s x.2).2.1, SV.int IntKind.i64 (tGone s x.2).2.2] :: (SV.ptr 2 b 0 :: (SV.ptr 4 b6 1 :: (SV.int IntKind.i64 x.2 :: (SV.tuple [SV.str (tGone s x.2).2.1, SV.int IntKind.i64 (tGone s x.2).2.2] :: (SV.str (tGone s x.2).2.1 :: (SV.int IntKind.i64 (tGone s x.2).2.2 :: (SV.int IntKind.i64 k :: (SV.bool (decide (k < (0 : Int))) :: (SV.bool true :: (SV.int IntKind.i64 (tGone s x.2).2.2 :: ((SV.bool ((tGone s x.2).2.2 != (190 : Int))) :: (SV.bool false :: (SV.str (tGone s x.2).2.1 :: ((SV.bool !sEq (tGone s x.2).2.1 (ByteArray.mk #[])) :: ((SV.bool !sEq (tGone s x.2).2.1 (ByteArray.mk #[])) :: ((SV.bool !sEq (tGone s x.2).2.1 (ByteArray.mk #[])) :: (SV.bool false :: (SV.int IntKind.i64 k :: (SV.bool (decide (k ≥ (0 : Int))) :: (SV.bool false :: (rawE (SV.bool false :: (SV.bool false :: (SV.int IntKind.i64 k :: (SV.bool false :: (rawR u 294 [] 177))))) 11)))))))))))))))))))))) 246)))))))))))))
                    [Ent.mk (Loc.sl ao cap) (SObj.roL 5 encStepT bs (StepT.mk (0 : Int) (0 : Int) (0 : Int) (ByteArray.mk #[]) (@none Addr) 0 0 [])),
                     factsT bs, pkA b trkE (tGone s x.2).1, Ent.mk (Loc.sl am cm) (SObj.vecL (88 : TypeId) 2 encPr m ((0 : Int), ByteArray.mk #[])),
                     Ent.mk (Loc.blk b6)
                      (SObj.cells [SV.int IntKind.i64 x.1, SV.int IntKind.i64 x.2, SV.int IntKind.i64 x.3, SV.str x.4, SV.vec 5 x.ao (List.length x.8) x.7]
                       (84 : TypeId)),
                     Ent.mk (Loc.sl x.ao x.7) (SObj.roL 1 encI1 x.8 (0 : Int))])
      | false =>
       true = true ∧
        true = true ∧
         match decide (k ≥ (0 : Int)) with
         | true =>
          match (tGone s x.2).2.2 != (0 : Int) with
          | true =>
           N
            [Ent.mk (Loc.sl ao cap) (SObj.roL 5 encStepT bs (StepT.mk (0 : Int) (0 : Int) (0 : Int) (ByteArray.mk #[]) (@none Addr) 0 0 [])), factsT bs,
             pkA b trkE (tGone s x.2).1, Ent.mk (Loc.sl am cm) (SObj.vecL (88 : TypeId) 2 encPr m ((0 : Int), ByteArray.mk #[])),
             Ent.mk (Loc.blk b6)
              (SObj.cells [SV.int IntKind.i64 x.1, SV.int IntKind.i64 x.2, SV.int IntKind.i64 x.3, SV.str x.4, SV.vec 5 x.ao (List.length x.8) x.7] (84 : TypeId)),
             Ent.mk (Loc.sl x.ao x.7) (SObj.roL 1 encI1 x.8 (0 : Int))]
            (SV.bool false)
          | false =>
           (am = am ∧ cm = cm ∧ List.length m = List.length m ∧ (0 : Int) ≤ k ∧ k < (↑(List.length m) : Int)) ∧
            (Addr.blkD am = Addr.blkD am ∧ Addr.offD am = Addr.offD am ∧ 2 = 2 ∧ Int.toNat k < List.length m) ∧
             match !sEq (tGone s x.2).2.1 (List.getD m (Int.toNat k) ((0 : Int), ByteArray.mk #[])).2 with
             | true =>
              N
               [Ent.mk (Loc.sl ao cap) (SObj.roL 5 encStepT bs (StepT.mk (0 : Int) (0 : Int) (0 : Int) (ByteArray.mk #[]) (@none Addr) 0 0 [])), factsT bs,
                pkA b trkE (tGone s x.2).1, Ent.mk (Loc.sl am cm) (SObj.vecL (88 : TypeId) 2 encPr m ((0 : Int), ByteArray.mk #[])),
                Ent.mk (Loc.blk b6)
                 (SObj.cells [SV.int IntKind.i64 x.1, SV.int IntKind.i64 x.2, SV.int IntKind.i64 x.3, SV.str x.4, SV.vec 5 x.ao (List.length x.8) x.7] (84 : TypeId)),
                Ent.mk (Loc.sl x.ao x.7) (SObj.roL 1 encI1 x.8 (0 : Int))]
               (SV.bool false)
             | false =>
              match decide (k ≥ (0 : Int)) with
              | true =>
               true = true ∧
                ∃ (m_1 : PRow),
                 ∃ (i_1 : Nat),
                  some (Ent.mk (Loc.sl am cm) (SObj.vecL (88 : TypeId) 2 encPr m ((0 : Int), ByteArray.mk #[]))) = some (vecP am cm m_1) ∧
                   (List.length m = List.length m_1 ∧ List.length m_1 ≤ 1000000 ∧ k = (↑i_1 : Int) ∧ i_1 < List.length m_1) ∧
                    ∀ (ao' : Option Addr) (cap' : Nat),
                     K (frmR [J0] (bodyOf Try.f10) 62)
                      (Sy.mk (SV.vec 0 ao (List.length bs) cap :: (SV.raw (u 1) :: (SV.raw (u 2) :: (SV.ptr 2 b 0 :: (SV.vec 6 ao' (List.length (outP m_1 i_1)) cap' :: (SV.int IntKind.i64 (↑i : Int) :: (SV.ptr 4 b6 0 :: (SV.int IntKind.i64 k :: (SV.raw (u 8) :: (SV.raw (u 9) :: (SV.str (tGone s x.2).2.1 :: (SV.int IntKind.i64 (tGone s x.2).2.2 :: (rawR u 12 (SV.tuple [SV.str (tGone s x.2).2.1, SV.int IntKind.i64 (tGone s x.2).2.2] :: (SV.ptr 2 b 0 :: (SV.ptr 4 b6 1 :: (SV.int IntKind.i64 x.2 :: (SV.tuple [SV.str (tGone s x.2).2.1, SV.int IntKind.i64 (tGone s x.2).2.2] :: (SV.str (tGone s x.2).2.1 :: (SV.int IntKind.i64 (tGone s x.2).2.2 :: (SV.int IntKind.i64 k :: (SV.bool (decide (k < (0 : Int))) :: (SV.bool false :: (rawE (SV.bool false :: (SV.bool false :: (SV.int IntKind.i64 k :: (SV.bool (decide (k ≥ (0 : Int))) :: (SV.bool true :: (SV.int IntKind.i64 (tGone s x.2).2.2 :: ((SV.bool ((tGone s x.2).2.2 != (0 : Int))) :: (SV.bool false :: (SV.str (tGone s x.2).2.1 :: (SV.vec 3 am (List.length m) cm :: (SV.int IntKind.i64 k :: (SV.eptr 3 (Addr.blkD am) (Addr.offD am) 2 (Int.toNat k) 0 :: (SV.eptr 3 (Addr.blkD am) (Addr.offD am) 2 (Int.toNat k) 1 :: (SV.str (List.getD m (Int.toNat k) ((0 : Int), ByteArray.mk #[])).2 :: ((SV.bool !sEq (tGone s x.2).2.1 (List.getD m (Int.toNat k) ((0 : Int), ByteArray.mk #[])).2) :: ((SV.bool !sEq (tGone s x.2).2.1 (List.getD m (Int.toNat k) ((0 : Int), ByteArray.mk #[])).2) :: ((SV.bool !sEq (tGone s x.2).2.1 (List.getD m (Int.toNat k) ((0 : Int), ByteArray.mk #[])).2) :: (SV.bool false :: (SV.int IntKind.i64 k :: (SV.bool true :: (SV.vec 3 am (List.length m) cm :: (SV.int IntKind.i64 k :: (SV.vec 6 ao' (List.length (outP m_1 i_1)) cap' :: (rawR u 297 [] 174)))))))))))))))))))))))) 6))))))))))) 246)))))))))))))
                       [Ent.mk (Loc.sl ao cap) (SObj.roL 5 encStepT bs (StepT.mk (0 : Int) (0 : Int) (0 : Int) (ByteArray.mk #[]) (@none Addr) 0 0 [])),
                        factsT bs, pkA b trkE (tGone s x.2).1, Ent.mk (Loc.sl am cm) (SObj.vecL (88 : TypeId) 2 encPr m ((0 : Int), ByteArray.mk #[])),
                        Ent.mk (Loc.blk b6)
                         (SObj.cells [SV.int IntKind.i64 x.1, SV.int IntKind.i64 x.2, SV.int IntKind.i64 x.3, SV.str x.4, SV.vec 5 x.ao (List.length x.8) x.7]
                          (84 : TypeId)),
                        Ent.mk (Loc.sl x.ao x.7) (SObj.roL 1 encI1 x.8 (0 : Int)), vecP ao' cap' (outP m_1 i_1)])
              | false =>
               K (frmR [J0] (bodyOf Try.f10) 62)
                (Sy.mk (SV.vec 0 ao (List.length bs) cap :: (SV.raw (u 1) :: (SV.raw (u 2) :: (SV.ptr 2 b 0 :: (SV.vec 3 am (List.length m) cm :: (SV.int IntKind.i64 (↑i : Int) :: (SV.ptr 4 b6 0 :: (SV.int IntKind.i64 k :: (SV.raw (u 8) :: (SV.raw (u 9) :: (SV.str (tGone s x.2).2.1 :: (SV.int IntKind.i64 (tGone s x.2).2.2 :: (rawR u 12 (SV.tuple [SV.str (tGone s x.2).2.1, SV.int IntKind.i64 (tGone s x.2).2.2] :: (SV.ptr 2 b 0 :: (SV.ptr 4 b6 1 :: (SV.int IntKind.i64 x.2 :: (SV.tuple [SV.str (tGone s x.2).2.1, SV.int IntKind.i64 (tGone s x.2).2.2] :: (SV.str (tGone s x.2).2.1 :: (SV.int IntKind.i64 (tGone s x.2).2.2 :: (SV.int IntKind.i64 k :: (SV.bool (decide (k < (0 : Int))) :: (SV.bool false :: (rawE (SV.bool false :: (SV.bool false :: (SV.int IntKind.i64 k :: (SV.bool (decide (k ≥ (0 : Int))) :: (SV.bool true :: (SV.int IntKind.i64 (tGone s x.2).2.2 :: ((SV.bool ((tGone s x.2).2.2 != (0 : Int))) :: (SV.bool false :: (SV.str (tGone s x.2).2.1 :: (SV.vec 3 am (List.length m) cm :: (SV.int IntKind.i64 k :: (SV.eptr 3 (Addr.blkD am) (Addr.offD am) 2 (Int.toNat k) 0 :: (SV.eptr 3 (Addr.blkD am) (Addr.offD am) 2 (Int.toNat k) 1 :: (SV.str (List.getD m (Int.toNat k) ((0 : Int), ByteArray.mk #[])).2 :: ((SV.bool !sEq (tGone s x.2).2.1 (List.getD m (Int.toNat k) ((0 : Int), ByteArray.mk #[])).2) :: ((SV.bool !sEq (tGone s x.2).2.1 (List.getD m (Int.toNat k) ((0 : Int), ByteArray.mk #[])).2) :: ((SV.bool !sEq (tGone s x.2).2.1 (List.getD m (Int.toNat k) ((0 : Int), ByteArray.mk #[])).2) :: (SV.bool false :: (SV.int IntKind.i64 k :: (SV.bool false :: (rawR u 294 [] 177))))))))))))))))))))) 6))))))))))) 246)))))))))))))
                 [Ent.mk (Loc.sl ao cap) (SObj.roL 5 encStepT bs (StepT.mk (0 : Int) (0 : Int) (0 : Int) (ByteArray.mk #[]) (@none Addr) 0 0 [])), factsT bs,
                  pkA b trkE (tGone s x.2).1, Ent.mk (Loc.sl am cm) (SObj.vecL (88 : TypeId) 2 encPr m ((0 : Int), ByteArray.mk #[])),
                  Ent.mk (Loc.blk b6)
                   (SObj.cells [SV.int IntKind.i64 x.1, SV.int IntKind.i64 x.2, SV.int IntKind.i64 x.3, SV.str x.4, SV.vec 5 x.ao (List.length x.8) x.7] (84 : TypeId)),
                  Ent.mk (Loc.sl x.ao x.7) (SObj.roL 1 encI1 x.8 (0 : Int))])
         | false =>
          true = true ∧
           true = true ∧
            true = true ∧
             true = true ∧
              true = true ∧
               true = true ∧
                true = true ∧
                 match decide (k ≥ (0 : Int)) with
                 | true =>
                  true = true ∧
                   ∃ (m_1 : PRow),
                    ∃ (i_1 : Nat),
                     some (Ent.mk (Loc.sl am cm) (SObj.vecL (88 : TypeId) 2 encPr m ((0 : Int), ByteArray.mk #[]))) = some (vecP am cm m_1) ∧
                      (List.length m = List.length m_1 ∧ List.length m_1 ≤ 1000000 ∧ k = (↑i_1 : Int) ∧ i_1 < List.length m_1) ∧
                       ∀ (ao' : Option Addr) (cap' : Nat),
                        K (frmR [J0] (bodyOf Try.f10) 62)
                         (Sy.mk (SV.vec 0 ao (List.length bs) cap :: (SV.raw (u 1) :: (SV.raw (u 2) :: (SV.ptr 2 b 0 :: (SV.vec 6 ao' (List.length (outP m_1 i_1)) cap' :: (SV.int IntKind.i64 (↑i : Int) :: (SV.ptr 4 b6 0 :: (SV.int IntKind.i64 k :: (SV.raw (u 8) :: (SV.raw (u 9) :: (SV.str (tGone s x.2).2.1 :: (SV.int IntKind.i64 (tGone s x.2).2.2 :: (rawR u 12 (SV.tuple [SV.str (tGone s x.2).2.1, SV.int IntKind.i64 (tGone s x.2).2.2] :: (SV.ptr 2 b 0 :: (SV.ptr 4 b6 1 :: (SV.int IntKind.i64 x.2 :: (SV.tuple [SV.str (tGone s x.2).2.1, SV.int IntKind.i64 (tGone s x.2).2.2] :: (SV.str (tGone s x.2).2.1 :: (SV.int IntKind.i64 (tGone s x.2).2.2 :: (SV.int IntKind.i64 k :: (SV.bool (decide (k < (0 : Int))) :: (SV.bool false :: (rawE (SV.bool false :: (SV.bool false :: (SV.int IntKind.i64 k :: (SV.bool (decide (k ≥ (0 : Int))) :: (SV.bool false :: (rawE (SV.bool false :: (SV.bool false :: (SV.int IntKind.i64 k :: (SV.bool true :: (SV.vec 3 am (List.length m) cm :: (SV.int IntKind.i64 k :: (SV.vec 6 ao' (List.length (outP m_1 i_1)) cap' :: (rawR u 297 [] 174)))))))) 11)))))) 6))))))))))) 246)))))))))))))
                          [Ent.mk (Loc.sl ao cap)
                           (SObj.roL 5 encStepT bs (StepT.mk (0 : Int) (0 : Int) (0 : Int) (ByteArray.mk #[]) (@none Addr) 0 0 [])),
                           factsT bs, pkA b trkE (tGone s x.2).1, Ent.mk (Loc.sl am cm) (SObj.vecL (88 : TypeId) 2 encPr m ((0 : Int), ByteArray.mk #[])),
                           Ent.mk (Loc.blk b6)
                            (SObj.cells [SV.int IntKind.i64 x.1, SV.int IntKind.i64 x.2, SV.int IntKind.i64 x.3, SV.str x.4, SV.vec 5 x.ao (List.length x.8) x.7]
                             (84 : TypeId)),
                           Ent.mk (Loc.sl x.ao x.7) (SObj.roL 1 encI1 x.8 (0 : Int)), vecP ao' cap' (outP m_1 i_1)])
                 | false =>
                  K (frmR [J0] (bodyOf Try.f10) 62)
                   (Sy.mk (SV.vec 0 ao (List.length bs) cap :: (SV.raw (u 1) :: (SV.raw (u 2) :: (SV.ptr 2 b 0 :: (SV.vec 3 am (List.length m) cm :: (SV.int IntKind.i64 (↑i : Int) :: (SV.ptr 4 b6 0 :: (SV.int IntKind.i64 k :: (SV.raw (u 8) :: (SV.raw (u 9) :: (SV.str (tGone s x.2).2.1 :: (SV.int IntKind.i64 (tGone s x.2).2.2 :: (rawR u 12 (SV.tuple [SV.str (tGone s x.2).2.1, SV.int IntKind.i64 (tGone s x.2).2.2] :: (SV.ptr 2 b 0 :: (SV.ptr 4 b6 1 :: (SV.int IntKind.i64 x.2 :: (SV.tuple [SV.str (tGone s x.2).2.1, SV.int IntKind.i64 (tGone s x.2).2.2] :: (SV.str (tGone s x.2).2.1 :: (SV.int IntKind.i64 (tGone s x.2).2.2 :: (SV.int IntKind.i64 k :: (SV.bool (decide (k < (0 : Int))) :: (SV.bool false :: (rawE (SV.bool false :: (SV.bool false :: (SV.int IntKind.i64 k :: (SV.bool (decide (k ≥ (0 : Int))) :: (SV.bool false :: (rawE (SV.bool false :: (SV.bool false :: (SV.int IntKind.i64 k :: (SV.bool false :: (rawR u 294 [] 177))))) 11)))))) 6))))))))))) 246)))))))))))))
                    [Ent.mk (Loc.sl ao cap) (SObj.roL 5 encStepT bs (StepT.mk (0 : Int) (0 : Int) (0 : Int) (ByteArray.mk #[]) (@none Addr) 0 0 [])),
                     factsT bs, pkA b trkE (tGone s x.2).1, Ent.mk (Loc.sl am cm) (SObj.vecL (88 : TypeId) 2 encPr m ((0 : Int), ByteArray.mk #[])),
                     Ent.mk (Loc.blk b6)
                      (SObj.cells [SV.int IntKind.i64 x.1, SV.int IntKind.i64 x.2, SV.int IntKind.i64 x.3, SV.str x.4, SV.vec 5 x.ao (List.length x.8) x.7]
                       (84 : TypeId)),
                     Ent.mk (Loc.sl x.ao x.7) (SObj.roL 1 encI1 x.8 (0 : Int))])) := by kernel_rfl


theorem tq_15 (K : List Frm → Sy → Prop) (N : List Ent → SV → Prop) (J0 : Act → World → Prop) (ao : Option Addr) (cap : Nat) (bs : List StepT) (b : Nat) (s : Trk) (am : Option Addr) (cm : Nat) (m : PRow) (i : Nat) (x : StepT) (b6 : Nat) (k : Int) (u : Nat → Value) : (run Try.prog tqT false [62] K (retP Try.prog Try.f10.results.toList N) 1500 (frmR [J0] (bodyOf Try.f10) 15) ⟨mkT u 471 0 [(0, .vec 0 ao bs.length cap), (3, .ptr 2 b 0), (4, .vec 3 am (m).length cm), (5, .int .i64 (i : Int)), (6, .ptr 4 b6 0), (7, .int .i64 k)], [⟨.sl ao cap, .roL 5 encStepT bs StepT.zero⟩, factsT bs, pkA b trkE (s), ⟨.sl am cm, .vecL 88 2 encPr (m) zPr⟩, ⟨.blk b6, .cells [.int .i64 x.what, .int .i64 x.a, .int .i64 x.b, .str x.unit, .vec 5 x.ao x.pids.length x.cap] 84⟩, ⟨.sl x.ao x.cap, .roL 1 encI1 x.pids 0⟩]⟩) = (
(b6 = b6 ∧
 b6 = b6 ∧
  (x.ao = x.ao ∧ List.length x.8 = List.length x.8 ∧ 1 = 1 ∧ List.length x.8 * 8 ≤ 140737488355328 ∧ List.length x.8 ≤ 9223372036854775807) ∧
   ∀ (ao2 : Option Addr) (cap2 : Nat),
    List.length x.8 ≤ cap2 →
     true = true ∧
      b = b ∧
       ∃ (h : Trk = Trk),
        AdtIs (fun (s : Trk) (b : Nat) ↦ packs (trkE s b)) trkE ∧
         ∃ (ps : List Int),
          ∃ (m_1 : PRow),
           some (Ent.mk (Loc.sl ao2 cap2) (SObj.vecL 3 1 encI1 x.8 (0 : Int))) = some (Ent.mk (Loc.sl ao2 cap2) (SObj.vecL (3 : TypeId) 1 encI1 ps (0 : Int))) ∧
            (TM (cast h s) m_1 ∧ false = false) ∧
             (List.length x.8 = List.length ps ∧
              List.length ps ≤ 1000 ∧ List.length m_1 ≤ 100000 ∧ ByteArray.size x.4 ≤ 100 ∧ ∀ (p : Int), p ∈ ps → Lit.wf (Lit.int IntKind.i64 p) = true) ∧
              ∀ (s' : Trk),
               TM s' (syncF m_1 x.4 ps).fst →
                b6 = b6 ∧
                 true = true ∧
                  ∃ (m_2 : PRow),
                   some (Ent.mk (Loc.sl am cm) (SObj.vecL (88 : TypeId) 2 encPr m ((0 : Int), ByteArray.mk #[]))) = some (vecP am cm m_2) ∧
                    (List.length m = List.length m_2 ∧ List.length m_2 ≤ 1000000) ∧
                     ∀ (ao' : Option Addr) (cap' : Nat),
                      K
                       (frm [J0] (bodyOf Try.f10)
                        [1, 1, 1, 1, 1, 0, 1, 0, 0, 1, 0, 0, 1,
                         1, 1, 0, 1, 0, 1, 1, 1, 1, 1, 1, 1, 1,
                         1, 0, 1, 0]
                        [])
                       (Sy.mk (SV.vec 0 ao (List.length bs) cap :: (SV.raw (u 1) :: (SV.raw (u 2) :: (SV.ptr 2 b 0 :: (SV.vec 3 am (List.length m) cm :: (SV.int IntKind.i64 (↑i : Int) :: (SV.ptr 4 b6 0 :: (SV.int IntKind.i64 k :: (rawR u 8 (SV.int IntKind.i64 (syncF m_1 x.4 ps).2.1 :: (SV.int IntKind.i64 (syncF m_1 x.4 ps).2.2 :: (SV.vec 7 ao' (List.length (pidsP m_2 x.4)) cap' :: (SV.int IntKind.i64 (0 : Int) :: (SV.int IntKind.i64 (0 : Int) :: (SV.int IntKind.i64 (0 : Int) :: (rawR u 18 (SV.tuple [SV.int IntKind.i64 (syncF m_1 x.4 ps).2.1, SV.int IntKind.i64 (syncF m_1 x.4 ps).2.2] :: (SV.ptr 2 b 0 :: (SV.ptr 4 b6 3 :: (SV.str x.4 :: (SV.ptr 4 b6 4 :: (SV.vec 5 x.ao (List.length x.8) x.7 :: (SV.vec 6 ao2 (List.length x.8) cap2 :: (SV.tuple [SV.int IntKind.i64 (syncF m_1 x.4 ps).2.1, SV.int IntKind.i64 (syncF m_1 x.4 ps).2.2] :: (SV.int IntKind.i64 (syncF m_1 x.4 ps).2.1 :: (SV.int IntKind.i64 (syncF m_1 x.4 ps).2.2 :: (SV.vec 3 am (List.length m) cm :: (SV.ptr 4 b6 3 :: (SV.str x.4 :: (SV.vec 7 ao' (List.length (pidsP m_2 x.4)) cap' :: (rawR u 78 [] 393))))))))))))))) 46))))))) 4)))))))))
                        [Ent.mk (Loc.sl ao cap)
                         (SObj.roL 5 encStepT bs (StepT.mk (0 : Int) (0 : Int) (0 : Int) (ByteArray.mk #[]) (@none Addr) 0 0 [])),
                         factsT bs, pkA b trkE s', Ent.mk (Loc.sl am cm) (SObj.vecL (88 : TypeId) 2 encPr m ((0 : Int), ByteArray.mk #[])),
                         Ent.mk (Loc.blk b6)
                          (SObj.cells [SV.int IntKind.i64 x.1, SV.int IntKind.i64 x.2, SV.int IntKind.i64 x.3, SV.str x.4, SV.vec 5 x.ao (List.length x.8) x.7]
                           (84 : TypeId)),
                         Ent.mk (Loc.sl x.ao x.7) (SObj.roL 1 encI1 x.8 (0 : Int)), Ent.mk (Loc.sl ao2 cap2) (SObj.vecL 3 1 encI1 x.8 (0 : Int)),
                         Ent.mk (Loc.sl ao' cap') (SObj.vecL (3 : TypeId) 1 encI1 (pidsP m_2 x.4) (0 : Int))])) ∧
 b6 = b6 ∧
  (b6 = b6 ∧
   (x.ao = x.ao ∧ List.length x.8 = List.length x.8 ∧ 1 = 1 ∧ List.length x.8 * 8 ≤ 140737488355328 ∧ List.length x.8 ≤ 9223372036854775807) ∧
    ∀ (ao2 : Option Addr) (cap2 : Nat),
     List.length x.8 ≤ cap2 →
      true = true ∧
       b = b ∧
        ∃ (h : Trk = Trk),
         AdtIs (fun (s : Trk) (b : Nat) ↦ packs (trkE s b)) trkE ∧
          ∃ (ps : List Int),
           ∃ (m_1 : PRow),
            some (Ent.mk (Loc.sl ao2 cap2) (SObj.vecL 3 1 encI1 x.8 (0 : Int))) = some (Ent.mk (Loc.sl ao2 cap2) (SObj.vecL (3 : TypeId) 1 encI1 ps (0 : Int))) ∧
             (TM (cast h s) m_1 ∧ false = false) ∧
              (List.length x.8 = List.length ps ∧
               List.length ps ≤ 1000 ∧ List.length m_1 ≤ 100000 ∧ ByteArray.size x.4 ≤ 100 ∧ ∀ (p : Int), p ∈ ps → Lit.wf (Lit.int IntKind.i64 p) = true) ∧
               ∀ (s' : Trk),
                TM s' (syncF m_1 x.4 ps).fst →
                 b6 = b6 ∧
                  true = true ∧
                   ∃ (m_2 : PRow),
                    some (Ent.mk (Loc.sl am cm) (SObj.vecL (88 : TypeId) 2 encPr m ((0 : Int), ByteArray.mk #[]))) = some (vecP am cm m_2) ∧
                     (List.length m = List.length m_2 ∧ List.length m_2 ≤ 1000000) ∧
                      ∀ (ao' : Option Addr) (cap' : Nat),
                       K
                        (frm [J0] (bodyOf Try.f10)
                         [1, 1, 1, 1, 1, 0, 1, 0, 0, 1, 0, 0, 1,
                          1, 1, 0, 1, 0, 1, 1, 1, 1, 1, 1, 1, 1,
                          1, 0, 1, 0]
                         [])
                        (Sy.mk (SV.vec 0 ao (List.length bs) cap :: (SV.raw (u 1) :: (SV.raw (u 2) :: (SV.ptr 2 b 0 :: (SV.vec 3 am (List.length m) cm :: (SV.int IntKind.i64 (↑i : Int) :: (SV.ptr 4 b6 0 :: (SV.int IntKind.i64 k :: (rawR u 8 (SV.int IntKind.i64 (syncF m_1 x.4 ps).2.1 :: (SV.int IntKind.i64 (syncF m_1 x.4 ps).2.2 :: (SV.vec 7 ao' (List.length (pidsP m_2 x.4)) cap' :: (SV.int IntKind.i64 (0 : Int) :: (SV.int IntKind.i64 (0 : Int) :: (SV.int IntKind.i64 (0 : Int) :: (rawR u 18 (SV.tuple [SV.int IntKind.i64 (syncF m_1 x.4 ps).2.1, SV.int IntKind.i64 (syncF m_1 x.4 ps).2.2] :: (SV.ptr 2 b 0 :: (SV.ptr 4 b6 3 :: (SV.str x.4 :: (SV.ptr 4 b6 4 :: (SV.vec 5 x.ao (List.length x.8) x.7 :: (SV.vec 6 ao2 (List.length x.8) cap2 :: (SV.tuple [SV.int IntKind.i64 (syncF m_1 x.4 ps).2.1, SV.int IntKind.i64 (syncF m_1 x.4 ps).2.2] :: (SV.int IntKind.i64 (syncF m_1 x.4 ps).2.1 :: (SV.int IntKind.i64 (syncF m_1 x.4 ps).2.2 :: (SV.vec 3 am (List.length m) cm :: (SV.ptr 4 b6 3 :: (SV.str x.4 :: (SV.vec 7 ao' (List.length (pidsP m_2 x.4)) cap' :: (rawR u 78 [] 393))))))))))))))) 46))))))) 4)))))))))
                         [Ent.mk (Loc.sl ao cap)
                          (SObj.roL 5 encStepT bs (StepT.mk (0 : Int) (0 : Int) (0 : Int) (ByteArray.mk #[]) (@none Addr) 0 0 [])),
                          factsT bs, pkA b trkE s', Ent.mk (Loc.sl am cm) (SObj.vecL (88 : TypeId) 2 encPr m ((0 : Int), ByteArray.mk #[])),
                          Ent.mk (Loc.blk b6)
                           (SObj.cells [SV.int IntKind.i64 x.1, SV.int IntKind.i64 x.2, SV.int IntKind.i64 x.3, SV.str x.4, SV.vec 5 x.ao (List.length x.8) x.7]
                            (84 : TypeId)),
                          Ent.mk (Loc.sl x.ao x.7) (SObj.roL 1 encI1 x.8 (0 : Int)), Ent.mk (Loc.sl ao2 cap2) (SObj.vecL 3 1 encI1 x.8 (0 : Int)),
                          Ent.mk (Loc.sl ao' cap') (SObj.vecL (3 : TypeId) 1 encI1 (pidsP m_2 x.4) (0 : Int))])) ∧
   (x.ao = x.ao ∧ List.length x.8 = List.length x.8 ∧ 1 = 1 ∧ List.length x.8 * 8 ≤ 140737488355328 ∧ List.length x.8 ≤ 9223372036854775807) ∧
    ∀ (ao2 : Option Addr) (cap2 : Nat),
     List.length x.8 ≤ cap2 →
      b6 = b6 ∧
       true = true ∧
        b = b ∧
         ∃ (h : Trk = Trk),
          AdtIs (fun (s : Trk) (b : Nat) ↦ packs (trkE s b)) trkE ∧
           ∃ (ps : List Int),
            ∃ (m_1 : PRow),
             some (Ent.mk (Loc.sl ao2 cap2) (SObj.vecL 3 1 encI1 x.8 (0 : Int))) = some (Ent.mk (Loc.sl ao2 cap2) (SObj.vecL (3 : TypeId) 1 encI1 ps (0 : Int))) ∧
              (TM (cast h s) m_1 ∧ false = false) ∧
               (List.length x.8 = List.length ps ∧
                List.length ps ≤ 1000 ∧ List.length m_1 ≤ 100000 ∧ ByteArray.size x.4 ≤ 100 ∧ ∀ (p : Int), p ∈ ps → Lit.wf (Lit.int IntKind.i64 p) = true) ∧
                ∀ (s' : Trk),
                 TM s' (syncF m_1 x.4 ps).fst →
                  b6 = b6 ∧
                   true = true ∧
                    ∃ (m_2 : PRow),
                     some (Ent.mk (Loc.sl am cm) (SObj.vecL (88 : TypeId) 2 encPr m ((0 : Int), ByteArray.mk #[]))) = some (vecP am cm m_2) ∧
                      (List.length m = List.length m_2 ∧ List.length m_2 ≤ 1000000) ∧
                       ∀ (ao' : Option Addr) (cap' : Nat),
                        K
                         (frm [J0] (bodyOf Try.f10)
                          [1, 1, 1, 1, 1, 0, 1, 0, 0, 1, 0, 0, 1,
                           1, 1, 0, 1, 0, 1, 1, 1, 1, 1, 1, 1, 1,
                           1, 0, 1, 0]
                          [])
                         (Sy.mk (SV.vec 0 ao (List.length bs) cap :: (SV.raw (u 1) :: (SV.raw (u 2) :: (SV.ptr 2 b 0 :: (SV.vec 3 am (List.length m) cm :: (SV.int IntKind.i64 (↑i : Int) :: (SV.ptr 4 b6 0 :: (SV.int IntKind.i64 k :: (rawR u 8 (SV.int IntKind.i64 (syncF m_1 x.4 ps).2.1 :: (SV.int IntKind.i64 (syncF m_1 x.4 ps).2.2 :: (SV.vec 7 ao' (List.length (pidsP m_2 x.4)) cap' :: (SV.int IntKind.i64 (0 : Int) :: (SV.int IntKind.i64 (0 : Int) :: (SV.int IntKind.i64 (0 : Int) :: (rawR u 18 (SV.tuple [SV.int IntKind.i64 (syncF m_1 x.4 ps).2.1, SV.int IntKind.i64 (syncF m_1 x.4 ps).2.2] :: (SV.ptr 2 b 0 :: (SV.ptr 4 b6 3 :: (SV.str x.4 :: (SV.ptr 4 b6 4 :: (SV.vec 5 x.ao (List.length x.8) x.7 :: (SV.vec 6 ao2 (List.length x.8) cap2 :: (SV.tuple [SV.int IntKind.i64 (syncF m_1 x.4 ps).2.1, SV.int IntKind.i64 (syncF m_1 x.4 ps).2.2] :: (SV.int IntKind.i64 (syncF m_1 x.4 ps).2.1 :: (SV.int IntKind.i64 (syncF m_1 x.4 ps).2.2 :: (SV.vec 3 am (List.length m) cm :: (SV.ptr 4 b6 3 :: (SV.str x.4 :: (SV.vec 7 ao' (List.length (pidsP m_2 x.4)) cap' :: (rawR u 78 [] 393))))))))))))))) 46))))))) 4)))))))))
                          [Ent.mk (Loc.sl ao cap)
                           (SObj.roL 5 encStepT bs (StepT.mk (0 : Int) (0 : Int) (0 : Int) (ByteArray.mk #[]) (@none Addr) 0 0 [])),
                           factsT bs, pkA b trkE s', Ent.mk (Loc.sl am cm) (SObj.vecL (88 : TypeId) 2 encPr m ((0 : Int), ByteArray.mk #[])),
                           Ent.mk (Loc.blk b6)
                            (SObj.cells [SV.int IntKind.i64 x.1, SV.int IntKind.i64 x.2, SV.int IntKind.i64 x.3, SV.str x.4, SV.vec 5 x.ao (List.length x.8) x.7]
                             (84 : TypeId)),
                           Ent.mk (Loc.sl x.ao x.7) (SObj.roL 1 encI1 x.8 (0 : Int)), Ent.mk (Loc.sl ao2 cap2) (SObj.vecL 3 1 encI1 x.8 (0 : Int)),
                           Ent.mk (Loc.sl ao' cap') (SObj.vecL (3 : TypeId) 1 encI1 (pidsP m_2 x.4) (0 : Int))])) := by kernel_rfl
end Go.Proofs.Ytihajdkipkfiiaa

