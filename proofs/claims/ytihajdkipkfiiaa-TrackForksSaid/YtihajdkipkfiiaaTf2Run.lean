import Derived.Test.YtihajdkipkfiiaaTfC
import Derived.Test.YtihajdkipkfiiaaRaw
import Derived.Test.YtihajdkipkfiiaaTab
namespace Go.Proofs.Ytihajdkipkfiiaa
set_option linter.unusedVariables false
open Go Go.RowKit
set_option maxHeartbeats 0
set_option maxRecDepth 100000
set_option maxRecDepth 100000

theorem tf_l1 (K : List Frm → Sy → Prop) (N : List Ent → SV → Prop) (J : Act → World → Prop) (ao : Option Addr) (cap : Nat) (bs : List Int) (b : Nat) (s : Trk) (af : Option Addr) (cf : Nat) (ofl : List Int) (i : Nat) (u : Nat → Value) : (run Try.prog tfT false [13] K (retP Try.prog Try.f7.results.toList N) 900 (frm [J] (bodyOf Try.f7) [1, 1, 1, 1, 1, 1, 0, 1, 0, 0] []) ⟨mkT u 160 0 [(0, .vec 0 ao bs.length cap), (3, .ptr 1 b 0), (4, .vec 2 af ofl.length cf), (5, .int .i64 (i : Int))], [⟨.sl ao cap, .roL 1 encU8 bs 0⟩, pkA b trkE s, ⟨.sl af cf, .vecL 3 1 encI1 ofl 0⟩]⟩) = (
match decide ((↑i : Int) < (↑(List.length bs) : Int)) with
| true =>
 (ao = ao ∧ cap = cap ∧ List.length bs = List.length bs ∧ (0 : Int) ≤ (↑i : Int) ∧ (↑i : Int) < (↑(List.length bs) : Int)) ∧
  (Addr.blkD ao = Addr.blkD ao ∧ Addr.offD ao = Addr.offD ao ∧ 1 = 1 ∧ Int.toNat (↑i : Int) < List.length bs) ∧
   (2 : Int) ≠ (0 : Int) ∧
    IntKind.wrap IntKind.i64 ((↑(List.length ofl) : Int) - (2 : Int)) ≠ (0 : Int) ∧
     K (frmR [J] (bodyOf Try.f7) 13)
      (Sy.mk (SV.vec 0 ao (List.length bs) cap :: (SV.raw (u 1) :: (SV.raw (u 2) :: (SV.ptr 1 b 0 :: (SV.vec 2 af (List.length ofl) cf :: (SV.int IntKind.i64 (↑i : Int) :: (SV.int IntKind.i64 (IntKind.wrap IntKind.i64 (Int.tmod (IntKind.wrap IntKind.i64 (IntKind.wrap IntKind.u8 (Int.tdiv (List.getD bs (Int.toNat (↑i : Int)) (0 : Int)) (2 : Int)))) (IntKind.wrap IntKind.i64 ((↑(List.length ofl) : Int) - (2 : Int))) + (2 : Int))) :: (rawR u 7 (SV.int IntKind.i64 (↑i : Int) :: (SV.vec 0 ao (List.length bs) cap :: (SV.int IntKind.i64 (↑(List.length bs) : Int) :: (SV.bool true :: (SV.raw (u 33) :: (SV.raw (u 34) :: (SV.vec 0 ao (List.length bs) cap :: (SV.int IntKind.i64 (↑i : Int) :: (SV.eptr 0 (Addr.blkD ao) (Addr.offD ao) 1 (Int.toNat (↑i : Int)) 0 :: (SV.int IntKind.u8 (List.getD bs (Int.toNat (↑i : Int)) (0 : Int)) :: (SV.int IntKind.u8 (IntKind.wrap IntKind.u8 (Int.tdiv (List.getD bs (Int.toNat (↑i : Int)) (0 : Int)) (2 : Int))) :: (SV.int IntKind.i64 (IntKind.wrap IntKind.i64 (IntKind.wrap IntKind.u8 (Int.tdiv (List.getD bs (Int.toNat (↑i : Int)) (0 : Int)) (2 : Int)))) :: (SV.vec 2 af (List.length ofl) cf :: (SV.int IntKind.i64 (↑(List.length ofl) : Int) :: (SV.int IntKind.i64 (IntKind.wrap IntKind.i64 ((↑(List.length ofl) : Int) - (2 : Int))) :: (SV.int IntKind.i64 (Int.tmod (IntKind.wrap IntKind.i64 (IntKind.wrap IntKind.u8 (Int.tdiv (List.getD bs (Int.toNat (↑i : Int)) (0 : Int)) (2 : Int)))) (IntKind.wrap IntKind.i64 ((↑(List.length ofl) : Int) - (2 : Int)))) :: (SV.int IntKind.i64 (IntKind.wrap IntKind.i64 (Int.tmod (IntKind.wrap IntKind.i64 (IntKind.wrap IntKind.u8 (Int.tdiv (List.getD bs (Int.toNat (↑i : Int)) (0 : Int)) (2 : Int)))) (IntKind.wrap IntKind.i64 ((↑(List.length ofl) : Int) - (2 : Int))) + (2 : Int))) :: (rawR u 46 [] 114)))))))))))))))))) 22))))))))
       [Ent.mk (Loc.sl ao cap) (SObj.roL 1 encU8 bs (0 : Int)), pkA b trkE s, Ent.mk (Loc.sl af cf) (SObj.vecL (3 : TypeId) 1 encI1 ofl (0 : Int))])
| false =>
 K (frm [] (bodyOf Try.f7) [1, 1, 1, 1, 1, 1, 1, 0, 1, 0] [])
  (Sy.mk (SV.vec 0 ao (List.length bs) cap :: (SV.raw (u 1) :: (SV.raw (u 2) :: (SV.ptr 1 b 0 :: (SV.vec 2 af (List.length ofl) cf :: (SV.int IntKind.i64 (↑i : Int) :: (rawR u 6 (SV.int IntKind.i64 (1 : Int) :: (rawR u 11 (SV.int IntKind.i64 (↑i : Int) :: (SV.vec 0 ao (List.length bs) cap :: (SV.int IntKind.i64 (↑(List.length bs) : Int) :: (SV.bool false :: (rawR u 33 [] 127))))) 18)) 4)))))))
   [Ent.mk (Loc.sl ao cap) (SObj.roL 1 encU8 bs (0 : Int)), pkA b trkE s, Ent.mk (Loc.sl af cf) (SObj.vecL (3 : TypeId) 1 encI1 ofl (0 : Int))])) := by kernel_rfl


theorem tf_13 (K : List Frm → Sy → Prop) (N : List Ent → SV → Prop) (J0 : Act → World → Prop) (ao : Option Addr) (cap : Nat) (bs : List Int) (b : Nat) (s : Trk) (af : Option Addr) (cf : Nat) (ofl : List Int) (i k : Nat) (u : Nat → Value) : (run Try.prog tfT false [] K (retP Try.prog Try.f7.results.toList N) 1500 (frmR [J0] (bodyOf Try.f7) 13) ⟨mkT u 160 0 [(0, .vec 0 ao bs.length cap), (3, .ptr 1 b 0), (4, .vec 2 af ofl.length cf), (5, .int .i64 (i : Int)), (6, .int .i64 (k : Int))], [⟨.sl ao cap, .roL 1 encU8 bs 0⟩, pkA b trkE s, ⟨.sl af cf, .vecL 3 1 encI1 ofl 0⟩]⟩) = (
(ao = ao ∧ cap = cap ∧ List.length bs = List.length bs ∧ (0 : Int) ≤ (↑i : Int) ∧ (↑i : Int) < (↑(List.length bs) : Int)) ∧
 (Addr.blkD ao = Addr.blkD ao ∧ Addr.offD ao = Addr.offD ao ∧ 1 = 1 ∧ Int.toNat (↑i : Int) < List.length bs) ∧
  (2 : Int) ≠ (0 : Int) ∧
   match Int.tmod (List.getD bs (Int.toNat (↑i : Int)) (0 : Int)) (2 : Int) == (0 : Int) with
   | true =>
    true = true ∧
     b = b ∧
      ∃ (h : Trk = Trk),
       AdtIs (fun (s : Trk) (b : Nat) ↦ packs (trkE s b)) trkE ∧
        ∀ (nb : Nat),
         (af = af ∧ cf = cf ∧ List.length ofl = List.length ofl ∧ (0 : Int) ≤ (↑k : Int) ∧ (↑k : Int) < (↑(List.length ofl) : Int)) ∧
          (Addr.blkD af = Addr.blkD af ∧ Addr.offD af = Addr.offD af ∧ 1 = 1 ∧ Int.toNat (↑k : Int) < List.length ofl) ∧
           match !((tFork s (↑k : Int) (↑(List.length ofl) : Int) nb).2 == (0 : Int)) == decide (List.getD ofl (Int.toNat (↑k : Int)) (0 : Int) > (0 : Int)) with
           | true =>
            N
             [Ent.mk (Loc.sl ao cap) (SObj.roL 1 encU8 bs (0 : Int)), pkA b trkE (tFork s (↑k : Int) (↑(List.length ofl) : Int) nb).1,
              Ent.mk (Loc.sl af cf) (SObj.vecL (3 : TypeId) 1 encI1 ofl (0 : Int))]
             (SV.bool false)
           | false =>
            (af = af ∧ cf = cf ∧ List.length ofl = List.length ofl ∧ (0 : Int) ≤ (↑k : Int) ∧ (↑k : Int) < (↑(List.length ofl) : Int)) ∧
             (Addr.blkD af = Addr.blkD af ∧ Addr.offD af = Addr.offD af ∧ 1 = 1 ∧ Int.toNat (↑k : Int) < List.length ofl) ∧
              (true = true ∧ 1 = 1 ∧ 0 < 1 ∧ 1 ≤ 16777216) ∧
               ∀ (b_1 : Nat),
                (af = af ∧
                 cf = cf ∧
                  List.length ofl = List.length ofl ∧
                   some (Addr.mk b_1 0 (@none Nat)) = some (Addr.mk b_1 0 (@none Nat)) ∧
                    (3 : TypeId) = 3 ∧
                     1 = 1 ∧
                      1 = 1 ∧
                       0 < 1 ∧
                        true = true ∧ (List.length ofl + 1) * 8 ≤ 140737488355328 ∧ List.length ofl + 1 ≤ 9223372036854775807) ∧
                 ∃ (es : List Int),
                  List.length es = 1 ∧
                   List.flatMap encI1 es = [SV.int IntKind.i64 (List.getD ofl (Int.toNat (↑k : Int)) (0 : Int))] ∧
                    ∀ (ao2 : Option Addr) (cap2 : Nat),
                     List.length ofl + 1 ≤ cap2 →
                      K (Frm.loop J0 :: Frm.blk 0 :: frm [] (bodyOf Try.f7) [1, 1, 1, 1, 1, 1, 1] [])
                       (Sy.mk (SV.vec 0 ao (List.length bs) cap :: (SV.raw (u 1) :: (SV.raw (u 2) :: (SV.ptr 1 b 0 :: (SV.vec 2 ao2 (List.length ofl + 1) cap2 :: (SV.int IntKind.i64 (IntKind.wrap IntKind.i64 ((↑i : Int) + (1 : Int))) :: (SV.int IntKind.i64 (↑k : Int) :: (SV.int IntKind.i64 (tFork s (↑k : Int) (↑(List.length ofl) : Int) nb).2 :: (rawR u 8 (SV.int IntKind.i64 (↑i : Int) :: (SV.int IntKind.i64 (IntKind.wrap IntKind.i64 ((↑i : Int) + (1 : Int))) :: (rawR u 35 (SV.vec 0 ao (List.length bs) cap :: (SV.int IntKind.i64 (↑i : Int) :: (SV.eptr 0 (Addr.blkD ao) (Addr.offD ao) 1 (Int.toNat (↑i : Int)) 0 :: (SV.int IntKind.u8 (List.getD bs (Int.toNat (↑i : Int)) (0 : Int)) :: (SV.int IntKind.u8 (Int.tmod (List.getD bs (Int.toNat (↑i : Int)) (0 : Int)) (2 : Int)) :: (SV.bool true :: (SV.ptr 1 b 0 :: (SV.int IntKind.i64 (↑k : Int) :: (SV.vec 2 af (List.length ofl) cf :: (SV.int IntKind.i64 (↑(List.length ofl) : Int) :: (SV.int IntKind.i64 (tFork s (↑k : Int) (↑(List.length ofl) : Int) nb).2 :: (SV.int IntKind.i64 (tFork s (↑k : Int) (↑(List.length ofl) : Int) nb).2 :: ((SV.bool ((tFork s (↑k : Int) (↑(List.length ofl) : Int) nb).2 == (0 : Int))) :: (SV.vec 2 af (List.length ofl) cf :: (SV.int IntKind.i64 (↑k : Int) :: (SV.eptr 2 (Addr.blkD af) (Addr.offD af) 1 (Int.toNat (↑k : Int)) 0 :: (SV.int IntKind.i64 (List.getD ofl (Int.toNat (↑k : Int)) (0 : Int)) :: (SV.bool (decide (List.getD ofl (Int.toNat (↑k : Int)) (0 : Int) > (0 : Int))) :: (SV.bool false :: (SV.vec 2 af (List.length ofl) cf :: (SV.vec 2 af (List.length ofl) cf :: (SV.int IntKind.i64 (↑k : Int) :: (SV.eptr 2 (Addr.blkD af) (Addr.offD af) 1 (Int.toNat (↑k : Int)) 0 :: (SV.int IntKind.i64 (List.getD ofl (Int.toNat (↑k : Int)) (0 : Int)) :: (SV.vec 3 (some (Addr.mk b_1 0 (@none Nat))) 1 1 :: (SV.vec 2 ao2 (List.length ofl + 1) cap2 :: (rawR u 72 [] 88))))))))))))))))))))))))))) 11))) 25)))))))))
                        [Ent.mk (Loc.sl ao cap) (SObj.roL 1 encU8 bs (0 : Int)), pkA b trkE (tFork s (↑k : Int) (↑(List.length ofl) : Int) nb).1,
                         Ent.mk (Loc.sl ao2 cap2) (SObj.vecL (3 : TypeId) 1 encI1 (ofl ++ es) (0 : Int)),
                         Ent.mk (Loc.blk b_1) (SObj.cells [SV.int IntKind.i64 (List.getD ofl (Int.toNat (↑k : Int)) (0 : Int))] 3)])
   | false =>
    true = true ∧
     b = b ∧
      ∃ (h : Trk = Trk),
       AdtIs (fun (s : Trk) (b : Nat) ↦ packs (trkE s b)) trkE ∧
        tOk s (↑k : Int) ∧
         (af = af ∧ cf = cf ∧ List.length ofl = List.length ofl ∧ (0 : Int) ≤ (↑k : Int) ∧ (↑k : Int) < (↑(List.length ofl) : Int)) ∧
          (Addr.blkD af = Addr.blkD af ∧ Addr.offD af = Addr.offD af ∧ 1 = 1 ∧ Int.toNat (↑k : Int) < List.length ofl) ∧
           match !((tGone s (↑k : Int)).2.2 == (0 : Int)) == decide (List.getD ofl (Int.toNat (↑k : Int)) (0 : Int) > (0 : Int)) with
           | true =>
            true = true ∧
             true = true ∧
              true = true ∧
               true = true ∧
                true = true ∧
                 true = true ∧
                  true = true ∧
                   true = true ∧
                    true = true ∧
                     true = true ∧
                      true = true ∧
                       true = true ∧
                        N
                         [Ent.mk (Loc.sl ao cap) (SObj.roL 1 encU8 bs (0 : Int)), pkA b trkE (tGone s (↑k : Int)).1,
                          Ent.mk (Loc.sl af cf) (SObj.vecL (3 : TypeId) 1 encI1 ofl (0 : Int))]
                         (SV.bool false)
           | false =>
            match (tGone s (↑k : Int)).2.2 == (0 : Int) with
            | true =>
             (af = af ∧ cf = cf ∧ List.length ofl = List.length ofl ∧ (0 : Int) ≤ (↑k : Int) ∧ (↑k : Int) < (↑(List.length ofl) : Int)) ∧
              (Addr.blkD af = Addr.blkD af ∧ Addr.offD af = Addr.offD af ∧ 1 = 1 ∧ Int.toNat (↑k : Int) < List.length ofl) ∧
               (af = af ∧ cf = cf ∧ List.length ofl = List.length ofl ∧ (0 : Int) ≤ (↑k : Int) ∧ (↑k : Int) < (↑(List.length ofl) : Int)) ∧
                (Addr.blkD af = Addr.blkD af ∧ Addr.offD af = Addr.offD af ∧ 1 = 1 ∧ Int.toNat (↑k : Int) < List.length ofl) ∧
                 ((0 : Int) ≤ IntKind.wrap IntKind.i64 (List.getD ofl (Int.toNat (↑k : Int)) (0 : Int) - (1 : Int)) ∧
                  IntKind.wrap IntKind.i64 (List.getD ofl (Int.toNat (↑k : Int)) (0 : Int) - (1 : Int)) ≤ List.getD ofl (Int.toNat (↑k : Int)) (0 : Int) ∧
                   List.getD ofl (Int.toNat (↑k : Int)) (0 : Int) ≤ (↑2 : Int)) ∧
                  match
                   !sEq (tGone s (↑k : Int)).2.1
                    (ByteArray.extract (ByteArray.mk #[(97 : UInt8), (98 : UInt8)])
                     (Int.toNat (IntKind.wrap IntKind.i64 (List.getD ofl (Int.toNat (↑k : Int)) (0 : Int) - (1 : Int))))
                     (Int.toNat (List.getD ofl (Int.toNat (↑k : Int)) (0 : Int)))) with
                  | true =>
                   N
                    [Ent.mk (Loc.sl ao cap) (SObj.roL 1 encU8 bs (0 : Int)), pkA b trkE (tGone s (↑k : Int)).1,
                     Ent.mk (Loc.sl af cf) (SObj.vecL (3 : TypeId) 1 encI1 ofl (0 : Int))]
                    (SV.bool false)
                  | false =>
                   (af = af ∧ cf = cf ∧ List.length ofl = List.length ofl ∧ (0 : Int) ≤ (↑k : Int) ∧ (↑k : Int) < (↑(List.length ofl) : Int)) ∧
                    (Addr.blkD af = Addr.blkD af ∧
                     Addr.offD af = Addr.offD af ∧
                      1 = 1 ∧ Int.toNat (↑k : Int) < List.length ofl ∧ true = true ∧ 1 = 1 ∧ 1 ≤ 1) ∧
                     ∃ (e : Int),
                      [SV.int IntKind.i64 e] = [SV.int IntKind.i64 (0 : Int)] ∧
                       K (Frm.loop J0 :: Frm.blk 0 :: frm [] (bodyOf Try.f7) [1, 1, 1, 1, 1, 1, 1] [])
                        (Sy.mk (SV.vec 0 ao (List.length bs) cap :: (SV.raw (u 1) :: (SV.raw (u 2) :: (SV.ptr 1 b 0 :: (SV.vec 2 af (List.length ofl) cf :: (SV.int IntKind.i64 (IntKind.wrap IntKind.i64 ((↑i : Int) + (1 : Int))) :: (SV.int IntKind.i64 (↑k : Int) :: (SV.raw (u 7) :: (SV.str (tGone s (↑k : Int)).2.1 :: (SV.int IntKind.i64 (tGone s (↑k : Int)).2.2 :: (rawR u 10 (SV.int IntKind.i64 (↑i : Int) :: (SV.int IntKind.i64 (IntKind.wrap IntKind.i64 ((↑i : Int) + (1 : Int))) :: (rawR u 35 (SV.vec 0 ao (List.length bs) cap :: (SV.int IntKind.i64 (↑i : Int) :: (SV.eptr 0 (Addr.blkD ao) (Addr.offD ao) 1 (Int.toNat (↑i : Int)) 0 :: (SV.int IntKind.u8 (List.getD bs (Int.toNat (↑i : Int)) (0 : Int)) :: (SV.int IntKind.u8 (Int.tmod (List.getD bs (Int.toNat (↑i : Int)) (0 : Int)) (2 : Int)) :: (SV.bool false :: (rawR u 52 (SV.tuple [SV.str (tGone s (↑k : Int)).2.1, SV.int IntKind.i64 (tGone s (↑k : Int)).2.2] :: (SV.ptr 1 b 0 :: (SV.int IntKind.i64 (↑k : Int) :: (SV.tuple [SV.str (tGone s (↑k : Int)).2.1, SV.int IntKind.i64 (tGone s (↑k : Int)).2.2] :: (SV.str (tGone s (↑k : Int)).2.1 :: (SV.int IntKind.i64 (tGone s (↑k : Int)).2.2 :: (SV.int IntKind.i64 (tGone s (↑k : Int)).2.2 :: ((SV.bool ((tGone s (↑k : Int)).2.2 == (0 : Int))) :: (SV.vec 2 af (List.length ofl) cf :: (SV.int IntKind.i64 (↑k : Int) :: (SV.eptr 2 (Addr.blkD af) (Addr.offD af) 1 (Int.toNat (↑k : Int)) 0 :: (SV.int IntKind.i64 (List.getD ofl (Int.toNat (↑k : Int)) (0 : Int)) :: (SV.bool (decide (List.getD ofl (Int.toNat (↑k : Int)) (0 : Int) > (0 : Int))) :: ((SV.bool !((tGone s (↑k : Int)).2.2 == (0 : Int)) == decide (List.getD ofl (Int.toNat (↑k : Int)) (0 : Int) > (0 : Int))) :: (SV.bool false :: (SV.int IntKind.i64 (tGone s (↑k : Int)).2.2 :: ((SV.bool ((tGone s (↑k : Int)).2.2 == (0 : Int))) :: (SV.bool true :: (SV.str (tGone s (↑k : Int)).2.1 :: (SV.vec 2 af (List.length ofl) cf :: (SV.int IntKind.i64 (↑k : Int) :: (SV.eptr 2 (Addr.blkD af) (Addr.offD af) 1 (Int.toNat (↑k : Int)) 0 :: (SV.int IntKind.i64 (List.getD ofl (Int.toNat (↑k : Int)) (0 : Int)) :: (SV.int IntKind.i64 (IntKind.wrap IntKind.i64 (List.getD ofl (Int.toNat (↑k : Int)) (0 : Int) - (1 : Int))) :: (SV.vec 2 af (List.length ofl) cf :: (SV.int IntKind.i64 (↑k : Int) :: (SV.eptr 2 (Addr.blkD af) (Addr.offD af) 1 (Int.toNat (↑k : Int)) 0 :: (SV.int IntKind.i64 (List.getD ofl (Int.toNat (↑k : Int)) (0 : Int)) :: (SV.str (ByteArray.extract (ByteArray.mk #[(97 : UInt8), (98 : UInt8)]) (Int.toNat (IntKind.wrap IntKind.i64 (List.getD ofl (Int.toNat (↑k : Int)) (0 : Int) - (1 : Int)))) (Int.toNat (List.getD ofl (Int.toNat (↑k : Int)) (0 : Int)))) :: ((SV.bool !sEq (tGone s (↑k : Int)).2.1 (ByteArray.extract (ByteArray.mk #[(97 : UInt8), (98 : UInt8)]) (Int.toNat (IntKind.wrap IntKind.i64 (List.getD ofl (Int.toNat (↑k : Int)) (0 : Int) - (1 : Int)))) (Int.toNat (List.getD ofl (Int.toNat (↑k : Int)) (0 : Int))))) :: ((SV.bool !sEq (tGone s (↑k : Int)).2.1 (ByteArray.extract (ByteArray.mk #[(97 : UInt8), (98 : UInt8)]) (Int.toNat (IntKind.wrap IntKind.i64 (List.getD ofl (Int.toNat (↑k : Int)) (0 : Int) - (1 : Int)))) (Int.toNat (List.getD ofl (Int.toNat (↑k : Int)) (0 : Int))))) :: (SV.bool false :: (SV.vec 2 af (List.length ofl) cf :: (SV.int IntKind.i64 (↑k : Int) :: (SV.eptr 2 (Addr.blkD af) (Addr.offD af) 1 (Int.toNat (↑k : Int)) 0 :: (rawR u 107 [] 53)))))))))))))))))))))))))))))))))))) 20))))))) 11))) 23)))))))))))
                         [Ent.mk (Loc.sl ao cap) (SObj.roL 1 encU8 bs (0 : Int)), pkA b trkE (tGone s (↑k : Int)).1,
                          Ent.mk (Loc.sl af cf) (SObj.vecL (3 : TypeId) 1 encI1 (List.set ofl (Int.toNat (↑k : Int)) e) (0 : Int))])
            | false =>
             (af = af ∧ cf = cf ∧ List.length ofl = List.length ofl ∧ (0 : Int) ≤ (↑k : Int) ∧ (↑k : Int) < (↑(List.length ofl) : Int)) ∧
              (Addr.blkD af = Addr.blkD af ∧
               Addr.offD af = Addr.offD af ∧ 1 = 1 ∧ Int.toNat (↑k : Int) < List.length ofl ∧ true = true ∧ 1 = 1 ∧ 1 ≤ 1) ∧
               ∃ (e : Int),
                [SV.int IntKind.i64 e] = [SV.int IntKind.i64 (0 : Int)] ∧
                 K (Frm.loop J0 :: Frm.blk 0 :: frm [] (bodyOf Try.f7) [1, 1, 1, 1, 1, 1, 1] [])
                  (Sy.mk (SV.vec 0 ao (List.length bs) cap :: (SV.raw (u 1) :: (SV.raw (u 2) :: (SV.ptr 1 b 0 :: (SV.vec 2 af (List.length ofl) cf :: (SV.int IntKind.i64 (IntKind.wrap IntKind.i64 ((↑i : Int) + (1 : Int))) :: (SV.int IntKind.i64 (↑k : Int) :: (SV.raw (u 7) :: (SV.str (tGone s (↑k : Int)).2.1 :: (SV.int IntKind.i64 (tGone s (↑k : Int)).2.2 :: (rawR u 10 (SV.int IntKind.i64 (↑i : Int) :: (SV.int IntKind.i64 (IntKind.wrap IntKind.i64 ((↑i : Int) + (1 : Int))) :: (rawR u 35 (SV.vec 0 ao (List.length bs) cap :: (SV.int IntKind.i64 (↑i : Int) :: (SV.eptr 0 (Addr.blkD ao) (Addr.offD ao) 1 (Int.toNat (↑i : Int)) 0 :: (SV.int IntKind.u8 (List.getD bs (Int.toNat (↑i : Int)) (0 : Int)) :: (SV.int IntKind.u8 (Int.tmod (List.getD bs (Int.toNat (↑i : Int)) (0 : Int)) (2 : Int)) :: (SV.bool false :: (rawR u 52 (SV.tuple [SV.str (tGone s (↑k : Int)).2.1, SV.int IntKind.i64 (tGone s (↑k : Int)).2.2] :: (SV.ptr 1 b 0 :: (SV.int IntKind.i64 (↑k : Int) :: (SV.tuple [SV.str (tGone s (↑k : Int)).2.1, SV.int IntKind.i64 (tGone s (↑k : Int)).2.2] :: (SV.str (tGone s (↑k : Int)).2.1 :: (SV.int IntKind.i64 (tGone s (↑k : Int)).2.2 :: (SV.int IntKind.i64 (tGone s (↑k : Int)).2.2 :: ((SV.bool ((tGone s (↑k : Int)).2.2 == (0 : Int))) :: (SV.vec 2 af (List.length ofl) cf :: (SV.int IntKind.i64 (↑k : Int) :: (SV.eptr 2 (Addr.blkD af) (Addr.offD af) 1 (Int.toNat (↑k : Int)) 0 :: (SV.int IntKind.i64 (List.getD ofl (Int.toNat (↑k : Int)) (0 : Int)) :: (SV.bool (decide (List.getD ofl (Int.toNat (↑k : Int)) (0 : Int) > (0 : Int))) :: ((SV.bool !((tGone s (↑k : Int)).2.2 == (0 : Int)) == decide (List.getD ofl (Int.toNat (↑k : Int)) (0 : Int) > (0 : Int))) :: (SV.bool false :: (SV.int IntKind.i64 (tGone s (↑k : Int)).2.2 :: ((SV.bool ((tGone s (↑k : Int)).2.2 == (0 : Int))) :: (SV.bool false :: (rawE (SV.bool false :: (SV.bool false :: (SV.vec 2 af (List.length ofl) cf :: (SV.int IntKind.i64 (↑k : Int) :: (SV.eptr 2 (Addr.blkD af) (Addr.offD af) 1 (Int.toNat (↑k : Int)) 0 :: (rawR u 107 [] 53)))))) 12))))))))))))))))))) 20))))))) 11))) 23)))))))))))
                   [Ent.mk (Loc.sl ao cap) (SObj.roL 1 encU8 bs (0 : Int)), pkA b trkE (tGone s (↑k : Int)).1,
                    Ent.mk (Loc.sl af cf) (SObj.vecL (3 : TypeId) 1 encI1 (List.set ofl (Int.toNat (↑k : Int)) e) (0 : Int))])) := by kernel_rfl


theorem tf_w (K : List Frm → Sy → Prop) (N : List Ent → SV → Prop) (J : Act → World → Prop) (ao : Option Addr) (cap : Nat) (bs : List Int) (b : Nat) (s : Trk) (af : Option Addr) (cf : Nat) (ofl : List Int) (w : Nat) (u : Nat → Value) : (run Try.prog tfT false [] K (retP Try.prog Try.f7.results.toList N) 900 (frm [J] (bodyOf Try.f7) [1, 1, 1, 1, 1, 1, 1, 0, 1, 0, 0] []) ⟨mkT u 160 0 [(0, .vec 0 ao bs.length cap), (3, .ptr 1 b 0), (4, .vec 2 af ofl.length cf), (10, .int .i64 (w : Int))], [⟨.sl ao cap, .roL 1 encU8 bs 0⟩, pkA b trkE s, ⟨.sl af cf, .vecL 3 1 encI1 ofl 0⟩]⟩) = (
match decide ((↑w : Int) ≤ (2 : Int)) with
| true =>
 ∀ (b_1 : Nat),
  K
   (frm [J] (bodyOf Try.f7)
    [1, 1, 1, 1, 1, 1, 1, 0, 1, 0, 0, 1, 0, 0, 1, 0, 1,
     0]
    [])
   (Sy.mk (SV.vec 0 ao (List.length bs) cap :: (SV.raw (u 1) :: (SV.raw (u 2) :: (SV.ptr 1 b 0 :: (SV.vec 2 af (List.length ofl) cf :: (rawR u 5 (SV.int IntKind.i64 (↑w : Int) :: (SV.raw (Value.slice (@none Addr) 0 0) :: (SV.ptr 3 b_1 0 :: (SV.int IntKind.i64 (2 : Int) :: (rawR u 14 (SV.int IntKind.i64 (↑w : Int) :: (SV.bool true :: (rawR u 109 [] 51))) 93))))) 5))))))
    [Ent.mk (Loc.sl ao cap) (SObj.roL 1 encU8 bs (0 : Int)), pkA b trkE s, Ent.mk (Loc.sl af cf) (SObj.vecL (3 : TypeId) 1 encI1 ofl (0 : Int)),
     Ent.mk (Loc.blk b_1) (SObj.cells [SV.raw (Value.slice (@none Addr) 0 0)] 32)])
| false => N [Ent.mk (Loc.sl ao cap) (SObj.roL 1 encU8 bs (0 : Int)), pkA b trkE s, Ent.mk (Loc.sl af cf) (SObj.vecL (3 : TypeId) 1 encI1 ofl (0 : Int))] (SV.bool true)) := by kernel_rfl
end Go.Proofs.Ytihajdkipkfiiaa
