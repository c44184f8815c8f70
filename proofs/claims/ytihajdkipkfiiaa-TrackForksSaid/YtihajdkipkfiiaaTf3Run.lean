import Derived.Test.YtihajdkipkfiiaaTfC
import Derived.Test.YtihajdkipkfiiaaRaw
import Derived.Test.YtihajdkipkfiiaaTab
namespace Go.Proofs.Ytihajdkipkfiiaa
set_option linter.unusedVariables false
open Go Go.RowKit
set_option maxHeartbeats 0
set_option maxRecDepth 100000
set_option maxRecDepth 100000

theorem tf_k (K : List Frm → Sy → Prop) (N : List Ent → SV → Prop) (J0 J1 : Act → World → Prop) (ao : Option Addr) (cap : Nat) (bs : List Int) (b : Nat) (s : Trk) (af : Option Addr) (cf : Nat) (ofl : List Int) (w c k : Nat) (aw : Option Addr) (cw : Nat) (want : List Int) (u : Nat → Value) : (run Try.prog tfT false [] K (retP Try.prog Try.f7.results.toList N) 1500 (frm [J0, J1] (bodyOf Try.f7) [1, 1, 1, 1, 1, 1, 1, 0, 1, 0, 0, 1, 0, 0, 1, 0, 1, 0, 0] []) ⟨mkT u 160 0 [(0, .vec 0 ao bs.length cap), (3, .ptr 1 b 0), (4, .vec 2 af ofl.length cf), (10, .int .i64 (w : Int)), (11, .vec 4 aw want.length cw), (12, .ptr 3 c 0), (13, .int .i64 (k : Int))], [⟨.sl ao cap, .roL 1 encU8 bs 0⟩, pkA b trkE s, ⟨.sl af cf, .vecL 3 1 encI1 ofl 0⟩, ⟨.blk c, .cells [.raw (.slice none 0 0)] 32⟩, ⟨.sl aw cw, .vecL 3 1 encI1 want 0⟩]⟩) = (
match decide ((↑k : Int) < (↑(List.length ofl) : Int)) with
| true =>
 (af = af ∧ cf = cf ∧ List.length ofl = List.length ofl ∧ (0 : Int) ≤ (↑k : Int) ∧ (↑k : Int) < (↑(List.length ofl) : Int)) ∧
  (Addr.blkD af = Addr.blkD af ∧ Addr.offD af = Addr.offD af ∧ 1 = 1 ∧ Int.toNat (↑k : Int) < List.length ofl) ∧
   match List.getD ofl (Int.toNat (↑k : Int)) (0 : Int) == (↑w : Int) with
   | true =>
    (true = true ∧ 1 = 1 ∧ 0 < 1 ∧ 1 ≤ 16777216) ∧
     ∀ (b_1 : Nat),
      (aw = aw ∧
       cw = cw ∧
        List.length want = List.length want ∧
         some (Addr.mk b_1 0 (@none Nat)) = some (Addr.mk b_1 0 (@none Nat)) ∧
          (3 : TypeId) = 3 ∧
           1 = 1 ∧
            1 = 1 ∧
             0 < 1 ∧ true = true ∧ (List.length want + 1) * 8 ≤ 140737488355328 ∧ List.length want + 1 ≤ 9223372036854775807) ∧
       ∃ (es : List Int),
        List.length es = 1 ∧
         List.flatMap encI1 es = [SV.int IntKind.i64 (↑k : Int)] ∧
          ∀ (ao2 : Option Addr) (cap2 : Nat),
           List.length want + 1 ≤ cap2 →
            K
             (Frm.loop J1 ::
              Frm.blk 4 ::
               frm [J0] (bodyOf Try.f7)
                [1, 1, 1, 1, 1, 1, 1, 0, 1, 0, 0, 1, 0, 0, 1,
                 1]
                [])
             (Sy.mk (SV.vec 0 ao (List.length bs) cap :: (SV.raw (u 1) :: (SV.raw (u 2) :: (SV.ptr 1 b 0 :: (SV.vec 2 af (List.length ofl) cf :: (rawR u 5 (SV.int IntKind.i64 (↑w : Int) :: (SV.vec 4 ao2 (List.length want + 1) cap2 :: (SV.ptr 3 c 0 :: (SV.int IntKind.i64 (IntKind.wrap IntKind.i64 ((↑k : Int) + (1 : Int))) :: (rawR u 14 (SV.int IntKind.i64 (↑k : Int) :: (SV.vec 2 af (List.length ofl) cf :: (SV.int IntKind.i64 (↑(List.length ofl) : Int) :: (SV.bool true :: (SV.int IntKind.i64 (↑k : Int) :: (SV.int IntKind.i64 (IntKind.wrap IntKind.i64 ((↑k : Int) + (1 : Int))) :: (SV.vec 2 af (List.length ofl) cf :: (SV.int IntKind.i64 (↑k : Int) :: (SV.eptr 2 (Addr.blkD af) (Addr.offD af) 1 (Int.toNat (↑k : Int)) 0 :: (SV.int IntKind.i64 (List.getD ofl (Int.toNat (↑k : Int)) (0 : Int)) :: (SV.int IntKind.i64 (↑w : Int) :: (SV.bool true :: (SV.vec 4 aw (List.length want) cw :: (SV.int IntKind.i64 (↑k : Int) :: (SV.vec 5 (some (Addr.mk b_1 0 (@none Nat))) 1 1 :: (SV.vec 4 ao2 (List.length want + 1) cap2 :: (rawR u 127 [] 33))))))))))))))))) 97))))) 5))))))
              [Ent.mk (Loc.sl ao cap) (SObj.roL 1 encU8 bs (0 : Int)), pkA b trkE s, Ent.mk (Loc.sl af cf) (SObj.vecL (3 : TypeId) 1 encI1 ofl (0 : Int)),
               Ent.mk (Loc.blk c) (SObj.cells [SV.raw (Value.slice (@none Addr) 0 0)] (32 : TypeId)),
               Ent.mk (Loc.sl ao2 cap2) (SObj.vecL (3 : TypeId) 1 encI1 (want ++ es) (0 : Int)), Ent.mk (Loc.blk b_1) (SObj.cells [SV.int IntKind.i64 (↑k : Int)] 3)])
   | false =>
    K
     (Frm.loop J1 ::
      Frm.blk 4 ::
       frm [J0] (bodyOf Try.f7)
        [1, 1, 1, 1, 1, 1, 1, 0, 1, 0, 0, 1, 0, 0, 1, 1] [])
     (Sy.mk (SV.vec 0 ao (List.length bs) cap :: (SV.raw (u 1) :: (SV.raw (u 2) :: (SV.ptr 1 b 0 :: (SV.vec 2 af (List.length ofl) cf :: (rawR u 5 (SV.int IntKind.i64 (↑w : Int) :: (SV.vec 4 aw (List.length want) cw :: (SV.ptr 3 c 0 :: (SV.int IntKind.i64 (IntKind.wrap IntKind.i64 ((↑k : Int) + (1 : Int))) :: (rawR u 14 (SV.int IntKind.i64 (↑k : Int) :: (SV.vec 2 af (List.length ofl) cf :: (SV.int IntKind.i64 (↑(List.length ofl) : Int) :: (SV.bool true :: (SV.int IntKind.i64 (↑k : Int) :: (SV.int IntKind.i64 (IntKind.wrap IntKind.i64 ((↑k : Int) + (1 : Int))) :: (SV.vec 2 af (List.length ofl) cf :: (SV.int IntKind.i64 (↑k : Int) :: (SV.eptr 2 (Addr.blkD af) (Addr.offD af) 1 (Int.toNat (↑k : Int)) 0 :: (SV.int IntKind.i64 (List.getD ofl (Int.toNat (↑k : Int)) (0 : Int)) :: (SV.int IntKind.i64 (↑w : Int) :: (SV.bool false :: (rawR u 123 [] 37))))))))))))) 97))))) 5))))))
      [Ent.mk (Loc.sl ao cap) (SObj.roL 1 encU8 bs (0 : Int)), pkA b trkE s, Ent.mk (Loc.sl af cf) (SObj.vecL (3 : TypeId) 1 encI1 ofl (0 : Int)),
       Ent.mk (Loc.blk c) (SObj.cells [SV.raw (Value.slice (@none Addr) 0 0)] (32 : TypeId)), Ent.mk (Loc.sl aw cw) (SObj.vecL (3 : TypeId) 1 encI1 want (0 : Int))])
| false =>
 ((0 : Int) ≤ IntKind.wrap IntKind.i64 ((↑w : Int) - (1 : Int)) ∧ IntKind.wrap IntKind.i64 ((↑w : Int) - (1 : Int)) ≤ (↑w : Int) ∧ (↑w : Int) ≤ (↑2 : Int)) ∧
  true = true ∧
   b = b ∧
    ∃ (h : Trk = Trk),
     AdtIs (fun (s : Trk) (b : Nat) ↦ packs (trkE s b)) trkE ∧
      pidsOk (cast h s) (ByteArray.extract (ByteArray.mk #[(97 : UInt8), (98 : UInt8)]) (Int.toNat (IntKind.wrap IntKind.i64 ((↑w : Int) - (1 : Int)))) (Int.toNat (↑w : Int))) ∧
       ∀ (ao_1 : Option Addr) (cap_1 bx : Nat),
        true = true ∧
         35 = (35 : FuncId) ∧
          ∃ (xs : List Int),
           ∃ (lv : Nat),
            ∃ (ao_2 : Option Addr),
             ∃ (cap_2 : Nat),
              some (Ent.mk (Loc.blk c) (SObj.cells [SV.raw (Value.slice (@none Addr) 0 0)] (32 : TypeId))) =
               some (Ent.mk (Loc.blk c) (SObj.cells [SV.raw (Value.slice (@none Addr) 0 0)] (32 : TypeId))) ∧
               some
                (Ent.mk (Loc.blk bx)
                 (SObj.cells
                  [SV.vec 5 ao_1
                   (List.length
                    (pidsL s
                     (ByteArray.extract (ByteArray.mk #[(97 : UInt8), (98 : UInt8)]) (Int.toNat (IntKind.wrap IntKind.i64 ((↑w : Int) - (1 : Int))))
                      (Int.toNat (↑w : Int)))))
                   cap_1]
                  (32 : TypeId))) =
                some (Ent.mk (Loc.blk bx) (SObj.cells [SV.vec lv ao_2 (List.length xs) cap_2] (32 : TypeId))) ∧
                nth
                 [Ent.mk (Loc.sl ao cap) (SObj.roL 1 encU8 bs (0 : Int)), pkA b trkE s, Ent.mk (Loc.sl af cf) (SObj.vecL (3 : TypeId) 1 encI1 ofl (0 : Int)),
                  Ent.mk (Loc.blk c) (SObj.cells [SV.raw (Value.slice (@none Addr) 0 0)] (32 : TypeId)),
                  Ent.mk (Loc.sl aw cw) (SObj.vecL (3 : TypeId) 1 encI1 want (0 : Int)),
                  Ent.mk (Loc.sl ao_1 cap_1)
                   (SObj.vecL (3 : TypeId) 1 encI1
                    (pidsL s
                     (ByteArray.extract (ByteArray.mk #[(97 : UInt8), (98 : UInt8)]) (Int.toNat (IntKind.wrap IntKind.i64 ((↑w : Int) - (1 : Int)))) (Int.toNat (↑w : Int))))
                    (0 : Int)),
                  Ent.mk (Loc.blk bx)
                   (SObj.cells
                    [SV.vec 5 ao_1
                     (List.length
                      (pidsL s
                       (ByteArray.extract (ByteArray.mk #[(97 : UInt8), (98 : UInt8)]) (Int.toNat (IntKind.wrap IntKind.i64 ((↑w : Int) - (1 : Int))))
                        (Int.toNat (↑w : Int)))))
                     cap_1]
                    (32 : TypeId))]
                 lv =
                 some (Ent.mk (Loc.sl ao_2 cap_2) (SObj.vecL (3 : TypeId) 1 encI1 xs (0 : Int))) ∧
                 ((false = false ∧ Nat.beq 3 lv = false ∧ Nat.beq 6 lv = false) ∧ List.length xs ≤ 100) ∧
                  ∀ (ag : Option Addr) (cg : Nat),
                   c = c ∧
                    true = true ∧
                     ∃ (xs_1 : List Int),
                      some (Ent.mk (Loc.sl ag cg) (SObj.vecL (3 : TypeId) 1 encI1 xs (0 : Int))) =
                       some (Ent.mk (Loc.sl ag cg) (SObj.vecL (3 : TypeId) 1 encI1 xs_1 (0 : Int))) ∧
                       some (Ent.mk (Loc.sl aw cw) (SObj.vecL (3 : TypeId) 1 encI1 want (0 : Int))) =
                        some (Ent.mk (Loc.sl aw cw) (SObj.vecL (3 : TypeId) 1 encI1 xs_1 (0 : Int))) ∧
                        (false = false ∧ List.length xs = List.length xs_1 ∧ List.length want = List.length xs_1 ∧ List.length xs_1 ≤ 1000000) ∧
                         ((0 : Int) ≤ IntKind.wrap IntKind.i64 ((↑w : Int) - (1 : Int)) ∧
                          IntKind.wrap IntKind.i64 ((↑w : Int) - (1 : Int)) ≤ (↑w : Int) ∧ (↑w : Int) ≤ (↑2 : Int)) ∧
                          true = true ∧
                           true = true ∧
                            b = b ∧
                             ∃ (h : Trk = Trk),
                              AdtIs (fun (s : Trk) (b : Nat) ↦ packs (trkE s b)) trkE ∧
                               pidsOk (cast h s)
                                (ByteArray.extract (ByteArray.mk #[(97 : UInt8), (98 : UInt8)]) (Int.toNat (IntKind.wrap IntKind.i64 ((↑w : Int) - (1 : Int))))
                                 (Int.toNat (↑w : Int))) ∧
                                ∀ (ao_3 : Option Addr) (cap_3 bx_1 : Nat),
                                 true = true ∧
                                  true = true ∧
                                   (99 : FuncId) = (99 : FuncId) ∧
                                    ∃ (xs_2 : List Int),
                                     ∃ (lv : Nat),
                                      ∃ (ao_4 : Option Addr),
                                       ∃ (cap_4 : Nat),
                                        some
                                         (Ent.mk (Loc.blk bx_1)
                                          (SObj.cells
                                           [SV.vec 8 ao_3
                                            (List.length
                                             (pidsL s
                                              (ByteArray.extract (ByteArray.mk #[(97 : UInt8), (98 : UInt8)])
                                               (Int.toNat (IntKind.wrap IntKind.i64 ((↑w : Int) - (1 : Int)))) (Int.toNat (↑w : Int)))))
                                            cap_3]
                                           (32 : TypeId))) =
                                         some (Ent.mk (Loc.blk bx_1) (SObj.cells [SV.vec lv ao_4 (List.length xs_2) cap_4] (32 : TypeId))) ∧
                                         nth
                                          [Ent.mk (Loc.sl ao cap) (SObj.roL 1 encU8 bs (0 : Int)), pkA b trkE s,
                                           Ent.mk (Loc.sl af cf) (SObj.vecL (3 : TypeId) 1 encI1 ofl (0 : Int)),
                                           Ent.mk (Loc.blk c) (SObj.cells [SV.vec 7 ag (List.length xs) cg] (32 : TypeId)),
                                           Ent.mk (Loc.sl aw cw) (SObj.vecL (3 : TypeId) 1 encI1 want (0 : Int)),
                                           Ent.mk (Loc.sl ao_1 cap_1)
                                            (SObj.vecL (3 : TypeId) 1 encI1
                                             (pidsL s
                                              (ByteArray.extract (ByteArray.mk #[(97 : UInt8), (98 : UInt8)])
                                               (Int.toNat (IntKind.wrap IntKind.i64 ((↑w : Int) - (1 : Int)))) (Int.toNat (↑w : Int))))
                                             (0 : Int)),
                                           Ent.mk (Loc.blk bx)
                                            (SObj.cells
                                             [SV.vec 5 ao_1
                                              (List.length
                                               (pidsL s
                                                (ByteArray.extract (ByteArray.mk #[(97 : UInt8), (98 : UInt8)])
                                                 (Int.toNat (IntKind.wrap IntKind.i64 ((↑w : Int) - (1 : Int)))) (Int.toNat (↑w : Int)))))
                                              cap_1]
                                             (32 : TypeId)),
                                           Ent.mk (Loc.sl ag cg) (SObj.vecL (3 : TypeId) 1 encI1 xs (0 : Int)),
                                           Ent.mk (Loc.sl ao_3 cap_3)
                                            (SObj.vecL (3 : TypeId) 1 encI1
                                             (pidsL s
                                              (ByteArray.extract (ByteArray.mk #[(97 : UInt8), (98 : UInt8)])
                                               (Int.toNat (IntKind.wrap IntKind.i64 ((↑w : Int) - (1 : Int)))) (Int.toNat (↑w : Int))))
                                             (0 : Int)),
                                           Ent.mk (Loc.blk bx_1)
                                            (SObj.cells
                                             [SV.vec 8 ao_3
                                              (List.length
                                               (pidsL s
                                                (ByteArray.extract (ByteArray.mk #[(97 : UInt8), (98 : UInt8)])
                                                 (Int.toNat (IntKind.wrap IntKind.i64 ((↑w : Int) - (1 : Int)))) (Int.toNat (↑w : Int)))))
                                              cap_3]
                                             (32 : TypeId))]
                                          lv =
                                          some (Ent.mk (Loc.sl ao_4 cap_4) (SObj.vecL (3 : TypeId) 1 encI1 xs_2 (0 : Int))) ∧
                                          (Nat.beq 9 lv = false ∧ List.length xs_2 ≤ 1000000) ∧
                                           ∀ (ao' : Option Addr) (cap' : Nat),
                                            true = true ∧
                                             ∃ (xs_3 : List Int),
                                              some (Ent.mk (Loc.sl ao' cap') (SObj.vecL (3 : TypeId) 1 encI1 xs_2 (0 : Int))) =
                                               some (Ent.mk (Loc.sl ao' cap') (SObj.vecL (3 : TypeId) 1 encI1 xs_3 (0 : Int))) ∧
                                               some (Ent.mk (Loc.sl aw cw) (SObj.vecL (3 : TypeId) 1 encI1 want (0 : Int))) =
                                                some (Ent.mk (Loc.sl aw cw) (SObj.vecL (3 : TypeId) 1 encI1 xs_3 (0 : Int))) ∧
                                                (false = false ∧
                                                 List.length xs_2 = List.length xs_3 ∧
                                                  List.length want = List.length xs_3 ∧ List.length xs_3 ≤ 1000000) ∧
                                                 ((0 : Int) ≤ IntKind.wrap IntKind.i64 ((↑w : Int) - (1 : Int)) ∧
                                                  IntKind.wrap IntKind.i64 ((↑w : Int) - (1 : Int)) ≤ (↑w : Int) ∧
                                                   (↑w : Int) ≤ (↑2 : Int)) ∧
                                                  true = true ∧
                                                   K
                                                    (Frm.loop J0 ::
                                                     Frm.blk 2 ::
                                                      frm [] (bodyOf Try.f7)
                                                       [1, 1, 1, 1, 1, 1, 1, 1]
                                                       [])
                                                    (Sy.mk (SV.vec 0 ao (List.length bs) cap :: (SV.raw (u 1) :: (SV.raw (u 2) :: (SV.ptr 1 b 0 :: (SV.vec 2 af (List.length ofl) cf :: (rawR u 5 (SV.int IntKind.i64 (IntKind.wrap IntKind.i64 ((↑w : Int) + (1 : Int))) :: (SV.vec 4 aw (List.length want) cw :: (SV.ptr 3 c 0 :: (SV.int IntKind.i64 (↑k : Int) :: (rawR u 14 (SV.int IntKind.i64 (↑w : Int) :: (SV.int IntKind.i64 (IntKind.wrap IntKind.i64 ((↑w : Int) + (1 : Int))) :: (SV.int IntKind.i64 (↑k : Int) :: (SV.vec 2 af (List.length ofl) cf :: (SV.int IntKind.i64 (↑(List.length ofl) : Int) :: (SV.bool false :: (rawR u 115 (SV.ptr 1 b 0 :: (SV.int IntKind.i64 (↑w : Int) :: (SV.int IntKind.i64 (IntKind.wrap IntKind.i64 ((↑w : Int) - (1 : Int))) :: (SV.int IntKind.i64 (↑w : Int) :: (SV.str (ByteArray.extract (ByteArray.mk #[(97 : UInt8), (98 : UInt8)]) (Int.toNat (IntKind.wrap IntKind.i64 ((↑w : Int) - (1 : Int)))) (Int.toNat (↑w : Int))) :: (SV.func (Fn.func (99 : FuncId)) [] [SV.ptr 6 bx 0] :: (SV.func (Fn.func 35) [] [SV.ptr 3 c 0] :: (SV.tuple [] :: (SV.vec 7 ag (List.length xs) cg :: (SV.vec 4 aw (List.length want) cw :: (SV.bool true :: (SV.bool false :: (SV.bool false :: (SV.ptr 1 b 0 :: (SV.int IntKind.i64 (↑w : Int) :: (SV.int IntKind.i64 (IntKind.wrap IntKind.i64 ((↑w : Int) - (1 : Int))) :: (SV.int IntKind.i64 (↑w : Int) :: (SV.str (ByteArray.extract (ByteArray.mk #[(97 : UInt8), (98 : UInt8)]) (Int.toNat (IntKind.wrap IntKind.i64 ((↑w : Int) - (1 : Int)))) (Int.toNat (↑w : Int))) :: (SV.vec 10 ao' (List.length xs_2) cap' :: (SV.vec 4 aw (List.length want) cw :: (SV.bool true :: (SV.bool false :: (SV.bool false :: (SV.bool false :: (SV.ptr 1 b 0 :: (SV.int IntKind.i64 (↑w : Int) :: (SV.int IntKind.i64 (IntKind.wrap IntKind.i64 ((↑w : Int) - (1 : Int))) :: (SV.int IntKind.i64 (↑w : Int) :: (SV.str (ByteArray.extract (ByteArray.mk #[(97 : UInt8), (98 : UInt8)]) (Int.toNat (IntKind.wrap IntKind.i64 ((↑w : Int) - (1 : Int)))) (Int.toNat (↑w : Int))) :: (SV.raw (Value.slice (@none Addr) 0 0) :: (SV.int IntKind.i64 (0 : Int) :: (SV.bool false :: (SV.bool false :: []))))))))))))))))))))))))))))))))) 12))))))) 95))))) 5))))))
                                                     [Ent.mk (Loc.sl ao cap) (SObj.roL 1 encU8 bs (0 : Int)), pkA b trkE s,
                                                      Ent.mk (Loc.sl af cf) (SObj.vecL (3 : TypeId) 1 encI1 ofl (0 : Int)),
                                                      Ent.mk (Loc.blk c) (SObj.cells [SV.vec 7 ag (List.length xs) cg] (32 : TypeId)),
                                                      Ent.mk (Loc.sl aw cw) (SObj.vecL (3 : TypeId) 1 encI1 want (0 : Int)),
                                                      Ent.mk (Loc.sl ao_1 cap_1)
                                                       (SObj.vecL (3 : TypeId) 1 encI1
                                                        (pidsL s
                                                         (ByteArray.extract (ByteArray.mk #[(97 : UInt8), (98 : UInt8)])
                                                          (Int.toNat (IntKind.wrap IntKind.i64 ((↑w : Int) - (1 : Int))))
                                                          (Int.toNat (↑w : Int))))
                                                        (0 : Int)),
                                                      Ent.mk (Loc.blk bx)
                                                       (SObj.cells
                                                        [SV.vec 5 ao_1
                                                         (List.length
                                                          (pidsL s
                                                           (ByteArray.extract (ByteArray.mk #[(97 : UInt8), (98 : UInt8)])
                                                            (Int.toNat (IntKind.wrap IntKind.i64 ((↑w : Int) - (1 : Int))))
                                                            (Int.toNat (↑w : Int)))))
                                                         cap_1]
                                                        (32 : TypeId)),
                                                      Ent.mk (Loc.sl ag cg) (SObj.vecL (3 : TypeId) 1 encI1 xs (0 : Int)),
                                                      Ent.mk (Loc.sl ao_3 cap_3)
                                                       (SObj.vecL (3 : TypeId) 1 encI1
                                                        (pidsL s
                                                         (ByteArray.extract (ByteArray.mk #[(97 : UInt8), (98 : UInt8)])
                                                          (Int.toNat (IntKind.wrap IntKind.i64 ((↑w : Int) - (1 : Int))))
                                                          (Int.toNat (↑w : Int))))
                                                        (0 : Int)),
                                                      Ent.mk (Loc.blk bx_1)
                                                       (SObj.cells
                                                        [SV.vec 8 ao_3
                                                         (List.length
                                                          (pidsL s
                                                           (ByteArray.extract (ByteArray.mk #[(97 : UInt8), (98 : UInt8)])
                                                            (Int.toNat (IntKind.wrap IntKind.i64 ((↑w : Int) - (1 : Int))))
                                                            (Int.toNat (↑w : Int)))))
                                                         cap_3]
                                                        (32 : TypeId)),
                                                      Ent.mk (Loc.sl ao' cap') (SObj.vecL (3 : TypeId) 1 encI1 xs_2 (0 : Int))])) := by kernel_rfl
end Go.Proofs.Ytihajdkipkfiiaa
