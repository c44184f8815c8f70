import Derived.Test.YtihajdkipkfiiaaGoC
import Derived.Test.YtihajdkipkfiiaaTab
namespace Go.Proofs.Ytihajdkipkfiiaa
set_option linter.unusedVariables false
open Go Go.RowKit
set_option maxHeartbeats 0
set_option maxRecDepth 100000
set_option allowUnsafeReducibility true
set_option maxRecDepth 100000

theorem gMem_some (K : List Frm → Sy → Prop) (N : List Ent → SV → Prop) (s : Grp) (b nb : Nat) (n : ByteArray) (ms : List (Key × Unit)) (rest : List Ent) : (run Try.prog gTm true [] K (retP Try.prog Try.f18.results.toList N) 600 [.code (bodyOf Try.f18)] ⟨padTo 12 [.ptr 0 b 0, .str n], [⟨.blk b, .cells [.map 1 s.bg, .map 2 s.bo, .vec 3 s.ao s.notes.length s.cap] 118⟩, ⟨.blk s.bg, .map1 none encG s.gs (.s n) (some (.map 4 nb))⟩, ⟨.blk s.bo, .mapL (some .i64) encO s.of⟩, ⟨.sl s.ao s.cap, .vecL 9 1 encS s.notes ByteArray.empty⟩, ⟨.blk nb, .mapL (some .i64) encU ms⟩, pk 0 rest]⟩) = (
b = b ∧
 (s.1 = s.1 ∧ Key.s n = Key.s n ∧ @none IntKind = @none IntKind) ∧
  true = true ∧
   true = true ∧
    true = true ∧
     ∀ (b_1 : Nat),
      true = true ∧
       110 = 110 ∧
        (b_1 = b_1 ∧ nb = nb ∧ some IntKind.i64 = some IntKind.i64 ∧ wfI ms) ∧
         ∀ (ao : Option Addr) (cap : Nat),
          N
           [Ent.mk (Loc.blk b) (SObj.cells [SV.map 1 s.1, SV.map 2 s.2, SV.vec 3 s.ao (List.length s.7) s.4] (118 : TypeId)),
            Ent.mk (Loc.blk s.1) (SObj.map1 (@none IntKind) encG s.5 (Key.s n) (some (SV.map 4 nb))), Ent.mk (Loc.blk s.2) (SObj.mapL (some IntKind.i64) encO s.6),
            Ent.mk (Loc.sl s.ao s.4) (SObj.vecL (9 : TypeId) 1 encS s.7 ByteArray.empty), Ent.mk (Loc.blk nb) (SObj.mapL (some IntKind.i64) encU ms), pk 0 rest,
            Ent.mk (Loc.blk b_1) (SObj.cells [SV.map 4 nb] 120), Ent.mk (Loc.sl ao cap) (SObj.vecL 3 1 encI1 (sortI ms) (0 : Int))]
           (SV.vec 7 ao (List.length (sortI ms)) cap)) := by kernel_rfl


theorem ints_run (K : List Frm → Sy → Prop) (N : List Ent → SV → Prop) (xs : List Int) (ao ao' : Option Addr) (cap cap' : Nat) : (run Try.prog [] false [] K (retP Try.prog Try.f17.results.toList N) 600 [.code (bodyOf Try.f17)] ⟨padTo 26 [.vec 0 ao xs.length cap, .vec 1 ao' xs.length cap'], [⟨.sl ao cap, .vecL 3 1 encI1 xs 0⟩, ⟨.sl ao' cap', .vecL 3 1 encI1 xs 0⟩]⟩) = (
match (↑(List.length xs) : Int) != (↑(List.length xs) : Int) with
| true => N [Ent.mk (Loc.sl ao cap) (SObj.vecL (3 : TypeId) 1 encI1 xs (0 : Int)), Ent.mk (Loc.sl ao' cap') (SObj.vecL (3 : TypeId) 1 encI1 xs (0 : Int))] (SV.bool false)
| false =>
 K (frm [] (bodyOf Try.f17) [1, 1, 0, 1, 0] [])
  (Sy.mk
   [SV.vec 0 ao (List.length xs) cap, SV.vec 1 ao' (List.length xs) cap', SV.raw (Value.tuple #[]), SV.raw (Value.tuple #[]), SV.bool false, SV.int IntKind.i64 (0 : Int),
    SV.vec 0 ao (List.length xs) cap, SV.int IntKind.i64 (↑(List.length xs) : Int), SV.vec 1 ao' (List.length xs) cap', SV.int IntKind.i64 (↑(List.length xs) : Int), SV.bool false,
    SV.raw (Value.tuple #[]), SV.raw (Value.tuple #[]), SV.raw (Value.tuple #[]), SV.raw (Value.tuple #[]), SV.raw (Value.tuple #[]), SV.raw (Value.tuple #[]), SV.raw (Value.tuple #[]),
    SV.raw (Value.tuple #[]), SV.raw (Value.tuple #[]), SV.raw (Value.tuple #[]), SV.raw (Value.tuple #[]), SV.raw (Value.tuple #[]), SV.raw (Value.tuple #[]), SV.raw (Value.tuple #[]),
    SV.raw (Value.tuple #[])]
   [Ent.mk (Loc.sl ao cap) (SObj.vecL (3 : TypeId) 1 encI1 xs (0 : Int)), Ent.mk (Loc.sl ao' cap') (SObj.vecL (3 : TypeId) 1 encI1 xs (0 : Int))])) := by kernel_rfl


theorem ints_body (K : List Frm → Sy → Prop) (N : List Ent → SV → Prop) (J : Act → World → Prop) (xs : List Int) (ao ao' : Option Addr) (cap cap' : Nat) (i : Nat) (u : Nat → Value) : (run Try.prog [] false [] K (retP Try.prog Try.f17.results.toList N) 900 (frm [J] (bodyOf Try.f17) [1, 1, 0, 1, 0, 0] []) ⟨mkT u 26 0 [(0, .vec 0 ao xs.length cap), (1, .vec 1 ao' xs.length cap'), (5, .int .i64 (i : Int))], [⟨.sl ao cap, .vecL 3 1 encI1 xs 0⟩, ⟨.sl ao' cap', .vecL 3 1 encI1 xs 0⟩]⟩) = (
match decide ((↑i : Int) < (↑(List.length xs) : Int)) with
| true =>
 (ao = ao ∧ cap = cap ∧ List.length xs = List.length xs ∧ (0 : Int) ≤ (↑i : Int) ∧ (↑i : Int) < (↑(List.length xs) : Int)) ∧
  (Addr.blkD ao = Addr.blkD ao ∧ Addr.offD ao = Addr.offD ao ∧ 1 = 1 ∧ Int.toNat (↑i : Int) < List.length xs) ∧
   (ao' = ao' ∧ cap' = cap' ∧ List.length xs = List.length xs ∧ (0 : Int) ≤ (↑i : Int) ∧ (↑i : Int) < (↑(List.length xs) : Int)) ∧
    (Addr.blkD ao' = Addr.blkD ao' ∧ Addr.offD ao' = Addr.offD ao' ∧ 1 = 1 ∧ Int.toNat (↑i : Int) < List.length xs) ∧
     match List.getD xs (Int.toNat (↑i : Int)) (0 : Int) != List.getD xs (Int.toNat (↑i : Int)) (0 : Int) with
     | true => N [Ent.mk (Loc.sl ao cap) (SObj.vecL (3 : TypeId) 1 encI1 xs (0 : Int)), Ent.mk (Loc.sl ao' cap') (SObj.vecL (3 : TypeId) 1 encI1 xs (0 : Int))] (SV.bool false)
     | false =>
      K (Frm.loop J :: Frm.blk 0 :: frm [] (bodyOf Try.f17) [1, 1, 1] [])
       (Sy.mk
        [SV.vec 0 ao (List.length xs) cap, SV.vec 1 ao' (List.length xs) cap', SV.raw (u 2), SV.raw (u 3), SV.raw (u 4),
         SV.int IntKind.i64 (IntKind.wrap IntKind.i64 ((↑i : Int) + (1 : Int))), SV.raw (u 6), SV.raw (u 7), SV.raw (u 8), SV.raw (u 9), SV.raw (u 10),
         SV.int IntKind.i64 (↑i : Int), SV.vec 0 ao (List.length xs) cap, SV.int IntKind.i64 (↑(List.length xs) : Int), SV.bool true, SV.int IntKind.i64 (↑i : Int),
         SV.int IntKind.i64 (IntKind.wrap IntKind.i64 ((↑i : Int) + (1 : Int))), SV.vec 0 ao (List.length xs) cap, SV.int IntKind.i64 (↑i : Int),
         SV.eptr 0 (Addr.blkD ao) (Addr.offD ao) 1 (Int.toNat (↑i : Int)) 0, SV.int IntKind.i64 (List.getD xs (Int.toNat (↑i : Int)) (0 : Int)),
         SV.vec 1 ao' (List.length xs) cap', SV.int IntKind.i64 (↑i : Int), SV.eptr 1 (Addr.blkD ao') (Addr.offD ao') 1 (Int.toNat (↑i : Int)) 0,
         SV.int IntKind.i64 (List.getD xs (Int.toNat (↑i : Int)) (0 : Int)), SV.bool false]
        [Ent.mk (Loc.sl ao cap) (SObj.vecL (3 : TypeId) 1 encI1 xs (0 : Int)), Ent.mk (Loc.sl ao' cap') (SObj.vecL (3 : TypeId) 1 encI1 xs (0 : Int))])
| false => N [Ent.mk (Loc.sl ao cap) (SObj.vecL (3 : TypeId) 1 encI1 xs (0 : Int)), Ent.mk (Loc.sl ao' cap') (SObj.vecL (3 : TypeId) 1 encI1 xs (0 : Int))] (SV.bool true)) := by kernel_rfl


theorem go_start (K : List Frm → Sy → Prop) (N : List Ent → SV → Prop) (ao : Option Addr) (cap : Nat) (bs : List Int) : (run Try.prog goT false [100007, 100008] K (retP Try.prog Try.f3.results.toList N) 3000 [.code (bodyOf Try.f3)] ⟨padTo 131 [.vec 0 ao bs.length cap], [⟨.sl ao cap, .roL 1 encU8 bs 0⟩]⟩) = (
true = true ∧
 match decide ((↑(List.length bs) : Int) > (150 : Int)) with
 | true => N [Ent.mk (Loc.sl ao cap) (SObj.roL 1 encU8 bs (0 : Int))] (SV.bool true)
 | false =>
  (true = true ∧ true = true) ∧
   ∀ (b : Nat),
    (b = b ∧ true = true ∧ 4 = 4 ∧ 4 ≤ 4) ∧
     true = true ∧
      ∀ (b_1 bg bo : Nat),
       ((0 : Int) ≤ (0 : Int) ∧ (0 : Int) < (↑4 : Int)) ∧
        b = b ∧
         true = true ∧
          b_1 = b_1 ∧
           ∃ (h : Grp = Grp),
            AdtIs (fun (s : Grp) (b : Nat) ↦ packs (grpE s b)) grpE ∧
             ∀ (nb : Nat),
              ((0 : Int) ≤ (1 : Int) ∧ (1 : Int) < (↑4 : Int)) ∧
               b = b ∧
                true = true ∧
                 b_1 = b_1 ∧
                  ∃ (h : Grp = Grp),
                   AdtIs (fun (s : Grp) (b : Nat) ↦ packs (grpE s b)) grpE ∧
                    ∀ (nb_1 : Nat),
                     ((0 : Int) ≤ (2 : Int) ∧ (2 : Int) < (↑4 : Int)) ∧
                      b = b ∧
                       true = true ∧
                        b_1 = b_1 ∧
                         ∃ (h : Grp = Grp),
                          AdtIs (fun (s : Grp) (b : Nat) ↦ packs (grpE s b)) grpE ∧
                           ∀ (nb_2 : Nat),
                            ((0 : Int) ≤ (3 : Int) ∧ (3 : Int) < (↑4 : Int)) ∧
                             b = b ∧
                              true = true ∧
                               b_1 = b_1 ∧
                                ∃ (h : Grp = Grp),
                                 AdtIs (fun (s : Grp) (b : Nat) ↦ packs (grpE s b)) grpE ∧
                                  ∀ (nb_3 b_2 : Nat),
                                   K
                                    (frm [] (bodyOf Try.f3)
                                     [1, 1, 1, 1, 1, 1, 1, 0, 1, 0] [])
                                    (Sy.mk
                                     [SV.vec 0 ao (List.length bs) cap, SV.raw (Value.tuple #[]), SV.bool false, SV.ptr 1 b 0,
                                      SV.ptr 2 b_1 0, SV.int IntKind.i64 (4 : Int), SV.ptr 3 b_2 0, SV.int IntKind.i64 (0 : Int),
                                      SV.raw (Value.tuple #[]), SV.raw (Value.tuple #[]), SV.raw (Value.tuple #[]), SV.raw (Value.tuple #[]),
                                      SV.raw (Value.tuple #[]), SV.raw (Value.tuple #[]), SV.raw (Value.tuple #[]), SV.raw (Value.tuple #[]), SV.bool true,
                                      SV.bool false, SV.vec 0 ao (List.length bs) cap, SV.int IntKind.i64 (↑(List.length bs) : Int), SV.bool false,
                                      SV.agg
                                       [SV.str (ByteArray.mk #[(97 : UInt8)]), SV.str (ByteArray.mk #[(98 : UInt8)]), SV.str (ByteArray.mk #[(99 : UInt8)]),
                                        SV.str (ByteArray.mk #[(100 : UInt8)])],
                                      SV.ptr 2 b_1 0, SV.int IntKind.i64 (4 : Int), SV.bool false, SV.int IntKind.i64 (3 : Int),
                                      SV.int IntKind.i64 (4 : Int), SV.ptr 2 b_1 0, SV.int IntKind.i64 (3 : Int), SV.ptr 1 b 3,
                                      SV.str (ByteArray.mk #[(100 : UInt8)]), SV.int IntKind.i64 (0 : Int), SV.bool false, SV.raw (Value.tuple #[]),
                                      SV.raw (Value.tuple #[]), SV.raw (Value.tuple #[]), SV.raw (Value.tuple #[]), SV.raw (Value.tuple #[]),
                                      SV.raw (Value.tuple #[]), SV.raw (Value.tuple #[]), SV.raw (Value.tuple #[]), SV.raw (Value.tuple #[]),
                                      SV.raw (Value.tuple #[]), SV.raw (Value.tuple #[]), SV.raw (Value.tuple #[]), SV.raw (Value.tuple #[]),
                                      SV.raw (Value.tuple #[]), SV.raw (Value.tuple #[]), SV.raw (Value.tuple #[]), SV.raw (Value.tuple #[]),
                                      SV.raw (Value.tuple #[]), SV.raw (Value.tuple #[]), SV.raw (Value.tuple #[]), SV.raw (Value.tuple #[]),
                                      SV.raw (Value.tuple #[]), SV.raw (Value.tuple #[]), SV.raw (Value.tuple #[]), SV.raw (Value.tuple #[]),
                                      SV.raw (Value.tuple #[]), SV.raw (Value.tuple #[]), SV.raw (Value.tuple #[]), SV.raw (Value.tuple #[]),
                                      SV.raw (Value.tuple #[]), SV.raw (Value.tuple #[]), SV.raw (Value.tuple #[]), SV.raw (Value.tuple #[]),
                                      SV.raw (Value.tuple #[]), SV.raw (Value.tuple #[]), SV.raw (Value.tuple #[]), SV.raw (Value.tuple #[]),
                                      SV.raw (Value.tuple #[]), SV.raw (Value.tuple #[]), SV.raw (Value.tuple #[]), SV.raw (Value.tuple #[]),
                                      SV.raw (Value.tuple #[]), SV.raw (Value.tuple #[]), SV.raw (Value.tuple #[]), SV.raw (Value.tuple #[]),
                                      SV.raw (Value.tuple #[]), SV.raw (Value.tuple #[]), SV.raw (Value.tuple #[]), SV.raw (Value.tuple #[]),
                                      SV.raw (Value.tuple #[]), SV.raw (Value.tuple #[]), SV.raw (Value.tuple #[]), SV.raw (Value.tuple #[]),
                                      SV.raw (Value.tuple #[]), SV.raw (Value.tuple #[]), SV.raw (Value.tuple #[]), SV.raw (Value.tuple #[]),
                                      SV.raw (Value.tuple #[]), SV.raw (Value.tuple #[]), SV.raw (Value.tuple #[]), SV.raw (Value.tuple #[]),
                                      SV.raw (Value.tuple #[]), SV.raw (Value.tuple #[]), SV.raw (Value.tuple #[]), SV.raw (Value.tuple #[]),
                                      SV.raw (Value.tuple #[]), SV.raw (Value.tuple #[]), SV.raw (Value.tuple #[]), SV.raw (Value.tuple #[]),
                                      SV.raw (Value.tuple #[]), SV.raw (Value.tuple #[]), SV.raw (Value.tuple #[]), SV.raw (Value.tuple #[]),
                                      SV.raw (Value.tuple #[]), SV.raw (Value.tuple #[]), SV.raw (Value.tuple #[]), SV.raw (Value.tuple #[]),
                                      SV.raw (Value.tuple #[]), SV.raw (Value.tuple #[]), SV.raw (Value.tuple #[]), SV.raw (Value.tuple #[]),
                                      SV.raw (Value.tuple #[]), SV.raw (Value.tuple #[]), SV.raw (Value.tuple #[]), SV.raw (Value.tuple #[]),
                                      SV.raw (Value.tuple #[]), SV.raw (Value.tuple #[]), SV.raw (Value.tuple #[]), SV.raw (Value.tuple #[]),
                                      SV.raw (Value.tuple #[]), SV.raw (Value.tuple #[]), SV.raw (Value.tuple #[]), SV.raw (Value.tuple #[]),
                                      SV.raw (Value.tuple #[]), SV.raw (Value.tuple #[]), SV.raw (Value.tuple #[]), SV.raw (Value.tuple #[]),
                                      SV.raw (Value.tuple #[])]
                                     [Ent.mk (Loc.sl ao cap) (SObj.roL 1 encU8 bs (0 : Int)),
                                      Ent.mk (Loc.blk b)
                                       (SObj.cells
                                        [SV.str (ByteArray.mk #[(97 : UInt8)]), SV.str (ByteArray.mk #[(98 : UInt8)]), SV.str (ByteArray.mk #[(99 : UInt8)]),
                                         SV.str (ByteArray.mk #[(100 : UInt8)])]
                                        24),
                                      pkA b_1 grpE
                                       (Grp.mk bg bo (@none Addr) 0
                                        [(Key.s (ByteArray.mk #[(97 : UInt8)]), nb, []), (Key.s (ByteArray.mk #[(98 : UInt8)]), nb_1, []),
                                         (Key.s (ByteArray.mk #[(99 : UInt8)]), nb_2, []), (Key.s (ByteArray.mk #[(100 : UInt8)]), nb_3, [])]
                                        [] []),
                                      Ent.mk (Loc.blk b_2)
                                       (SObj.cells
                                        [SV.int IntKind.i64 (0 : Int), SV.int IntKind.i64 (0 : Int), SV.int IntKind.i64 (0 : Int), SV.int IntKind.i64 (0 : Int),
                                         SV.int IntKind.i64 (0 : Int), SV.int IntKind.i64 (0 : Int), SV.int IntKind.i64 (0 : Int),
                                         SV.int IntKind.i64 (0 : Int), SV.int IntKind.i64 (0 : Int), SV.int IntKind.i64 (0 : Int)]
                                        29)])) := by kernel_rfl
end Go.Proofs.Ytihajdkipkfiiaa
