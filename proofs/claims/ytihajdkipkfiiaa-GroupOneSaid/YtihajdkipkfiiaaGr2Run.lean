import Derived.Test.YtihajdkipkfiiaaGrpC
import Derived.Test.YtihajdkipkfiiaaTab
namespace Go.Proofs.Ytihajdkipkfiiaa
set_option linter.unusedVariables false
open Go Go.RowKit
set_option maxHeartbeats 0
set_option maxRecDepth 100000
set_option maxRecDepth 100000

theorem idxS_body (K : List Frm → Sy → Prop) (N : List Ent → SV → Prop) (J : Act → World → Prop) (ao : Option Addr) (cap : Nat) (xs : List ByteArray) (v : ByteArray) (i : Nat) (u : Nat → Value) : (run Try.prog [] false [] K (retP Try.prog Try.f95.results.toList N) 900 (frm [J] (bodyOf Try.f95) [1, 0, 1, 0, 0] []) ⟨mkT u 19 0 [(0, .vec 0 ao xs.length cap), (1, .str v), (7, .int .i64 (xs.length : Int)), (8, .int .i64 (i : Int))], [⟨.sl ao cap, .vecL 9 1 encS xs ByteArray.empty⟩]⟩) = (
match decide ((↑i : Int) < (↑(List.length xs) : Int)) with
| true =>
 (ao = ao ∧ cap = cap ∧ List.length xs = List.length xs ∧ (0 : Int) ≤ (↑i : Int) ∧ (↑i : Int) < (↑(List.length xs) : Int)) ∧
  (Addr.blkD ao = Addr.blkD ao ∧ Addr.offD ao = Addr.offD ao ∧ 1 = 1 ∧ Int.toNat (↑i : Int) < List.length xs) ∧
   match sEq v (List.getD xs (Int.toNat (↑i : Int)) ByteArray.empty) with
   | true => N [Ent.mk (Loc.sl ao cap) (SObj.vecL (9 : TypeId) 1 encS xs ByteArray.empty)] (SV.int IntKind.i64 (↑i : Int))
   | false =>
    K (Frm.loop J :: Frm.blk 0 :: frm [] (bodyOf Try.f95) [1, 1] [])
     (Sy.mk
      [SV.vec 0 ao (List.length xs) cap, SV.str v, SV.raw (u 2), SV.raw (u 3), SV.raw (u 4), SV.int IntKind.i64 (↑i : Int), SV.raw (u 6),
       SV.int IntKind.i64 (↑(List.length xs) : Int), SV.int IntKind.i64 (IntKind.wrap IntKind.i64 ((↑i : Int) + (1 : Int))), SV.bool true, SV.int IntKind.i64 (↑i : Int), SV.str v,
       SV.vec 0 ao (List.length xs) cap, SV.int IntKind.i64 (↑i : Int), SV.eptr 0 (Addr.blkD ao) (Addr.offD ao) 1 (Int.toNat (↑i : Int)) 0,
       SV.str (List.getD xs (Int.toNat (↑i : Int)) ByteArray.empty), SV.bool false, SV.raw (u 17), SV.int IntKind.i64 (IntKind.wrap IntKind.i64 ((↑i : Int) + (1 : Int)))]
      [Ent.mk (Loc.sl ao cap) (SObj.vecL (9 : TypeId) 1 encS xs ByteArray.empty)])
| false => N [Ent.mk (Loc.sl ao cap) (SObj.vecL (9 : TypeId) 1 encS xs ByteArray.empty)] (SV.int IntKind.i64 (-1 : Int))) := by kernel_rfl


theorem idxF_body (K : List Frm → Sy → Prop) (N : List Ent → SV → Prop) (J : Act → World → Prop) (ao : Option Addr) (cap : Nat) (xs : List ByteArray) (b : Nat) (nm : ByteArray) (i : Nat) (u : Nat → Value) : (run Try.prog gT0 false [] K (retP Try.prog Try.f108.results.toList N) 900 (frm [J] (bodyOf Try.f108) [1, 0, 1, 0, 0] []) ⟨mkT u 19 0 [(0, .vec 0 ao xs.length cap), (1, .func (.func 91) [] [.ptr 1 b 0]), (7, .int .i64 (xs.length : Int)), (8, .int .i64 (i : Int))], [⟨.sl ao cap, .vecL 9 1 encS xs ByteArray.empty⟩, ⟨.blk b, .cells [.str nm] 9⟩]⟩) = (
match decide ((↑i : Int) < (↑(List.length xs) : Int)) with
| true =>
 (ao = ao ∧ cap = cap ∧ List.length xs = List.length xs ∧ (0 : Int) ≤ (↑i : Int) ∧ (↑i : Int) < (↑(List.length xs) : Int)) ∧
  (Addr.blkD ao = Addr.blkD ao ∧ Addr.offD ao = Addr.offD ao ∧ 1 = 1 ∧ Int.toNat (↑i : Int) < List.length xs) ∧
   true = true ∧
    b = b ∧
     match sEq (List.getD xs (Int.toNat (↑i : Int)) ByteArray.empty) nm with
     | true => N [Ent.mk (Loc.sl ao cap) (SObj.vecL (9 : TypeId) 1 encS xs ByteArray.empty), Ent.mk (Loc.blk b) (SObj.cells [SV.str nm] (9 : TypeId))] (SV.int IntKind.i64 (↑i : Int))
     | false =>
      K (Frm.loop J :: Frm.blk 0 :: frm [] (bodyOf Try.f108) [1, 1] [])
       (Sy.mk
        [SV.vec 0 ao (List.length xs) cap, SV.func (Fn.func (91 : FuncId)) [] [SV.ptr 1 b 0], SV.raw (u 2), SV.raw (u 3), SV.raw (u 4),
         SV.int IntKind.i64 (↑i : Int), SV.raw (u 6), SV.int IntKind.i64 (↑(List.length xs) : Int), SV.int IntKind.i64 (IntKind.wrap IntKind.i64 ((↑i : Int) + (1 : Int))),
         SV.bool true, SV.int IntKind.i64 (↑i : Int), SV.func (Fn.func (91 : FuncId)) [] [SV.ptr 1 b 0], SV.vec 0 ao (List.length xs) cap,
         SV.int IntKind.i64 (↑i : Int), SV.eptr 0 (Addr.blkD ao) (Addr.offD ao) 1 (Int.toNat (↑i : Int)) 0,
         SV.str (List.getD xs (Int.toNat (↑i : Int)) ByteArray.empty), SV.bool false, SV.raw (u 17), SV.int IntKind.i64 (IntKind.wrap IntKind.i64 ((↑i : Int) + (1 : Int)))]
        [Ent.mk (Loc.sl ao cap) (SObj.vecL (9 : TypeId) 1 encS xs ByteArray.empty), Ent.mk (Loc.blk b) (SObj.cells [SV.str nm] (9 : TypeId))])
| false => N [Ent.mk (Loc.sl ao cap) (SObj.vecL (9 : TypeId) 1 encS xs ByteArray.empty), Ent.mk (Loc.blk b) (SObj.cells [SV.str nm] (9 : TypeId))] (SV.int IntKind.i64 (-1 : Int))) := by kernel_rfl


theorem delF_start (K : List Frm → Sy → Prop) (N : List Ent → SV → Prop) (ao : Option Addr) (cap : Nat) (xs : List ByteArray) (b : Nat) (nm : ByteArray) : (run Try.prog gT0d false [] K (retP Try.prog Try.f90.results.toList N) 600 [.code (bodyOf Try.f90)] ⟨padTo 42 [.vec 0 ao xs.length cap, .func (.func 91) [] [.ptr 1 b 0]], [⟨.sl ao cap, .vecL 9 1 encS xs ByteArray.empty⟩, ⟨.blk b, .cells [.str nm] 9⟩]⟩) = (
true = true ∧
 (91 : FuncId) = (91 : FuncId) ∧
  ∃ (xs_1 : List ByteArray),
   ∃ (nm_1 : ByteArray),
    some (Ent.mk (Loc.sl ao cap) (SObj.vecL (9 : TypeId) 1 encS xs ByteArray.empty)) = some (Ent.mk (Loc.sl ao cap) (SObj.vecL (9 : TypeId) 1 encS xs_1 ByteArray.empty)) ∧
     some (Ent.mk (Loc.blk b) (SObj.cells [SV.str nm] (9 : TypeId))) = some (Ent.mk (Loc.blk b) (SObj.cells [SV.str nm_1] (9 : TypeId))) ∧
      (false = false ∧ List.length xs = List.length xs_1 ∧ List.length xs_1 ≤ 1000000000) ∧
       match idxFrom (fun (x : ByteArray) ↦ sEq x nm_1) xs_1 (0 : Int) == (-1 : Int) with
       | true =>
        N [Ent.mk (Loc.sl ao cap) (SObj.vecL (9 : TypeId) 1 encS xs ByteArray.empty), Ent.mk (Loc.blk b) (SObj.cells [SV.str nm] (9 : TypeId))]
         (SV.vec 0 ao (List.length xs) cap)
       | false =>
        K (frm [] (bodyOf Try.f90) [1, 1, 1, 0, 1, 0] [])
         (Sy.mk
          [SV.vec 0 ao (List.length xs) cap, SV.func (Fn.func (91 : FuncId)) [] [SV.ptr 1 b 0], SV.raw (Value.tuple #[]), SV.raw (Value.tuple #[]),
           SV.raw (Value.slice (@none Addr) 0 0), SV.int IntKind.i64 (idxFrom (fun (x : ByteArray) ↦ sEq x nm_1) xs_1 (0 : Int)),
           SV.int IntKind.i64 (IntKind.wrap IntKind.i64 (idxFrom (fun (x : ByteArray) ↦ sEq x nm_1) xs_1 (0 : Int) + (1 : Int))), SV.raw (Value.tuple #[]),
           SV.vec 0 ao (List.length xs) cap, SV.func (Fn.func (91 : FuncId)) [] [SV.ptr 1 b 0],
           SV.int IntKind.i64 (idxFrom (fun (x : ByteArray) ↦ sEq x nm_1) xs_1 (0 : Int)), SV.int IntKind.i64 (idxFrom (fun (x : ByteArray) ↦ sEq x nm_1) xs_1 (0 : Int)), SV.bool false,
           SV.raw (Value.tuple #[]), SV.int IntKind.i64 (idxFrom (fun (x : ByteArray) ↦ sEq x nm_1) xs_1 (0 : Int)),
           SV.int IntKind.i64 (IntKind.wrap IntKind.i64 (idxFrom (fun (x : ByteArray) ↦ sEq x nm_1) xs_1 (0 : Int) + (1 : Int))), SV.raw (Value.tuple #[]), SV.raw (Value.tuple #[]),
           SV.raw (Value.tuple #[]), SV.raw (Value.tuple #[]), SV.raw (Value.tuple #[]), SV.raw (Value.tuple #[]), SV.raw (Value.tuple #[]), SV.raw (Value.tuple #[]),
           SV.raw (Value.tuple #[]), SV.raw (Value.tuple #[]), SV.raw (Value.tuple #[]), SV.raw (Value.tuple #[]), SV.raw (Value.tuple #[]), SV.raw (Value.tuple #[]),
           SV.raw (Value.tuple #[]), SV.raw (Value.tuple #[]), SV.raw (Value.tuple #[]), SV.raw (Value.tuple #[]), SV.raw (Value.tuple #[]), SV.raw (Value.tuple #[]),
           SV.raw (Value.tuple #[]), SV.raw (Value.tuple #[]), SV.raw (Value.tuple #[]), SV.raw (Value.tuple #[]), SV.raw (Value.tuple #[]), SV.raw (Value.tuple #[])]
          [Ent.mk (Loc.sl ao cap) (SObj.vecL (9 : TypeId) 1 encS xs ByteArray.empty), Ent.mk (Loc.blk b) (SObj.cells [SV.str nm] (9 : TypeId))])) := by kernel_rfl


theorem delF_body (K : List Frm → Sy → Prop) (N : List Ent → SV → Prop) (J : Act → World → Prop) (ao : Option Addr) (cap : Nat) (xs : List ByteArray) (b : Nat) (nm : ByteArray) (i j : Nat) (u : Nat → Value) : (run Try.prog gT0d false [] K (retP Try.prog Try.f90.results.toList N) 900 (frm [J] (bodyOf Try.f90) [1, 1, 1, 0, 1, 0, 0] []) ⟨mkT u 42 0 [(0, .vec 0 ao xs.length cap), (1, .func (.func 91) [] [.ptr 1 b 0]), (5, .int .i64 (i : Int)), (6, .int .i64 (j : Int))], [⟨.sl ao cap, .vecL 9 1 encS xs ByteArray.empty⟩, ⟨.blk b, .cells [.str nm] 9⟩]⟩) = (
match decide ((↑j : Int) < (↑(List.length xs) : Int)) with
| true =>
 (ao = ao ∧ cap = cap ∧ List.length xs = List.length xs ∧ (0 : Int) ≤ (↑j : Int) ∧ (↑j : Int) < (↑(List.length xs) : Int)) ∧
  (Addr.blkD ao = Addr.blkD ao ∧ Addr.offD ao = Addr.offD ao ∧ 1 = 1 ∧ Int.toNat (↑j : Int) < List.length xs) ∧
   true = true ∧
    b = b ∧
     match !sEq (List.getD xs (Int.toNat (↑j : Int)) ByteArray.empty) nm with
     | true =>
      (ao = ao ∧ cap = cap ∧ List.length xs = List.length xs ∧ (0 : Int) ≤ (↑i : Int) ∧ (↑i : Int) < (↑(List.length xs) : Int)) ∧
       (Addr.blkD ao = Addr.blkD ao ∧
        Addr.offD ao = Addr.offD ao ∧ 1 = 1 ∧ Int.toNat (↑i : Int) < List.length xs ∧ true = true ∧ 1 = 1 ∧ 1 ≤ 1) ∧
        ∃ (e : ByteArray),
         [SV.str e] = [SV.str (List.getD xs (Int.toNat (↑j : Int)) ByteArray.empty)] ∧
          K (Frm.loop J :: Frm.blk 0 :: frm [] (bodyOf Try.f90) [1, 1, 1, 1] [])
           (Sy.mk
            [SV.vec 0 ao (List.length xs) cap, SV.func (Fn.func (91 : FuncId)) [] [SV.ptr 1 b 0], SV.raw (u 2), SV.raw (u 3), SV.raw (u 4),
             SV.int IntKind.i64 (IntKind.wrap IntKind.i64 ((↑i : Int) + (1 : Int))), SV.int IntKind.i64 (IntKind.wrap IntKind.i64 ((↑j : Int) + (1 : Int))),
             SV.str (List.getD xs (Int.toNat (↑j : Int)) ByteArray.empty), SV.raw (u 8), SV.raw (u 9), SV.raw (u 10), SV.raw (u 11), SV.raw (u 12),
             SV.raw (u 13), SV.raw (u 14), SV.raw (u 15), SV.int IntKind.i64 (↑j : Int), SV.vec 0 ao (List.length xs) cap,
             SV.int IntKind.i64 (↑(List.length xs) : Int), SV.bool true, SV.int IntKind.i64 (↑j : Int), SV.int IntKind.i64 (IntKind.wrap IntKind.i64 ((↑j : Int) + (1 : Int))),
             SV.vec 0 ao (List.length xs) cap, SV.int IntKind.i64 (↑j : Int), SV.eptr 0 (Addr.blkD ao) (Addr.offD ao) 1 (Int.toNat (↑j : Int)) 0,
             SV.str (List.getD xs (Int.toNat (↑j : Int)) ByteArray.empty), SV.func (Fn.func (91 : FuncId)) [] [SV.ptr 1 b 0],
             SV.str (List.getD xs (Int.toNat (↑j : Int)) ByteArray.empty), SV.bool (sEq (List.getD xs (Int.toNat (↑j : Int)) ByteArray.empty) nm), SV.bool true,
             SV.vec 0 ao (List.length xs) cap, SV.int IntKind.i64 (↑i : Int), SV.str (List.getD xs (Int.toNat (↑j : Int)) ByteArray.empty),
             SV.eptr 0 (Addr.blkD ao) (Addr.offD ao) 1 (Int.toNat (↑i : Int)) 0, SV.int IntKind.i64 (↑i : Int),
             SV.int IntKind.i64 (IntKind.wrap IntKind.i64 ((↑i : Int) + (1 : Int))), SV.raw (u 36), SV.raw (u 37), SV.raw (u 38), SV.raw (u 39),
             SV.raw (u 40), SV.raw (u 41)]
            [Ent.mk (Loc.sl ao cap) (SObj.vecL (9 : TypeId) 1 encS (List.set xs (Int.toNat (↑i : Int)) e) ByteArray.empty),
             Ent.mk (Loc.blk b) (SObj.cells [SV.str nm] (9 : TypeId))])
     | false =>
      K (Frm.loop J :: Frm.blk 0 :: frm [] (bodyOf Try.f90) [1, 1, 1, 1] [])
       (Sy.mk
        [SV.vec 0 ao (List.length xs) cap, SV.func (Fn.func (91 : FuncId)) [] [SV.ptr 1 b 0], SV.raw (u 2), SV.raw (u 3), SV.raw (u 4),
         SV.int IntKind.i64 (↑i : Int), SV.int IntKind.i64 (IntKind.wrap IntKind.i64 ((↑j : Int) + (1 : Int))), SV.str (List.getD xs (Int.toNat (↑j : Int)) ByteArray.empty),
         SV.raw (u 8), SV.raw (u 9), SV.raw (u 10), SV.raw (u 11), SV.raw (u 12), SV.raw (u 13), SV.raw (u 14), SV.raw (u 15),
         SV.int IntKind.i64 (↑j : Int), SV.vec 0 ao (List.length xs) cap, SV.int IntKind.i64 (↑(List.length xs) : Int), SV.bool true, SV.int IntKind.i64 (↑j : Int),
         SV.int IntKind.i64 (IntKind.wrap IntKind.i64 ((↑j : Int) + (1 : Int))), SV.vec 0 ao (List.length xs) cap, SV.int IntKind.i64 (↑j : Int),
         SV.eptr 0 (Addr.blkD ao) (Addr.offD ao) 1 (Int.toNat (↑j : Int)) 0, SV.str (List.getD xs (Int.toNat (↑j : Int)) ByteArray.empty),
         SV.func (Fn.func (91 : FuncId)) [] [SV.ptr 1 b 0], SV.str (List.getD xs (Int.toNat (↑j : Int)) ByteArray.empty),
         SV.bool (sEq (List.getD xs (Int.toNat (↑j : Int)) ByteArray.empty) nm), SV.bool false, SV.raw (u 30), SV.raw (u 31), SV.raw (u 32), SV.raw (u 33),
         SV.raw (u 34), SV.raw (u 35), SV.raw (u 36), SV.raw (u 37), SV.raw (u 38), SV.raw (u 39), SV.raw (u 40),
         SV.raw (u 41)]
        [Ent.mk (Loc.sl ao cap) (SObj.vecL (9 : TypeId) 1 encS xs ByteArray.empty), Ent.mk (Loc.blk b) (SObj.cells [SV.str nm] (9 : TypeId))])
| false =>
 ((0 : Int) ≤ (↑i : Int) ∧ (↑i : Int) ≤ (↑(List.length xs) : Int) ∧ List.length xs ≤ cap) ∧
  (ao = ao ∧ cap = cap ∧ 1 = 1 ∧ 1 = 1 ∧ true = true ∧ Int.toNat (↑i : Int) ≤ List.length xs ∧ List.length xs ≤ List.length xs) ∧
   ((0 : Int) ≤ (↑i : Int) ∧ (↑i : Int) ≤ (↑cap : Int)) ∧
    N [Ent.mk (Loc.sl ao cap) (SObj.vecL (9 : TypeId) 1 encS (List.take (Int.toNat (↑i : Int)) xs) ByteArray.empty), Ent.mk (Loc.blk b) (SObj.cells [SV.str nm] (9 : TypeId))]
     (SV.sub 0 ao cap 1 0 (Int.toNat (↑i : Int)))) := by kernel_rfl


theorem gMake_run (K : List Frm → Sy → Prop) (N : List Ent → SV → Prop) (s : Grp) (b : Nat) (name : ByteArray) (rest : List Ent) : (run Try.prog [] false [] K (retP Try.prog Try.f14.results.toList N) 600 [.code (bodyOf Try.f14)] ⟨padTo 25 [.ptr 0 b 0, .str name], [⟨.blk b, .cells [.map 1 s.bg, .map 2 s.bo, .vec 3 s.ao s.notes.length s.cap] 118⟩, ⟨.blk s.bg, .mapL none encG s.gs⟩, ⟨.blk s.bo, .mapL (some .i64) encO s.of⟩, ⟨.sl s.ao s.cap, .vecL 9 1 encS s.notes ByteArray.empty⟩, pk 0 rest]⟩) = (
match sEq name (ByteArray.mk #[]) with
| true =>
 N
  [Ent.mk (Loc.blk b) (SObj.cells [SV.map 1 s.1, SV.map 2 s.2, SV.vec 3 s.ao (List.length s.7) s.4] (118 : TypeId)),
   Ent.mk (Loc.blk s.1) (SObj.mapL (@none IntKind) encG s.5), Ent.mk (Loc.blk s.2) (SObj.mapL (some IntKind.i64) encO s.6),
   Ent.mk (Loc.sl s.ao s.4) (SObj.vecL (9 : TypeId) 1 encS s.7 ByteArray.empty), pk 0 rest]
  (SV.int IntKind.i64 (90 : Int))
| false =>
 b = b ∧
  (s.1 = s.1 ∧ @none IntKind = @none IntKind ∧ @none IntKind = @none IntKind) ∧
   match mget s.5 (Key.s name) with
   | some v =>
    N
     [Ent.mk (Loc.blk b) (SObj.cells [SV.map 1 s.1, SV.map 2 s.2, SV.vec 3 s.ao (List.length s.7) s.4] (118 : TypeId)),
      Ent.mk (Loc.blk s.1) (SObj.mapL (@none IntKind) encG s.5), Ent.mk (Loc.blk s.2) (SObj.mapL (some IntKind.i64) encO s.6),
      Ent.mk (Loc.sl s.ao s.4) (SObj.vecL (9 : TypeId) 1 encS s.7 ByteArray.empty), pk 0 rest]
     (SV.int IntKind.i64 (91 : Int))
   | none =>
    b = b ∧
     ∀ (b_1 : Nat),
      (s.1 = s.1 ∧ @none IntKind = @none IntKind ∧ @none IntKind = @none IntKind) ∧
       ∃ (u : GSet),
        den (SV.map 4 u.1) = den (SV.map 5 b_1) ∧
         N
          [Ent.mk (Loc.blk b) (SObj.cells [SV.map 1 s.1, SV.map 2 s.2, SV.vec 3 s.ao (List.length s.7) s.4] (118 : TypeId)),
           Ent.mk (Loc.blk s.1) (SObj.mapL (@none IntKind) encG (mset s.5 (Key.s name) u)), Ent.mk (Loc.blk s.2) (SObj.mapL (some IntKind.i64) encO s.6),
           Ent.mk (Loc.sl s.ao s.4) (SObj.vecL (9 : TypeId) 1 encS s.7 ByteArray.empty), pk 0 rest, Ent.mk (Loc.blk b_1) (SObj.mapV (some IntKind.i64) [])]
          (SV.int IntKind.i64 (0 : Int))) := by kernel_rfl


theorem gGone_none (K : List Frm → Sy → Prop) (N : List Ent → SV → Prop) (s : Grp) (b : Nat) (pid : Int) (rest : List Ent) : (run Try.prog [] false [] K (retP Try.prog Try.f15.results.toList N) 600 [.code (bodyOf Try.f15)] ⟨padTo 57 [.ptr 0 b 0, .int .i64 pid], [⟨.blk b, .cells [.map 1 s.bg, .map 2 s.bo, .vec 3 s.ao s.notes.length s.cap] 118⟩, ⟨.blk s.bg, .mapL none encG s.gs⟩, ⟨.blk s.bo, .map1 (some .i64) encO s.of (.i .i64 pid) none⟩, ⟨.sl s.ao s.cap, .vecL 9 1 encS s.notes ByteArray.empty⟩, pk 0 rest]⟩) = (
b = b ∧
 (s.2 = s.2 ∧ Key.i IntKind.i64 pid = Key.i IntKind.i64 pid ∧ some IntKind.i64 = some IntKind.i64) ∧
  N
   [Ent.mk (Loc.blk b) (SObj.cells [SV.map 1 s.1, SV.map 2 s.2, SV.vec 3 s.ao (List.length s.7) s.4] (118 : TypeId)),
    Ent.mk (Loc.blk s.1) (SObj.mapL (@none IntKind) encG s.5), Ent.mk (Loc.blk s.2) (SObj.map1 (some IntKind.i64) encO s.6 (Key.i IntKind.i64 pid) (@none SV)),
    Ent.mk (Loc.sl s.ao s.4) (SObj.vecL (9 : TypeId) 1 encS s.7 ByteArray.empty), pk 0 rest]
   (SV.bool false)) := by kernel_rfl


theorem gGone_some (K : List Frm → Sy → Prop) (N : List Ent → SV → Prop) (s : Grp) (b : Nat) (pid : Int) (n : ByteArray) (nb : Nat) (ms : List (Key × Unit)) (rest : List Ent) : (run Try.prog gT2 false [] K (retP Try.prog Try.f15.results.toList N) 600 [.code (bodyOf Try.f15)] ⟨padTo 57 [.ptr 0 b 0, .int .i64 pid], [⟨.blk b, .cells [.map 1 s.bg, .map 2 s.bo, .vec 3 s.ao s.notes.length s.cap] 118⟩, ⟨.blk s.bg, .map1 none encG s.gs (.s n) (some (.map 4 nb))⟩, ⟨.blk s.bo, .map1 (some .i64) encO s.of (.i .i64 pid) (some (.str n))⟩, ⟨.sl s.ao s.cap, .vecL 9 1 encS s.notes ByteArray.empty⟩, ⟨.blk nb, .mapL (some .i64) encU ms⟩, pk 0 rest]⟩) = (
b = b ∧
 (s.2 = s.2 ∧ Key.i IntKind.i64 pid = Key.i IntKind.i64 pid ∧ some IntKind.i64 = some IntKind.i64) ∧
  b = b ∧
   (s.2 = s.2 ∧ some IntKind.i64 = some IntKind.i64 ∧ some IntKind.i64 = some IntKind.i64) ∧
    b = b ∧
     (s.1 = s.1 ∧ Key.s n = Key.s n ∧ @none IntKind = @none IntKind) ∧
      (nb = nb ∧ some IntKind.i64 = some IntKind.i64 ∧ some IntKind.i64 = some IntKind.i64) ∧
       b = b ∧
        (s.1 = s.1 ∧ Key.s n = Key.s n ∧ @none IntKind = @none IntKind) ∧
         nb = nb ∧
          match (↑(List.length (mdel ms (Key.i IntKind.i64 pid))) : Int) == (0 : Int) with
          | true =>
           b = b ∧
            true = true ∧
             true = true ∧
              ∃ (xs : List ByteArray),
               some (Ent.mk (Loc.sl s.ao s.4) (SObj.vecL (9 : TypeId) 1 encS s.7 ByteArray.empty)) =
                some (Ent.mk (Loc.sl s.ao s.4) (SObj.vecL (9 : TypeId) 1 encS xs ByteArray.empty)) ∧
                List.length s.7 = List.length xs ∧
                 List.length xs ≤ 1000000000 ∧
                  match !decide (idxFrom (sEq n) xs (0 : Int) ≥ (0 : Int)) with
                  | true =>
                   b = b ∧
                    (true = true ∧ 1 = 1 ∧ 0 < 1 ∧ 1 ≤ 16777216) ∧
                     ∀ (b_1 : Nat),
                      (s.ao = s.ao ∧
                       s.4 = s.4 ∧
                        List.length s.7 = List.length s.7 ∧
                         some (Addr.mk b_1 0 (@none Nat)) = some (Addr.mk b_1 0 (@none Nat)) ∧
                          (9 : TypeId) = 9 ∧
                           1 = 1 ∧
                            1 = 1 ∧
                             0 < 1 ∧
                              true = true ∧
                               (List.length s.7 + 1) * 16 ≤ 140737488355328 ∧ List.length s.7 + 1 ≤ 9223372036854775807) ∧
                       ∃ (es : List ByteArray),
                        List.length es = 1 ∧
                         List.flatMap encS es = [SV.str n] ∧
                          ∀ (ao2 : Option Addr) (cap2 : Nat),
                           List.length s.7 + 1 ≤ cap2 →
                            (b = b ∧ true = true ∧ 1 = 1 ∧ 3 ≤ 3) ∧
                             N
                              [Ent.mk (Loc.blk b)
                               (SObj.cells [SV.map 1 s.1, SV.map 2 s.2, SV.vec 3 ao2 (List.length s.7 + 1) cap2] (118 : TypeId)),
                               Ent.mk (Loc.blk s.1) (SObj.map1 (@none IntKind) encG s.5 (Key.s n) (some (SV.map 4 nb))),
                               Ent.mk (Loc.blk s.2) (SObj.mapL (some IntKind.i64) encO (mdel s.6 (Key.i IntKind.i64 pid))),
                               Ent.mk (Loc.sl ao2 cap2) (SObj.vecL (9 : TypeId) 1 encS (s.7 ++ es) ByteArray.empty),
                               Ent.mk (Loc.blk nb) (SObj.mapL (some IntKind.i64) encU (mdel ms (Key.i IntKind.i64 pid))), pk 0 rest,
                               Ent.mk (Loc.blk b_1) (SObj.cells [SV.str n] 9)]
                              (SV.bool true)
                  | false =>
                   N
                    [Ent.mk (Loc.blk b) (SObj.cells [SV.map 1 s.1, SV.map 2 s.2, SV.vec 3 s.ao (List.length s.7) s.4] (118 : TypeId)),
                     Ent.mk (Loc.blk s.1) (SObj.map1 (@none IntKind) encG s.5 (Key.s n) (some (SV.map 4 nb))),
                     Ent.mk (Loc.blk s.2) (SObj.mapL (some IntKind.i64) encO (mdel s.6 (Key.i IntKind.i64 pid))),
                     Ent.mk (Loc.sl s.ao s.4) (SObj.vecL (9 : TypeId) 1 encS s.7 ByteArray.empty),
                     Ent.mk (Loc.blk nb) (SObj.mapL (some IntKind.i64) encU (mdel ms (Key.i IntKind.i64 pid))), pk 0 rest]
                    (SV.bool true)
          | false =>
           N
            [Ent.mk (Loc.blk b) (SObj.cells [SV.map 1 s.1, SV.map 2 s.2, SV.vec 3 s.ao (List.length s.7) s.4] (118 : TypeId)),
             Ent.mk (Loc.blk s.1) (SObj.map1 (@none IntKind) encG s.5 (Key.s n) (some (SV.map 4 nb))),
             Ent.mk (Loc.blk s.2) (SObj.mapL (some IntKind.i64) encO (mdel s.6 (Key.i IntKind.i64 pid))),
             Ent.mk (Loc.sl s.ao s.4) (SObj.vecL (9 : TypeId) 1 encS s.7 ByteArray.empty),
             Ent.mk (Loc.blk nb) (SObj.mapL (some IntKind.i64) encU (mdel ms (Key.i IntKind.i64 pid))), pk 0 rest]
            (SV.bool true)) := by kernel_rfl


theorem gPut_none (K : List Frm → Sy → Prop) (N : List Ent → SV → Prop) (s : Grp) (b : Nat) (pid : Int) (n : ByteArray) (rest : List Ent) : (run Try.prog [] false [6] K (retP Try.prog Try.f16.results.toList N) 600 [.code (bodyOf Try.f16)] ⟨padTo 39 [.ptr 0 b 0, .int .i64 pid, .str n], [⟨.blk b, .cells [.map 1 s.bg, .map 2 s.bo, .vec 3 s.ao s.notes.length s.cap] 118⟩, ⟨.blk s.bg, .map1 none encG s.gs (.s n) none⟩, ⟨.blk s.bo, .mapL (some .i64) encO s.of⟩, ⟨.sl s.ao s.cap, .vecL 9 1 encS s.notes ByteArray.empty⟩, pk 0 rest]⟩) = (
b = b ∧
 (s.1 = s.1 ∧ Key.s n = Key.s n ∧ @none IntKind = @none IntKind) ∧
  N
   [Ent.mk (Loc.blk b) (SObj.cells [SV.map 1 s.1, SV.map 2 s.2, SV.vec 3 s.ao (List.length s.7) s.4] (118 : TypeId)),
    Ent.mk (Loc.blk s.1) (SObj.map1 (@none IntKind) encG s.5 (Key.s n) (@none SV)), Ent.mk (Loc.blk s.2) (SObj.mapL (some IntKind.i64) encO s.6),
    Ent.mk (Loc.sl s.ao s.4) (SObj.vecL (9 : TypeId) 1 encS s.7 ByteArray.empty), pk 0 rest]
   (SV.int IntKind.i64 (90 : Int))) := by kernel_rfl


theorem gPut_some (K : List Frm → Sy → Prop) (N : List Ent → SV → Prop) (s : Grp) (b : Nat) (pid : Int) (n : ByteArray) (nb : Nat) (ms : List (Key × Unit)) (rest : List Ent) : (run Try.prog gT2 false [6] K (retP Try.prog Try.f16.results.toList N) 600 [.code (bodyOf Try.f16)] ⟨padTo 39 [.ptr 0 b 0, .int .i64 pid, .str n], [⟨.blk b, .cells [.map 1 s.bg, .map 2 s.bo, .vec 3 s.ao s.notes.length s.cap] 118⟩, ⟨.blk s.bg, .map1 none encG s.gs (.s n) (some (.map 4 nb))⟩, ⟨.blk s.bo, .mapL (some .i64) encO s.of⟩, ⟨.sl s.ao s.cap, .vecL 9 1 encS s.notes ByteArray.empty⟩, ⟨.blk nb, .mapL (some .i64) encU ms⟩, pk 0 rest]⟩) = (
b = b ∧
 (s.1 = s.1 ∧ Key.s n = Key.s n ∧ @none IntKind = @none IntKind) ∧
  match decide (pid < (2 : Int)) with
  | true =>
   N
    [Ent.mk (Loc.blk b) (SObj.cells [SV.map 1 s.1, SV.map 2 s.2, SV.vec 3 s.ao (List.length s.7) s.4] (118 : TypeId)),
     Ent.mk (Loc.blk s.1) (SObj.map1 (@none IntKind) encG s.5 (Key.s n) (some (SV.map 4 nb))), Ent.mk (Loc.blk s.2) (SObj.mapL (some IntKind.i64) encO s.6),
     Ent.mk (Loc.sl s.ao s.4) (SObj.vecL (9 : TypeId) 1 encS s.7 ByteArray.empty), Ent.mk (Loc.blk nb) (SObj.mapL (some IntKind.i64) encU ms), pk 0 rest]
    (SV.int IntKind.i64 (90 : Int))
  | false =>
   true = true ∧
    (nb = nb ∧ some IntKind.i64 = some IntKind.i64 ∧ some IntKind.i64 = some IntKind.i64) ∧
     match mget ms (Key.i IntKind.i64 pid) with
     | some v =>
      ∀ (b_1 : Nat),
       (b_1 = b_1 ∧ true = true ∧ 0 = 0 ∧ 0 ≤ 0) ∧
        N
         [Ent.mk (Loc.blk b) (SObj.cells [SV.map 1 s.1, SV.map 2 s.2, SV.vec 3 s.ao (List.length s.7) s.4] (118 : TypeId)),
          Ent.mk (Loc.blk s.1) (SObj.map1 (@none IntKind) encG s.5 (Key.s n) (some (SV.map 4 nb))), Ent.mk (Loc.blk s.2) (SObj.mapL (some IntKind.i64) encO s.6),
          Ent.mk (Loc.sl s.ao s.4) (SObj.vecL (9 : TypeId) 1 encS s.7 ByteArray.empty), Ent.mk (Loc.blk nb) (SObj.mapL (some IntKind.i64) encU ms), pk 0 rest,
          Ent.mk (Loc.blk b_1) (SObj.cells [] 145)]
         (SV.int IntKind.i64 (0 : Int))
     | none =>
      ∀ (b_1 : Nat),
       (b_1 = b_1 ∧ true = true ∧ 0 = 0 ∧ 0 ≤ 0) ∧
        K (frmR [] (bodyOf Try.f16) 6)
         (Sy.mk
          [SV.ptr 0 b 0, SV.int IntKind.i64 pid, SV.str n, SV.raw (Value.tuple #[]), SV.raw (Value.tuple #[]), SV.raw (Value.tuple #[]), SV.int IntKind.i64 (0 : Int),
           SV.map 4 nb, SV.bool true, SV.tuple [SV.map 4 nb, SV.bool true], SV.ptr 0 b 0, SV.ptr 0 b 0, SV.ptr 0 b 0,
           SV.map 1 s.1, SV.str n, SV.tuple [SV.map 4 nb, SV.bool true], SV.map 4 nb, SV.bool true, SV.bool true, SV.bool false, SV.bool false,
           SV.int IntKind.i64 pid, SV.bool (decide (pid < (2 : Int))), SV.bool false, SV.map 4 nb, SV.int IntKind.i64 pid, SV.bool false, SV.raw (Value.tuple #[]),
           SV.raw (Value.tuple #[]), SV.raw (Value.tuple #[]), SV.raw (Value.tuple #[]), SV.raw (Value.tuple #[]), SV.raw (Value.tuple #[]), SV.raw (Value.tuple #[]),
           SV.raw (Value.tuple #[]), SV.raw (Value.tuple #[]), SV.raw (Value.tuple #[]), SV.raw (Value.tuple #[]), SV.raw (Value.tuple #[])]
          [Ent.mk (Loc.blk b) (SObj.cells [SV.map 1 s.1, SV.map 2 s.2, SV.vec 3 s.ao (List.length s.7) s.4] (118 : TypeId)),
           Ent.mk (Loc.blk s.1) (SObj.map1 (@none IntKind) encG s.5 (Key.s n) (some (SV.map 4 nb))), Ent.mk (Loc.blk s.2) (SObj.mapL (some IntKind.i64) encO s.6),
           Ent.mk (Loc.sl s.ao s.4) (SObj.vecL (9 : TypeId) 1 encS s.7 ByteArray.empty), Ent.mk (Loc.blk nb) (SObj.mapL (some IntKind.i64) encU ms), pk 0 rest,
           Ent.mk (Loc.blk b_1) (SObj.cells [] 145)])) := by kernel_rfl


theorem gPut_mid (K : List Frm → Sy → Prop) (N : List Ent → SV → Prop) (s : Grp) (b nb : Nat) (pid : Int) (n : ByteArray) (u : Nat → Value) : (run Try.prog [(15, adtC grpE goneM)] false [7] K (retP Try.prog Try.f16.results.toList N) 900 (frmR [] (bodyOf Try.f16) 6) ⟨mkT u 39 0 [(0, .ptr 0 b 0), (1, .int .i64 pid), (2, .str n), (7, .map 4 nb)], [pkA b grpE s]⟩) = (
true = true ∧
 b = b ∧
  ∃ (h : Grp = Grp),
   AdtIs (fun (s : Grp) (b : Nat) ↦ packs (grpE s b)) grpE ∧
    gOk s pid ∧
     ∀ (ao : Option Addr) (cap : Nat),
      K (frmR [] (bodyOf Try.f16) 7)
       (Sy.mk
        [SV.ptr 0 b 0, SV.int IntKind.i64 pid, SV.str n, SV.raw (u 3), SV.raw (u 4), SV.raw (u 5), SV.raw (u 6), SV.map 4 nb,
         SV.raw (u 8), SV.raw (u 9), SV.raw (u 10), SV.raw (u 11), SV.raw (u 12), SV.raw (u 13), SV.raw (u 14), SV.raw (u 15),
         SV.raw (u 16), SV.raw (u 17), SV.raw (u 18), SV.raw (u 19), SV.raw (u 20), SV.raw (u 21), SV.raw (u 22),
         SV.raw (u 23), SV.raw (u 24), SV.raw (u 25), SV.raw (u 26), SV.ptr 0 b 0, SV.int IntKind.i64 pid, SV.bool (gGone s pid ao cap).2,
         SV.raw (u 30), SV.raw (u 31), SV.raw (u 32), SV.raw (u 33), SV.raw (u 34), SV.raw (u 35), SV.raw (u 36),
         SV.raw (u 37), SV.raw (u 38)]
        [pkA b grpE (gGone s pid ao cap).1])) := by kernel_rfl


theorem gPut_end (K : List Frm → Sy → Prop) (N : List Ent → SV → Prop) (s : Grp) (b : Nat) (pid : Int) (n : ByteArray) (nb : Nat) (ms : List (Key × Unit)) (rest : List Ent) (u : Nat → Value) : (run Try.prog gT2 false [] K (retP Try.prog Try.f16.results.toList N) 900 (frmR [] (bodyOf Try.f16) 7) ⟨mkT u 39 0 [(0, .ptr 0 b 0), (1, .int .i64 pid), (2, .str n), (7, .map 4 nb)], [⟨.blk b, .cells [.map 1 s.bg, .map 2 s.bo, .vec 3 s.ao s.notes.length s.cap] 118⟩, ⟨.blk s.bg, .mapL none encG s.gs⟩, ⟨.blk s.bo, .mapL (some .i64) encO s.of⟩, ⟨.sl s.ao s.cap, .vecL 9 1 encS s.notes ByteArray.empty⟩, ⟨.blk nb, .mapL (some .i64) encU ms⟩, pk 0 rest]⟩) = (
true = true ∧
 (true = true ∧ true = true) ∧
  (nb = nb ∧ some IntKind.i64 = some IntKind.i64 ∧ some IntKind.i64 = some IntKind.i64) ∧
   ∃ (u : Unit),
    den (SV.agg []) = den (SV.agg []) ∧
     b = b ∧
      (s.2 = s.2 ∧ some IntKind.i64 = some IntKind.i64 ∧ some IntKind.i64 = some IntKind.i64) ∧
       ∃ (u_1 : ByteArray),
        den (SV.str u_1) = den (SV.str n) ∧
         N
          [Ent.mk (Loc.blk b) (SObj.cells [SV.map 1 s.1, SV.map 2 s.2, SV.vec 3 s.ao (List.length s.7) s.4] (118 : TypeId)),
           Ent.mk (Loc.blk s.1) (SObj.mapL (@none IntKind) encG s.5), Ent.mk (Loc.blk s.2) (SObj.mapL (some IntKind.i64) encO (mset s.6 (Key.i IntKind.i64 pid) u_1)),
           Ent.mk (Loc.sl s.ao s.4) (SObj.vecL (9 : TypeId) 1 encS s.7 ByteArray.empty), Ent.mk (Loc.blk nb) (SObj.mapL (some IntKind.i64) encU (mset ms (Key.i IntKind.i64 pid) u)),
           pk 0 rest]
          (SV.int IntKind.i64 (0 : Int))) := by kernel_rfl


theorem gRem_none (K : List Frm → Sy → Prop) (N : List Ent → SV → Prop) (s : Grp) (b : Nat) (n : ByteArray) (rest : List Ent) : (run Try.prog gT3 false [] K (retP Try.prog Try.f60.results.toList N) 600 [.code (bodyOf Try.f60)] ⟨padTo 35 [.ptr 0 b 0, .str n], [⟨.blk b, .cells [.map 1 s.bg, .map 2 s.bo, .vec 3 s.ao s.notes.length s.cap] 118⟩, ⟨.blk s.bg, .map1 none encG s.gs (.s n) none⟩, ⟨.blk s.bo, .mapL (some .i64) encO s.of⟩, ⟨.sl s.ao s.cap, .vecL 9 1 encS s.notes ByteArray.empty⟩, pk 0 rest]⟩) = (
true = true ∧
 ∀ (b_1 : Nat),
  b = b ∧
   b_1 = b_1 ∧
    (s.1 = s.1 ∧ Key.s n = Key.s n ∧ @none IntKind = @none IntKind) ∧
     N
      [Ent.mk (Loc.blk b) (SObj.cells [SV.map 1 s.1, SV.map 2 s.2, SV.vec 3 s.ao (List.length s.7) s.4] (118 : TypeId)),
       Ent.mk (Loc.blk s.1) (SObj.map1 (@none IntKind) encG s.5 (Key.s n) (@none SV)), Ent.mk (Loc.blk s.2) (SObj.mapL (some IntKind.i64) encO s.6),
       Ent.mk (Loc.sl s.ao s.4) (SObj.vecL (9 : TypeId) 1 encS s.7 ByteArray.empty), pk 0 rest, Ent.mk (Loc.blk b_1) (SObj.cells [SV.str n] 9)]
      (SV.int IntKind.i64 (90 : Int))) := by kernel_rfl


theorem gRem_some (K : List Frm → Sy → Prop) (N : List Ent → SV → Prop) (s : Grp) (b : Nat) (n : ByteArray) (nb : Nat) (ms : List (Key × Unit)) (rest : List Ent) : (run Try.prog gT3 false [] K (retP Try.prog Try.f60.results.toList N) 600 [.code (bodyOf Try.f60)] ⟨padTo 35 [.ptr 0 b 0, .str n], [⟨.blk b, .cells [.map 1 s.bg, .map 2 s.bo, .vec 3 s.ao s.notes.length s.cap] 118⟩, ⟨.blk s.bg, .map1 none encG s.gs (.s n) (some (.map 4 nb))⟩, ⟨.blk s.bo, .mapL (some .i64) encO s.of⟩, ⟨.sl s.ao s.cap, .vecL 9 1 encS s.notes ByteArray.empty⟩, ⟨.blk nb, .mapL (some .i64) encU ms⟩, pk 0 rest]⟩) = (
true = true ∧
 ∀ (b_1 : Nat),
  b = b ∧
   b_1 = b_1 ∧
    (s.1 = s.1 ∧ Key.s n = Key.s n ∧ @none IntKind = @none IntKind) ∧
     nb = nb ∧
      match decide ((↑(List.length ms) : Int) > (0 : Int)) with
      | true =>
       N
        [Ent.mk (Loc.blk b) (SObj.cells [SV.map 1 s.1, SV.map 2 s.2, SV.vec 3 s.ao (List.length s.7) s.4] (118 : TypeId)),
         Ent.mk (Loc.blk s.1) (SObj.map1 (@none IntKind) encG s.5 (Key.s n) (some (SV.map 4 nb))), Ent.mk (Loc.blk s.2) (SObj.mapL (some IntKind.i64) encO s.6),
         Ent.mk (Loc.sl s.ao s.4) (SObj.vecL (9 : TypeId) 1 encS s.7 ByteArray.empty), Ent.mk (Loc.blk nb) (SObj.mapL (some IntKind.i64) encU ms), pk 0 rest,
         Ent.mk (Loc.blk b_1) (SObj.cells [SV.str n] 9)]
        (SV.int IntKind.i64 (91 : Int))
      | false =>
       b = b ∧
        b_1 = b_1 ∧
         (s.1 = s.1 ∧ @none IntKind = @none IntKind ∧ @none IntKind = @none IntKind) ∧
          b = b ∧
           true = true ∧
            91 = (91 : FuncId) ∧
             ∃ (xs : List ByteArray),
              ∃ (nm : ByteArray),
               some (Ent.mk (Loc.sl s.ao s.4) (SObj.vecL (9 : TypeId) 1 encS s.7 ByteArray.empty)) =
                some (Ent.mk (Loc.sl s.ao s.4) (SObj.vecL (9 : TypeId) 1 encS xs ByteArray.empty)) ∧
                some (Ent.mk (Loc.blk b_1) (SObj.cells [SV.str n] 9)) = some (Ent.mk (Loc.blk b_1) (SObj.cells [SV.str nm] (9 : TypeId))) ∧
                 (false = false ∧ List.length s.7 = List.length xs ∧ List.length xs ≤ 1000000000) ∧
                  (b = b ∧ true = true ∧ 1 = 1 ∧ 3 ≤ 3) ∧
                   N
                    [Ent.mk (Loc.blk b)
                     (SObj.cells [SV.map 1 s.1, SV.map 2 s.2, SV.vec 3 s.ao (List.length (List.filter (fun (x : ByteArray) ↦ !sEq x nm) xs)) s.4]
                      (118 : TypeId)),
                     Ent.mk (Loc.blk s.1) (SObj.mapL (@none IntKind) encG (mdel s.5 (Key.s n))), Ent.mk (Loc.blk s.2) (SObj.mapL (some IntKind.i64) encO s.6),
                     Ent.mk (Loc.sl s.ao s.4) (SObj.vecL (9 : TypeId) 1 encS (List.filter (fun (x : ByteArray) ↦ !sEq x nm) xs) ByteArray.empty),
                     Ent.mk (Loc.blk nb) (SObj.mapL (some IntKind.i64) encU ms), pk 0 rest, Ent.mk (Loc.blk b_1) (SObj.cells [SV.str n] 9)]
                    (SV.int IntKind.i64 (0 : Int))) := by kernel_rfl


theorem gEm_head (K : List Frm → Sy → Prop) (N : List Ent → SV → Prop) (J : Act → World → Prop) (s : Grp) (b : Nat) (rest : List Ent) (u : Nat → Value) : (run Try.prog [] false [4] K (retP Try.prog Try.f19.results.toList N) 900 (frm [J] (bodyOf Try.f19) [1, 0, 0, 0] []) ⟨mkT u 34 0 [(0, .ptr 0 b 0), (2, .str ⟨#[]⟩), (3, .bool false)], [⟨.blk b, .cells [.map 1 s.bg, .map 2 s.bo, .vec 3 s.ao s.notes.length s.cap] 118⟩, ⟨.blk s.bg, .mapL none encG s.gs⟩, ⟨.blk s.bo, .mapL (some .i64) encO s.of⟩, ⟨.sl s.ao s.cap, .vecL 9 1 encS s.notes ByteArray.empty⟩, pk 0 rest]⟩) = (
b = b ∧
 match decide ((↑(List.length s.7) : Int) > (0 : Int)) with
 | true =>
  b = b ∧
   (s.ao = s.ao ∧ s.4 = s.4 ∧ List.length s.7 = List.length s.7 ∧ (0 : Int) ≤ (0 : Int) ∧ (0 : Int) < (↑(List.length s.7) : Int)) ∧
    (Addr.blkD s.ao = Addr.blkD s.ao ∧ Addr.offD s.ao = Addr.offD s.ao ∧ 1 = 1 ∧ 0 < List.length s.7) ∧
     b = b ∧
      ((0 : Int) ≤ (1 : Int) ∧ (1 : Int) ≤ (↑(List.length s.7) : Int) ∧ List.length s.7 ≤ s.4) ∧
       (b = b ∧ true = true ∧ 1 = 1 ∧ 3 ≤ 3) ∧
        K (frmR [J] (bodyOf Try.f19) 4)
         (Sy.mk
          [SV.ptr 0 b 0, SV.raw (u 1), SV.str (ByteArray.mk #[]), SV.bool false, SV.str (List.getD s.7 0 ByteArray.empty), SV.ptr 0 b 0,
           SV.ptr 0 b 0, SV.ptr 0 b 2, SV.vec 3 s.ao (List.length s.7) s.4, SV.int IntKind.i64 (↑(List.length s.7) : Int), SV.bool true,
           SV.ptr 0 b 0, SV.ptr 0 b 0, SV.ptr 0 b 2, SV.vec 3 s.ao (List.length s.7) s.4,
           SV.eptr 3 (Addr.blkD s.ao) (Addr.offD s.ao) 1 0 0, SV.str (List.getD s.7 0 ByteArray.empty), SV.ptr 0 b 0,
           SV.ptr 0 b 0, SV.ptr 0 b 0, SV.ptr 0 b 2, SV.vec 3 s.ao (List.length s.7) s.4,
           SV.sub 3 s.ao s.4 1 1 (List.length s.7), SV.ptr 0 b 0, SV.ptr 0 b 2, SV.raw (u 25), SV.raw (u 26),
           SV.raw (u 27), SV.raw (u 28), SV.raw (u 29), SV.raw (u 30), SV.raw (u 31), SV.raw (u 32), SV.raw (u 33)]
          [Ent.mk (Loc.blk b) (SObj.cells [SV.map 1 s.1, SV.map 2 s.2, SV.sub 3 s.ao s.4 1 1 (List.length s.7)] (118 : TypeId)),
           Ent.mk (Loc.blk s.1) (SObj.mapL (@none IntKind) encG s.5), Ent.mk (Loc.blk s.2) (SObj.mapL (some IntKind.i64) encO s.6),
           Ent.mk (Loc.sl s.ao s.4) (SObj.vecL (9 : TypeId) 1 encS s.7 ByteArray.empty), pk 0 rest])
 | false =>
  N
   [Ent.mk (Loc.blk b) (SObj.cells [SV.map 1 s.1, SV.map 2 s.2, SV.vec 3 s.ao (List.length s.7) s.4] (118 : TypeId)),
    Ent.mk (Loc.blk s.1) (SObj.mapL (@none IntKind) encG s.5), Ent.mk (Loc.blk s.2) (SObj.mapL (some IntKind.i64) encO s.6),
    Ent.mk (Loc.sl s.ao s.4) (SObj.vecL (9 : TypeId) 1 encS s.7 ByteArray.empty), pk 0 rest]
   (SV.tuple [SV.str (ByteArray.mk #[]), SV.bool false])) := by kernel_rfl


theorem gEm_none (K : List Frm → Sy → Prop) (N : List Ent → SV → Prop) (J0 : Act → World → Prop) (s : Grp) (b : Nat) (n : ByteArray) (rest : List Ent) (u : Nat → Value) : (run Try.prog [] false [] K (retP Try.prog Try.f19.results.toList N) 900 (frmR [J0] (bodyOf Try.f19) 4) ⟨mkT u 34 0 [(0, .ptr 0 b 0), (2, .str ⟨#[]⟩), (3, .bool false), (4, .str n)], [⟨.blk b, .cells [.map 1 s.bg, .map 2 s.bo, .vec 3 s.ao s.notes.length s.cap] 118⟩, ⟨.blk s.bg, .map1 none encG s.gs (.s n) none⟩, ⟨.blk s.bo, .mapL (some .i64) encO s.of⟩, ⟨.sl s.ao s.cap, .vecL 9 1 encS s.notes ByteArray.empty⟩, pk 0 rest]⟩) = (
b = b ∧
 (s.1 = s.1 ∧ Key.s n = Key.s n ∧ @none IntKind = @none IntKind) ∧
  N
   [Ent.mk (Loc.blk b) (SObj.cells [SV.map 1 s.1, SV.map 2 s.2, SV.vec 3 s.ao (List.length s.7) s.4] (118 : TypeId)),
    Ent.mk (Loc.blk s.1) (SObj.map1 (@none IntKind) encG s.5 (Key.s n) (@none SV)), Ent.mk (Loc.blk s.2) (SObj.mapL (some IntKind.i64) encO s.6),
    Ent.mk (Loc.sl s.ao s.4) (SObj.vecL (9 : TypeId) 1 encS s.7 ByteArray.empty), pk 0 rest]
   (SV.tuple [SV.str n, SV.bool true])) := by kernel_rfl


theorem gEm_some (K : List Frm → Sy → Prop) (N : List Ent → SV → Prop) (J0 : Act → World → Prop) (s : Grp) (b : Nat) (n : ByteArray) (nb : Nat) (ms : List (Key × Unit)) (rest : List Ent) (u : Nat → Value) : (run Try.prog [] false [] K (retP Try.prog Try.f19.results.toList N) 900 (frmR [J0] (bodyOf Try.f19) 4) ⟨mkT u 34 0 [(0, .ptr 0 b 0), (2, .str ⟨#[]⟩), (3, .bool false), (4, .str n)], [⟨.blk b, .cells [.map 1 s.bg, .map 2 s.bo, .vec 3 s.ao s.notes.length s.cap] 118⟩, ⟨.blk s.bg, .map1 none encG s.gs (.s n) (some (.map 4 nb))⟩, ⟨.blk s.bo, .mapL (some .i64) encO s.of⟩, ⟨.sl s.ao s.cap, .vecL 9 1 encS s.notes ByteArray.empty⟩, ⟨.blk nb, .mapL (some .i64) encU ms⟩, pk 0 rest]⟩) = (
b = b ∧
 (s.1 = s.1 ∧ Key.s n = Key.s n ∧ @none IntKind = @none IntKind) ∧
  nb = nb ∧
   match (↑(List.length ms) : Int) == (0 : Int) with
   | true =>
    N
     [Ent.mk (Loc.blk b) (SObj.cells [SV.map 1 s.1, SV.map 2 s.2, SV.vec 3 s.ao (List.length s.7) s.4] (118 : TypeId)),
      Ent.mk (Loc.blk s.1) (SObj.map1 (@none IntKind) encG s.5 (Key.s n) (some (SV.map 4 nb))), Ent.mk (Loc.blk s.2) (SObj.mapL (some IntKind.i64) encO s.6),
      Ent.mk (Loc.sl s.ao s.4) (SObj.vecL (9 : TypeId) 1 encS s.7 ByteArray.empty), Ent.mk (Loc.blk nb) (SObj.mapL (some IntKind.i64) encU ms), pk 0 rest]
     (SV.tuple [SV.str n, SV.bool true])
   | false =>
    K (Frm.loop J0 :: Frm.blk 0 :: frm [] (bodyOf Try.f19) [1, 1] [])
     (Sy.mk
      [SV.ptr 0 b 0, SV.raw (u 1), SV.str (ByteArray.mk #[]), SV.bool false, SV.str n, SV.raw (u 5), SV.raw (u 6), SV.raw (u 7),
       SV.raw (u 8), SV.raw (u 9), SV.raw (u 10), SV.raw (u 11), SV.raw (u 12), SV.raw (u 13), SV.raw (u 14), SV.raw (u 15),
       SV.raw (u 16), SV.raw (u 17), SV.raw (u 18), SV.raw (u 19), SV.raw (u 20), SV.raw (u 21), SV.raw (u 22), SV.raw (u 23),
       SV.raw (u 24), SV.ptr 0 b 0, SV.ptr 0 b 0, SV.ptr 0 b 0, SV.map 1 s.1, SV.str n, SV.map 4 nb,
       SV.int IntKind.i64 (↑(List.length ms) : Int), SV.bool false, SV.raw (u 33)]
      [Ent.mk (Loc.blk b) (SObj.cells [SV.map 1 s.1, SV.map 2 s.2, SV.vec 3 s.ao (List.length s.7) s.4] (118 : TypeId)),
       Ent.mk (Loc.blk s.1) (SObj.map1 (@none IntKind) encG s.5 (Key.s n) (some (SV.map 4 nb))), Ent.mk (Loc.blk s.2) (SObj.mapL (some IntKind.i64) encO s.6),
       Ent.mk (Loc.sl s.ao s.4) (SObj.vecL (9 : TypeId) 1 encS s.7 ByteArray.empty), Ent.mk (Loc.blk nb) (SObj.mapL (some IntKind.i64) encU ms), pk 0 rest])) := by kernel_rfl


theorem gEm_start (K : List Frm → Sy → Prop) (N : List Ent → SV → Prop) (s : Grp) (b : Nat) (rest : List Ent) : (run Try.prog [] false [] K (retP Try.prog Try.f19.results.toList N) 600 [.code (bodyOf Try.f19)] ⟨padTo 34 [.ptr 0 b 0], [⟨.blk b, .cells [.map 1 s.bg, .map 2 s.bo, .vec 3 s.ao s.notes.length s.cap] 118⟩, ⟨.blk s.bg, .mapL none encG s.gs⟩, ⟨.blk s.bo, .mapL (some .i64) encO s.of⟩, ⟨.sl s.ao s.cap, .vecL 9 1 encS s.notes ByteArray.empty⟩, pk 0 rest]⟩) = (
K (frm [] (bodyOf Try.f19) [1, 0, 0] [])
 (Sy.mk
  [SV.ptr 0 b 0, SV.raw (Value.tuple #[]), SV.str (ByteArray.mk #[]), SV.bool false, SV.raw (Value.tuple #[]), SV.raw (Value.tuple #[]), SV.raw (Value.tuple #[]),
   SV.raw (Value.tuple #[]), SV.raw (Value.tuple #[]), SV.raw (Value.tuple #[]), SV.raw (Value.tuple #[]), SV.raw (Value.tuple #[]), SV.raw (Value.tuple #[]), SV.raw (Value.tuple #[]),
   SV.raw (Value.tuple #[]), SV.raw (Value.tuple #[]), SV.raw (Value.tuple #[]), SV.raw (Value.tuple #[]), SV.raw (Value.tuple #[]), SV.raw (Value.tuple #[]), SV.raw (Value.tuple #[]),
   SV.raw (Value.tuple #[]), SV.raw (Value.tuple #[]), SV.raw (Value.tuple #[]), SV.raw (Value.tuple #[]), SV.raw (Value.tuple #[]), SV.raw (Value.tuple #[]), SV.raw (Value.tuple #[]),
   SV.raw (Value.tuple #[]), SV.raw (Value.tuple #[]), SV.raw (Value.tuple #[]), SV.raw (Value.tuple #[]), SV.raw (Value.tuple #[]), SV.raw (Value.tuple #[])]
  [Ent.mk (Loc.blk b) (SObj.cells [SV.map 1 s.1, SV.map 2 s.2, SV.vec 3 s.ao (List.length s.7) s.4] (118 : TypeId)),
   Ent.mk (Loc.blk s.1) (SObj.mapL (@none IntKind) encG s.5), Ent.mk (Loc.blk s.2) (SObj.mapL (some IntKind.i64) encO s.6),
   Ent.mk (Loc.sl s.ao s.4) (SObj.vecL (9 : TypeId) 1 encS s.7 ByteArray.empty), pk 0 rest])) := by kernel_rfl


theorem gNew_run (K : List Frm → Sy → Prop) (N : List Ent → SV → Prop) : (run Try.prog [] false [] K (retP Try.prog Try.f13.results.toList N) 600 [.code (bodyOf Try.f13)] ⟨padTo 5 [], []⟩) = (
∀ (b b_1 : Nat),
 (true = true ∧ true = true) ∧
  true = true ∧
   ∀ (b_2 : Nat),
    N
     [Ent.mk (Loc.blk b) (SObj.mapV (@none IntKind) []), Ent.mk (Loc.blk b_1) (SObj.mapV (some IntKind.i64) []),
      Ent.mk (Loc.blk b_2) (SObj.cells [SV.map 0 b, SV.map 1 b_1, SV.raw (Value.slice (@none Addr) 0 0)] 118)]
     (SV.ptr 2 b_2 0)) := by kernel_rfl
end Go.Proofs.Ytihajdkipkfiiaa
