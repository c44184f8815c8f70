import Derived.Test.YtihajdkipkfiiaaMgGroupPlays6
/- YtihajdkipkfiiaaGr2Run -/
namespace Go.Proofs.Ytihajdkipkfiiaa
set_option linter.unusedVariables false
open Go Go.RowKit
set_option maxHeartbeats 0
set_option maxRecDepth 100000
set_option maxRecDepth 100000

theorem idxS_body (K : List Frm → Sy → Prop) (N : List Ent → SV → Prop) (J : Act → World → Prop) (ao : Option Addr) (cap : Nat) (xs : List ByteArray) (v : ByteArray) (i : Nat) (u : Nat → Value) : (run Try.prog [] false [] K (retP Try.prog Try.f95.results.toList N) 900 (frm [J] (bodyOf Try.f95) [1, 0, 1, 0, 0] []) ⟨mkT u 19 0 [(0, .vec 0 ao xs.length cap), (1, .str v), (7, .int .i64 (xs.length : Int)), (8, .int .i64 (i : Int))], [⟨.sl ao cap, .vecL 9 1 encS xs ByteArray.empty⟩]⟩) = (
match decide ((↑i : Int) < (↑(List.length xs) : Int)) with
| true =>
 (ao = ao ∧ cap = cap ∧ List.length xs = List.length xs ∧ (0 : Int) ≤ (↑i : Int) ∧ (↑i : Int) < (↑(List.length xs) : Int)) ∧
  (Addr.blkD ao = Addr.blkD ao ∧ Addr.offD ao = Addr.offD ao ∧ 1 = 1 ∧ Int.toNat (↑i : Int) < List.length xs) ∧
   match sEq v (List.getD xs (Int.toNat (↑i : Int)) ByteArray.empty) with
   | true => N [Ent.mk (Loc.sl ao cap) (SObj.vecL (9 : TypeId) 1 encS xs ByteArray.empty)] (SV.int IntKind.i64 (↑i : Int))
   | false =>
    K (Frm.loop J :: Frm.blk 0 :: frm [] (bodyOf Try.f95) [1, 1] [])
     (Sy.mk (SV.vec 0 ao (List.length xs) cap :: (SV.str v :: (rawR u 2 (SV.int IntKind.i64 (↑i : Int) :: (SV.raw (u 6) :: (SV.int IntKind.i64 (↑(List.length xs) : Int) :: (SV.int IntKind.i64 (IntKind.wrap IntKind.i64 ((↑i : Int) + (1 : Int))) :: (SV.bool true :: (SV.int IntKind.i64 (↑i : Int) :: (SV.str v :: (SV.vec 0 ao (List.length xs) cap :: (SV.int IntKind.i64 (↑i : Int) :: (SV.eptr 0 (Addr.blkD ao) (Addr.offD ao) 1 (Int.toNat (↑i : Int)) 0 :: (SV.str (List.getD xs (Int.toNat (↑i : Int)) ByteArray.empty) :: (SV.bool false :: (SV.raw (u 17) :: (SV.int IntKind.i64 (IntKind.wrap IntKind.i64 ((↑i : Int) + (1 : Int))) :: [])))))))))))))) 3)))
      [Ent.mk (Loc.sl ao cap) (SObj.vecL (9 : TypeId) 1 encS xs ByteArray.empty)])
| false => N [Ent.mk (Loc.sl ao cap) (SObj.vecL (9 : TypeId) 1 encS xs ByteArray.empty)] (SV.int IntKind.i64 (-1 : Int))) := by kernel_rfl


theorem idxF_body (K : List Frm → Sy → Prop) (N : List Ent → SV → Prop) (J : Act → World → Prop) (ao : Option Addr) (cap : Nat) (xs : List ByteArray) (b : Nat) (nm : ByteArray) (i : Nat) (u : Nat → Value) : (run Try.prog gT0 false [] K (retP Try.prog Try.f108.results.toList N) 900 (frm [J] (bodyOf Try.f108) [1, 0, 1, 0, 0] []) ⟨mkT u 19 0 [(0, .vec 0 ao xs.length cap), (1, .func (.func 91) [] [.ptr 1 b 0]), (7, .int .i64 (xs.length : Int)), (8, .int .i64 (i : Int))], [⟨.sl ao cap, .vecL 9 1 encS xs ByteArray.empty⟩, ⟨.blk b, .cells [.str nm] 9⟩]⟩) = (
match decide ((↑i : Int) < (↑(List.length xs) : Int)) with
| true =>
 (ao = ao ∧ cap = cap ∧ List.length xs = List.length xs ∧ (0 : Int) ≤ (↑i : Int) ∧ (↑i : Int) < (↑(List.length xs) : Int)) ∧
  (Addr.blkD ao = Addr.blkD ao ∧ Addr.offD ao = Addr.offD ao ∧ 1 = 1 ∧ Int.toNat (↑i : Int) < List.length xs) ∧
   true = true ∧
    b = b ∧
     match sEq (List.getD xs (Int.toNat (↑i : Int)) ByteArray.empty) nm with
     | true => N [Ent.mk (Loc.sl ao cap) (SObj.vecL (9 : TypeId) 1 encS xs ByteArray.empty), Ent.mk (Loc.blk b) (SObj.cells [SV.str nm] (9 : TypeId))] (SV.int IntKind.i64 (↑i : Int))
     | false =>
      K (Frm.loop J :: Frm.blk 0 :: frm [] (bodyOf Try.f108) [1, 1] [])
       (Sy.mk (SV.vec 0 ao (List.length xs) cap :: (SV.func (Fn.func (91 : FuncId)) [] [SV.ptr 1 b 0] :: (rawR u 2 (SV.int IntKind.i64 (↑i : Int) :: (SV.raw (u 6) :: (SV.int IntKind.i64 (↑(List.length xs) : Int) :: (SV.int IntKind.i64 (IntKind.wrap IntKind.i64 ((↑i : Int) + (1 : Int))) :: (SV.bool true :: (SV.int IntKind.i64 (↑i : Int) :: (SV.func (Fn.func (91 : FuncId)) [] [SV.ptr 1 b 0] :: (SV.vec 0 ao (List.length xs) cap :: (SV.int IntKind.i64 (↑i : Int) :: (SV.eptr 0 (Addr.blkD ao) (Addr.offD ao) 1 (Int.toNat (↑i : Int)) 0 :: (SV.str (List.getD xs (Int.toNat (↑i : Int)) ByteArray.empty) :: (SV.bool false :: (SV.raw (u 17) :: (SV.int IntKind.i64 (IntKind.wrap IntKind.i64 ((↑i : Int) + (1 : Int))) :: [])))))))))))))) 3)))
        [Ent.mk (Loc.sl ao cap) (SObj.vecL (9 : TypeId) 1 encS xs ByteArray.empty), Ent.mk (Loc.blk b) (SObj.cells [SV.str nm] (9 : TypeId))])
| false => N [Ent.mk (Loc.sl ao cap) (SObj.vecL (9 : TypeId) 1 encS xs ByteArray.empty), Ent.mk (Loc.blk b) (SObj.cells [SV.str nm] (9 : TypeId))] (SV.int IntKind.i64 (-1 : Int))) := by kernel_rfl


theorem delF_start (K : List Frm → Sy → Prop) (N : List Ent → SV → Prop) (ao : Option Addr) (cap : Nat) (xs : List ByteArray) (b : Nat) (nm : ByteArray) : (run Try.prog gT0d false [] K (retP Try.prog Try.f90.results.toList N) 600 [.code (bodyOf Try.f90)] ⟨padTo 42 [.vec 0 ao xs.length cap, .func (.func 91) [] [.ptr 1 b 0]], [⟨.sl ao cap, .vecL 9 1 encS xs ByteArray.empty⟩, ⟨.blk b, .cells [.str nm] 9⟩]⟩) = (
true = true ∧
 (91 : FuncId) = (91 : FuncId) ∧
  ∃ (xs_1 : List ByteArray),
   ∃ (nm_1 : ByteArray),
    some (Ent.mk (Loc.sl ao cap) (SObj.vecL (9 : TypeId) 1 encS xs ByteArray.empty)) = some (Ent.mk (Loc.sl ao cap) (SObj.vecL (9 : TypeId) 1 encS xs_1 ByteArray.empty)) ∧
     some (Ent.mk (Loc.blk b) (SObj.cells [SV.str nm] (9 : TypeId))) = some (Ent.mk (Loc.blk b) (SObj.cells [SV.str nm_1] (9 : TypeId))) ∧
      (false = false ∧ List.length xs = List.length xs_1 ∧ List.length xs_1 ≤ 1000000000) ∧
       match idxFrom (fun (x : ByteArray) ↦ sEq x nm_1) xs_1 (0 : Int) == (-1 : Int) with
       | true =>
        N [Ent.mk (Loc.sl ao cap) (SObj.vecL (9 : TypeId) 1 encS xs ByteArray.empty), Ent.mk (Loc.blk b) (SObj.cells [SV.str nm] (9 : TypeId))]
         (SV.vec 0 ao (List.length xs) cap)
       | false =>
        K (frm [] (bodyOf Try.f90) [1, 1, 1, 0, 1, 0] [])
         (Sy.mk (SV.vec 0 ao (List.length xs) cap :: (SV.func (Fn.func (91 : FuncId)) [] [SV.ptr 1 b 0] :: (SV.raw (Value.tuple #[]) :: (SV.raw (Value.tuple #[]) :: (SV.raw (Value.slice (@none Addr) 0 0) :: ((SV.int IntKind.i64 (idxFrom (fun (x : ByteArray) ↦ sEq x nm_1) xs_1 (0 : Int))) :: ((SV.int IntKind.i64 (IntKind.wrap IntKind.i64 (idxFrom (fun (x : ByteArray) ↦ sEq x nm_1) xs_1 (0 : Int) + (1 : Int)))) :: (SV.raw (Value.tuple #[]) :: (SV.vec 0 ao (List.length xs) cap :: (SV.func (Fn.func (91 : FuncId)) [] [SV.ptr 1 b 0] :: ((SV.int IntKind.i64 (idxFrom (fun (x : ByteArray) ↦ sEq x nm_1) xs_1 (0 : Int))) :: ((SV.int IntKind.i64 (idxFrom (fun (x : ByteArray) ↦ sEq x nm_1) xs_1 (0 : Int))) :: (SV.bool false :: (SV.raw (Value.tuple #[]) :: ((SV.int IntKind.i64 (idxFrom (fun (x : ByteArray) ↦ sEq x nm_1) xs_1 (0 : Int))) :: ((SV.int IntKind.i64 (IntKind.wrap IntKind.i64 (idxFrom (fun (x : ByteArray) ↦ sEq x nm_1) xs_1 (0 : Int) + (1 : Int)))) :: (rawE [] 26)))))))))))))))))
          [Ent.mk (Loc.sl ao cap) (SObj.vecL (9 : TypeId) 1 encS xs ByteArray.empty), Ent.mk (Loc.blk b) (SObj.cells [SV.str nm] (9 : TypeId))])) := by kernel_rfl


theorem delF_body (K : List Frm → Sy → Prop) (N : List Ent → SV → Prop) (J : Act → World → Prop) (ao : Option Addr) (cap : Nat) (xs : List ByteArray) (b : Nat) (nm : ByteArray) (i j : Nat) (u : Nat → Value) : (run Try.prog gT0d false [] K (retP Try.prog Try.f90.results.toList N) 900 (frm [J] (bodyOf Try.f90) [1, 1, 1, 0, 1, 0, 0] []) ⟨mkT u 42 0 [(0, .vec 0 ao xs.length cap), (1, .func (.func 91) [] [.ptr 1 b 0]), (5, .int .i64 (i : Int)), (6, .int .i64 (j : Int))], [⟨.sl ao cap, .vecL 9 1 encS xs ByteArray.empty⟩, ⟨.blk b, .cells [.str nm] 9⟩]⟩) = (
match decide ((↑j : Int) < (↑(List.length xs) : Int)) with
| true =>
 (ao = ao ∧ cap = cap ∧ List.length xs = List.length xs ∧ (0 : Int) ≤ (↑j : Int) ∧ (↑j : Int) < (↑(List.length xs) : Int)) ∧
  (Addr.blkD ao = Addr.blkD ao ∧ Addr.offD ao = Addr.offD ao ∧ 1 = 1 ∧ Int.toNat (↑j : Int) < List.length xs) ∧
   true = true ∧
    b = b ∧
     match !sEq (List.getD xs (Int.toNat (↑j : Int)) ByteArray.empty) nm with
     | true =>
      (ao = ao ∧ cap = cap ∧ List.length xs = List.length xs ∧ (0 : Int) ≤ (↑i : Int) ∧ (↑i : Int) < (↑(List.length xs) : Int)) ∧
       (Addr.blkD ao = Addr.blkD ao ∧
        Addr.offD ao = Addr.offD ao ∧ 1 = 1 ∧ Int.toNat (↑i : Int) < List.length xs ∧ true = true ∧ 1 = 1 ∧ 1 ≤ 1) ∧
        ∃ (e : ByteArray),
         denL [SV.str e] = denL [SV.str (List.getD xs (Int.toNat (↑j : Int)) ByteArray.empty)] ∧
          K (Frm.loop J :: Frm.blk 0 :: frm [] (bodyOf Try.f90) [1, 1, 1, 1] [])
           (Sy.mk (SV.vec 0 ao (List.length xs) cap :: (SV.func (Fn.func (91 : FuncId)) [] [SV.ptr 1 b 0] :: (rawR u 2 (SV.int IntKind.i64 (IntKind.wrap IntKind.i64 ((↑i : Int) + (1 : Int))) :: (SV.int IntKind.i64 (IntKind.wrap IntKind.i64 ((↑j : Int) + (1 : Int))) :: (SV.str (List.getD xs (Int.toNat (↑j : Int)) ByteArray.empty) :: (rawR u 8 (SV.int IntKind.i64 (↑j : Int) :: (SV.vec 0 ao (List.length xs) cap :: (SV.int IntKind.i64 (↑(List.length xs) : Int) :: (SV.bool true :: (SV.int IntKind.i64 (↑j : Int) :: (SV.int IntKind.i64 (IntKind.wrap IntKind.i64 ((↑j : Int) + (1 : Int))) :: (SV.vec 0 ao (List.length xs) cap :: (SV.int IntKind.i64 (↑j : Int) :: (SV.eptr 0 (Addr.blkD ao) (Addr.offD ao) 1 (Int.toNat (↑j : Int)) 0 :: (SV.str (List.getD xs (Int.toNat (↑j : Int)) ByteArray.empty) :: (SV.func (Fn.func (91 : FuncId)) [] [SV.ptr 1 b 0] :: (SV.str (List.getD xs (Int.toNat (↑j : Int)) ByteArray.empty) :: (SV.bool (sEq (List.getD xs (Int.toNat (↑j : Int)) ByteArray.empty) nm) :: (SV.bool true :: (SV.vec 0 ao (List.length xs) cap :: (SV.int IntKind.i64 (↑i : Int) :: (SV.str (List.getD xs (Int.toNat (↑j : Int)) ByteArray.empty) :: (SV.eptr 0 (Addr.blkD ao) (Addr.offD ao) 1 (Int.toNat (↑i : Int)) 0 :: (SV.int IntKind.i64 (↑i : Int) :: (SV.int IntKind.i64 (IntKind.wrap IntKind.i64 ((↑i : Int) + (1 : Int))) :: (rawR u 36 [] 6))))))))))))))))))))) 8)))) 3)))
            [Ent.mk (Loc.sl ao cap) (SObj.vecL (9 : TypeId) 1 encS (List.set xs (Int.toNat (↑i : Int)) e) ByteArray.empty),
             Ent.mk (Loc.blk b) (SObj.cells [SV.str nm] (9 : TypeId))])
     | false =>
      K (Frm.loop J :: Frm.blk 0 :: frm [] (bodyOf Try.f90) [1, 1, 1, 1] [])
       (Sy.mk (SV.vec 0 ao (List.length xs) cap :: (SV.func (Fn.func (91 : FuncId)) [] [SV.ptr 1 b 0] :: (rawR u 2 (SV.int IntKind.i64 (↑i : Int) :: (SV.int IntKind.i64 (IntKind.wrap IntKind.i64 ((↑j : Int) + (1 : Int))) :: (SV.str (List.getD xs (Int.toNat (↑j : Int)) ByteArray.empty) :: (rawR u 8 (SV.int IntKind.i64 (↑j : Int) :: (SV.vec 0 ao (List.length xs) cap :: (SV.int IntKind.i64 (↑(List.length xs) : Int) :: (SV.bool true :: (SV.int IntKind.i64 (↑j : Int) :: (SV.int IntKind.i64 (IntKind.wrap IntKind.i64 ((↑j : Int) + (1 : Int))) :: (SV.vec 0 ao (List.length xs) cap :: (SV.int IntKind.i64 (↑j : Int) :: (SV.eptr 0 (Addr.blkD ao) (Addr.offD ao) 1 (Int.toNat (↑j : Int)) 0 :: (SV.str (List.getD xs (Int.toNat (↑j : Int)) ByteArray.empty) :: (SV.func (Fn.func (91 : FuncId)) [] [SV.ptr 1 b 0] :: (SV.str (List.getD xs (Int.toNat (↑j : Int)) ByteArray.empty) :: (SV.bool (sEq (List.getD xs (Int.toNat (↑j : Int)) ByteArray.empty) nm) :: (SV.bool false :: (rawR u 30 [] 12))))))))))))))) 8)))) 3)))
        [Ent.mk (Loc.sl ao cap) (SObj.vecL (9 : TypeId) 1 encS xs ByteArray.empty), Ent.mk (Loc.blk b) (SObj.cells [SV.str nm] (9 : TypeId))])
| false =>
 ((0 : Int) ≤ (↑i : Int) ∧ (↑i : Int) ≤ (↑(List.length xs) : Int) ∧ List.length xs ≤ cap) ∧
  (ao = ao ∧ cap = cap ∧ 1 = 1 ∧ 1 = 1 ∧ true = true ∧ Int.toNat (↑i : Int) ≤ List.length xs ∧ List.length xs ≤ List.length xs) ∧
   ((0 : Int) ≤ (↑i : Int) ∧ (↑i : Int) ≤ (↑cap : Int)) ∧
    N [Ent.mk (Loc.sl ao cap) (SObj.vecL (9 : TypeId) 1 encS (List.take (Int.toNat (↑i : Int)) xs) ByteArray.empty), Ent.mk (Loc.blk b) (SObj.cells [SV.str nm] (9 : TypeId))]
     (SV.sub 0 ao cap 1 0 (Int.toNat (↑i : Int)))) := by kernel_rfl


theorem gMake_run (K : List Frm → Sy → Prop) (N : List Ent → SV → Prop) (s : Grp) (b : Nat) (name : ByteArray) (rest : List Ent) : (run Try.prog [] false [] K (retP Try.prog Try.f14.results.toList N) 600 [.code (bodyOf Try.f14)] ⟨padTo 25 [.ptr 0 b 0, .str name], [⟨.blk b, .cells [.map 1 s.bg, .map 2 s.bo, .vec 3 s.ao s.notes.length s.cap] 118⟩, ⟨.blk s.bg, .mapL none encG s.gs⟩, ⟨.blk s.bo, .mapL (some .i64) encO s.of⟩, ⟨.sl s.ao s.cap, .vecL 9 1 encS s.notes ByteArray.empty⟩, pk 0 rest]⟩) = (
match sEq name (ByteArray.mk #[]) with
| true =>
 N
  [Ent.mk (Loc.blk b) (SObj.cells [SV.map 1 s.1, SV.map 2 s.2, SV.vec 3 s.ao (List.length s.7) s.4] (118 : TypeId)),
   Ent.mk (Loc.blk s.1) (SObj.mapL (@none IntKind) encG s.5), Ent.mk (Loc.blk s.2) (SObj.mapL (some IntKind.i64) encO s.6),
   Ent.mk (Loc.sl s.ao s.4) (SObj.vecL (9 : TypeId) 1 encS s.7 ByteArray.empty), pk 0 rest]
  (SV.int IntKind.i64 (90 : Int))
| false =>
 b = b ∧
  (s.1 = s.1 ∧ @none IntKind = @none IntKind ∧ @none IntKind = @none IntKind) ∧
   match mget s.5 (Key.s name) with
   | some v =>
    N
     [Ent.mk (Loc.blk b) (SObj.cells [SV.map 1 s.1, SV.map 2 s.2, SV.vec 3 s.ao (List.length s.7) s.4] (118 : TypeId)),
      Ent.mk (Loc.blk s.1) (SObj.mapL (@none IntKind) encG s.5), Ent.mk (Loc.blk s.2) (SObj.mapL (some IntKind.i64) encO s.6),
      Ent.mk (Loc.sl s.ao s.4) (SObj.vecL (9 : TypeId) 1 encS s.7 ByteArray.empty), pk 0 rest]
     (SV.int IntKind.i64 (91 : Int))
   | none =>
    b = b ∧
     ∀ (b_1 : Nat),
      (s.1 = s.1 ∧ @none IntKind = @none IntKind ∧ @none IntKind = @none IntKind) ∧
       ∃ (u : GSet),
        den (SV.map 4 u.1) = den (SV.map 5 b_1) ∧
         N
          [Ent.mk (Loc.blk b) (SObj.cells [SV.map 1 s.1, SV.map 2 s.2, SV.vec 3 s.ao (List.length s.7) s.4] (118 : TypeId)),
           Ent.mk (Loc.blk s.1) (SObj.mapL (@none IntKind) encG (mset s.5 (Key.s name) u)), Ent.mk (Loc.blk s.2) (SObj.mapL (some IntKind.i64) encO s.6),
           Ent.mk (Loc.sl s.ao s.4) (SObj.vecL (9 : TypeId) 1 encS s.7 ByteArray.empty), pk 0 rest, Ent.mk (Loc.blk b_1) (SObj.mapV (some IntKind.i64) [])]
          (SV.int IntKind.i64 (0 : Int))) := by kernel_rfl


theorem gGone_none (K : List Frm → Sy → Prop) (N : List Ent → SV → Prop) (s : Grp) (b : Nat) (pid : Int) (rest : List Ent) : (run Try.prog [] false [] K (retP Try.prog Try.f15.results.toList N) 600 [.code (bodyOf Try.f15)] ⟨padTo 57 [.ptr 0 b 0, .int .i64 pid], [⟨.blk b, .cells [.map 1 s.bg, .map 2 s.bo, .vec 3 s.ao s.notes.length s.cap] 118⟩, ⟨.blk s.bg, .mapL none encG s.gs⟩, ⟨.blk s.bo, .map1 (some .i64) encO s.of (.i .i64 pid) none⟩, ⟨.sl s.ao s.cap, .vecL 9 1 encS s.notes ByteArray.empty⟩, pk 0 rest]⟩) = (
b = b ∧
 (s.2 = s.2 ∧ Key.i IntKind.i64 pid = Key.i IntKind.i64 pid ∧ some IntKind.i64 = some IntKind.i64) ∧
  N
   [Ent.mk (Loc.blk b) (SObj.cells [SV.map 1 s.1, SV.map 2 s.2, SV.vec 3 s.ao (List.length s.7) s.4] (118 : TypeId)),
    Ent.mk (Loc.blk s.1) (SObj.mapL (@none IntKind) encG s.5), Ent.mk (Loc.blk s.2) (SObj.map1 (some IntKind.i64) encO s.6 (Key.i IntKind.i64 pid) (@none SV)),
    Ent.mk (Loc.sl s.ao s.4) (SObj.vecL (9 : TypeId) 1 encS s.7 ByteArray.empty), pk 0 rest]
   (SV.bool false)) := by kernel_rfl


theorem gGone_some (K : List Frm → Sy → Prop) (N : List Ent → SV → Prop) (s : Grp) (b : Nat) (pid : Int) (n : ByteArray) (nb : Nat) (ms : List (Key × Unit)) (rest : List Ent) : (run Try.prog gT2 false [] K (retP Try.prog Try.f15.results.toList N) 600 [.code (bodyOf Try.f15)] ⟨padTo 57 [.ptr 0 b 0, .int .i64 pid], [⟨.blk b, .cells [.map 1 s.bg, .map 2 s.bo, .vec 3 s.ao s.notes.length s.cap] 118⟩, ⟨.blk s.bg, .map1 none encG s.gs (.s n) (some (.map 4 nb))⟩, ⟨.blk s.bo, .map1 (some .i64) encO s.of (.i .i64 pid) (some (.str n))⟩, ⟨.sl s.ao s.cap, .vecL 9 1 encS s.notes ByteArray.empty⟩, ⟨.blk nb, .mapL (some .i64) encU ms⟩, pk 0 rest]⟩) = (
b = b ∧
 (s.2 = s.2 ∧ Key.i IntKind.i64 pid = Key.i IntKind.i64 pid ∧ some IntKind.i64 = some IntKind.i64) ∧
  b = b ∧
   (s.2 = s.2 ∧ some IntKind.i64 = some IntKind.i64 ∧ some IntKind.i64 = some IntKind.i64) ∧
    b = b ∧
     (s.1 = s.1 ∧ Key.s n = Key.s n ∧ @none IntKind = @none IntKind) ∧
      (nb = nb ∧ some IntKind.i64 = some IntKind.i64 ∧ some IntKind.i64 = some IntKind.i64) ∧
       b = b ∧
        (s.1 = s.1 ∧ Key.s n = Key.s n ∧ @none IntKind = @none IntKind) ∧
         nb = nb ∧
          match (↑(List.length (mdel ms (Key.i IntKind.i64 pid))) : Int) == (0 : Int) with
          | true =>
           b = b ∧
            true = true ∧
             true = true ∧
              ∃ (xs : List ByteArray),
               some (Ent.mk (Loc.sl s.ao s.4) (SObj.vecL (9 : TypeId) 1 encS s.7 ByteArray.empty)) =
                some (Ent.mk (Loc.sl s.ao s.4) (SObj.vecL (9 : TypeId) 1 encS xs ByteArray.empty)) ∧
                List.length s.7 = List.length xs ∧
                 List.length xs ≤ 1000000000 ∧
                  match !decide (idxFrom (sEq n) xs (0 : Int) ≥ (0 : Int)) with
                  | true =>
                   b = b ∧
                    (true = true ∧ 1 = 1 ∧ 0 < 1 ∧ 1 ≤ 16777216) ∧
                     ∀ (b_1 : Nat),
                      (s.ao = s.ao ∧
                       s.4 = s.4 ∧
                        List.length s.7 = List.length s.7 ∧
                         some (Addr.mk b_1 0 (@none Nat)) = some (Addr.mk b_1 0 (@none Nat)) ∧
                          (9 : TypeId) = 9 ∧
                           1 = 1 ∧
                            1 = 1 ∧
                             0 < 1 ∧
                              true = true ∧
                               (List.length s.7 + 1) * 16 ≤ 140737488355328 ∧ List.length s.7 + 1 ≤ 9223372036854775807) ∧
                       ∃ (es : List ByteArray),
                        List.length es = 1 ∧
                         denL (List.flatMap encS es) = denL [SV.str n] ∧
                          ∀ (ao2 : Option Addr) (cap2 : Nat),
                           List.length s.7 + 1 ≤ cap2 →
                            (b = b ∧ true = true ∧ 1 = 1 ∧ 3 ≤ 3) ∧
                             N
                              [Ent.mk (Loc.blk b)
                               (SObj.cells [SV.map 1 s.1, SV.map 2 s.2, SV.vec 3 ao2 (List.length s.7 + 1) cap2] (118 : TypeId)),
                               Ent.mk (Loc.blk s.1) (SObj.map1 (@none IntKind) encG s.5 (Key.s n) (some (SV.map 4 nb))),
                               Ent.mk (Loc.blk s.2) (SObj.mapL (some IntKind.i64) encO (mdel s.6 (Key.i IntKind.i64 pid))),
                               Ent.mk (Loc.sl ao2 cap2) (SObj.vecL (9 : TypeId) 1 encS (s.7 ++ es) ByteArray.empty),
                               Ent.mk (Loc.blk nb) (SObj.mapL (some IntKind.i64) encU (mdel ms (Key.i IntKind.i64 pid))), pk 0 rest,
                               Ent.mk (Loc.blk b_1) (SObj.cells [SV.str n] 9)]
                              (SV.bool true)
                  | false =>
                   N
                    [Ent.mk (Loc.blk b) (SObj.cells [SV.map 1 s.1, SV.map 2 s.2, SV.vec 3 s.ao (List.length s.7) s.4] (118 : TypeId)),
                     Ent.mk (Loc.blk s.1) (SObj.map1 (@none IntKind) encG s.5 (Key.s n) (some (SV.map 4 nb))),
                     Ent.mk (Loc.blk s.2) (SObj.mapL (some IntKind.i64) encO (mdel s.6 (Key.i IntKind.i64 pid))),
                     Ent.mk (Loc.sl s.ao s.4) (SObj.vecL (9 : TypeId) 1 encS s.7 ByteArray.empty),
                     Ent.mk (Loc.blk nb) (SObj.mapL (some IntKind.i64) encU (mdel ms (Key.i IntKind.i64 pid))), pk 0 rest]
                    (SV.bool true)
          | false =>
           N
            [Ent.mk (Loc.blk b) (SObj.cells [SV.map 1 s.1, SV.map 2 s.2, SV.vec 3 s.ao (List.length s.7) s.4] (118 : TypeId)),
             Ent.mk (Loc.blk s.1) (SObj.map1 (@none IntKind) encG s.5 (Key.s n) (some (SV.map 4 nb))),
             Ent.mk (Loc.blk s.2) (SObj.mapL (some IntKind.i64) encO (mdel s.6 (Key.i IntKind.i64 pid))),
             Ent.mk (Loc.sl s.ao s.4) (SObj.vecL (9 : TypeId) 1 encS s.7 ByteArray.empty),
             Ent.mk (Loc.blk nb) (SObj.mapL (some IntKind.i64) encU (mdel ms (Key.i IntKind.i64 pid))), pk 0 rest]
            (SV.bool true)) := by kernel_rfl


theorem gPut_none (K : List Frm → Sy → Prop) (N : List Ent → SV → Prop) (s : Grp) (b : Nat) (pid : Int) (n : ByteArray) (rest : List Ent) : (run Try.prog [] false [6] K (retP Try.prog Try.f16.results.toList N) 600 [.code (bodyOf Try.f16)] ⟨padTo 39 [.ptr 0 b 0, .int .i64 pid, .str n], [⟨.blk b, .cells [.map 1 s.bg, .map 2 s.bo, .vec 3 s.ao s.notes.length s.cap] 118⟩, ⟨.blk s.bg, .map1 none encG s.gs (.s n) none⟩, ⟨.blk s.bo, .mapL (some .i64) encO s.of⟩, ⟨.sl s.ao s.cap, .vecL 9 1 encS s.notes ByteArray.empty⟩, pk 0 rest]⟩) = (
b = b ∧
 (s.1 = s.1 ∧ Key.s n = Key.s n ∧ @none IntKind = @none IntKind) ∧
  N
   [Ent.mk (Loc.blk b) (SObj.cells [SV.map 1 s.1, SV.map 2 s.2, SV.vec 3 s.ao (List.length s.7) s.4] (118 : TypeId)),
    Ent.mk (Loc.blk s.1) (SObj.map1 (@none IntKind) encG s.5 (Key.s n) (@none SV)), Ent.mk (Loc.blk s.2) (SObj.mapL (some IntKind.i64) encO s.6),
    Ent.mk (Loc.sl s.ao s.4) (SObj.vecL (9 : TypeId) 1 encS s.7 ByteArray.empty), pk 0 rest]
   (SV.int IntKind.i64 (90 : Int))) := by kernel_rfl


theorem gPut_some (K : List Frm → Sy → Prop) (N : List Ent → SV → Prop) (s : Grp) (b : Nat) (pid : Int) (n : ByteArray) (nb : Nat) (ms : List (Key × Unit)) (rest : List Ent) : (run Try.prog gT2 false [6] K (retP Try.prog Try.f16.results.toList N) 600 [.code (bodyOf Try.f16)] ⟨padTo 39 [.ptr 0 b 0, .int .i64 pid, .str n], [⟨.blk b, .cells [.map 1 s.bg, .map 2 s.bo, .vec 3 s.ao s.notes.length s.cap] 118⟩, ⟨.blk s.bg, .map1 none encG s.gs (.s n) (some (.map 4 nb))⟩, ⟨.blk s.bo, .mapL (some .i64) encO s.of⟩, ⟨.sl s.ao s.cap, .vecL 9 1 encS s.notes ByteArray.empty⟩, ⟨.blk nb, .mapL (some .i64) encU ms⟩, pk 0 rest]⟩) = (
b = b ∧
 (s.1 = s.1 ∧ Key.s n = Key.s n ∧ @none IntKind = @none IntKind) ∧
  match decide (pid < (2 : Int)) with
  | true =>
   N
    [Ent.mk (Loc.blk b) (SObj.cells [SV.map 1 s.1, SV.map 2 s.2, SV.vec 3 s.ao (List.length s.7) s.4] (118 : TypeId)),
     Ent.mk (Loc.blk s.1) (SObj.map1 (@none IntKind) encG s.5 (Key.s n) (some (SV.map 4 nb))), Ent.mk (Loc.blk s.2) (SObj.mapL (some IntKind.i64) encO s.6),
     Ent.mk (Loc.sl s.ao s.4) (SObj.vecL (9 : TypeId) 1 encS s.7 ByteArray.empty), Ent.mk (Loc.blk nb) (SObj.mapL (some IntKind.i64) encU ms), pk 0 rest]
    (SV.int IntKind.i64 (90 : Int))
  | false =>
   true = true ∧
    (nb = nb ∧ some IntKind.i64 = some IntKind.i64 ∧ some IntKind.i64 = some IntKind.i64) ∧
     match mget ms (Key.i IntKind.i64 pid) with
     | some v =>
      ∀ (b_1 : Nat),
       (b_1 = b_1 ∧ true = true ∧ 0 = 0 ∧ 0 ≤ 0) ∧
        N
         [Ent.mk (Loc.blk b) (SObj.cells [SV.map 1 s.1, SV.map 2 s.2, SV.vec 3 s.ao (List.length s.7) s.4] (118 : TypeId)),
          Ent.mk (Loc.blk s.1) (SObj.map1 (@none IntKind) encG s.5 (Key.s n) (some (SV.map 4 nb))), Ent.mk (Loc.blk s.2) (SObj.mapL (some IntKind.i64) encO s.6),
          Ent.mk (Loc.sl s.ao s.4) (SObj.vecL (9 : TypeId) 1 encS s.7 ByteArray.empty), Ent.mk (Loc.blk nb) (SObj.mapL (some IntKind.i64) encU ms), pk 0 rest,
          Ent.mk (Loc.blk b_1) (SObj.cells [] 145)]
         (SV.int IntKind.i64 (0 : Int))
     | none =>
      ∀ (b_1 : Nat),
       (b_1 = b_1 ∧ true = true ∧ 0 = 0 ∧ 0 ≤ 0) ∧
        K (frmR [] (bodyOf Try.f16) 6)
         (Sy.mk (SV.ptr 0 b 0 :: (SV.int IntKind.i64 pid :: (SV.str n :: (rawE (SV.int IntKind.i64 (0 : Int) :: (SV.map 4 nb :: (SV.bool true :: (SV.tuple [SV.map 4 nb, SV.bool true] :: (SV.ptr 0 b 0 :: (SV.ptr 0 b 0 :: (SV.ptr 0 b 0 :: (SV.map 1 s.1 :: (SV.str n :: (SV.tuple [SV.map 4 nb, SV.bool true] :: (SV.map 4 nb :: (SV.bool true :: (SV.bool true :: (SV.bool false :: (SV.bool false :: (SV.int IntKind.i64 pid :: (SV.bool (decide (pid < (2 : Int))) :: (SV.bool false :: (SV.map 4 nb :: (SV.int IntKind.i64 pid :: (SV.bool false :: (rawE [] 12)))))))))))))))))))))) 3))))
          [Ent.mk (Loc.blk b) (SObj.cells [SV.map 1 s.1, SV.map 2 s.2, SV.vec 3 s.ao (List.length s.7) s.4] (118 : TypeId)),
           Ent.mk (Loc.blk s.1) (SObj.map1 (@none IntKind) encG s.5 (Key.s n) (some (SV.map 4 nb))), Ent.mk (Loc.blk s.2) (SObj.mapL (some IntKind.i64) encO s.6),
           Ent.mk (Loc.sl s.ao s.4) (SObj.vecL (9 : TypeId) 1 encS s.7 ByteArray.empty), Ent.mk (Loc.blk nb) (SObj.mapL (some IntKind.i64) encU ms), pk 0 rest,
           Ent.mk (Loc.blk b_1) (SObj.cells [] 145)])) := by kernel_rfl


theorem gPut_mid (K : List Frm → Sy → Prop) (N : List Ent → SV → Prop) (s : Grp) (b nb : Nat) (pid : Int) (n : ByteArray) (u : Nat → Value) : (run Try.prog [(15, adtC grpE goneM)] false [7] K (retP Try.prog Try.f16.results.toList N) 900 (frmR [] (bodyOf Try.f16) 6) ⟨mkT u 39 0 [(0, .ptr 0 b 0), (1, .int .i64 pid), (2, .str n), (7, .map 4 nb)], [pkA b grpE s]⟩) = (
true = true ∧
 b = b ∧
  ∃ (h : Grp = Grp),
   AdtIs (fun (s : Grp) (b : Nat) ↦ packs (grpE s b)) grpE ∧
    gOk s pid ∧
     ∀ (ao : Option Addr) (cap : Nat),
      K (frmR [] (bodyOf Try.f16) 7)
       (Sy.mk (SV.ptr 0 b 0 :: (SV.int IntKind.i64 pid :: (SV.str n :: (rawR u 3 (SV.map 4 nb :: (rawR u 8 (SV.ptr 0 b 0 :: (SV.int IntKind.i64 pid :: (SV.bool (gGone s pid ao cap).2 :: (rawR u 30 [] 9)))) 19)) 4))))
        [pkA b grpE (gGone s pid ao cap).1])) := by kernel_rfl


theorem gPut_end (K : List Frm → Sy → Prop) (N : List Ent → SV → Prop) (s : Grp) (b : Nat) (pid : Int) (n : ByteArray) (nb : Nat) (ms : List (Key × Unit)) (rest : List Ent) (u : Nat → Value) : (run Try.prog gT2 false [] K (retP Try.prog Try.f16.results.toList N) 900 (frmR [] (bodyOf Try.f16) 7) ⟨mkT u 39 0 [(0, .ptr 0 b 0), (1, .int .i64 pid), (2, .str n), (7, .map 4 nb)], [⟨.blk b, .cells [.map 1 s.bg, .map 2 s.bo, .vec 3 s.ao s.notes.length s.cap] 118⟩, ⟨.blk s.bg, .mapL none encG s.gs⟩, ⟨.blk s.bo, .mapL (some .i64) encO s.of⟩, ⟨.sl s.ao s.cap, .vecL 9 1 encS s.notes ByteArray.empty⟩, ⟨.blk nb, .mapL (some .i64) encU ms⟩, pk 0 rest]⟩) = (
true = true ∧
 (true = true ∧ true = true) ∧
  (nb = nb ∧ some IntKind.i64 = some IntKind.i64 ∧ some IntKind.i64 = some IntKind.i64) ∧
   ∃ (u : Unit),
    den (SV.agg []) = den (SV.agg []) ∧
     b = b ∧
      (s.2 = s.2 ∧ some IntKind.i64 = some IntKind.i64 ∧ some IntKind.i64 = some IntKind.i64) ∧
       ∃ (u_1 : ByteArray),
        den (SV.str u_1) = den (SV.str n) ∧
         N
          [Ent.mk (Loc.blk b) (SObj.cells [SV.map 1 s.1, SV.map 2 s.2, SV.vec 3 s.ao (List.length s.7) s.4] (118 : TypeId)),
           Ent.mk (Loc.blk s.1) (SObj.mapL (@none IntKind) encG s.5), Ent.mk (Loc.blk s.2) (SObj.mapL (some IntKind.i64) encO (mset s.6 (Key.i IntKind.i64 pid) u_1)),
           Ent.mk (Loc.sl s.ao s.4) (SObj.vecL (9 : TypeId) 1 encS s.7 ByteArray.empty), Ent.mk (Loc.blk nb) (SObj.mapL (some IntKind.i64) encU (mset ms (Key.i IntKind.i64 pid) u)),
           pk 0 rest]
          (SV.int IntKind.i64 (0 : Int))) := by kernel_rfl


theorem gRem_none (K : List Frm → Sy → Prop) (N : List Ent → SV → Prop) (s : Grp) (b : Nat) (n : ByteArray) (rest : List Ent) : (run Try.prog gT3 false [] K (retP Try.prog Try.f60.results.toList N) 600 [.code (bodyOf Try.f60)] ⟨padTo 35 [.ptr 0 b 0, .str n], [⟨.blk b, .cells [.map 1 s.bg, .map 2 s.bo, .vec 3 s.ao s.notes.length s.cap] 118⟩, ⟨.blk s.bg, .map1 none encG s.gs (.s n) none⟩, ⟨.blk s.bo, .mapL (some .i64) encO s.of⟩, ⟨.sl s.ao s.cap, .vecL 9 1 encS s.notes ByteArray.empty⟩, pk 0 rest]⟩) = (
true = true ∧
 ∀ (b_1 : Nat),
  b = b ∧
   b_1 = b_1 ∧
    (s.1 = s.1 ∧ Key.s n = Key.s n ∧ @none IntKind = @none IntKind) ∧
     N
      [Ent.mk (Loc.blk b) (SObj.cells [SV.map 1 s.1, SV.map 2 s.2, SV.vec 3 s.ao (List.length s.7) s.4] (118 : TypeId)),
       Ent.mk (Loc.blk s.1) (SObj.map1 (@none IntKind) encG s.5 (Key.s n) (@none SV)), Ent.mk (Loc.blk s.2) (SObj.mapL (some IntKind.i64) encO s.6),
       Ent.mk (Loc.sl s.ao s.4) (SObj.vecL (9 : TypeId) 1 encS s.7 ByteArray.empty), pk 0 rest, Ent.mk (Loc.blk b_1) (SObj.cells [SV.str n] 9)]
      (SV.int IntKind.i64 (90 : Int))) := by kernel_rfl


theorem gRem_some (K : List Frm → Sy → Prop) (N : List Ent → SV → Prop) (s : Grp) (b : Nat) (n : ByteArray) (nb : Nat) (ms : List (Key × Unit)) (rest : List Ent) : (run Try.prog gT3 false [] K (retP Try.prog Try.f60.results.toList N) 600 [.code (bodyOf Try.f60)] ⟨padTo 35 [.ptr 0 b 0, .str n], [⟨.blk b, .cells [.map 1 s.bg, .map 2 s.bo, .vec 3 s.ao s.notes.length s.cap] 118⟩, ⟨.blk s.bg, .map1 none encG s.gs (.s n) (some (.map 4 nb))⟩, ⟨.blk s.bo, .mapL (some .i64) encO s.of⟩, ⟨.sl s.ao s.cap, .vecL 9 1 encS s.notes ByteArray.empty⟩, ⟨.blk nb, .mapL (some .i64) encU ms⟩, pk 0 rest]⟩) = (
true = true ∧
 ∀ (b_1 : Nat),
  b = b ∧
   b_1 = b_1 ∧
    (s.1 = s.1 ∧ Key.s n = Key.s n ∧ @none IntKind = @none IntKind) ∧
     nb = nb ∧
      match decide ((↑(List.length ms) : Int) > (0 : Int)) with
      | true =>
       N
        [Ent.mk (Loc.blk b) (SObj.cells [SV.map 1 s.1, SV.map 2 s.2, SV.vec 3 s.ao (List.length s.7) s.4] (118 : TypeId)),
         Ent.mk (Loc.blk s.1) (SObj.map1 (@none IntKind) encG s.5 (Key.s n) (some (SV.map 4 nb))), Ent.mk (Loc.blk s.2) (SObj.mapL (some IntKind.i64) encO s.6),
         Ent.mk (Loc.sl s.ao s.4) (SObj.vecL (9 : TypeId) 1 encS s.7 ByteArray.empty), Ent.mk (Loc.blk nb) (SObj.mapL (some IntKind.i64) encU ms), pk 0 rest,
         Ent.mk (Loc.blk b_1) (SObj.cells [SV.str n] 9)]
        (SV.int IntKind.i64 (91 : Int))
      | false =>
       b = b ∧
        b_1 = b_1 ∧
         (s.1 = s.1 ∧ @none IntKind = @none IntKind ∧ @none IntKind = @none IntKind) ∧
          b = b ∧
           true = true ∧
            91 = (91 : FuncId) ∧
             ∃ (xs : List ByteArray),
              ∃ (nm : ByteArray),
               some (Ent.mk (Loc.sl s.ao s.4) (SObj.vecL (9 : TypeId) 1 encS s.7 ByteArray.empty)) =
                some (Ent.mk (Loc.sl s.ao s.4) (SObj.vecL (9 : TypeId) 1 encS xs ByteArray.empty)) ∧
                some (Ent.mk (Loc.blk b_1) (SObj.cells [SV.str n] 9)) = some (Ent.mk (Loc.blk b_1) (SObj.cells [SV.str nm] (9 : TypeId))) ∧
                 (false = false ∧ List.length s.7 = List.length xs ∧ List.length xs ≤ 1000000000) ∧
                  (b = b ∧ true = true ∧ 1 = 1 ∧ 3 ≤ 3) ∧
                   N
                    [Ent.mk (Loc.blk b)
                     (SObj.cells [SV.map 1 s.1, SV.map 2 s.2, SV.vec 3 s.ao (List.length (List.filter (fun (x : ByteArray) ↦ !sEq x nm) xs)) s.4]
                      (118 : TypeId)),
                     Ent.mk (Loc.blk s.1) (SObj.mapL (@none IntKind) encG (mdel s.5 (Key.s n))), Ent.mk (Loc.blk s.2) (SObj.mapL (some IntKind.i64) encO s.6),
                     Ent.mk (Loc.sl s.ao s.4) (SObj.vecL (9 : TypeId) 1 encS (List.filter (fun (x : ByteArray) ↦ !sEq x nm) xs) ByteArray.empty),
                     Ent.mk (Loc.blk nb) (SObj.mapL (some IntKind.i64) encU ms), pk 0 rest, Ent.mk (Loc.blk b_1) (SObj.cells [SV.str n] 9)]
                    (SV.int IntKind.i64 (0 : Int))) := by kernel_rfl


theorem gEm_head (K : List Frm → Sy → Prop) (N : List Ent → SV → Prop) (J : Act → World → Prop) (s : Grp) (b : Nat) (rest : List Ent) (u : Nat → Value) : (run Try.prog [] false [4] K (retP Try.prog Try.f19.results.toList N) 900 (frm [J] (bodyOf Try.f19) [1, 0, 0, 0] []) ⟨mkT u 34 0 [(0, .ptr 0 b 0), (2, .str ⟨#[]⟩), (3, .bool false)], [⟨.blk b, .cells [.map 1 s.bg, .map 2 s.bo, .vec 3 s.ao s.notes.length s.cap] 118⟩, ⟨.blk s.bg, .mapL none encG s.gs⟩, ⟨.blk s.bo, .mapL (some .i64) encO s.of⟩, ⟨.sl s.ao s.cap, .vecL 9 1 encS s.notes ByteArray.empty⟩, pk 0 rest]⟩) = (
b = b ∧
 match decide ((↑(List.length s.7) : Int) > (0 : Int)) with
 | true =>
  b = b ∧
   (s.ao = s.ao ∧ s.4 = s.4 ∧ List.length s.7 = List.length s.7 ∧ (0 : Int) ≤ (0 : Int) ∧ (0 : Int) < (↑(List.length s.7) : Int)) ∧
    (Addr.blkD s.ao = Addr.blkD s.ao ∧ Addr.offD s.ao = Addr.offD s.ao ∧ 1 = 1 ∧ 0 < List.length s.7) ∧
     b = b ∧
      ((0 : Int) ≤ (1 : Int) ∧ (1 : Int) ≤ (↑(List.length s.7) : Int) ∧ List.length s.7 ≤ s.4) ∧
       (b = b ∧ true = true ∧ 1 = 1 ∧ 3 ≤ 3) ∧
        K (frmR [J] (bodyOf Try.f19) 4)
         (Sy.mk (SV.ptr 0 b 0 :: (SV.raw (u 1) :: (SV.str (ByteArray.mk #[]) :: (SV.bool false :: (SV.str (List.getD s.7 0 ByteArray.empty) :: (SV.ptr 0 b 0 :: (SV.ptr 0 b 0 :: (SV.ptr 0 b 2 :: (SV.vec 3 s.ao (List.length s.7) s.4 :: (SV.int IntKind.i64 (↑(List.length s.7) : Int) :: (SV.bool true :: (SV.ptr 0 b 0 :: (SV.ptr 0 b 0 :: (SV.ptr 0 b 2 :: (SV.vec 3 s.ao (List.length s.7) s.4 :: (SV.eptr 3 (Addr.blkD s.ao) (Addr.offD s.ao) 1 0 0 :: (SV.str (List.getD s.7 0 ByteArray.empty) :: (SV.ptr 0 b 0 :: (SV.ptr 0 b 0 :: (SV.ptr 0 b 0 :: (SV.ptr 0 b 2 :: (SV.vec 3 s.ao (List.length s.7) s.4 :: (SV.sub 3 s.ao s.4 1 1 (List.length s.7) :: (SV.ptr 0 b 0 :: (SV.ptr 0 b 2 :: (rawR u 25 [] 9))))))))))))))))))))))))))
          [Ent.mk (Loc.blk b) (SObj.cells [SV.map 1 s.1, SV.map 2 s.2, SV.sub 3 s.ao s.4 1 1 (List.length s.7)] (118 : TypeId)),
           Ent.mk (Loc.blk s.1) (SObj.mapL (@none IntKind) encG s.5), Ent.mk (Loc.blk s.2) (SObj.mapL (some IntKind.i64) encO s.6),
           Ent.mk (Loc.sl s.ao s.4) (SObj.vecL (9 : TypeId) 1 encS s.7 ByteArray.empty), pk 0 rest])
 | false =>
  N
   [Ent.mk (Loc.blk b) (SObj.cells [SV.map 1 s.1, SV.map 2 s.2, SV.vec 3 s.ao (List.length s.7) s.4] (118 : TypeId)),
    Ent.mk (Loc.blk s.1) (SObj.mapL (@none IntKind) encG s.5), Ent.mk (Loc.blk s.2) (SObj.mapL (some IntKind.i64) encO s.6),
    Ent.mk (Loc.sl s.ao s.4) (SObj.vecL (9 : TypeId) 1 encS s.7 ByteArray.empty), pk 0 rest]
   (SV.tuple [SV.str (ByteArray.mk #[]), SV.bool false])) := by kernel_rfl


theorem gEm_none (K : List Frm → Sy → Prop) (N : List Ent → SV → Prop) (J0 : Act → World → Prop) (s : Grp) (b : Nat) (n : ByteArray) (rest : List Ent) (u : Nat → Value) : (run Try.prog [] false [] K (retP Try.prog Try.f19.results.toList N) 900 (frmR [J0] (bodyOf Try.f19) 4) ⟨mkT u 34 0 [(0, .ptr 0 b 0), (2, .str ⟨#[]⟩), (3, .bool false), (4, .str n)], [⟨.blk b, .cells [.map 1 s.bg, .map 2 s.bo, .vec 3 s.ao s.notes.length s.cap] 118⟩, ⟨.blk s.bg, .map1 none encG s.gs (.s n) none⟩, ⟨.blk s.bo, .mapL (some .i64) encO s.of⟩, ⟨.sl s.ao s.cap, .vecL 9 1 encS s.notes ByteArray.empty⟩, pk 0 rest]⟩) = (
b = b ∧
 (s.1 = s.1 ∧ Key.s n = Key.s n ∧ @none IntKind = @none IntKind) ∧
  N
   [Ent.mk (Loc.blk b) (SObj.cells [SV.map 1 s.1, SV.map 2 s.2, SV.vec 3 s.ao (List.length s.7) s.4] (118 : TypeId)),
    Ent.mk (Loc.blk s.1) (SObj.map1 (@none IntKind) encG s.5 (Key.s n) (@none SV)), Ent.mk (Loc.blk s.2) (SObj.mapL (some IntKind.i64) encO s.6),
    Ent.mk (Loc.sl s.ao s.4) (SObj.vecL (9 : TypeId) 1 encS s.7 ByteArray.empty), pk 0 rest]
   (SV.tuple [SV.str n, SV.bool true])) := by kernel_rfl


theorem gEm_some (K : List Frm → Sy → Prop) (N : List Ent → SV → Prop) (J0 : Act → World → Prop) (s : Grp) (b : Nat) (n : ByteArray) (nb : Nat) (ms : List (Key × Unit)) (rest : List Ent) (u : Nat → Value) : (run Try.prog [] false [] K (retP Try.prog Try.f19.results.toList N) 900 (frmR [J0] (bodyOf Try.f19) 4) ⟨mkT u 34 0 [(0, .ptr 0 b 0), (2, .str ⟨#[]⟩), (3, .bool false), (4, .str n)], [⟨.blk b, .cells [.map 1 s.bg, .map 2 s.bo, .vec 3 s.ao s.notes.length s.cap] 118⟩, ⟨.blk s.bg, .map1 none encG s.gs (.s n) (some (.map 4 nb))⟩, ⟨.blk s.bo, .mapL (some .i64) encO s.of⟩, ⟨.sl s.ao s.cap, .vecL 9 1 encS s.notes ByteArray.empty⟩, ⟨.blk nb, .mapL (some .i64) encU ms⟩, pk 0 rest]⟩) = (
b = b ∧
 (s.1 = s.1 ∧ Key.s n = Key.s n ∧ @none IntKind = @none IntKind) ∧
  nb = nb ∧
   match (↑(List.length ms) : Int) == (0 : Int) with
   | true =>
    N
     [Ent.mk (Loc.blk b) (SObj.cells [SV.map 1 s.1, SV.map 2 s.2, SV.vec 3 s.ao (List.length s.7) s.4] (118 : TypeId)),
      Ent.mk (Loc.blk s.1) (SObj.map1 (@none IntKind) encG s.5 (Key.s n) (some (SV.map 4 nb))), Ent.mk (Loc.blk s.2) (SObj.mapL (some IntKind.i64) encO s.6),
      Ent.mk (Loc.sl s.ao s.4) (SObj.vecL (9 : TypeId) 1 encS s.7 ByteArray.empty), Ent.mk (Loc.blk nb) (SObj.mapL (some IntKind.i64) encU ms), pk 0 rest]
     (SV.tuple [SV.str n, SV.bool true])
   | false =>
    K (Frm.loop J0 :: Frm.blk 0 :: frm [] (bodyOf Try.f19) [1, 1] [])
     (Sy.mk (SV.ptr 0 b 0 :: (SV.raw (u 1) :: (SV.str (ByteArray.mk #[]) :: (SV.bool false :: (SV.str n :: (rawR u 5 (SV.ptr 0 b 0 :: (SV.ptr 0 b 0 :: (SV.ptr 0 b 0 :: (SV.map 1 s.1 :: (SV.str n :: (SV.map 4 nb :: (SV.int IntKind.i64 (↑(List.length ms) : Int) :: (SV.bool false :: (SV.raw (u 33) :: []))))))))) 20))))))
      [Ent.mk (Loc.blk b) (SObj.cells [SV.map 1 s.1, SV.map 2 s.2, SV.vec 3 s.ao (List.length s.7) s.4] (118 : TypeId)),
       Ent.mk (Loc.blk s.1) (SObj.map1 (@none IntKind) encG s.5 (Key.s n) (some (SV.map 4 nb))), Ent.mk (Loc.blk s.2) (SObj.mapL (some IntKind.i64) encO s.6),
       Ent.mk (Loc.sl s.ao s.4) (SObj.vecL (9 : TypeId) 1 encS s.7 ByteArray.empty), Ent.mk (Loc.blk nb) (SObj.mapL (some IntKind.i64) encU ms), pk 0 rest])) := by kernel_rfl


theorem gEm_start (K : List Frm → Sy → Prop) (N : List Ent → SV → Prop) (s : Grp) (b : Nat) (rest : List Ent) : (run Try.prog [] false [] K (retP Try.prog Try.f19.results.toList N) 600 [.code (bodyOf Try.f19)] ⟨padTo 34 [.ptr 0 b 0], [⟨.blk b, .cells [.map 1 s.bg, .map 2 s.bo, .vec 3 s.ao s.notes.length s.cap] 118⟩, ⟨.blk s.bg, .mapL none encG s.gs⟩, ⟨.blk s.bo, .mapL (some .i64) encO s.of⟩, ⟨.sl s.ao s.cap, .vecL 9 1 encS s.notes ByteArray.empty⟩, pk 0 rest]⟩) = (
K (frm [] (bodyOf Try.f19) [1, 0, 0] [])
 (Sy.mk (SV.ptr 0 b 0 :: (SV.raw (Value.tuple #[]) :: (SV.str (ByteArray.mk #[]) :: (SV.bool false :: (rawE [] 30)))))
  [Ent.mk (Loc.blk b) (SObj.cells [SV.map 1 s.1, SV.map 2 s.2, SV.vec 3 s.ao (List.length s.7) s.4] (118 : TypeId)),
   Ent.mk (Loc.blk s.1) (SObj.mapL (@none IntKind) encG s.5), Ent.mk (Loc.blk s.2) (SObj.mapL (some IntKind.i64) encO s.6),
   Ent.mk (Loc.sl s.ao s.4) (SObj.vecL (9 : TypeId) 1 encS s.7 ByteArray.empty), pk 0 rest])) := by kernel_rfl


theorem gNew_run (K : List Frm → Sy → Prop) (N : List Ent → SV → Prop) : (run Try.prog [] false [] K (retP Try.prog Try.f13.results.toList N) 600 [.code (bodyOf Try.f13)] ⟨padTo 5 [], []⟩) = (
∀ (b b_1 : Nat),
 (true = true ∧ true = true) ∧
  true = true ∧
   ∀ (b_2 : Nat),
    N
     [Ent.mk (Loc.blk b) (SObj.mapV (@none IntKind) []), Ent.mk (Loc.blk b_1) (SObj.mapV (some IntKind.i64) []),
      Ent.mk (Loc.blk b_2) (SObj.cells [SV.map 0 b, SV.map 1 b_1, SV.raw (Value.slice (@none Addr) 0 0)] 118)]
     (SV.ptr 2 b_2 0)) := by kernel_rfl
end Go.Proofs.Ytihajdkipkfiiaa

/- YtihajdkipkfiiaaGrp1 -/
/- slices.Index, IndexFunc, DeleteFunc at texts. -/
namespace Go.Proofs.Ytihajdkipkfiiaa
universe u
open Go Go.RowKit
set_option linter.unusedVariables false
set_option linter.unusedSimpArgs false
set_option linter.unnecessarySimpa false
set_option maxHeartbeats 0

theorem hmG : Try.prog.follows .mixedOrders = true := by kernel_rfl

/-! ### slices.Index, Contains, IndexFunc, DeleteFunc -/
theorem getD_lt {α : Type} (xs : List α) (d : α) (i : Nat) (h : i < xs.length) : xs.getD i d = xs[i] := by simp [List.getD, h]
theorem idxFrom_drop {α : Type} (p : α → Bool) (d : α) (xs : List α) (i : Nat) (h : i < xs.length) : idxFrom p (xs.drop i) i = match p (xs.getD i d) with | true => (i : Int) | false => idxFrom p (xs.drop (i + 1)) ((i + 1 : Nat) : Int) := by
  have e : xs.drop i = xs.getD i d :: xs.drop (i + 1) := by
    rw [List.drop_eq_getElem_cons h, getD_lt _ _ _ h]
  rw [e]
  simp only [idxFrom]
  cases p (xs.getD i d) <;> simp
theorem idxFrom_lt {α : Type} (p : α → Bool) : ∀ (xs : List α) (i : Int), idxFrom p xs i = -1 ∨ i ≤ idxFrom p xs i ∧ idxFrom p xs i < i + xs.length
  | [], i => .inl rfl
  | x :: l, i => by
    simp only [idxFrom]
    cases p x with
    | true => right; simp only [List.length_cons]; omega
    | false =>
      rcases idxFrom_lt p l (i + 1) with h | h
      · exact .inl h
      · right; simp only [List.length_cons]; omega
theorem idxFrom_none {α : Type} (p : α → Bool) : ∀ (xs : List α) (i : Int), 0 ≤ i → (idxFrom p xs i = -1 ↔ ∀ x ∈ xs, p x = false)
  | [], i, _ => by simp [idxFrom]
  | x :: l, i, h => by
    simp only [idxFrom]
    cases hp : p x with
    | true => simp [hp]; omega
    | false => simp [hp, idxFrom_none p l (i + 1) (by omega)]
theorem idxFrom_first {α : Type} (p : α → Bool) (d : α) : ∀ (xs : List α) (i : Int) (k : Nat), idxFrom p xs i = i + k → 0 ≤ i → k < xs.length ∧ p (xs.getD k d) = true ∧ ∀ x ∈ xs.take k, p x = false
  | [], i, k, h, h0 => by simp [idxFrom] at h; omega
  | x :: l, i, k, h, h0 => by
    simp only [idxFrom] at h
    cases hp : p x with
    | true =>
      rw [hp] at h
      have : k = 0 := by simp only at h; omega
      subst this; simp [hp]
    | false =>
      rw [hp] at h
      simp only at h
      cases k with
      | zero =>
        rcases idxFrom_lt p l (i + 1) with h1 | h1 <;> omega
      | succ k =>
        obtain ⟨h1, h2, h3⟩ := idxFrom_first p d l (i + 1) k (by rw [h]; push_cast; omega) (by omega)
        refine ⟨by simpa using h1, by simpa using h2, fun y hy => ?_⟩
        rw [List.take_succ_cons, List.mem_cons] at hy
        rcases hy with rfl | hy
        · exact hp
        · exact h3 y hy


theorem idxS_spec (ao : Option Addr) (cap : Nat) (xs : List ByteArray) (v : ByteArray) (hx : xs.length ≤ 1000000000) : Spec Try.prog 95 [⟨.sl ao cap, .vecL 9 1 encS xs ByteArray.empty⟩] [.vec 0 ao xs.length cap, .str v] fun h' r => h' = [⟨.sl ao cap, .vecL 9 1 encS xs ByteArray.empty⟩] ∧ r = .int .i64 (idxFrom (sEq v) xs 0) := by
  refine Spec.of_G 19 Try.func95 (c := bodyOf Try.f95) (by kernel_rfl) (by kernel_rfl) (Nat.le_of_ble_eq_true rfl) fun W F => ?_
  refine G_run (kc := false) (ss := []) (Cs := []) trivial hmG 300 ?_
  rw [idxS_start]
  refine G_loopAt (ι := Nat) [] (bodyOf Try.f95) [1, 0, 1, 0] 19 (fun i => [(0, .vec 0 ao xs.length cap), (1, .str v), (7, .int .i64 (xs.length : Int)), (8, .int .i64 (i : Int))]) (fun _ => [⟨.sl ao cap, .vecL 9 1 encS xs ByteArray.empty⟩]) (fun i => i ≤ xs.length ∧ idxFrom (sEq v) (xs.drop i) i = idxFrom (sEq v) xs 0) (fun i => xs.length - i) 0 (by kernel_rfl) (fun J => by kernel_rfl) ⟨Nat.zero_le _, rfl⟩ rfl ⟨rfl, rfl, rfl, rfl, trivial⟩ (fun w hw => hw) fun i hi u => ?_
  obtain ⟨h1, h2⟩ := hi
  simp only [List.nil_append, List.cons_append]
  refine G_run (kc := false) (ss := []) (Cs := []) trivial hmG 900 ?_
  rw [idxS_body]
  cases hlt : decide ((i : Int) < (xs.length : Int)) with
  | false =>
    simp only [decide_eq_false_iff_not] at hlt
    have hi : i = xs.length := by omega
    subst hi
    rw [List.drop_length] at h2
    exact ⟨rfl, by rw [← h2]; rfl⟩
  | true =>
    simp only [decide_eq_true_eq] at hlt
    have hlt' : i < xs.length := by omega
    rw [idxFrom_drop _ ByteArray.empty _ _ hlt'] at h2
    have e1 : Int.toNat (i : Int) = i := by omega
    have e2 : IntKind.wrap .i64 ((i : Int) + 1) = ((i + 1 : Nat) : Int) := IntWalk.i64_in _ (by omega)
    rw [e1, e2]
    refine ⟨⟨rfl, rfl, rfl, by omega, by omega⟩, ⟨rfl, rfl, rfl, hlt'⟩, ?_⟩
    skip
    cases hp : sEq v (xs.getD i ByteArray.empty) with
    | true =>
      simp only [hp] at h2
      exact ⟨rfl, by rw [← h2]⟩
    | false =>
      simp only [hp] at h2
      exact G_back (i + 1) ⟨by omega, h2⟩ (by omega) rfl ⟨rfl, rfl, rfl, rfl, trivial⟩ (fun w hw => hw)

theorem gT0_ok : AllOk Try.prog gT0 := ⟨inl_ok trivial hmG Try.func91 (by kernel_rfl), trivial⟩

theorem idxF_spec (ao : Option Addr) (cap : Nat) (xs : List ByteArray) (b : Nat) (nm : ByteArray) (hx : xs.length ≤ 1000000000) : Spec Try.prog 108 [⟨.sl ao cap, .vecL 9 1 encS xs ByteArray.empty⟩, ⟨.blk b, .cells [.str nm] 9⟩] [.vec 0 ao xs.length cap, .func (.func 91) [] [.ptr 1 b 0]] fun h' r => h' = [⟨.sl ao cap, .vecL 9 1 encS xs ByteArray.empty⟩, ⟨.blk b, .cells [.str nm] 9⟩] ∧ r = .int .i64 (idxFrom (fun x => sEq x nm) xs 0) := by
  refine Spec.of_G 19 Try.func108 (c := bodyOf Try.f108) (by kernel_rfl) (by kernel_rfl) (Nat.le_of_ble_eq_true rfl) fun W F => ?_
  refine G_run (kc := false) (ss := []) gT0_ok hmG 300 ?_
  rw [idxF_start]
  refine G_loopAt (ι := Nat) [] (bodyOf Try.f108) [1, 0, 1, 0] 19 (fun i => [(0, .vec 0 ao xs.length cap), (1, .func (.func 91) [] [.ptr 1 b 0]), (7, .int .i64 (xs.length : Int)), (8, .int .i64 (i : Int))]) (fun _ => [⟨.sl ao cap, .vecL 9 1 encS xs ByteArray.empty⟩, ⟨.blk b, .cells [.str nm] 9⟩]) (fun i => i ≤ xs.length ∧ idxFrom (fun x => sEq x nm) (xs.drop i) i = idxFrom (fun x => sEq x nm) xs 0) (fun i => xs.length - i) 0 (by kernel_rfl) (fun J => by kernel_rfl) ⟨Nat.zero_le _, rfl⟩ rfl ⟨rfl, rfl, rfl, rfl, trivial⟩ (fun w hw => hw) fun i hi u => ?_
  obtain ⟨h1, h2⟩ := hi
  simp only [List.nil_append, List.cons_append]
  refine G_run (kc := false) (ss := []) gT0_ok hmG 900 ?_
  rw [idxF_body]
  cases hlt : decide ((i : Int) < (xs.length : Int)) with
  | false =>
    simp only [decide_eq_false_iff_not] at hlt
    have hi : i = xs.length := by omega
    subst hi
    rw [List.drop_length] at h2
    exact ⟨rfl, by rw [← h2]; rfl⟩
  | true =>
    simp only [decide_eq_true_eq] at hlt
    have hlt' : i < xs.length := by omega
    rw [idxFrom_drop _ ByteArray.empty _ _ hlt'] at h2
    have e1 : Int.toNat (i : Int) = i := by omega
    have e2 : IntKind.wrap .i64 ((i : Int) + 1) = ((i + 1 : Nat) : Int) := IntWalk.i64_in _ (by omega)
    rw [e1, e2]
    refine ⟨⟨rfl, rfl, rfl, by omega, by omega⟩, ⟨rfl, rfl, rfl, hlt'⟩, ?_⟩
    refine ⟨rfl, rfl, ?_⟩
    cases hp : sEq (xs.getD i ByteArray.empty) nm with
    | true =>
      simp only [hp] at h2
      exact ⟨rfl, by rw [← h2]⟩
    | false =>
      simp only [hp] at h2
      exact G_back (i + 1) ⟨by omega, h2⟩ (by omega) rfl ⟨rfl, rfl, rfl, rfl, trivial⟩ (fun w hw => hw)

theorem setN_self {α : Type u} {l : Nat} {v : α} : ∀ {h : List α}, nth h l = some v → setN h l v = h := by
  induction l with
  | zero => intro h hl; cases h <;> simp [nth, setN] at hl ⊢; exact hl.symm
  | succ l ih => intro h hl; cases h <;> simp [nth, setN] at hl ⊢; exact ih hl

theorem idxS_ok : CtrOk Try.prog 95 (idxSC 9) := by
  intro args hs N h
  unfold idxSC at h
  split at h
  · rename_i l ao n cap v
    obtain ⟨xs, hl, rfl, hx, h⟩ := h
    refine Spec.at (hp := [⟨.sl ao cap, .vecL 9 1 encS xs ByteArray.empty⟩]) (args' := [.vec 0 ao xs.length cap, .str v]) [l] (by simp [distinct]) (by simp [pickE, hl]) (idxS_spec ao cap xs v hx) rfl ?_
    rintro h' r ⟨rfl, rfl⟩
    refine ⟨Nat.le_refl _, _, rfl, ?_⟩
    simpa [putBack, appE_eq, setN_self hl] using h
  · exact h.elim

theorem ne_of_beq {a b : Nat} (h : Nat.beq a b = false) : a ≠ b := fun e => by subst e; simp at h

theorem idxF_ok : CtrOk Try.prog 108 (idxFC 9 91) := by
  intro args hs N h
  unfold idxFC at h
  split at h
  · rename_i l ao n cap g lb b
    obtain ⟨rfl, xs, nm, hl, hlb, ⟨hne, rfl, hx⟩, h⟩ := h
    refine Spec.at (hp := [⟨.sl ao cap, .vecL 9 1 encS xs ByteArray.empty⟩, ⟨.blk b, .cells [.str nm] 9⟩]) (args' := [.vec 0 ao xs.length cap, .func (.func 91) [] [.ptr 1 b 0]]) [l, lb] (by simpa [distinct] using ne_of_beq hne) (by simp [pickE, hl, hlb]) (idxF_spec ao cap xs b nm hx) rfl ?_
    rintro h' r ⟨rfl, rfl⟩
    refine ⟨Nat.le_refl _, _, rfl, ?_⟩
    simpa [putBack, appE_eq, setN_self hl, setN_self hlb] using h
  · exact h.elim

theorem gT0d_ok : AllOk Try.prog gT0d := ⟨idxF_ok, gT0_ok⟩

theorem filter_take_succ {α : Type} (q : α → Bool) (d : α) (xs : List α) (j : Nat) (h : j < xs.length) : (xs.take (j + 1)).filter q = (xs.take j).filter q ++ if q (xs.getD j d) then [xs.getD j d] else [] := by
  rw [List.take_succ_eq_append_getElem h, List.filter_append, getD_lt _ _ _ h]
  congr 1
  simp [List.filter_cons]

theorem delF_spec (ao : Option Addr) (cap : Nat) (xs : List ByteArray) (b : Nat) (nm : ByteArray) (hx : xs.length ≤ 1000000000) : Spec Try.prog 90 [⟨.sl ao cap, .vecL 9 1 encS xs ByteArray.empty⟩, ⟨.blk b, .cells [.str nm] 9⟩] [.vec 0 ao xs.length cap, .func (.func 91) [] [.ptr 1 b 0]] fun h' r => h' = [⟨.sl ao cap, .vecL 9 1 encS (xs.filter fun x => !sEq x nm) ByteArray.empty⟩, ⟨.blk b, .cells [.str nm] 9⟩] ∧ den r = den (.vec 0 ao (xs.filter fun x => !sEq x nm).length cap) := by
  refine Spec.of_G 42 Try.func90 (c := bodyOf Try.f90) (by kernel_rfl) (by kernel_rfl) (Nat.le_of_ble_eq_true rfl) fun W F => ?_
  refine G_vec (l := 0) rfl fun hcap _ => ?_
  refine G_run (kc := false) (ss := []) gT0d_ok hmG 600 ?_
  rw [delF_start]
  refine ⟨rfl, rfl, xs, nm, rfl, rfl, ⟨rfl, rfl, hx⟩, ?_⟩
  have hm : (idxFrom (fun x => sEq x nm) xs 0 == -1) = true ∨ ∃ i0 : Nat, idxFrom (fun x => sEq x nm) xs 0 = i0 ∧ i0 < xs.length ∧ sEq (xs.getD i0 ByteArray.empty) nm = true ∧ ∀ x ∈ xs.take i0, sEq x nm = false := by
    rcases idxFrom_lt (fun x => sEq x nm) xs 0 with h | h
    · exact .inl (by rw [h]; rfl)
    · obtain ⟨i0, hi0⟩ := Int.eq_ofNat_of_zero_le h.1
      obtain ⟨h1, h2, h3⟩ := idxFrom_first (fun x => sEq x nm) ByteArray.empty xs 0 i0 (by rw [hi0]; simp) (by omega)
      exact .inr ⟨i0, hi0, h1, h2, h3⟩
  rcases hm with hm | ⟨i0, hi0, hlt0, hp0, hall⟩
  · rw [hm]
    have hno := (idxFrom_none (fun x => sEq x nm) xs 0 (by omega)).1 (by simpa using hm)
    have : xs.filter (fun x => !sEq x nm) = xs := List.filter_eq_self.2 fun x hx => by rw [hno x hx]; rfl
    rw [this]
    exact ⟨rfl, rfl⟩
  · have hne : (idxFrom (fun x => sEq x nm) xs 0 == -1) = false := by rw [hi0]; simp
    rw [hne, hi0]
    have e1 : IntKind.wrap .i64 ((i0 : Int) + 1) = ((i0 + 1 : Nat) : Int) := IntWalk.i64_in _ (by omega)
    rw [e1]
    have hf0 : (xs.take i0).filter (fun x => !sEq x nm) = xs.take i0 := List.filter_eq_self.2 fun x hx => by rw [hall x hx]; rfl
    refine G_loopAt (ι := List ByteArray × Nat × Nat) [] (bodyOf Try.f90) [1, 1, 1, 0, 1, 0] 42 (fun s => [(0, .vec 0 ao s.1.length cap), (1, .func (.func 91) [] [.ptr 1 b 0]), (5, .int .i64 (s.2.1 : Int)), (6, .int .i64 (s.2.2 : Int))]) (fun s => [⟨.sl ao cap, .vecL 9 1 encS s.1 ByteArray.empty⟩, ⟨.blk b, .cells [.str nm] 9⟩])
      (fun s => s.1.length = xs.length ∧ s.2.1 < s.2.2 ∧ s.2.2 ≤ xs.length ∧ s.1.take s.2.1 = (xs.take s.2.2).filter (fun x => !sEq x nm) ∧ s.1.drop s.2.2 = xs.drop s.2.2) (fun s => xs.length - s.2.2) (xs, i0, i0 + 1) (by kernel_rfl) (fun J => by kernel_rfl)
      ⟨rfl, by dsimp only; omega, by dsimp only; omega, by dsimp only; rw [filter_take_succ _ ByteArray.empty _ _ hlt0, hf0, hp0]; simp, rfl⟩ rfl ⟨rfl, rfl, rfl, rfl, trivial⟩ (fun w hw => hw) ?_
    rintro ⟨ys, i, j⟩ ⟨h1, h2, h3, h4, h5⟩ u
    dsimp only at h1 h2 h3 h4 h5 ⊢
    simp only [List.nil_append, List.cons_append]
    refine G_run (kc := false) (ss := []) gT0d_ok hmG 900 ?_
    rw [delF_body]
    have t1 : Int.toNat (i : Int) = i := by omega
    have t2 : Int.toNat (j : Int) = j := by omega
    have t3 : IntKind.wrap .i64 ((i : Int) + 1) = ((i + 1 : Nat) : Int) := IntWalk.i64_in _ (by omega)
    have t4 : IntKind.wrap .i64 ((j : Int) + 1) = ((j + 1 : Nat) : Int) := IntWalk.i64_in _ (by omega)
    rw [t1, t2, t3, t4]
    cases hlt : decide ((j : Int) < (ys.length : Int)) with
    | true =>
      simp only [decide_eq_true_eq] at hlt
      have hj : ys.getD j ByteArray.empty = xs.getD j ByteArray.empty := by
        have := congrArg (fun l => l.getD 0 ByteArray.empty) h5
        simpa [List.getD, List.getElem?_drop] using this
      have hd : ys.drop (j + 1) = xs.drop (j + 1) := by
        have := congrArg (List.drop 1) h5
        simpa [List.drop_drop, Nat.add_comm] using this
      have hft := filter_take_succ (fun x => !sEq x nm) ByteArray.empty xs j (by omega)
      refine ⟨⟨rfl, rfl, rfl, by omega, by omega⟩, ⟨rfl, rfl, rfl, by omega⟩, rfl, rfl, ?_⟩
      rw [hj]
      cases hq : !sEq (xs.getD j ByteArray.empty) nm with
      | true =>
        refine ⟨⟨rfl, rfl, rfl, by omega, by omega⟩, ⟨rfl, rfl, rfl, by omega, rfl, rfl, Nat.le_refl _⟩, _, rfl, ?_⟩
        refine G_back (ys.set i (xs.getD j ByteArray.empty), i + 1, j + 1) ⟨by simp [h1], by dsimp only; omega, by dsimp only; omega, ?_, ?_⟩ (by dsimp only; omega) rfl ⟨(by show Value.slice ao ys.length cap = Value.slice ao _ cap; rw [List.length_set]), rfl, rfl, rfl, trivial⟩ (fun w hw => hw)
        · dsimp only
          rw [hft, hq, ← h4, List.take_succ_eq_append_getElem (by simp; omega), List.take_set_of_le (Nat.le_refl _)]
          simp
        · dsimp only
          rw [List.drop_set_of_lt (by omega)]
          exact hd
      | false =>
        refine G_back (ys, i, j + 1) ⟨h1, by dsimp only; omega, by dsimp only; omega, ?_, hd⟩ (by dsimp only; omega) rfl ⟨rfl, rfl, rfl, rfl, trivial⟩ (fun w hw => hw)
        dsimp only
        rw [hft, hq, h4]; simp
    | false =>
      simp only [decide_eq_false_iff_not] at hlt
      have hje : j = xs.length := by omega
      subst hje
      rw [List.take_length] at h4
      refine ⟨⟨by omega, by omega, by omega⟩, ⟨rfl, rfl, rfl, rfl, rfl, by omega, Nat.le_refl _⟩, ⟨by omega, by omega⟩, ?_⟩
      refine ⟨by rw [h4], ?_⟩
      rw [← h4]
      have : (ys.take i).length = i := by simp; omega
      rw [this]
      simp only [den, Nat.sub_zero]
      by_cases hc : cap = 0
      · simp [hc]
      · rw [if_neg hc]
        cases ao with
        | none => rfl
        | some a => simp [Addr.add]

theorem delF_ok : CtrOk Try.prog 90 (delSC 9 91) := by
  intro args hs N h
  unfold delSC at h
  split at h
  · rename_i l ao n cap g lb b
    obtain ⟨rfl, xs, nm, hl, hlb, ⟨hne, rfl, hx⟩, h⟩ := h
    refine Spec.at (hp := [⟨.sl ao cap, .vecL 9 1 encS xs ByteArray.empty⟩, ⟨.blk b, .cells [.str nm] 9⟩]) (args' := [.vec 0 ao xs.length cap, .func (.func 91) [] [.ptr 1 b 0]]) [l, lb] (by simpa [distinct] using ne_of_beq hne) (by simp [pickE, hl, hlb]) (delF_spec ao cap xs b nm hx) rfl ?_
    rintro h' r ⟨rfl, hr⟩
    refine ⟨Nat.le_refl _, .vec l ao (xs.filter fun x => !sEq x nm).length cap, hr, ?_⟩
    have hlb' : nth (setN hs l ⟨.sl ao cap, .vecL 9 1 encS (xs.filter fun x => !sEq x nm) ByteArray.empty⟩) lb = some ⟨.blk b, .cells [.str nm] 9⟩ := by
      rw [nth_eq, setN_eq, List.getElem?_set_ne (ne_of_beq hne), ← nth_eq]; exact hlb
    simpa [putBack, appE_eq, setN_self hlb'] using h
  · exact h.elim
theorem gT1_ok : AllOk Try.prog gT1 := ⟨idxS_ok, trivial⟩
theorem gT2_ok : AllOk Try.prog gT2 := ⟨inl_ok gT1_ok hmG Try.func70 (by kernel_rfl), inl_ok trivial hmG Try.func71 (by kernel_rfl), inl_ok trivial hmG Try.func72 (by kernel_rfl), gT1_ok⟩
theorem gT3_ok : AllOk Try.prog gT3 := ⟨delF_ok, trivial⟩
end Go.Proofs.Ytihajdkipkfiiaa

/- YtihajdkipkfiiaaGrp2 -/
/- The methods of cgroup.Groups. -/
namespace Go.Proofs.Ytihajdkipkfiiaa
open Go Go.RowKit
set_option linter.unusedVariables false
set_option linter.unusedSimpArgs false
set_option linter.unnecessarySimpa false
set_option maxHeartbeats 0

section
variable {W w : World} {F : List Ch}
/-- One group's set is brought ahead. -/
theorem grp_open {s : Grp} {b : Nat} {n : ByteArray} {v : GSet} {x y : List (Key × GSet)} (hs : s.gs = x ++ (.s n, v) :: y) (hr : Rep W F (grpE s b) w) : Rep W F [⟨.blk b, .cells [.map 1 s.bg, .map 2 s.bo, .vec 3 s.ao s.notes.length s.cap] 118⟩, ⟨.blk s.bg, .mapL none encG s.gs⟩, ⟨.blk s.bo, .mapL (some .i64) encO s.of⟩, ⟨.sl s.ao s.cap, .vecL 9 1 encS s.notes ByteArray.empty⟩, ⟨.blk v.1, .mapL (some .i64) encU v.2⟩, pk 0 (x.map setE ++ y.map setE)] w := by
  have e : s.gs.map setE = x.map setE ++ setE (.s n, v) :: y.map setE := by rw [hs]; simp
  unfold grpE at hr
  rw [e] at hr
  exact Rep.outP (p := [⟨.blk b, .cells [.map 1 s.bg, .map 2 s.bo, .vec 3 s.ao s.notes.length s.cap] 118⟩, ⟨.blk s.bg, .mapL none encG s.gs⟩, ⟨.blk s.bo, .mapL (some .i64) encO s.of⟩, ⟨.sl s.ao s.cap, .vecL 9 1 encS s.notes ByteArray.empty⟩]) (t := []) hr
/-- .. and put back, changed. -/
theorem grp_close {a1 a2 a3 a4 : Ent} {t : List Ent} {n : ByteArray} {v : GSet} {x y : List (Key × GSet)} (hr : Rep W F (a1 :: a2 :: a3 :: a4 :: ⟨.blk v.1, .mapL (some .i64) encU v.2⟩ :: pk 0 (x.map setE ++ y.map setE) :: t) w) : Rep W F [a1, a2, a3, a4, pk 0 ((x ++ (.s n, v) :: y).map setE)] w := by
  have := Rep.intoP (p := [a1, a2, a3, a4]) (t := t) (e := setE (.s n, v)) hr
  have e : (x ++ (.s n, v) :: y).map setE = x.map setE ++ setE (.s n, v) :: y.map setE := by simp
  rw [e]; exact Rep.dropR (h := [a1, a2, a3, a4, pk 0 (x.map setE ++ setE (.s n, v) :: y.map setE)]) (t := t) this
/-- The groups' map may be said with another set of the same block. -/
theorem grp_map {a1 : Ent} {t : List Ent} {bg : Nat} {n : ByteArray} {v v' : GSet} {x y : List (Key × GSet)} (hv : v'.1 = v.1) (hr : Rep W F (a1 :: ⟨.blk bg, .mapL none encG (x ++ (.s n, v) :: y)⟩ :: t) w) : Rep W F (a1 :: ⟨.blk bg, .mapL none encG (x ++ (.s n, v') :: y)⟩ :: t) w := by
  refine Rep.mapCongr (l := 1) encG (x ++ (.s n, v') :: y) rfl (fun e he => ?_) ?_ hr
  · have hk := Rep.mapKinds (l := 1) rfl hr
    rcases List.mem_append.1 he with he | he
    · exact hk e (List.mem_append.2 (.inl he))
    · rcases List.mem_cons.1 he with rfl | he
      · rfl
      · exact hk e (List.mem_append.2 (.inr (List.mem_cons_of_mem _ he)))
  · simp [encG, den, hv]
end
theorem gs_split {s : Grp} {n : ByteArray} {v : GSet} (h : mget s.gs (.s n) = some v) : ∃ x y, s.gs = x ++ (.s n, v) :: y ∧ (∀ u, mset s.gs (.s n) u = x ++ (.s n, u) :: y) ∧ mdel s.gs (.s n) = x ++ y := by
  obtain ⟨x, y, k', h1, h2, _, h3, h4⟩ := mget_split h
  rw [keyEq_s h2] at h1
  exact ⟨x, y, h1, h3, h4⟩

theorem gMake_ok : CtrOk Try.prog 14 (adtC grpE makeM) := adt_ok fun b s rest N h => by
  unfold makeM at h
  split at h
  · rename_i name
    refine Spec.pre (hs' := [⟨.blk b, .cells [.map 1 s.bg, .map 2 s.bo, .vec 3 s.ao s.notes.length s.cap] 118⟩, ⟨.blk s.bg, .mapL none encG s.gs⟩, ⟨.blk s.bo, .mapL (some .i64) encO s.of⟩, ⟨.sl s.ao s.cap, .vecL 9 1 encS s.notes ByteArray.empty⟩, pk 0 (s.gs.map setE)]) (fun W F w hr => hr) rfl ?_
    refine Spec.of_G 25 Try.func14 (c := bodyOf Try.f14) (by kernel_rfl) (by kernel_rfl) (Nat.le_of_ble_eq_true rfl) fun W F => ?_
    refine G_run (kc := false) (ss := []) (Cs := []) trivial hmG 600 ?_
    rw [gMake_run]
    split <;> rename_i h1
    · exact ⟨s, fun W F w hr => hr, by have := h 0; simpa only [gMake, h1] using this⟩
    · refine ⟨rfl, ⟨rfl, rfl, rfl⟩, ?_⟩
      split <;> rename_i h2
      · exact ⟨s, fun W F w hr => hr, by have := h 0; simpa only [gMake, h1, h2] using this⟩
      · refine ⟨rfl, fun nb => ⟨⟨rfl, rfl, rfl⟩, (nb, []), rfl, ?_⟩⟩
        refine ⟨{ s with gs := mset s.gs (.s name) (nb, []) }, fun W F w hr => ?_, by have := h nb; simpa only [gMake, h1, h2] using this⟩
        have h3 := Rep.mapOf (l := 5) encU [] rfl rfl hr
        have h4 := Rep.pick (π := [0, 1, 2, 3, 5, 4]) (by decide) rfl h3
        have h5 := Rep.intoNewP (p := [⟨.blk b, .cells [.map 1 s.bg, .map 2 s.bo, .vec 3 s.ao s.notes.length s.cap] 118⟩, ⟨.blk s.bg, .mapL none encG (mset s.gs (.s name) (nb, []))⟩, ⟨.blk s.bo, .mapL (some .i64) encO s.of⟩, ⟨.sl s.ao s.cap, .vecL 9 1 encS s.notes ByteArray.empty⟩]) (t := []) h4
        have e : (mset s.gs (.s name) (nb, [])).map setE = s.gs.map setE ++ [setE (.s name, (nb, []))] := by rw [mset_none h2]; simp
        unfold grpE
        dsimp only
        rw [e]
        exact h5
  · exact h.elim
theorem gGone_ok : CtrOk Try.prog 15 (adtC grpE goneM) := adt_ok fun b s rest N h => by
  unfold goneM at h
  split at h
  · rename_i pid
    obtain ⟨⟨hn, hof⟩, h⟩ := h
    cases hg : mget s.of (.i .i64 pid) with
    | none =>
      refine Spec.pre (hs' := [⟨.blk b, .cells [.map 1 s.bg, .map 2 s.bo, .vec 3 s.ao s.notes.length s.cap] 118⟩, ⟨.blk s.bg, .mapL none encG s.gs⟩, ⟨.blk s.bo, .map1 (some .i64) encO s.of (.i .i64 pid) none⟩, ⟨.sl s.ao s.cap, .vecL 9 1 encS s.notes ByteArray.empty⟩, pk 0 (s.gs.map setE)]) (fun W F w hr => Rep.know1 (l := 2) (.i .i64 pid) none rfl rfl (by rw [hg]; rfl) hr) rfl ?_
      refine Spec.of_G 57 Try.func15 (c := bodyOf Try.f15) (by kernel_rfl) (by kernel_rfl) (Nat.le_of_ble_eq_true rfl) fun W F => ?_
      refine G_run (kc := false) (ss := []) (Cs := []) trivial hmG 600 ?_
      rw [gGone_none]
      refine ⟨rfl, ⟨rfl, rfl, rfl⟩, s, fun W F w hr => Rep.forget1 (l := 2) rfl hr, ?_⟩
      have := h s.ao s.cap
      simpa only [gGone, hg] using this
    | some n =>
      obtain ⟨⟨nb, ms⟩, hx⟩ := hof n hg
      obtain ⟨x, y, hs, hset, _⟩ := gs_split hx
      refine Spec.pre (hs' := [⟨.blk b, .cells [.map 1 s.bg, .map 2 s.bo, .vec 3 s.ao s.notes.length s.cap] 118⟩, ⟨.blk s.bg, .map1 none encG s.gs (.s n) (some (.map 4 nb))⟩, ⟨.blk s.bo, .map1 (some .i64) encO s.of (.i .i64 pid) (some (.str n))⟩, ⟨.sl s.ao s.cap, .vecL 9 1 encS s.notes ByteArray.empty⟩, ⟨.blk nb, .mapL (some .i64) encU ms⟩, pk 0 (x.map setE ++ y.map setE)]) (fun W F w hr => Rep.know1 (l := 2) (.i .i64 pid) (some (.str n)) rfl rfl (by rw [hg]; rfl) (Rep.know1 (l := 1) (.s n) (some (.map 4 nb)) rfl rfl (by rw [hx]; rfl) (grp_open hs hr))) rfl ?_
      refine Spec.of_G 57 Try.func15 (c := bodyOf Try.f15) (by kernel_rfl) (by kernel_rfl) (Nat.le_of_ble_eq_true rfl) fun W F => ?_
      refine G_run (kc := false) (ss := []) gT2_ok hmG 600 ?_
      rw [gGone_some]
      refine ⟨rfl, ⟨rfl, rfl, rfl⟩, rfl, ⟨rfl, rfl, rfl⟩, rfl, ⟨rfl, rfl, rfl⟩, ⟨rfl, rfl, rfl⟩, rfl, ⟨rfl, rfl, rfl⟩, rfl, ?_⟩
      have hc : (((mdel ms (.i .i64 pid)).length : Int) == 0) = ((mdel ms (.i .i64 pid)).length == 0) := by rw [Bool.eq_iff_iff]; simp
      rw [hc]
      have hv := fun ao cap => h ao cap
      simp only [gGone, hg, hx] at hv
      cases hm : ((mdel ms (.i .i64 pid)).length == 0) with
      | true =>
        refine ⟨rfl, rfl, rfl, s.notes, rfl, rfl, by omega, ?_⟩
        cases hq : !decide (idxFrom (sEq n) s.notes 0 ≥ 0) with
        | true =>
          refine ⟨rfl, ⟨rfl, rfl, by decide, by decide⟩, fun b1 => ⟨⟨rfl, rfl, rfl, rfl, rfl, rfl, rfl, by decide, rfl, by omega, by omega⟩, [n], rfl, rfl, fun ao2 cap2 hc2 => ⟨⟨rfl, rfl, rfl, by decide⟩, ?_⟩⟩⟩
          refine ⟨{ s with of := mdel s.of (.i .i64 pid), gs := mset s.gs (.s n) (nb, mdel ms (.i .i64 pid)), notes := s.notes ++ [n], ao := ao2, cap := cap2 }, fun W F w hr => ?_, by have := hv ao2 cap2; simpa only [hm, hq, Bool.and_true, Bool.and_false, Bool.true_and, Bool.false_and] using this⟩
          have h1 := Rep.forget1 (l := 1) rfl hr
          rw [hs] at h1
          have h2 := grp_map (v := (nb, ms)) (v' := (nb, mdel ms (.i .i64 pid))) rfl h1
          have h3 := grp_close (n := n) (v := (nb, mdel ms (.i .i64 pid))) h2
          unfold grpE
          dsimp only
          rw [hset]
          simp only [List.length_append, List.length_cons, List.length_nil]
          exact h3
        | false =>
          refine ⟨{ s with of := mdel s.of (.i .i64 pid), gs := mset s.gs (.s n) (nb, mdel ms (.i .i64 pid)) }, fun W F w hr => ?_, by have := hv s.ao s.cap; simpa only [hm, hq, Bool.and_true, Bool.and_false, Bool.true_and, Bool.false_and] using this⟩
          have h1 := Rep.forget1 (l := 1) rfl hr
          rw [hs] at h1
          have h2 := grp_map (v := (nb, ms)) (v' := (nb, mdel ms (.i .i64 pid))) rfl h1
          have h3 := grp_close (n := n) (v := (nb, mdel ms (.i .i64 pid))) h2
          unfold grpE
          dsimp only
          rw [hset]
          exact h3
      | false =>
          refine ⟨{ s with of := mdel s.of (.i .i64 pid), gs := mset s.gs (.s n) (nb, mdel ms (.i .i64 pid)) }, fun W F w hr => ?_, by have := hv s.ao s.cap; simpa only [hm, Bool.false_and] using this⟩
          have h1 := Rep.forget1 (l := 1) rfl hr
          rw [hs] at h1
          have h2 := grp_map (v := (nb, ms)) (v' := (nb, mdel ms (.i .i64 pid))) rfl h1
          have h3 := grp_close (n := n) (v := (nb, mdel ms (.i .i64 pid))) h2
          unfold grpE
          dsimp only
          rw [hset]
          exact h3
  · exact h.elim

theorem gGone_blk {s : Grp} {pid : Int} {ao : Option Addr} {cap nb : Nat} {n : ByteArray} {ms : List (Key × Unit)} (h : mget s.gs (.s n) = some (nb, ms)) : ∃ ms', mget (gGone s pid ao cap).1.gs (.s n) = some (nb, ms') := by
  cases hg : mget s.of (.i .i64 pid) with
  | none => exact ⟨ms, by simp only [gGone, hg]; exact h⟩
  | some n' =>
    cases hx : mget s.gs (.s n') with
    | none => exact ⟨ms, by simp only [gGone, hg, hx]; exact h⟩
    | some v =>
      have key : ∃ ms', mget (mset s.gs (.s n') (v.1, mdel v.2 (.i .i64 pid))) (.s n) = some (nb, ms') := by
        cases hq : keyEq (.s n) (.s n') with
        | true =>
          have := keyEq_s hq
          cases this
          rw [h] at hx; cases hx
          exact ⟨_, mget_mset (keyEq_self _) _⟩
        | false => exact ⟨ms, by rw [mget_mset_ne hq]; exact h⟩
      simp only [gGone, hg, hx]
      cases ((mdel v.2 (.i .i64 pid)).length == 0 && !decide (idxFrom (sEq n') s.notes 0 ≥ 0)) <;> exact key
theorem gPut_ok : CtrOk Try.prog 16 (adtC grpE putM) := adt_ok fun b s rest N h => by
  unfold putM at h
  split at h
  · rename_i pid n
    obtain ⟨⟨hok, hkeys⟩, h⟩ := h
    cases hx : mget s.gs (.s n) with
    | none =>
      refine Spec.pre (hs' := [⟨.blk b, .cells [.map 1 s.bg, .map 2 s.bo, .vec 3 s.ao s.notes.length s.cap] 118⟩, ⟨.blk s.bg, .map1 none encG s.gs (.s n) none⟩, ⟨.blk s.bo, .mapL (some .i64) encO s.of⟩, ⟨.sl s.ao s.cap, .vecL 9 1 encS s.notes ByteArray.empty⟩, pk 0 (s.gs.map setE)]) (fun W F w hr => Rep.know1 (l := 1) (.s n) none rfl rfl (by rw [hx]; rfl) hr) rfl ?_
      refine Spec.of_G 39 Try.func16 (c := bodyOf Try.f16) (by kernel_rfl) (by kernel_rfl) (Nat.le_of_ble_eq_true rfl) fun W F => ?_
      refine G_run (kc := false) (ss := [6]) (Cs := []) trivial hmG 600 ?_
      rw [gPut_none]
      refine ⟨rfl, ⟨rfl, rfl, rfl⟩, s, fun W F w hr => Rep.forget1 (l := 1) rfl hr, ?_⟩
      have := h s.ao s.cap
      simpa only [gPut, hx] using this
    | some v =>
      obtain ⟨nb, ms⟩ := v
      obtain ⟨x, y, hs, hset, _⟩ := gs_split hx
      refine Spec.pre (hs' := [⟨.blk b, .cells [.map 1 s.bg, .map 2 s.bo, .vec 3 s.ao s.notes.length s.cap] 118⟩, ⟨.blk s.bg, .map1 none encG s.gs (.s n) (some (.map 4 nb))⟩, ⟨.blk s.bo, .mapL (some .i64) encO s.of⟩, ⟨.sl s.ao s.cap, .vecL 9 1 encS s.notes ByteArray.empty⟩, ⟨.blk nb, .mapL (some .i64) encU ms⟩, pk 0 (x.map setE ++ y.map setE)]) (fun W F w hr => Rep.know1 (l := 1) (.s n) (some (.map 4 nb)) rfl rfl (by rw [hx]; rfl) (grp_open hs hr)) rfl ?_
      refine Spec.of_G 39 Try.func16 (c := bodyOf Try.f16) (by kernel_rfl) (by kernel_rfl) (Nat.le_of_ble_eq_true rfl) fun W F => ?_
      refine G_run (kc := false) (ss := [6]) gT2_ok hmG 600 ?_
      rw [gPut_some]
      refine ⟨rfl, ⟨rfl, rfl, rfl⟩, ?_⟩
      cases hp : decide (pid < 2) with
      | true =>
          refine ⟨s, fun W F w hr => ?_, by have := h s.ao s.cap; simpa only [gPut, hx, hp] using this⟩
          have h1 := Rep.forget1 (l := 1) rfl hr
          rw [hs] at h1
          have h3 := grp_close (n := n) (v := (nb, ms)) h1
          rw [← hs] at h3
          exact h3
      | false =>
        refine ⟨rfl, ⟨rfl, rfl, rfl⟩, ?_⟩
        cases hm : mget ms (.i .i64 pid) with
        | some u =>
          refine fun b1 => ⟨⟨rfl, rfl, rfl, Nat.le_refl _⟩, s, fun W F w hr => ?_, by have := h s.ao s.cap; simpa only [gPut, hx, hp, hm] using this⟩
          have h1 := Rep.forget1 (l := 1) rfl hr
          rw [hs] at h1
          have h3 := grp_close (n := n) (v := (nb, ms)) h1
          rw [← hs] at h3
          exact h3
        | none =>
          refine fun b1 => ⟨⟨rfl, rfl, rfl, Nat.le_refl _⟩, ?_⟩
          refine G_live 39 [(0, .ptr 0 b 0), (1, .int .i64 pid), (2, .str n), (7, .map 4 nb)] [pkA b grpE s] rfl ⟨rfl, rfl, rfl, rfl, trivial⟩ (fun w hr => ?_) fun u => ?_
          · refine Rep.pkA1 ?_
            have h1 := Rep.forget1 (l := 1) rfl hr
            rw [hs] at h1
            have h3 := grp_close (n := n) (v := (nb, ms)) h1
            rw [← hs] at h3
            exact h3
          refine G_run (kc := false) (ss := [7]) (Cs := [(15, adtC grpE goneM)]) ⟨gGone_ok, trivial⟩ hmG 900 ?_
          rw [gPut_mid]
          refine ⟨rfl, rfl, rfl, HEq.rfl, hok, fun ao cap => ?_⟩
          obtain ⟨ms1, hx1⟩ := gGone_blk (pid := pid) (ao := ao) (cap := cap) hx
          have hf := h ao cap
          simp only [gPut, hx, hp, hm, hx1] at hf
          generalize gGone s pid ao cap = g at hx1 hf
          obtain ⟨s1, r1⟩ := g
          dsimp only at hx1 hf
          obtain ⟨x1, y1, hs1, hset1, _⟩ := gs_split hx1
          refine G_live 39 [(0, .ptr 0 b 0), (1, .int .i64 pid), (2, .str n), (7, .map 4 nb)] [⟨.blk b, .cells [.map 1 s1.bg, .map 2 s1.bo, .vec 3 s1.ao s1.notes.length s1.cap] 118⟩, ⟨.blk s1.bg, .mapL none encG s1.gs⟩, ⟨.blk s1.bo, .mapL (some .i64) encO s1.of⟩, ⟨.sl s1.ao s1.cap, .vecL 9 1 encS s1.notes ByteArray.empty⟩, ⟨.blk nb, .mapL (some .i64) encU ms1⟩, pk 0 (x1.map setE ++ y1.map setE)] rfl ⟨rfl, rfl, rfl, rfl, trivial⟩ (fun w hr => ?_) fun u => ?_
          · exact grp_open hs1 hr.unpkA1
          refine G_run (kc := false) (ss := []) gT2_ok hmG 900 ?_
          rw [gPut_end]
          refine ⟨rfl, ⟨rfl, rfl⟩, ⟨rfl, rfl, rfl⟩, (), rfl, rfl, ⟨rfl, rfl, rfl⟩, n, rfl, ?_⟩
          refine ⟨_, fun W F w hr => ?_, hf⟩
          rw [hs1] at hr
          have h2 := grp_map (v := (nb, ms1)) (v' := (nb, mset ms1 (.i .i64 pid) ())) rfl hr
          have h3 := grp_close (n := n) (v := (nb, mset ms1 (.i .i64 pid) ())) h2
          unfold grpE
          dsimp only
          rw [hset1]
          exact h3
  · exact h.elim
theorem gRemove_ok : CtrOk Try.prog 60 (adtC grpE removeM) := adt_ok fun b s rest N h => by
  unfold removeM at h
  split at h
  · rename_i n
    obtain ⟨hn, h⟩ := h
    cases hx : mget s.gs (.s n) with
    | none =>
      refine Spec.pre (hs' := [⟨.blk b, .cells [.map 1 s.bg, .map 2 s.bo, .vec 3 s.ao s.notes.length s.cap] 118⟩, ⟨.blk s.bg, .map1 none encG s.gs (.s n) none⟩, ⟨.blk s.bo, .mapL (some .i64) encO s.of⟩, ⟨.sl s.ao s.cap, .vecL 9 1 encS s.notes ByteArray.empty⟩, pk 0 (s.gs.map setE)]) (fun W F w hr => Rep.know1 (l := 1) (.s n) none rfl rfl (by rw [hx]; rfl) hr) rfl ?_
      refine Spec.of_G 35 Try.func60 (c := bodyOf Try.f60) (by kernel_rfl) (by kernel_rfl) (Nat.le_of_ble_eq_true rfl) fun W F => ?_
      refine G_run (kc := false) (ss := []) gT3_ok hmG 600 ?_
      rw [gRem_none]
      refine ⟨rfl, fun b1 => ⟨rfl, rfl, ⟨rfl, rfl, rfl⟩, s, fun W F w hr => Rep.dropR (h := grpE s b) (Rep.forget1 (l := 1) rfl hr), ?_⟩⟩
      simpa only [gRemove, hx] using h
    | some v =>
      obtain ⟨nb, ms⟩ := v
      obtain ⟨x, y, hs, _, hdel⟩ := gs_split hx
      refine Spec.pre (hs' := [⟨.blk b, .cells [.map 1 s.bg, .map 2 s.bo, .vec 3 s.ao s.notes.length s.cap] 118⟩, ⟨.blk s.bg, .map1 none encG s.gs (.s n) (some (.map 4 nb))⟩, ⟨.blk s.bo, .mapL (some .i64) encO s.of⟩, ⟨.sl s.ao s.cap, .vecL 9 1 encS s.notes ByteArray.empty⟩, ⟨.blk nb, .mapL (some .i64) encU ms⟩, pk 0 (x.map setE ++ y.map setE)]) (fun W F w hr => Rep.know1 (l := 1) (.s n) (some (.map 4 nb)) rfl rfl (by rw [hx]; rfl) (grp_open hs hr)) rfl ?_
      refine Spec.of_G 35 Try.func60 (c := bodyOf Try.f60) (by kernel_rfl) (by kernel_rfl) (Nat.le_of_ble_eq_true rfl) fun W F => ?_
      refine G_run (kc := false) (ss := []) gT3_ok hmG 600 ?_
      rw [gRem_some]
      refine ⟨rfl, fun b1 => ⟨rfl, rfl, ⟨rfl, rfl, rfl⟩, rfl, ?_⟩⟩
      simp only [gRemove, hx] at h
      cases hp : decide ((ms.length : Int) > 0) with
      | true =>
          refine ⟨s, fun W F w hr => ?_, by simpa only [hp] using h⟩
          have h1 := Rep.forget1 (l := 1) rfl hr
          rw [hs] at h1
          have h3 := grp_close (n := n) (v := (nb, ms)) h1
          rw [← hs] at h3
          exact h3
      | false =>
        refine ⟨rfl, rfl, ⟨rfl, rfl, rfl⟩, rfl, rfl, rfl, s.notes, n, rfl, rfl, ⟨rfl, rfl, by omega⟩, ⟨rfl, rfl, rfl, Nat.le_refl _⟩, ?_⟩
        refine ⟨_, fun W F w hr => ?_, by simpa only [hp] using h⟩
        unfold grpE
        dsimp only
        have e : (mdel s.gs (.s n)).map setE = x.map setE ++ y.map setE := by rw [hdel]; simp
        rw [e]
        exact Rep.pick (π := [0, 1, 2, 3, 5]) (by decide) rfl hr
  · exact h.elim
theorem gEmptied_ok : CtrOk Try.prog 19 (adtC grpE emptiedM) := adt_ok fun b s rest N h => by
  unfold emptiedM at h
  split at h
  · skip
    refine Spec.pre (hs' := [⟨.blk b, .cells [.map 1 s.bg, .map 2 s.bo, .vec 3 s.ao s.notes.length s.cap] 118⟩, ⟨.blk s.bg, .mapL none encG s.gs⟩, ⟨.blk s.bo, .mapL (some .i64) encO s.of⟩, ⟨.sl s.ao s.cap, .vecL 9 1 encS s.notes ByteArray.empty⟩, pk 0 (s.gs.map setE)]) (fun W F w hr => hr) rfl ?_
    refine Spec.of_G 34 Try.func19 (c := bodyOf Try.f19) (by kernel_rfl) (by kernel_rfl) (Nat.le_of_ble_eq_true rfl) fun W F => ?_
    refine G_run (kc := false) (ss := []) (Cs := []) trivial hmG 600 ?_
    rw [gEm_start]
    refine G_loopAt (ι := List ByteArray × Option Addr × Nat) [] (bodyOf Try.f19) [1, 0, 0] 34 (fun _ => [(0, .ptr 0 b 0), (2, .str ⟨#[]⟩), (3, .bool false)]) (fun i => grpE { s with notes := i.1, ao := i.2.1, cap := i.2.2 } b) (fun i => firstEmpty s.gs i.1 = firstEmpty s.gs s.notes) (fun i => i.1.length) (s.notes, s.ao, s.cap) (by kernel_rfl) (fun J => by kernel_rfl) rfl rfl ⟨rfl, rfl, rfl, trivial⟩ (fun w hw => hw) ?_
    rintro ⟨notes, ao, cap⟩ hfe u
    dsimp only at hfe
    simp only [List.nil_append, List.cons_append]
    have hfin := h
    simp only [gEmptied, ← hfe] at hfin
    clear h
    generalize hs2 : ({ s with notes := notes, ao := ao, cap := cap } : Grp) = s2
    refine G_heap (h' := [⟨.blk b, .cells [.map 1 s2.bg, .map 2 s2.bo, .vec 3 s2.ao s2.notes.length s2.cap] 118⟩, ⟨.blk s2.bg, .mapL none encG s2.gs⟩, ⟨.blk s2.bo, .mapL (some .i64) encO s2.of⟩, ⟨.sl s2.ao s2.cap, .vecL 9 1 encS s2.notes ByteArray.empty⟩, pk 0 (s2.gs.map setE)]) (fun w hw => hw) ?_
    refine G_vec (l := 3) rfl fun hcap _ => ?_
    refine G_run (kc := false) (ss := [4]) (Cs := []) trivial hmG 900 ?_
    rw [gEm_head]
    refine ⟨rfl, ?_⟩
    cases notes with
    | nil =>
      have hd : decide ((s2.notes.length : Int) > 0) = false := by rw [← hs2]; rfl
      rw [hd]
      refine ⟨s2, fun W F w hr => hr, ?_⟩
      have := hfin ao cap
      simp only [firstEmpty] at this
      rw [hs2] at this
      exact this
    | cons n notes =>
      have hl : s2.notes.length = notes.length + 1 := by rw [← hs2]; rfl
      have hd : decide ((s2.notes.length : Int) > 0) = true := by rw [hl]; simp
      rw [hd]
      refine ⟨rfl, ⟨rfl, rfl, rfl, by omega, by omega⟩, ⟨rfl, rfl, rfl, by omega⟩, rfl, ⟨by omega, by omega, by omega⟩, ⟨rfl, rfl, rfl, Nat.le_refl _⟩, ?_⟩
      obtain ⟨s3, hs3⟩ : ∃ s3 : Grp, s3 = { s with notes := notes, ao := cutA ao cap 1 1, cap := cap - 1 } := ⟨_, rfl⟩
      have hcut : ∀ w, Rep W F [⟨.blk b, .cells [.map 1 s2.bg, .map 2 s2.bo, .sub 3 s2.ao s2.cap 1 1 s2.notes.length] 118⟩, ⟨.blk s2.bg, .mapL none encG s2.gs⟩, ⟨.blk s2.bo, .mapL (some .i64) encO s2.of⟩, ⟨.sl s2.ao s2.cap, .vecL 9 1 encS s2.notes ByteArray.empty⟩, pk 0 (s2.gs.map setE)] w → Rep W F (grpE s3 b) w := by
        intro w hw
        have a1 := Rep.cut (l := 3) (k := 1) rfl (by omega) hw
        have a2 := Rep.cellsEq (l := 0) (cs' := [.map 1 s2.bg, .map 2 s2.bo, .vec 3 (cutA s2.ao s2.cap 1 1) (s2.notes.drop 1).length (s2.cap - 1)]) rfl (by simp [denL, den_cut]) a1
        rw [hs3]
        rw [← hs2] at a2
        exact a2
      have hnn : s2.notes.getD 0 ByteArray.empty = n := by rw [← hs2]; rfl
      rw [hnn]
      have hg3 : s3.gs = s.gs := by rw [hs3]
      cases hx : mget s.gs (.s n) with
      | none =>
        refine G_live 34 [(0, .ptr 0 b 0), (2, .str ⟨#[]⟩), (3, .bool false), (4, .str n)] [⟨.blk b, .cells [.map 1 s3.bg, .map 2 s3.bo, .vec 3 s3.ao s3.notes.length s3.cap] 118⟩, ⟨.blk s3.bg, .map1 none encG s3.gs (.s n) none⟩, ⟨.blk s3.bo, .mapL (some .i64) encO s3.of⟩, ⟨.sl s3.ao s3.cap, .vecL 9 1 encS s3.notes ByteArray.empty⟩, pk 0 (s3.gs.map setE)] rfl ⟨rfl, rfl, rfl, rfl, trivial⟩ (fun w hr => Rep.know1 (l := 1) (.s n) none rfl rfl (by rw [hg3, hx]; rfl) (hcut w hr)) fun u => ?_
        refine G_run (kc := false) (ss := []) (Cs := []) trivial hmG 900 ?_
        rw [gEm_none]
        refine ⟨rfl, ⟨rfl, rfl, rfl⟩, s3, fun W F w hr => Rep.forget1 (l := 1) rfl hr, ?_⟩
        have := hfin (cutA ao cap 1 1) (cap - 1)
        simp only [firstEmpty, hx] at this
        rw [hs3]; exact this
      | some v =>
        obtain ⟨nb, ms⟩ := v
        have hx3 : mget s3.gs (.s n) = some (nb, ms) := by rw [hg3]; exact hx
        obtain ⟨x, y, hsx, hset, _⟩ := gs_split hx3
        refine G_live 34 [(0, .ptr 0 b 0), (2, .str ⟨#[]⟩), (3, .bool false), (4, .str n)] [⟨.blk b, .cells [.map 1 s3.bg, .map 2 s3.bo, .vec 3 s3.ao s3.notes.length s3.cap] 118⟩, ⟨.blk s3.bg, .map1 none encG s3.gs (.s n) (some (.map 4 nb))⟩, ⟨.blk s3.bo, .mapL (some .i64) encO s3.of⟩, ⟨.sl s3.ao s3.cap, .vecL 9 1 encS s3.notes ByteArray.empty⟩, ⟨.blk nb, .mapL (some .i64) encU ms⟩, pk 0 (x.map setE ++ y.map setE)] rfl ⟨rfl, rfl, rfl, rfl, trivial⟩ (fun w hr => Rep.know1 (l := 1) (.s n) (some (.map 4 nb)) rfl rfl (by rw [hx3]; rfl) (grp_open hsx (hcut w hr))) fun u => ?_
        refine G_run (kc := false) (ss := []) (Cs := []) trivial hmG 900 ?_
        rw [gEm_some]
        refine ⟨rfl, ⟨rfl, rfl, rfl⟩, rfl, ?_⟩
        have hclose : ∀ W F w, Rep W F [⟨.blk b, .cells [.map 1 s3.bg, .map 2 s3.bo, .vec 3 s3.ao s3.notes.length s3.cap] 118⟩, ⟨.blk s3.bg, .map1 none encG s3.gs (.s n) (some (.map 4 nb))⟩, ⟨.blk s3.bo, .mapL (some .i64) encO s3.of⟩, ⟨.sl s3.ao s3.cap, .vecL 9 1 encS s3.notes ByteArray.empty⟩, ⟨.blk nb, .mapL (some .i64) encU ms⟩, pk 0 (x.map setE ++ y.map setE)] w → Rep W F (grpE s3 b) w := by
          intro W F w hr
          have h1 := Rep.forget1 (l := 1) rfl hr
          rw [hsx] at h1
          have h3 := grp_close (n := n) (v := (nb, ms)) h1
          rw [← hsx] at h3
          exact h3
        cases hm : ms with
        | nil =>
          refine ⟨s3, fun W F w hr => hclose W F w (by rw [hm]; exact hr), ?_⟩
          have := hfin (cutA ao cap 1 1) (cap - 1)
          simp only [firstEmpty, hx, hm] at this
          rw [hs3]; exact this
        | cons m ms' =>
          have hne : (((m :: ms').length : Int) == 0) = false := by simp; omega
          rw [hne]
          refine G_back (notes, cutA ao cap 1 1, cap - 1) ?_ (by dsimp only; simp) rfl ⟨rfl, rfl, rfl, trivial⟩ (fun w hw => ?_)
          · dsimp only
            rw [← hfe]
            simp only [firstEmpty, hx, hm, List.length_cons]
          · have := hclose W F w (by rw [hm]; exact hw)
            rw [hs3] at this
            exact this
  · exact h.elim

theorem gNew_ok : CtrOk Try.prog 13 newGC := by
  intro args hs N h
  unfold newGC at h
  split at h
  · refine Spec.at (hp := []) (args' := []) (Post' := fun h' r => ∃ b bg bo, h' = [pkA b grpE ⟨bg, bo, none, 0, [], [], []⟩] ∧ r = .ptr 0 b 0) [] rfl rfl ?_ rfl ?_
    · refine Spec.up ?_
      refine Spec.of_G 5 Try.func13 (c := bodyOf Try.f13) (by kernel_rfl) (by kernel_rfl) (Nat.le_of_ble_eq_true rfl) fun W F => ?_
      refine G_run (kc := false) (ss := []) (Cs := []) trivial hmG 600 ?_
      rw [gNew_run]
      refine fun bg bo => ⟨⟨rfl, rfl⟩, rfl, fun b => ?_⟩
      refine ⟨[pkA b grpE ⟨bg, bo, none, 0, [], [], []⟩], .ptr 0 b 0, fun W F w hr => ?_, rfl, b, bg, bo, rfl, rfl⟩
      have h1 := Rep.mapOf (l := 0) encG [] rfl rfl hr
      have h2 := Rep.mapOf (l := 1) encO [] rfl rfl h1
      have h3 := Rep.nilvec 9 (sz := 1) (enc := encS) ByteArray.empty (fun _ => rfl) h2
      have h4 := Rep.pick (π := [2, 0, 1, 3]) (by decide) rfl h3
      have h5 := Rep.cellsEq (l := 0) (cs' := [.map 1 bg, .map 2 bo, .vec 3 none 0 0]) rfl (by simp [denL, den]) h4
      have h6 : Rep W F (pk 0 [] :: _) w := Rep.pk 0 (h := []) h5
      have h7 := Rep.pick (π := [1, 2, 3, 4, 0]) (by decide) rfl h6
      exact Rep.pkA1 h7
    · rintro h' r ⟨b, bg, bo, rfl, rfl⟩
      refine ⟨Nat.zero_le _, .ptr (lenN hs) b 0, rfl, ?_⟩
      have := h b bg bo
      simpa [putBack, appE_eq, snoc_eq] using this
  · exact h.elim
end Go.Proofs.Ytihajdkipkfiiaa

/- YtihajdkipkfiiaaGoP -/
/- GroupOne: what its calls do to the groups. -/
namespace Go.Proofs.Ytihajdkipkfiiaa
open Go Go.RowKit
set_option linter.unusedVariables false
set_option linter.unusedSimpArgs false
set_option linter.unnecessarySimpa false

def encU8 (x : Int) : List SV := [.int .u8 x]
/-- A function that needs nothing and says 'true'. -/
def trueC : Ctr := fun args hs N => match args with
  | [] => N hs (.bool true)
  | _ => False
def names4 : List ByteArray := [⟨#[97]⟩, ⟨#[98]⟩, ⟨#[99]⟩, ⟨#[100]⟩]
def nm4 (k : Nat) : ByteArray := names4.getD k ⟨#[]⟩
theorem nm4_all : ∀ i : _root_.Fin 4, ∀ j : _root_.Fin 4, keyEq (.s (nm4 i.1)) (.s (nm4 j.1)) = decide (i.1 = j.1) ∧ sEq (nm4 i.1) (nm4 j.1) = decide (i.1 = j.1) := by decide +kernel
theorem nm4_key {i j : Nat} (hi : i < 4) (hj : j < 4) : keyEq (.s (nm4 i)) (.s (nm4 j)) = decide (i = j) := (nm4_all ⟨i, hi⟩ ⟨j, hj⟩).1
theorem nm4_eq {i j : Nat} (hi : i < 4) (hj : j < 4) : sEq (nm4 i) (nm4 j) = decide (i = j) := (nm4_all ⟨i, hi⟩ ⟨j, hj⟩).2
theorem key_int (a b : Int) : keyEq (.i .i64 a) (.i .i64 b) = decide (a = b) := by rw [Bool.eq_iff_iff]; simp [keyEq]

/-- One group's members: those of the array. -/
structure MO (arr : List Int) (k : Nat) (ms : List (Key × Unit)) : Prop where
  ok : keysOk ms
  key : ∀ e ∈ ms, ∃ p : Nat, (2 ≤ p ∧ p < 10) ∧ e.1 = .i .i64 (p : Int)
  has : ∀ p : Nat, 2 ≤ p → p < 10 → mget ms (.i .i64 (p : Int)) = if arr.getD p 0 = (k : Int) + 1 then some () else none
/-- What stands in the groups. -/
structure GO (s : Grp) (arr : List Int) : Prop where
  len : arr.length = 10
  gk : keysOk s.gs
  g : ∀ k : Nat, k < 4 → ∃ nb ms, mget s.gs (.s (nm4 k)) = some (nb, ms) ∧ MO arr k ms
  ok : keysOk s.of
  o : ∀ p : Nat, 2 ≤ p → p < 10 → (arr.getD p 0 = 0 ∧ mget s.of (.i .i64 (p : Int)) = none) ∨ ∃ k : Nat, k < 4 ∧ arr.getD p 0 = (k : Int) + 1 ∧ mget s.of (.i .i64 (p : Int)) = some (nm4 k)
  nd : s.notes.Nodup
  nt : ∀ x ∈ s.notes, ∃ k : Nat, k < 4 ∧ x = nm4 k

theorem getD_set_of {arr : List Int} (hl : arr.length = 10) {p q : Nat} (hp : p < 10) (v : Int) : (arr.set p v).getD q 0 = if q = p then v else arr.getD q 0 := by
  rw [List.getD, List.getElem?_set]
  by_cases h : q = p
  · subst h; simp [hl, hp]
  · have : ¬ p = q := fun e => h e.symm
    simp [h, this, List.getD]
theorem set_same {arr : List Int} {p : Nat} {v : Int} (h : arr.getD p 0 = v) (hp : p < arr.length) : arr.set p v = arr := by
  refine List.ext_getElem? fun i => ?_
  rw [List.getElem?_set]
  split
  · rename_i e; subst e
    rw [← h, List.getD, List.getElem?_eq_getElem hp]; simp [hp]
  · rfl
theorem sub4 : ∀ (n : Nat) (l : List Nat), l.Nodup → (∀ x ∈ l, x < n) → l.length ≤ n
  | 0, l, _, h => by
    cases l with
    | nil => simp
    | cons x l => have := h x List.mem_cons_self; omega
  | n + 1, l, hd, h => by
    by_cases hn : n ∈ l
    · have h1 := sub4 n (l.erase n) (hd.erase n) fun x hx => by
        have h2 := (List.Nodup.mem_erase_iff hd).1 hx
        have := h x h2.2
        omega
      rw [List.length_erase_of_mem hn] at h1
      omega
    · have := sub4 n l hd fun x hx => by
        have h1 := h x hx
        have : x ≠ n := fun e => hn (e ▸ hx)
        omega
      omega
def idx4 (x : ByteArray) : Nat := names4.findIdx (fun y => sEq x y)
theorem idx4_nm : ∀ k : _root_.Fin 4, idx4 (nm4 k.1) = k.1 := by decide +kernel
theorem GO.notes_le {s : Grp} {arr : List Int} (h : GO s arr) : s.notes.length ≤ 4 := by
  have h1 := sub4 4 (s.notes.map idx4) ?_ ?_
  · simpa using h1
  · unfold List.Nodup
    rw [List.pairwise_map]
    refine List.Pairwise.imp_of_mem ?_ h.nd
    intro a b ha hb hab e
    obtain ⟨i, hi, rfl⟩ := h.nt a ha
    obtain ⟨j, hj, rfl⟩ := h.nt b hb
    rw [idx4_nm ⟨i, hi⟩, idx4_nm ⟨j, hj⟩] at e
    exact hab (by dsimp only at e; rw [e])
  · intro x hx
    obtain ⟨y, hy, rfl⟩ := List.mem_map.1 hx
    obtain ⟨i, hi, rfl⟩ := h.nt y hy
    rw [idx4_nm ⟨i, hi⟩]; exact hi
theorem GO.gok {s : Grp} {arr : List Int} (h : GO s arr) {p : Nat} (h2 : 2 ≤ p) (hp : p < 10) : gOk s (p : Int) := by
  have := h.notes_le
  refine ⟨by omega, fun n hn => ?_⟩
  rcases h.o p h2 hp with ⟨_, h1⟩ | ⟨k, hk, _, h1⟩
  · rw [h1] at hn; cases hn
  · rw [h1] at hn
    cases hn
    obtain ⟨nb, ms, hg, _⟩ := h.g k hk
    exact ⟨_, hg⟩

theorem mget_nm4 {β : Type} {es : List (Key × β)} {k j : Nat} (hk : k < 4) (hj : j < 4) (u : β) : mget (mset es (.s (nm4 k)) u) (.s (nm4 j)) = if j = k then some u else mget es (.s (nm4 j)) := by
  by_cases hjk : j = k
  · subst hjk; rw [if_pos rfl, mget_mset (keyEq_self _)]
  · rw [if_neg hjk, mget_mset_ne (by rw [nm4_key hj hk]; simp [hjk])]
theorem mget_pid {β : Type} {es : List (Key × β)} (h : keysOk es) (a b : Int) : mget (mdel es (.i .i64 a)) (.i .i64 b) = if b = a then none else mget es (.i .i64 b) := by
  by_cases hab : b = a
  · subst hab; rw [if_pos rfl, mget_mdel h]
  · rw [if_neg hab, mget_mdel_ne (by rw [key_int]; simp [hab])]
theorem mget_pidS {β : Type} {es : List (Key × β)} (a b : Int) (u : β) : mget (mset es (.i .i64 a) u) (.i .i64 b) = if b = a then some u else mget es (.i .i64 b) := by
  by_cases hab : b = a
  · subst hab; rw [if_pos rfl, mget_mset (keyEq_self _)]
  · rw [if_neg hab, mget_mset_ne (by rw [key_int]; simp [hab])]
theorem mem_mdel {β : Type} {k : Key} {e : Key × β} : ∀ {es : List (Key × β)}, e ∈ mdel es k → e ∈ es
  | [], h => by cases h
  | (k', v') :: es, h => by
    simp only [mdel] at h
    cases hq : keyEq k k' with
    | true => simp only [hq] at h; exact List.mem_cons_of_mem _ h
    | false =>
      simp only [hq] at h
      rcases List.mem_cons.1 h with rfl | h
      · exact List.mem_cons_self
      · exact List.mem_cons_of_mem _ (mem_mdel h)
theorem mem_mset {β : Type} {k : Key} {u : β} {e : Key × β} : ∀ {es : List (Key × β)}, e ∈ mset es k u → e = (k, u) ∨ e ∈ es
  | [], h => .inl (by simpa [mset] using h)
  | (k', v') :: es, h => by
    simp only [mset] at h
    cases hq : keyEq k k' with
    | true =>
      simp only [hq] at h
      rcases List.mem_cons.1 h with rfl | h
      · exact .inl rfl
      · exact .inr (List.mem_cons_of_mem _ h)
    | false =>
      simp only [hq] at h
      rcases List.mem_cons.1 h with rfl | h
      · exact .inr List.mem_cons_self
      · rcases mem_mset h with h | h
        · exact .inl h
        · exact .inr (List.mem_cons_of_mem _ h)

/-- A member leaves. -/
theorem MO.del {arr : List Int} {k : Nat} {ms : List (Key × Unit)} (h : MO arr k ms) (hl : arr.length = 10) {p : Nat} (h2 : 2 ≤ p) (hp : p < 10) : MO (arr.set p 0) k (mdel ms (.i .i64 (p : Int))) := by
  refine ⟨keysOk_mdel h.ok, fun e he => h.key e (mem_mdel he), fun q hq2 hq => ?_⟩
  rw [mget_pid h.ok, getD_set_of hl hp, h.has q hq2 hq]
  by_cases hqp : q = p
  · subst hqp; rw [if_pos rfl, if_pos rfl, if_neg (by omega)]
  · rw [if_neg (by omega), if_neg hqp]
/-- Another group's members stay. -/
theorem MO.other {arr : List Int} {k : Nat} {ms : List (Key × Unit)} (h : MO arr k ms) (hl : arr.length = 10) {p : Nat} (hp : p < 10) {v : Int} (hv : v ≠ (k : Int) + 1) (ho : arr.getD p 0 ≠ (k : Int) + 1) : MO (arr.set p v) k ms := by
  refine ⟨h.ok, h.key, fun q hq2 hq => ?_⟩
  rw [getD_set_of hl hp, h.has q hq2 hq]
  by_cases hqp : q = p
  · subst hqp; rw [if_pos rfl, if_neg ho, if_neg hv]
  · rw [if_neg hqp]
/-- A new member. -/
theorem MO.add {arr : List Int} {k : Nat} {ms : List (Key × Unit)} (h : MO arr k ms) (hl : arr.length = 10) {p : Nat} (h2 : 2 ≤ p) (hp : p < 10) : MO (arr.set p ((k : Int) + 1)) k (mset ms (.i .i64 (p : Int)) ()) := by
  refine ⟨keysOk_mset h.ok, fun e he => ?_, fun q hq2 hq => ?_⟩
  · rcases mem_mset he with rfl | he
    · exact ⟨p, ⟨h2, hp⟩, rfl⟩
    · exact h.key e he
  · rw [mget_pidS, getD_set_of hl hp, h.has q hq2 hq]
    by_cases hqp : q = p
    · subst hqp; rw [if_pos rfl, if_pos rfl, if_pos rfl]
    · rw [if_neg (by omega), if_neg hqp]

theorem GO.gone {s : Grp} {arr : List Int} (h : GO s arr) {p : Nat} (h2 : 2 ≤ p) (hp : p < 10) (ao : Option Addr) (cap : Nat) : (gGone s (p : Int) ao cap).2 = decide (arr.getD p 0 > 0) ∧ GO (gGone s (p : Int) ao cap).1 (arr.set p 0) := by
  rcases h.o p h2 hp with ⟨h0, h1⟩ | ⟨k, hk, h0, h1⟩
  · have e : gGone s (p : Int) ao cap = (s, false) := by simp only [gGone, h1]
    rw [e, h0, set_same h0 (by rw [h.len]; exact hp)]
    exact ⟨rfl, h⟩
  · obtain ⟨nb, ms, hg, hm⟩ := h.g k hk
    have main : ∀ (nt : List ByteArray) (ao : Option Addr) (cap : Nat), nt.Nodup → (∀ x ∈ nt, ∃ k : Nat, k < 4 ∧ x = nm4 k) → GO { s with of := mdel s.of (.i .i64 (p : Int)), gs := mset s.gs (.s (nm4 k)) (nb, mdel ms (.i .i64 (p : Int))), notes := nt, ao := ao, cap := cap } (arr.set p 0) := by
      intro nt ao cap hn1 hn2
      refine ⟨by simp [h.len], keysOk_mset h.gk, fun j hj => ?_, keysOk_mdel h.ok, fun q hq2 hq => ?_, hn1, hn2⟩
      · dsimp only
        rw [mget_nm4 hk hj]
        by_cases hjk : j = k
        · subst hjk
          rw [if_pos rfl]
          exact ⟨_, _, rfl, hm.del h.len h2 hp⟩
        · obtain ⟨nb', ms', hg', hm'⟩ := h.g j hj
          rw [if_neg hjk, hg']
          exact ⟨_, _, rfl, hm'.other h.len hp (by omega) (by omega)⟩
      · dsimp only
        rw [mget_pid h.ok, getD_set_of h.len hp]
        by_cases hqp : q = p
        · subst hqp; rw [if_pos rfl, if_pos rfl]; exact .inl ⟨rfl, rfl⟩
        · rw [if_neg hqp, if_neg (by omega)]
          exact h.o q hq2 hq
    have hd : decide (arr.getD p 0 > 0) = true := decide_eq_true (by rw [h0]; omega)
    rw [hd]
    unfold gGone
    simp only [h1, hg]
    cases hc : ((mdel ms (.i .i64 (p : Int))).length == 0 && !decide (idxFrom (sEq (nm4 k)) s.notes 0 ≥ 0)) with
    | true =>
      refine ⟨rfl, main _ _ _ ?_ ?_⟩
      · simp only [Bool.and_eq_true, Bool.not_eq_true', decide_eq_false_iff_not] at hc
        rw [List.nodup_append]
        refine ⟨h.nd, by simp, fun a ha b hb => ?_⟩
        simp only [List.mem_singleton] at hb
        subst hb
        rintro rfl
        apply hc.2
        have hne : ¬ idxFrom (sEq (nm4 k)) s.notes 0 = -1 := fun e => by
          have := (idxFrom_none (sEq (nm4 k)) s.notes 0 (by omega)).1 e (nm4 k) ha
          rw [nm4_eq hk hk] at this
          simp at this
        rcases idxFrom_lt (sEq (nm4 k)) s.notes 0 with h | ⟨h, _⟩
        · exact absurd h hne
        · exact h
      · intro x hx
        rcases List.mem_append.1 hx with hx | hx
        · exact h.nt x hx
        · simp only [List.mem_singleton] at hx
          exact ⟨k, hk, hx⟩
    | false => exact ⟨rfl, main s.notes s.ao s.cap h.nd h.nt⟩

theorem GO.put {s : Grp} {arr : List Int} (h : GO s arr) {p n : Nat} (h2 : 2 ≤ p) (hp : p < 10) (hn : n < 4) (ao : Option Addr) (cap : Nat) : (gPut s (p : Int) (nm4 n) ao cap).2 = 0 ∧ GO (gPut s (p : Int) (nm4 n) ao cap).1 (arr.set p ((n : Int) + 1)) := by
  obtain ⟨nb, ms, hg, hm⟩ := h.g n hn
  have hd : decide ((p : Int) < 2) = false := by simp; omega
  unfold gPut
  simp only [hg, hd, hm.has p h2 hp]
  by_cases he : arr.getD p 0 = (n : Int) + 1
  · rw [if_pos he, set_same he (by rw [h.len]; exact hp)]
    exact ⟨rfl, h⟩
  · rw [if_neg he]
    obtain ⟨_, h1⟩ := h.gone h2 hp ao cap
    generalize (gGone s (p : Int) ao cap).1 = s1 at h1
    obtain ⟨nb1, ms1, hg1, hm1⟩ := h1.g n hn
    simp only [hg1]
    refine ⟨trivial, ?_⟩
    have hss : arr.set p ((n : Int) + 1) = (arr.set p 0).set p ((n : Int) + 1) := by rw [List.set_set]
    have hz : (arr.set p 0).getD p 0 = 0 := by rw [getD_set_of h.len hp, if_pos rfl]
    rw [hss]
    refine ⟨by simp [h.len], keysOk_mset h1.gk, fun j hj => ?_, keysOk_mset h1.ok, fun q hq2 hq => ?_, h1.nd, h1.nt⟩
    · dsimp only
      rw [mget_nm4 hn hj]
      by_cases hjn : j = n
      · subst hjn
        rw [if_pos rfl]
        exact ⟨_, _, rfl, hm1.add h1.len h2 hp⟩
      · obtain ⟨nb', ms', hg', hm'⟩ := h1.g j hj
        rw [if_neg hjn, hg']
        exact ⟨_, _, rfl, hm'.other h1.len hp (by omega) (by rw [hz]; omega)⟩
    · dsimp only
      rw [mget_pidS, getD_set_of h1.len hp]
      by_cases hqp : q = p
      · subst hqp; rw [if_pos rfl, if_pos rfl]; exact .inr ⟨n, hn, rfl, rfl⟩
      · rw [if_neg hqp, if_neg (by omega)]
        exact h1.o q hq2 hq

/-- What the array says of a group. -/
def wantL (arr : List Int) (k : Nat) : Nat → List Int
  | 0 => []
  | q + 1 => wantL arr k q ++ if arr.getD (q + 2) 0 = (k : Int) + 1 then [((q + 2 : Nat) : Int)] else []
theorem wantL_mem (arr : List Int) (k : Nat) (x : Int) : ∀ q : Nat, x ∈ wantL arr k q ↔ ∃ p : Nat, 2 ≤ p ∧ p < q + 2 ∧ x = (p : Int) ∧ arr.getD p 0 = (k : Int) + 1
  | 0 => by simp [wantL]; intros; omega
  | q + 1 => by
    rw [wantL, List.mem_append, wantL_mem arr k x q]
    constructor
    · rintro (⟨p, a, b, c, d⟩ | h)
      · exact ⟨p, a, by omega, c, d⟩
      · split at h
        · rename_i hc
          simp only [List.mem_singleton] at h
          exact ⟨q + 2, by omega, by omega, h, hc⟩
        · cases h
    · rintro ⟨p, a, b, c, d⟩
      by_cases hp : p = q + 2
      · subst hp
        right; rw [if_pos d]; simp [c]
      · exact .inl ⟨p, a, by omega, c, d⟩
theorem wantL_asc (arr : List Int) (k : Nat) : ∀ q : Nat, (wantL arr k q).Pairwise (· < ·)
  | 0 => List.Pairwise.nil
  | q + 1 => by
    rw [wantL, List.pairwise_append]
    refine ⟨wantL_asc arr k q, by split <;> simp, fun a ha b hb => ?_⟩
    obtain ⟨p, h1, h2, rfl, _⟩ := (wantL_mem arr k a q).1 ha
    split at hb
    · simp only [List.mem_singleton] at hb; subst hb; omega
    · cases hb
theorem GO.members {s : Grp} {arr : List Int} (h : GO s arr) {k : Nat} (hk : k < 4) : ∃ nb ms, mget s.gs (.s (nm4 k)) = some (nb, ms) ∧ wfI ms ∧ sortI ms = wantL arr k 8 := by
  obtain ⟨nb, ms, hg, hm⟩ := h.g k hk
  have hnd : (ms.map fun e => keyInt e.1).Nodup := by
    unfold List.Nodup
    rw [List.pairwise_map]
    refine List.Pairwise.imp_of_mem ?_ hm.ok
    intro a b ha hb hab e
    obtain ⟨p, _, e1⟩ := hm.key a ha
    obtain ⟨q, _, e2⟩ := hm.key b hb
    rw [e1, e2] at hab e
    rw [key_int] at hab
    simp only [keyInt] at e
    simp at hab
    omega
  have hperm : (ms.map fun e => keyInt e.1).Perm (wantL arr k 8) := by
    refine (List.perm_ext_iff_of_nodup hnd ((wantL_asc arr k 8).imp (by intro a b h; omega))).2 fun x => ?_
    rw [wantL_mem]
    constructor
    · intro hx
      obtain ⟨e, he, rfl⟩ := List.mem_map.1 hx
      obtain ⟨p, ⟨q1, q2⟩, e1⟩ := hm.key e he
      refine ⟨p, q1, by omega, by rw [e1]; rfl, ?_⟩
      have h1 : mget ms e.1 = some e.2 := mget_of_mem hm.ok he
      rw [e1, hm.has p q1 q2] at h1
      split at h1
      · assumption
      · cases h1
    · rintro ⟨p, q1, q2, rfl, q3⟩
      have h1 := hm.has p q1 (by omega)
      rw [if_pos q3] at h1
      obtain ⟨k', h2, h3⟩ := mget_mem h1
      refine List.mem_map.2 ⟨(k', ()), h2, ?_⟩
      obtain ⟨p', _, e1⟩ := hm.key _ h2
      dsimp only at e1
      rw [e1, key_int] at h3
      dsimp only
      rw [e1]
      simp only [keyInt]
      have : (p : Int) = p' := by simpa using h3
      omega
  have hsort : sortI ms = wantL arr k 8 := by
    unfold sortI
    rw [mergeSort_of_perm_i hperm]
    refine List.mergeSort_of_pairwise ?_
    exact (wantL_asc arr k 8).imp fun {x y} h => by simp [leI]; omega
  have hlen : ms.length ≤ 8 := by
    have h1 := sub4 8 ((ms.map fun e => keyInt e.1).map fun x => x.toNat - 2) ?_ ?_
    · simpa using h1
    · unfold List.Nodup
      rw [List.pairwise_map]
      refine List.Pairwise.imp_of_mem ?_ hnd
      intro a b ha hb hab e
      obtain ⟨p, q1, q2, rfl, _⟩ := (wantL_mem arr k a 8).1 (hperm.mem_iff.1 ha)
      obtain ⟨q, q3, q4, rfl, _⟩ := (wantL_mem arr k b 8).1 (hperm.mem_iff.1 hb)
      omega
    · intro x hx
      obtain ⟨a, ha, rfl⟩ := List.mem_map.1 hx
      obtain ⟨p, q1, q2, rfl, _⟩ := (wantL_mem arr k a 8).1 (hperm.mem_iff.1 ha)
      omega
  refine ⟨nb, ms, hg, ⟨hm.ok, by omega, fun e he => ?_⟩, hsort⟩
  obtain ⟨p, ⟨q1, q2⟩, e1⟩ := hm.key e he
  rw [e1]
  simp only [keyInt, Lit.wf, Bool.and_eq_true, decide_eq_true_eq]
  constructor
  · exact decide_eq_true (show (-9223372036854775808 : Int) ≤ _ by omega)
  · exact decide_eq_true (show _ ≤ (9223372036854775807 : Int) by omega)
end Go.Proofs.Ytihajdkipkfiiaa

