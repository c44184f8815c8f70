import Derived.Test.YtjnkfgigpapeaaaMgQueuePlays6
import Derived.Test.YtjnkfgigpapeaaaMgQueuePlays5
set_option linter.unusedVariables false
set_option linter.unusedSimpArgs false
set_option linter.unnecessarySimpa false
set_option maxHeartbeats 0
set_option maxRecDepth 100000
/- queue.Queue[reveille/reveillelaw13.Item]: as1 rows in order. -/
namespace Go.Proofs.Ytjnkfgigpapeaaa
open Go Go.RowKit

structure QUP where
  (l : List IT) (n : Nat)
abbrev quFP (q : Nat) (ao : Option Addr) (cap : Nat) (xs : List (IT × Int)) (n : Nat) : List Ent := [⟨.blk q, .cells [.vec 1 ao xs.length cap, .func (.func 58) [] [], .int .i64 (n : Int)] 165⟩, ⟨.sl ao cap, .vecL 168 3 encItP xs ((⟨0, 0⟩ : IT), (0 : Int))⟩]
def quIP (s : QUP) : Type := { i : (Option Addr × Nat) × List (IT × Int) // QRep (fun a b : IT => decide (a.n < b.n)) ((⟨0, 0⟩ : IT), (0 : Int)) i.2 s.l s.n }
def quEP (s : QUP) (q : Nat) : List Ent := [exP fun i : quIP s => quFP q i.1.1.1 i.1.1.2 i.1.2 s.n]
structure qOkP (s : QUP) : Prop where
  n : s.n ≤ 1000000
  l : s.l.length ≤ 1000000
def qnewPC : Ctr := fun args hs N => match args with
  | [.func (.func g) [] []] => g = 58 ∧ ∀ q, N (snoc hs (pkA q quEP ⟨[], 0⟩)) (.ptr (lenN hs) q 0)
  | _ => False
def qpushPM (s : QUP) (args : List SV) (N : QUP → SV → Prop) : Prop := match args with
  | [.agg cs] => qOkP s ∧ ∃ v, encIT v = cs ∧ N ⟨insB (fun a b : IT => decide (a.n < b.n)) v s.l, s.n + 1⟩ (.tuple [])
  | _ => False
def qpopPM (s : QUP) (args : List SV) (N : QUP → SV → Prop) : Prop := match args with
  | [] => qOkP s ∧ N ⟨s.l.tail, s.n⟩ (.tuple [.agg (encIT (s.l.headD IT.zero)), .int .i64 (match s.l with | [] => 130 | _ :: _ => 0)])
  | _ => False
def qpeekPM (s : QUP) (args : List SV) (N : QUP → SV → Prop) : Prop := match args with
  | [] => qOkP s ∧ N s (.tuple [.agg (encIT (s.l.headD IT.zero)), .bool (match s.l with | [] => false | _ :: _ => true)])
  | _ => False
def qlenPM (s : QUP) (args : List SV) (N : QUP → SV → Prop) : Prop := match args with
  | [] => qOkP s ∧ N s (.int .i64 (s.l.length : Int))
  | _ => False
def qdropPC : Ctr := fun args hs N => match args with
  | [.ptr l b 0, .func (.func g) [] [.ptr lr br 0]] => g = 62 ∧ match nth hs l with
    | some ⟨.blk b', .adt (σ := σ') p s⟩ => b' = b ∧ ∃ h : σ' = QUP, AdtIs p quEP ∧ ∃ (md : Int), nth hs lr = some ⟨.blk br, .cells [.int .i64 md] 3⟩ ∧ Nat.beq l lr = false ∧ qOkP (cast h s) ∧
        N (setN hs l (pkA b quEP ⟨(cast h s).l.filter (fun x => !qPpred md x), (cast h s).n⟩)) (.int .i64 (((cast h s).l.length : Int) - (((cast h s).l.filter (fun x => !qPpred md x)).length : Int)))
    | _ => False
  | _ => False
def qTP3 : Tbl := [(80, hpushC 168 3 encItP ((⟨0, 0⟩ : IT), (0 : Int)) 166 24 RP), (81, hpopC 168 3 encItP ((⟨0, 0⟩ : IT), (0 : Int)) 166 RP), (64, inl Try.prog [] true Try.f64 300)]
def qTP4 : Tbl := [(64, inl Try.prog [] true Try.f64 300), (90, dlfPC), (92, hinitC 168 3 encItP ((⟨0, 0⟩ : IT), (0 : Int)) 166 RP)]
def qTP5 : Tbl := [(57, qnewPC), (59, adtC quEP qpushPM), (60, adtC quEP qpopPM), (63, adtC quEP qpeekPM), (64, adtC quEP qlenPM), (61, qdropPC)]
end Go.Proofs.Ytjnkfgigpapeaaa

namespace Go.Proofs.Ytjnkfgigpapeaaa
open Go Go.RowKit

theorem qPix_start (K : List Frm → Sy → Prop) (N : List Ent → SV → Prop) (ao : Option Addr) (cap : Nat) (xs : List (IT × Int)) (bm br : Nat) (md : Int) : (run Try.prog qDP0 false [] K (retP Try.prog Try.f105.results.toList N) 300 [.code (bodyOf Try.f105)] ⟨padTo 19 [.vec 0 ao xs.length cap, .func (.func 91) [] [.ptr 1 bm 0]], [⟨.sl ao cap, .vecL 168 3 encItP xs ((⟨0, 0⟩ : IT), (0 : Int))⟩, ⟨.blk bm, .cells [.func (.func 62) [] [.ptr 2 br 0]] 106⟩, ⟨.blk br, .cells [.int .i64 md] 3⟩]⟩) = (
K (frm [] (bodyOf Try.f105) [1, 0, 1, 0] [])
 (Sy.mk (SV.vec 0 ao (List.length xs) cap :: (SV.func (Fn.func (91 : FuncId)) [] [SV.ptr 1 bm 0] :: (SV.raw (Value.tuple #[]) :: (SV.raw (Value.tuple #[]) :: (SV.int IntKind.i64 (0 : Int) :: (SV.raw (Value.tuple #[]) :: (SV.vec 0 ao (List.length xs) cap :: (SV.int IntKind.i64 (↑(List.length xs) : Int) :: (SV.int IntKind.i64 (0 : Int) :: (rawE [] 10))))))))))
  [Ent.mk (Loc.sl ao cap) (SObj.vecL (168 : TypeId) 3 encItP xs (IT.mk (0 : Int) (0 : Int), (0 : Int))),
   Ent.mk (Loc.blk bm) (SObj.cells [SV.func (Fn.func (62 : FuncId)) [] [SV.ptr 2 br 0]] (106 : TypeId)), Ent.mk (Loc.blk br) (SObj.cells [SV.int IntKind.i64 md] (3 : TypeId))])) := by kernel_rfl


theorem qPix_body (K : List Frm → Sy → Prop) (N : List Ent → SV → Prop) (J : Act → World → Prop) (ao : Option Addr) (cap : Nat) (xs : List (IT × Int)) (bm br : Nat) (md : Int) (i : Nat) (u : Nat → Value) : (run Try.prog qDP0 false [] K (retP Try.prog Try.f105.results.toList N) 900 (frm [J] (bodyOf Try.f105) [1, 0, 1, 0, 0] []) ⟨mkT u 19 0 [(0, .vec 0 ao xs.length cap), (1, .func (.func 91) [] [.ptr 1 bm 0]), (7, .int .i64 (xs.length : Int)), (8, .int .i64 (i : Int))], [⟨.sl ao cap, .vecL 168 3 encItP xs ((⟨0, 0⟩ : IT), (0 : Int))⟩, ⟨.blk bm, .cells [.func (.func 62) [] [.ptr 2 br 0]] 106⟩, ⟨.blk br, .cells [.int .i64 md] 3⟩]⟩) = (
match decide ((↑i : Int) < (↑(List.length xs) : Int)) with
| true =>
 (ao = ao ∧ cap = cap ∧ List.length xs = List.length xs ∧ (0 : Int) ≤ (↑i : Int) ∧ (↑i : Int) < (↑(List.length xs) : Int)) ∧
  (Addr.blkD ao = Addr.blkD ao ∧ Addr.offD ao = Addr.offD ao ∧ 3 = 3 ∧ Int.toNat (↑i : Int) < List.length xs ∧ 3 = 3) ∧
   true = true ∧
    true = true ∧
     ∀ (b : Nat),
      bm = bm ∧
       (b = b ∧ 2 = 2) ∧
        true = true ∧
         true = true ∧
          ∀ (b_1 : Nat),
           b_1 = b_1 ∧
            (3 : Int) ≠ (0 : Int) ∧
             br = br ∧
              match Int.tmod (List.getD xs (Int.toNat (↑i : Int)) (IT.mk (0 : Int) (0 : Int), (0 : Int))).1.2 (3 : Int) == md with
              | true =>
               N
                [Ent.mk (Loc.sl ao cap) (SObj.vecL (168 : TypeId) 3 encItP xs (IT.mk (0 : Int) (0 : Int), (0 : Int))),
                 Ent.mk (Loc.blk bm) (SObj.cells [SV.func (Fn.func (62 : FuncId)) [] [SV.ptr 2 br 0]] (106 : TypeId)),
                 Ent.mk (Loc.blk br) (SObj.cells [SV.int IntKind.i64 md] (3 : TypeId)),
                 Ent.mk (Loc.blk b)
                  (SObj.cells
                   [SV.int IntKind.i64 (List.getD xs (Int.toNat (↑i : Int)) (IT.mk (0 : Int) (0 : Int), (0 : Int))).1.1,
                    SV.int IntKind.i64 (List.getD xs (Int.toNat (↑i : Int)) (IT.mk (0 : Int) (0 : Int), (0 : Int))).1.2,
                    SV.int IntKind.i64 (List.getD xs (Int.toNat (↑i : Int)) (IT.mk (0 : Int) (0 : Int), (0 : Int))).2]
                   168),
                 Ent.mk (Loc.blk b_1)
                  (SObj.cells
                   [SV.int IntKind.i64 (List.getD xs (Int.toNat (↑i : Int)) (IT.mk (0 : Int) (0 : Int), (0 : Int))).1.1,
                    SV.int IntKind.i64 (List.getD xs (Int.toNat (↑i : Int)) (IT.mk (0 : Int) (0 : Int), (0 : Int))).1.2]
                   98)]
                (SV.int IntKind.i64 (↑i : Int))
              | false =>
               K (Frm.loop J :: Frm.blk 0 :: frm [] (bodyOf Try.f105) [1, 1] [])
                (Sy.mk (SV.vec 0 ao (List.length xs) cap :: (SV.func (Fn.func (91 : FuncId)) [] [SV.ptr 1 bm 0] :: (rawR u 2 (SV.int IntKind.i64 (↑i : Int) :: (SV.raw (u 6) :: (SV.int IntKind.i64 (↑(List.length xs) : Int) :: (SV.int IntKind.i64 (IntKind.wrap IntKind.i64 ((↑i : Int) + (1 : Int))) :: (SV.bool true :: (SV.int IntKind.i64 (↑i : Int) :: (SV.func (Fn.func (91 : FuncId)) [] [SV.ptr 1 bm 0] :: (SV.vec 0 ao (List.length xs) cap :: (SV.int IntKind.i64 (↑i : Int) :: (SV.eptr 0 (Addr.blkD ao) (Addr.offD ao) 3 (Int.toNat (↑i : Int)) 0 :: (SV.agg [SV.int IntKind.i64 (List.getD xs (Int.toNat (↑i : Int)) (IT.mk (0 : Int) (0 : Int), (0 : Int))).1.1, SV.int IntKind.i64 (List.getD xs (Int.toNat (↑i : Int)) (IT.mk (0 : Int) (0 : Int), (0 : Int))).1.2, SV.int IntKind.i64 (List.getD xs (Int.toNat (↑i : Int)) (IT.mk (0 : Int) (0 : Int), (0 : Int))).2] :: (SV.bool false :: (SV.raw (u 17) :: (SV.int IntKind.i64 (IntKind.wrap IntKind.i64 ((↑i : Int) + (1 : Int))) :: [])))))))))))))) 3)))
                 [Ent.mk (Loc.sl ao cap) (SObj.vecL (168 : TypeId) 3 encItP xs (IT.mk (0 : Int) (0 : Int), (0 : Int))),
                  Ent.mk (Loc.blk bm) (SObj.cells [SV.func (Fn.func (62 : FuncId)) [] [SV.ptr 2 br 0]] (106 : TypeId)),
                  Ent.mk (Loc.blk br) (SObj.cells [SV.int IntKind.i64 md] (3 : TypeId)),
                  Ent.mk (Loc.blk b)
                   (SObj.cells
                    [SV.int IntKind.i64 (List.getD xs (Int.toNat (↑i : Int)) (IT.mk (0 : Int) (0 : Int), (0 : Int))).1.1,
                     SV.int IntKind.i64 (List.getD xs (Int.toNat (↑i : Int)) (IT.mk (0 : Int) (0 : Int), (0 : Int))).1.2,
                     SV.int IntKind.i64 (List.getD xs (Int.toNat (↑i : Int)) (IT.mk (0 : Int) (0 : Int), (0 : Int))).2]
                    168),
                  Ent.mk (Loc.blk b_1)
                   (SObj.cells
                    [SV.int IntKind.i64 (List.getD xs (Int.toNat (↑i : Int)) (IT.mk (0 : Int) (0 : Int), (0 : Int))).1.1,
                     SV.int IntKind.i64 (List.getD xs (Int.toNat (↑i : Int)) (IT.mk (0 : Int) (0 : Int), (0 : Int))).1.2]
                    98)])
| false =>
 N
  [Ent.mk (Loc.sl ao cap) (SObj.vecL (168 : TypeId) 3 encItP xs (IT.mk (0 : Int) (0 : Int), (0 : Int))),
   Ent.mk (Loc.blk bm) (SObj.cells [SV.func (Fn.func (62 : FuncId)) [] [SV.ptr 2 br 0]] (106 : TypeId)), Ent.mk (Loc.blk br) (SObj.cells [SV.int IntKind.i64 md] (3 : TypeId))]
  (SV.int IntKind.i64 (-1 : Int))) := by kernel_rfl


theorem qPde_start (K : List Frm → Sy → Prop) (N : List Ent → SV → Prop) (ao : Option Addr) (cap : Nat) (xs : List (IT × Int)) (bm br : Nat) (md : Int) : (run Try.prog qDP1 false [] K (retP Try.prog Try.f90.results.toList N) 600 [.code (bodyOf Try.f90)] ⟨padTo 42 [.vec 0 ao xs.length cap, .func (.func 91) [] [.ptr 1 bm 0]], [⟨.sl ao cap, .vecL 168 3 encItP xs ((⟨0, 0⟩ : IT), (0 : Int))⟩, ⟨.blk bm, .cells [.func (.func 62) [] [.ptr 2 br 0]] 106⟩, ⟨.blk br, .cells [.int .i64 md] 3⟩]⟩) = (
true = true ∧
 (91 : FuncId) = (91 : FuncId) ∧
  ∃ (xs_1 : List (IT × Int)),
   ∃ (lr : Nat),
    ∃ (br_1 : Nat),
     ∃ (md_1 : Int),
      some (Ent.mk (Loc.sl ao cap) (SObj.vecL (168 : TypeId) 3 encItP xs (IT.mk (0 : Int) (0 : Int), (0 : Int)))) =
       some (Ent.mk (Loc.sl ao cap) (SObj.vecL (168 : TypeId) 3 encItP xs_1 (IT.mk (0 : Int) (0 : Int), (0 : Int)))) ∧
       some (Ent.mk (Loc.blk bm) (SObj.cells [SV.func (Fn.func (62 : FuncId)) [] [SV.ptr 2 br 0]] (106 : TypeId))) =
        some (Ent.mk (Loc.blk bm) (SObj.cells [SV.func (Fn.func (62 : FuncId)) [] [SV.ptr lr br_1 0]] (106 : TypeId))) ∧
        nth
         [Ent.mk (Loc.sl ao cap) (SObj.vecL (168 : TypeId) 3 encItP xs (IT.mk (0 : Int) (0 : Int), (0 : Int))),
          Ent.mk (Loc.blk bm) (SObj.cells [SV.func (Fn.func (62 : FuncId)) [] [SV.ptr 2 br 0]] (106 : TypeId)),
          Ent.mk (Loc.blk br) (SObj.cells [SV.int IntKind.i64 md] (3 : TypeId))]
         lr =
         some (Ent.mk (Loc.blk br_1) (SObj.cells [SV.int IntKind.i64 md_1] (3 : TypeId))) ∧
         (distinct [0, 1, lr] = true ∧ List.length xs = List.length xs_1 ∧ List.length xs_1 ≤ 1000000000) ∧
          match dIx (fun (x : IT × Int) ↦ qPpred md_1 x.fst) xs_1 (0 : Int) == (-1 : Int) with
          | true =>
           N
            [Ent.mk (Loc.sl ao cap) (SObj.vecL (168 : TypeId) 3 encItP xs (IT.mk (0 : Int) (0 : Int), (0 : Int))),
             Ent.mk (Loc.blk bm) (SObj.cells [SV.func (Fn.func (62 : FuncId)) [] [SV.ptr 2 br 0]] (106 : TypeId)),
             Ent.mk (Loc.blk br) (SObj.cells [SV.int IntKind.i64 md] (3 : TypeId))]
            (SV.vec 0 ao (List.length xs) cap)
          | false =>
           K (frm [] (bodyOf Try.f90) [1, 1, 1, 0, 1, 0] [])
            (Sy.mk (SV.vec 0 ao (List.length xs) cap :: (SV.func (Fn.func (91 : FuncId)) [] [SV.ptr 1 bm 0] :: (SV.raw (Value.tuple #[]) :: (SV.raw (Value.tuple #[]) :: (SV.raw (Value.slice (@none Addr) 0 0) :: ((SV.int IntKind.i64 (dIx (fun (x : IT × Int) ↦ qPpred md_1 x.fst) xs_1 (0 : Int))) :: ((SV.int IntKind.i64 (IntKind.wrap IntKind.i64 (dIx (fun (x : IT × Int) ↦ qPpred md_1 x.fst) xs_1 (0 : Int) + (1 : Int)))) :: (SV.raw (Value.tuple #[]) :: (SV.vec 0 ao (List.length xs) cap :: (SV.func (Fn.func (91 : FuncId)) [] [SV.ptr 1 bm 0] :: ((SV.int IntKind.i64 (dIx (fun (x : IT × Int) ↦ qPpred md_1 x.fst) xs_1 (0 : Int))) :: ((SV.int IntKind.i64 (dIx (fun (x : IT × Int) ↦ qPpred md_1 x.fst) xs_1 (0 : Int))) :: (SV.bool false :: (SV.raw (Value.tuple #[]) :: ((SV.int IntKind.i64 (dIx (fun (x : IT × Int) ↦ qPpred md_1 x.fst) xs_1 (0 : Int))) :: ((SV.int IntKind.i64 (IntKind.wrap IntKind.i64 (dIx (fun (x : IT × Int) ↦ qPpred md_1 x.fst) xs_1 (0 : Int) + (1 : Int)))) :: (rawE [] 26)))))))))))))))))
             [Ent.mk (Loc.sl ao cap) (SObj.vecL (168 : TypeId) 3 encItP xs (IT.mk (0 : Int) (0 : Int), (0 : Int))),
              Ent.mk (Loc.blk bm) (SObj.cells [SV.func (Fn.func (62 : FuncId)) [] [SV.ptr 2 br 0]] (106 : TypeId)),
              Ent.mk (Loc.blk br) (SObj.cells [SV.int IntKind.i64 md] (3 : TypeId))])) := by kernel_rfl


theorem qPde_body (K : List Frm → Sy → Prop) (N : List Ent → SV → Prop) (J : Act → World → Prop) (ao : Option Addr) (cap : Nat) (xs : List (IT × Int)) (bm br : Nat) (md : Int) (i j : Nat) (u : Nat → Value) : (run Try.prog qDP1 false [] K (retP Try.prog Try.f90.results.toList N) 900 (frm [J] (bodyOf Try.f90) [1, 1, 1, 0, 1, 0, 0] []) ⟨mkT u 42 0 [(0, .vec 0 ao xs.length cap), (1, .func (.func 91) [] [.ptr 1 bm 0]), (5, .int .i64 (i : Int)), (6, .int .i64 (j : Int))], [⟨.sl ao cap, .vecL 168 3 encItP xs ((⟨0, 0⟩ : IT), (0 : Int))⟩, ⟨.blk bm, .cells [.func (.func 62) [] [.ptr 2 br 0]] 106⟩, ⟨.blk br, .cells [.int .i64 md] 3⟩]⟩) = (
match decide ((↑j : Int) < (↑(List.length xs) : Int)) with
| true =>
 (ao = ao ∧ cap = cap ∧ List.length xs = List.length xs ∧ (0 : Int) ≤ (↑j : Int) ∧ (↑j : Int) < (↑(List.length xs) : Int)) ∧
  (Addr.blkD ao = Addr.blkD ao ∧ Addr.offD ao = Addr.offD ao ∧ 3 = 3 ∧ Int.toNat (↑j : Int) < List.length xs ∧ 3 = 3) ∧
   ∀ (b : Nat),
    (b = b ∧ true = true ∧ 3 = 3 ∧ 3 ≤ 3) ∧
     (b = b ∧ 3 = 3) ∧
      true = true ∧
       true = true ∧
        ∀ (b_1 : Nat),
         bm = bm ∧
          (b_1 = b_1 ∧ 2 = 2) ∧
           true = true ∧
            true = true ∧
             ∀ (b_2 : Nat),
              b_2 = b_2 ∧
               (3 : Int) ≠ (0 : Int) ∧
                br = br ∧
                 match !Int.tmod (List.getD xs (Int.toNat (↑j : Int)) (IT.mk (0 : Int) (0 : Int), (0 : Int))).1.2 (3 : Int) == md with
                 | true =>
                  (b = b ∧ 3 = 3) ∧
                   (ao = ao ∧ cap = cap ∧ List.length xs = List.length xs ∧ (0 : Int) ≤ (↑i : Int) ∧ (↑i : Int) < (↑(List.length xs) : Int)) ∧
                    (Addr.blkD ao = Addr.blkD ao ∧
                     Addr.offD ao = Addr.offD ao ∧ 3 = 3 ∧ Int.toNat (↑i : Int) < List.length xs ∧ true = true ∧ 3 = 3 ∧ 3 ≤ 3) ∧
                     ∃ (e : IT × Int),
                      denL [SV.int IntKind.i64 e.1.1, SV.int IntKind.i64 e.1.2, SV.int IntKind.i64 e.2] =
                       denL
                        [SV.int IntKind.i64 (List.getD xs (Int.toNat (↑j : Int)) (IT.mk (0 : Int) (0 : Int), (0 : Int))).1.1,
                         SV.int IntKind.i64 (List.getD xs (Int.toNat (↑j : Int)) (IT.mk (0 : Int) (0 : Int), (0 : Int))).1.2,
                         SV.int IntKind.i64 (List.getD xs (Int.toNat (↑j : Int)) (IT.mk (0 : Int) (0 : Int), (0 : Int))).2] ∧
                       K (Frm.loop J :: Frm.blk 0 :: frm [] (bodyOf Try.f90) [1, 1, 1, 1] [])
                        (Sy.mk (SV.vec 0 ao (List.length xs) cap :: (SV.func (Fn.func (91 : FuncId)) [] [SV.ptr 1 bm 0] :: (rawR u 2 (SV.int IntKind.i64 (IntKind.wrap IntKind.i64 ((↑i : Int) + (1 : Int))) :: (SV.int IntKind.i64 (IntKind.wrap IntKind.i64 ((↑j : Int) + (1 : Int))) :: (SV.ptr 3 b 0 :: (rawR u 8 (SV.int IntKind.i64 (↑j : Int) :: (SV.vec 0 ao (List.length xs) cap :: (SV.int IntKind.i64 (↑(List.length xs) : Int) :: (SV.bool true :: (SV.int IntKind.i64 (↑j : Int) :: (SV.int IntKind.i64 (IntKind.wrap IntKind.i64 ((↑j : Int) + (1 : Int))) :: (SV.vec 0 ao (List.length xs) cap :: (SV.int IntKind.i64 (↑j : Int) :: (SV.eptr 0 (Addr.blkD ao) (Addr.offD ao) 3 (Int.toNat (↑j : Int)) 0 :: (SV.agg [SV.int IntKind.i64 (List.getD xs (Int.toNat (↑j : Int)) (IT.mk (0 : Int) (0 : Int), (0 : Int))).1.1, SV.int IntKind.i64 (List.getD xs (Int.toNat (↑j : Int)) (IT.mk (0 : Int) (0 : Int), (0 : Int))).1.2, SV.int IntKind.i64 (List.getD xs (Int.toNat (↑j : Int)) (IT.mk (0 : Int) (0 : Int), (0 : Int))).2] :: (SV.func (Fn.func (91 : FuncId)) [] [SV.ptr 1 bm 0] :: (SV.agg [SV.int IntKind.i64 (List.getD xs (Int.toNat (↑j : Int)) (IT.mk (0 : Int) (0 : Int), (0 : Int))).1.1, SV.int IntKind.i64 (List.getD xs (Int.toNat (↑j : Int)) (IT.mk (0 : Int) (0 : Int), (0 : Int))).1.2, SV.int IntKind.i64 (List.getD xs (Int.toNat (↑j : Int)) (IT.mk (0 : Int) (0 : Int), (0 : Int))).2] :: ((SV.bool (Int.tmod (List.getD xs (Int.toNat (↑j : Int)) (IT.mk (0 : Int) (0 : Int), (0 : Int))).1.2 (3 : Int) == md)) :: (SV.bool true :: (SV.vec 0 ao (List.length xs) cap :: (SV.int IntKind.i64 (↑i : Int) :: (SV.agg [SV.int IntKind.i64 (List.getD xs (Int.toNat (↑j : Int)) (IT.mk (0 : Int) (0 : Int), (0 : Int))).1.1, SV.int IntKind.i64 (List.getD xs (Int.toNat (↑j : Int)) (IT.mk (0 : Int) (0 : Int), (0 : Int))).1.2, SV.int IntKind.i64 (List.getD xs (Int.toNat (↑j : Int)) (IT.mk (0 : Int) (0 : Int), (0 : Int))).2] :: (SV.eptr 0 (Addr.blkD ao) (Addr.offD ao) 3 (Int.toNat (↑i : Int)) 0 :: (SV.int IntKind.i64 (↑i : Int) :: (SV.int IntKind.i64 (IntKind.wrap IntKind.i64 ((↑i : Int) + (1 : Int))) :: (rawR u 36 [] 6))))))))))))))))))))) 8)))) 3)))
                         [Ent.mk (Loc.sl ao cap) (SObj.vecL (168 : TypeId) 3 encItP (List.set xs (Int.toNat (↑i : Int)) e) (IT.mk (0 : Int) (0 : Int), (0 : Int))),
                          Ent.mk (Loc.blk bm) (SObj.cells [SV.func (Fn.func (62 : FuncId)) [] [SV.ptr 2 br 0]] (106 : TypeId)),
                          Ent.mk (Loc.blk br) (SObj.cells [SV.int IntKind.i64 md] (3 : TypeId)),
                          Ent.mk (Loc.blk b)
                           (SObj.cells
                            [SV.int IntKind.i64 (List.getD xs (Int.toNat (↑j : Int)) (IT.mk (0 : Int) (0 : Int), (0 : Int))).1.1,
                             SV.int IntKind.i64 (List.getD xs (Int.toNat (↑j : Int)) (IT.mk (0 : Int) (0 : Int), (0 : Int))).1.2,
                             SV.int IntKind.i64 (List.getD xs (Int.toNat (↑j : Int)) (IT.mk (0 : Int) (0 : Int), (0 : Int))).2]
                            168),
                          Ent.mk (Loc.blk b_1)
                           (SObj.cells
                            [SV.int IntKind.i64 (List.getD xs (Int.toNat (↑j : Int)) (IT.mk (0 : Int) (0 : Int), (0 : Int))).1.1,
                             SV.int IntKind.i64 (List.getD xs (Int.toNat (↑j : Int)) (IT.mk (0 : Int) (0 : Int), (0 : Int))).1.2,
                             SV.int IntKind.i64 (List.getD xs (Int.toNat (↑j : Int)) (IT.mk (0 : Int) (0 : Int), (0 : Int))).2]
                            168),
                          Ent.mk (Loc.blk b_2)
                           (SObj.cells
                            [SV.int IntKind.i64 (List.getD xs (Int.toNat (↑j : Int)) (IT.mk (0 : Int) (0 : Int), (0 : Int))).1.1,
                             SV.int IntKind.i64 (List.getD xs (Int.toNat (↑j : Int)) (IT.mk (0 : Int) (0 : Int), (0 : Int))).1.2]
                            98)])
                 | false =>
                  K (Frm.loop J :: Frm.blk 0 :: frm [] (bodyOf Try.f90) [1, 1, 1, 1] [])
                   (Sy.mk (SV.vec 0 ao (List.length xs) cap :: (SV.func (Fn.func (91 : FuncId)) [] [SV.ptr 1 bm 0] :: (rawR u 2 (SV.int IntKind.i64 (↑i : Int) :: (SV.int IntKind.i64 (IntKind.wrap IntKind.i64 ((↑j : Int) + (1 : Int))) :: (SV.ptr 3 b 0 :: (rawR u 8 (SV.int IntKind.i64 (↑j : Int) :: (SV.vec 0 ao (List.length xs) cap :: (SV.int IntKind.i64 (↑(List.length xs) : Int) :: (SV.bool true :: (SV.int IntKind.i64 (↑j : Int) :: (SV.int IntKind.i64 (IntKind.wrap IntKind.i64 ((↑j : Int) + (1 : Int))) :: (SV.vec 0 ao (List.length xs) cap :: (SV.int IntKind.i64 (↑j : Int) :: (SV.eptr 0 (Addr.blkD ao) (Addr.offD ao) 3 (Int.toNat (↑j : Int)) 0 :: (SV.agg [SV.int IntKind.i64 (List.getD xs (Int.toNat (↑j : Int)) (IT.mk (0 : Int) (0 : Int), (0 : Int))).1.1, SV.int IntKind.i64 (List.getD xs (Int.toNat (↑j : Int)) (IT.mk (0 : Int) (0 : Int), (0 : Int))).1.2, SV.int IntKind.i64 (List.getD xs (Int.toNat (↑j : Int)) (IT.mk (0 : Int) (0 : Int), (0 : Int))).2] :: (SV.func (Fn.func (91 : FuncId)) [] [SV.ptr 1 bm 0] :: (SV.agg [SV.int IntKind.i64 (List.getD xs (Int.toNat (↑j : Int)) (IT.mk (0 : Int) (0 : Int), (0 : Int))).1.1, SV.int IntKind.i64 (List.getD xs (Int.toNat (↑j : Int)) (IT.mk (0 : Int) (0 : Int), (0 : Int))).1.2, SV.int IntKind.i64 (List.getD xs (Int.toNat (↑j : Int)) (IT.mk (0 : Int) (0 : Int), (0 : Int))).2] :: ((SV.bool (Int.tmod (List.getD xs (Int.toNat (↑j : Int)) (IT.mk (0 : Int) (0 : Int), (0 : Int))).1.2 (3 : Int) == md)) :: (SV.bool false :: (rawR u 30 [] 12))))))))))))))) 8)))) 3)))
                    [Ent.mk (Loc.sl ao cap) (SObj.vecL (168 : TypeId) 3 encItP xs (IT.mk (0 : Int) (0 : Int), (0 : Int))),
                     Ent.mk (Loc.blk bm) (SObj.cells [SV.func (Fn.func (62 : FuncId)) [] [SV.ptr 2 br 0]] (106 : TypeId)),
                     Ent.mk (Loc.blk br) (SObj.cells [SV.int IntKind.i64 md] (3 : TypeId)),
                     Ent.mk (Loc.blk b)
                      (SObj.cells
                       [SV.int IntKind.i64 (List.getD xs (Int.toNat (↑j : Int)) (IT.mk (0 : Int) (0 : Int), (0 : Int))).1.1,
                        SV.int IntKind.i64 (List.getD xs (Int.toNat (↑j : Int)) (IT.mk (0 : Int) (0 : Int), (0 : Int))).1.2,
                        SV.int IntKind.i64 (List.getD xs (Int.toNat (↑j : Int)) (IT.mk (0 : Int) (0 : Int), (0 : Int))).2]
                       168),
                     Ent.mk (Loc.blk b_1)
                      (SObj.cells
                       [SV.int IntKind.i64 (List.getD xs (Int.toNat (↑j : Int)) (IT.mk (0 : Int) (0 : Int), (0 : Int))).1.1,
                        SV.int IntKind.i64 (List.getD xs (Int.toNat (↑j : Int)) (IT.mk (0 : Int) (0 : Int), (0 : Int))).1.2,
                        SV.int IntKind.i64 (List.getD xs (Int.toNat (↑j : Int)) (IT.mk (0 : Int) (0 : Int), (0 : Int))).2]
                       168),
                     Ent.mk (Loc.blk b_2)
                      (SObj.cells
                       [SV.int IntKind.i64 (List.getD xs (Int.toNat (↑j : Int)) (IT.mk (0 : Int) (0 : Int), (0 : Int))).1.1,
                        SV.int IntKind.i64 (List.getD xs (Int.toNat (↑j : Int)) (IT.mk (0 : Int) (0 : Int), (0 : Int))).1.2]
                       98)])
| false =>
 ((0 : Int) ≤ (↑i : Int) ∧ (↑i : Int) ≤ (↑(List.length xs) : Int) ∧ List.length xs ≤ cap) ∧
  (ao = ao ∧ cap = cap ∧ 3 = 3 ∧ 3 = 3 ∧ true = true ∧ Int.toNat (↑i : Int) ≤ List.length xs ∧ List.length xs ≤ List.length xs) ∧
   ((0 : Int) ≤ (↑i : Int) ∧ (↑i : Int) ≤ (↑cap : Int)) ∧
    N
     [Ent.mk (Loc.sl ao cap) (SObj.vecL (168 : TypeId) 3 encItP (List.take (Int.toNat (↑i : Int)) xs) (IT.mk (0 : Int) (0 : Int), (0 : Int))),
      Ent.mk (Loc.blk bm) (SObj.cells [SV.func (Fn.func (62 : FuncId)) [] [SV.ptr 2 br 0]] (106 : TypeId)), Ent.mk (Loc.blk br) (SObj.cells [SV.int IntKind.i64 md] (3 : TypeId))]
     (SV.sub 0 ao cap 3 0 (Int.toNat (↑i : Int)))) := by kernel_rfl
end Go.Proofs.Ytjnkfgigpapeaaa

namespace Go.Proofs.Ytjnkfgigpapeaaa
open Go Go.RowKit

theorem qPup_start (K : List Frm → Sy → Prop) (N : List Ent → SV → Prop) (J : Act → World → Prop) (u : Nat → Value) (b cap : Nat) (ao : Option Addr) (rest : List SV) (T : TypeId) (xs : List (IT × Int)) (f : FuncId) (j : Int) : (run Try.prog qTP1 false [] K (retP Try.prog Try.f99.results.toList N) 900 [.code (bodyOf Try.f99)] ⟨padTo 23 [(.iface 166 (.ptr 0 b 0)), .int .i64 j], qhG 168 3 encItP ((⟨0, 0⟩ : IT), (0 : Int)) b ao cap f rest T xs⟩) = (
K (frm [] (bodyOf Try.f99) [0] [])
 (Sy.mk (SV.iface (166 : TypeId) (SV.ptr 0 b 0) :: (SV.int IntKind.i64 j :: (rawE [] 21)))
  [Ent.mk (Loc.blk b) (SObj.cells (SV.vec 1 ao (List.length xs) cap :: SV.func (Fn.func f) [] [] :: rest) T),
   Ent.mk (Loc.sl ao cap) (SObj.vecL (168 : TypeId) 3 encItP xs (IT.mk (0 : Int) (0 : Int), (0 : Int)))])) := by kernel_rfl


theorem qPup_body (K : List Frm → Sy → Prop) (N : List Ent → SV → Prop) (J : Act → World → Prop) (u : Nat → Value) (b cap : Nat) (ao : Option Addr) (rest : List SV) (T : TypeId) (xs : List (IT × Int)) (f : FuncId) (j : Int) : (run Try.prog qTP1 false [] K (retP Try.prog Try.f99.results.toList N) 900 (frm [J] (bodyOf Try.f99) [0, 0] []) ⟨mkT u 23 0 [(0, (.iface 166 (.ptr 0 b 0))), (1, .int .i64 j)], qhG 168 3 encItP ((⟨0, 0⟩ : IT), (0 : Int)) b ao cap f rest T xs⟩) = (
(2 : Int) ≠ (0 : Int) ∧
 match IntKind.wrap IntKind.i64 (Int.tdiv (IntKind.wrap IntKind.i64 (j - (1 : Int))) (2 : Int)) == j with
 | true =>
  N
   [Ent.mk (Loc.blk b) (SObj.cells (SV.vec 1 ao (List.length xs) cap :: SV.func (Fn.func f) [] [] :: rest) T),
    Ent.mk (Loc.sl ao cap) (SObj.vecL (168 : TypeId) 3 encItP xs (IT.mk (0 : Int) (0 : Int), (0 : Int)))]
   (SV.tuple [])
 | false =>
  true = true ∧
   ∃ (xs_1 : List (IT × Int)),
    (Ent.mk (Loc.sl ao cap) (SObj.vecL (168 : TypeId) 3 encItP xs (IT.mk (0 : Int) (0 : Int), (0 : Int))) =
     Ent.mk (Loc.sl ao cap) (SObj.vecL (168 : TypeId) 3 encItP xs_1 (IT.mk (0 : Int) (0 : Int), (0 : Int))) ∧
     b = b ∧ List.length xs = List.length xs_1 ∧ false = false) ∧
     (IntKind.i64 = IntKind.i64 ∧
      IntKind.i64 = IntKind.i64 ∧
       (0 : Int) ≤ j ∧
        j < (↑(List.length xs_1) : Int) ∧
         (0 : Int) ≤ IntKind.wrap IntKind.i64 (Int.tdiv (IntKind.wrap IntKind.i64 (j - (1 : Int))) (2 : Int)) ∧
          IntKind.wrap IntKind.i64 (Int.tdiv (IntKind.wrap IntKind.i64 (j - (1 : Int))) (2 : Int)) < (↑(List.length xs_1) : Int)) ∧
      ∃ (bef : IT → IT → Bool),
       RP f bef ∧
        match
         !lessI bef (List.getD xs_1 (Int.toNat j) (IT.mk (0 : Int) (0 : Int), (0 : Int)))
          (List.getD xs_1 (Int.toNat (IntKind.wrap IntKind.i64 (Int.tdiv (IntKind.wrap IntKind.i64 (j - (1 : Int))) (2 : Int)))) (IT.mk (0 : Int) (0 : Int), (0 : Int))) with
        | true =>
         N
          [Ent.mk (Loc.blk b) (SObj.cells (SV.vec 1 ao (List.length xs) cap :: SV.func (Fn.func f) [] [] :: rest) T),
           Ent.mk (Loc.sl ao cap) (SObj.vecL (168 : TypeId) 3 encItP xs (IT.mk (0 : Int) (0 : Int), (0 : Int)))]
          (SV.tuple [])
        | false =>
         true = true ∧
          ∃ (xs_2 : List (IT × Int)),
           (Ent.mk (Loc.sl ao cap) (SObj.vecL (168 : TypeId) 3 encItP xs (IT.mk (0 : Int) (0 : Int), (0 : Int))) =
            Ent.mk (Loc.sl ao cap) (SObj.vecL (168 : TypeId) 3 encItP xs_2 (IT.mk (0 : Int) (0 : Int), (0 : Int))) ∧
            b = b ∧ List.length xs = List.length xs_2 ∧ false = false) ∧
            (IntKind.i64 = IntKind.i64 ∧
             IntKind.i64 = IntKind.i64 ∧
              (0 : Int) ≤ IntKind.wrap IntKind.i64 (Int.tdiv (IntKind.wrap IntKind.i64 (j - (1 : Int))) (2 : Int)) ∧
               IntKind.wrap IntKind.i64 (Int.tdiv (IntKind.wrap IntKind.i64 (j - (1 : Int))) (2 : Int)) < (↑(List.length xs_2) : Int) ∧
                (0 : Int) ≤ j ∧ j < (↑(List.length xs_2) : Int)) ∧
             K [Frm.loop J, Frm.blk 0]
              (Sy.mk (SV.iface (166 : TypeId) (SV.ptr 0 b 0) :: (SV.int IntKind.i64 (IntKind.wrap IntKind.i64 (Int.tdiv (IntKind.wrap IntKind.i64 (j - (1 : Int))) (2 : Int))) :: (SV.raw (u 2) :: (SV.raw (u 3) :: (SV.int IntKind.i64 (IntKind.wrap IntKind.i64 (Int.tdiv (IntKind.wrap IntKind.i64 (j - (1 : Int))) (2 : Int))) :: (SV.int IntKind.i64 j :: (SV.int IntKind.i64 (IntKind.wrap IntKind.i64 (j - (1 : Int))) :: (SV.int IntKind.i64 (IntKind.wrap IntKind.i64 (Int.tdiv (IntKind.wrap IntKind.i64 (j - (1 : Int))) (2 : Int))) :: (SV.int IntKind.i64 (IntKind.wrap IntKind.i64 (Int.tdiv (IntKind.wrap IntKind.i64 (j - (1 : Int))) (2 : Int))) :: (SV.int IntKind.i64 j :: ((SV.bool (IntKind.wrap IntKind.i64 (Int.tdiv (IntKind.wrap IntKind.i64 (j - (1 : Int))) (2 : Int)) == j)) :: (SV.bool false :: (SV.iface (166 : TypeId) (SV.ptr 0 b 0) :: (SV.int IntKind.i64 j :: (SV.int IntKind.i64 (IntKind.wrap IntKind.i64 (Int.tdiv (IntKind.wrap IntKind.i64 (j - (1 : Int))) (2 : Int))) :: (SV.bool (lessI bef (List.getD xs_1 (Int.toNat j) (IT.mk (0 : Int) (0 : Int), (0 : Int))) (List.getD xs_1 (Int.toNat (IntKind.wrap IntKind.i64 (Int.tdiv (IntKind.wrap IntKind.i64 (j - (1 : Int))) (2 : Int)))) (IT.mk (0 : Int) (0 : Int), (0 : Int)))) :: ((SV.bool !lessI bef (List.getD xs_1 (Int.toNat j) (IT.mk (0 : Int) (0 : Int), (0 : Int))) (List.getD xs_1 (Int.toNat (IntKind.wrap IntKind.i64 (Int.tdiv (IntKind.wrap IntKind.i64 (j - (1 : Int))) (2 : Int)))) (IT.mk (0 : Int) (0 : Int), (0 : Int)))) :: (SV.bool false :: (SV.iface (166 : TypeId) (SV.ptr 0 b 0) :: (SV.int IntKind.i64 (IntKind.wrap IntKind.i64 (Int.tdiv (IntKind.wrap IntKind.i64 (j - (1 : Int))) (2 : Int))) :: (SV.int IntKind.i64 j :: (SV.tuple [] :: (SV.int IntKind.i64 (IntKind.wrap IntKind.i64 (Int.tdiv (IntKind.wrap IntKind.i64 (j - (1 : Int))) (2 : Int))) :: [])))))))))))))))))))))))
               [Ent.mk (Loc.blk b)
                (SObj.cells
                 (SV.vec 1 ao
                  (List.length
                   (swapL (IT.mk (0 : Int) (0 : Int), (0 : Int)) xs_2 (Int.toNat (IntKind.wrap IntKind.i64 (Int.tdiv (IntKind.wrap IntKind.i64 (j - (1 : Int))) (2 : Int))))
                    (Int.toNat j)))
                  cap ::
                  SV.func (Fn.func f) [] [] :: rest)
                 T),
                Ent.mk (Loc.sl ao cap)
                 (SObj.vecL (168 : TypeId) 3 encItP
                  (swapL (IT.mk (0 : Int) (0 : Int), (0 : Int)) xs_2 (Int.toNat (IntKind.wrap IntKind.i64 (Int.tdiv (IntKind.wrap IntKind.i64 (j - (1 : Int))) (2 : Int))))
                   (Int.toNat j))
                  (IT.mk (0 : Int) (0 : Int), (0 : Int)))])) := by kernel_rfl


theorem qPdn_start (K : List Frm → Sy → Prop) (N : List Ent → SV → Prop) (J : Act → World → Prop) (u : Nat → Value) (b cap : Nat) (ao : Option Addr) (rest : List SV) (T : TypeId) (xs : List (IT × Int)) (f : FuncId) (i0 n : Int) : (run Try.prog qTP1 false [] K (retP Try.prog Try.f100.results.toList N) 900 [.code (bodyOf Try.f100)] ⟨padTo 48 [(.iface 166 (.ptr 0 b 0)), .int .i64 i0, .int .i64 n], qhG 168 3 encItP ((⟨0, 0⟩ : IT), (0 : Int)) b ao cap f rest T xs⟩) = (
K (frm [] (bodyOf Try.f100) [1, 1, 0, 0] [])
 (Sy.mk (SV.iface (166 : TypeId) (SV.ptr 0 b 0) :: (SV.int IntKind.i64 i0 :: (SV.int IntKind.i64 n :: (rawE (SV.bool false :: (SV.int IntKind.i64 i0 :: (rawE (SV.int IntKind.i64 i0 :: (rawE [] 36)) 3))) 3))))
  [Ent.mk (Loc.blk b) (SObj.cells (SV.vec 1 ao (List.length xs) cap :: SV.func (Fn.func f) [] [] :: rest) T),
   Ent.mk (Loc.sl ao cap) (SObj.vecL (168 : TypeId) 3 encItP xs (IT.mk (0 : Int) (0 : Int), (0 : Int)))])) := by kernel_rfl


theorem qPdn_body (K : List Frm → Sy → Prop) (N : List Ent → SV → Prop) (J : Act → World → Prop) (u : Nat → Value) (b cap : Nat) (ao : Option Addr) (rest : List SV) (T : TypeId) (xs : List (IT × Int)) (f : FuncId) (i0 n i : Int) : (run Try.prog qTP1 false [] K (retP Try.prog Try.f100.results.toList N) 900 (frm [J] (bodyOf Try.f100) [1, 1, 0, 0, 0] []) ⟨mkT u 48 0 [(0, (.iface 166 (.ptr 0 b 0))), (1, .int .i64 i0), (2, .int .i64 n), (7, .int .i64 i)], qhG 168 3 encItP ((⟨0, 0⟩ : IT), (0 : Int)) b ao cap f rest T xs⟩) = (
match decide (IntKind.wrap IntKind.i64 (IntKind.wrap IntKind.i64 ((2 : Int) * i) + (1 : Int)) ≥ n) with
| true =>
 N
  [Ent.mk (Loc.blk b) (SObj.cells (SV.vec 1 ao (List.length xs) cap :: SV.func (Fn.func f) [] [] :: rest) T),
   Ent.mk (Loc.sl ao cap) (SObj.vecL (168 : TypeId) 3 encItP xs (IT.mk (0 : Int) (0 : Int), (0 : Int)))]
  (SV.bool (decide (i > i0)))
| false =>
 match decide (IntKind.wrap IntKind.i64 (IntKind.wrap IntKind.i64 ((2 : Int) * i) + (1 : Int)) < (0 : Int)) with
 | true =>
  N
   [Ent.mk (Loc.blk b) (SObj.cells (SV.vec 1 ao (List.length xs) cap :: SV.func (Fn.func f) [] [] :: rest) T),
    Ent.mk (Loc.sl ao cap) (SObj.vecL (168 : TypeId) 3 encItP xs (IT.mk (0 : Int) (0 : Int), (0 : Int)))]
   (SV.bool (decide (i > i0)))
 | false =>
  match decide (IntKind.wrap IntKind.i64 (IntKind.wrap IntKind.i64 (IntKind.wrap IntKind.i64 ((2 : Int) * i) + (1 : Int)) + (1 : Int)) < n) with
  | true =>
   true = true ∧
    ∃ (xs_1 : List (IT × Int)),
     (Ent.mk (Loc.sl ao cap) (SObj.vecL (168 : TypeId) 3 encItP xs (IT.mk (0 : Int) (0 : Int), (0 : Int))) =
      Ent.mk (Loc.sl ao cap) (SObj.vecL (168 : TypeId) 3 encItP xs_1 (IT.mk (0 : Int) (0 : Int), (0 : Int))) ∧
      b = b ∧ List.length xs = List.length xs_1 ∧ false = false) ∧
      (IntKind.i64 = IntKind.i64 ∧
       IntKind.i64 = IntKind.i64 ∧
        (0 : Int) ≤ IntKind.wrap IntKind.i64 (IntKind.wrap IntKind.i64 (IntKind.wrap IntKind.i64 ((2 : Int) * i) + (1 : Int)) + (1 : Int)) ∧
         IntKind.wrap IntKind.i64 (IntKind.wrap IntKind.i64 (IntKind.wrap IntKind.i64 ((2 : Int) * i) + (1 : Int)) + (1 : Int)) < (↑(List.length xs_1) : Int) ∧
          (0 : Int) ≤ IntKind.wrap IntKind.i64 (IntKind.wrap IntKind.i64 ((2 : Int) * i) + (1 : Int)) ∧
           IntKind.wrap IntKind.i64 (IntKind.wrap IntKind.i64 ((2 : Int) * i) + (1 : Int)) < (↑(List.length xs_1) : Int)) ∧
       ∃ (bef : IT → IT → Bool),
        RP f bef ∧
         match
          lessI bef
           (List.getD xs_1 (Int.toNat (IntKind.wrap IntKind.i64 (IntKind.wrap IntKind.i64 (IntKind.wrap IntKind.i64 ((2 : Int) * i) + (1 : Int)) + (1 : Int))))
            (IT.mk (0 : Int) (0 : Int), (0 : Int)))
           (List.getD xs_1 (Int.toNat (IntKind.wrap IntKind.i64 (IntKind.wrap IntKind.i64 ((2 : Int) * i) + (1 : Int)))) (IT.mk (0 : Int) (0 : Int), (0 : Int))) with
         | true =>
          true = true ∧
           ∃ (xs_2 : List (IT × Int)),
            (Ent.mk (Loc.sl ao cap) (SObj.vecL (168 : TypeId) 3 encItP xs (IT.mk (0 : Int) (0 : Int), (0 : Int))) =
             Ent.mk (Loc.sl ao cap) (SObj.vecL (168 : TypeId) 3 encItP xs_2 (IT.mk (0 : Int) (0 : Int), (0 : Int))) ∧
             b = b ∧ List.length xs = List.length xs_2 ∧ false = false) ∧
             (IntKind.i64 = IntKind.i64 ∧
              IntKind.i64 = IntKind.i64 ∧
               (0 : Int) ≤ IntKind.wrap IntKind.i64 (IntKind.wrap IntKind.i64 (IntKind.wrap IntKind.i64 ((2 : Int) * i) + (1 : Int)) + (1 : Int)) ∧
                IntKind.wrap IntKind.i64 (IntKind.wrap IntKind.i64 (IntKind.wrap IntKind.i64 ((2 : Int) * i) + (1 : Int)) + (1 : Int)) < (↑(List.length xs_2) : Int) ∧
                 (0 : Int) ≤ i ∧ i < (↑(List.length xs_2) : Int)) ∧
              ∃ (bef_1 : IT → IT → Bool),
               RP f bef_1 ∧
                match
                 !lessI bef_1
                  (List.getD xs_2 (Int.toNat (IntKind.wrap IntKind.i64 (IntKind.wrap IntKind.i64 (IntKind.wrap IntKind.i64 ((2 : Int) * i) + (1 : Int)) + (1 : Int))))
                   (IT.mk (0 : Int) (0 : Int), (0 : Int)))
                  (List.getD xs_2 (Int.toNat i) (IT.mk (0 : Int) (0 : Int), (0 : Int))) with
                | true =>
                 N
                  [Ent.mk (Loc.blk b) (SObj.cells (SV.vec 1 ao (List.length xs) cap :: SV.func (Fn.func f) [] [] :: rest) T),
                   Ent.mk (Loc.sl ao cap) (SObj.vecL (168 : TypeId) 3 encItP xs (IT.mk (0 : Int) (0 : Int), (0 : Int)))]
                  (SV.bool (decide (i > i0)))
                | false =>
                 true = true ∧
                  ∃ (xs_3 : List (IT × Int)),
                   (Ent.mk (Loc.sl ao cap) (SObj.vecL (168 : TypeId) 3 encItP xs (IT.mk (0 : Int) (0 : Int), (0 : Int))) =
                    Ent.mk (Loc.sl ao cap) (SObj.vecL (168 : TypeId) 3 encItP xs_3 (IT.mk (0 : Int) (0 : Int), (0 : Int))) ∧
                    b = b ∧ List.length xs = List.length xs_3 ∧ false = false) ∧
                    (IntKind.i64 = IntKind.i64 ∧
                     IntKind.i64 = IntKind.i64 ∧
                      (0 : Int) ≤ i ∧
                       i < (↑(List.length xs_3) : Int) ∧
                        (0 : Int) ≤ IntKind.wrap IntKind.i64 (IntKind.wrap IntKind.i64 (IntKind.wrap IntKind.i64 ((2 : Int) * i) + (1 : Int)) + (1 : Int)) ∧
                         IntKind.wrap IntKind.i64 (IntKind.wrap IntKind.i64 (IntKind.wrap IntKind.i64 ((2 : Int) * i) + (1 : Int)) + (1 : Int)) <
                          (↑(List.length xs_3) : Int)) ∧
                     K (Frm.loop J :: Frm.blk 0 :: frm [] (bodyOf Try.f100) [1, 1, 1] [])
                      (Sy.mk (SV.iface (166 : TypeId) (SV.ptr 0 b 0) :: (SV.int IntKind.i64 i0 :: (SV.int IntKind.i64 n :: (rawR u 3 (SV.int IntKind.i64 (IntKind.wrap IntKind.i64 (IntKind.wrap IntKind.i64 (IntKind.wrap IntKind.i64 ((2 : Int) * i) + (1 : Int)) + (1 : Int))) :: (SV.int IntKind.i64 (IntKind.wrap IntKind.i64 (IntKind.wrap IntKind.i64 ((2 : Int) * i) + (1 : Int))) :: (SV.int IntKind.i64 (IntKind.wrap IntKind.i64 (IntKind.wrap IntKind.i64 (IntKind.wrap IntKind.i64 ((2 : Int) * i) + (1 : Int)) + (1 : Int))) :: (SV.int IntKind.i64 (IntKind.wrap IntKind.i64 (IntKind.wrap IntKind.i64 (IntKind.wrap IntKind.i64 ((2 : Int) * i) + (1 : Int)) + (1 : Int))) :: (SV.raw (u 11) :: (SV.int IntKind.i64 i :: (SV.int IntKind.i64 (IntKind.wrap IntKind.i64 ((2 : Int) * i)) :: (SV.int IntKind.i64 (IntKind.wrap IntKind.i64 (IntKind.wrap IntKind.i64 ((2 : Int) * i) + (1 : Int))) :: (SV.int IntKind.i64 (IntKind.wrap IntKind.i64 (IntKind.wrap IntKind.i64 ((2 : Int) * i) + (1 : Int))) :: (SV.int IntKind.i64 n :: (SV.bool (decide (IntKind.wrap IntKind.i64 (IntKind.wrap IntKind.i64 ((2 : Int) * i) + (1 : Int)) ≥ n)) :: (SV.bool false :: (SV.int IntKind.i64 (IntKind.wrap IntKind.i64 (IntKind.wrap IntKind.i64 ((2 : Int) * i) + (1 : Int))) :: (SV.bool (decide (IntKind.wrap IntKind.i64 (IntKind.wrap IntKind.i64 ((2 : Int) * i) + (1 : Int)) < (0 : Int))) :: (SV.bool false :: (SV.int IntKind.i64 (IntKind.wrap IntKind.i64 (IntKind.wrap IntKind.i64 ((2 : Int) * i) + (1 : Int))) :: (SV.int IntKind.i64 (IntKind.wrap IntKind.i64 (IntKind.wrap IntKind.i64 ((2 : Int) * i) + (1 : Int))) :: (SV.int IntKind.i64 (IntKind.wrap IntKind.i64 (IntKind.wrap IntKind.i64 (IntKind.wrap IntKind.i64 ((2 : Int) * i) + (1 : Int)) + (1 : Int))) :: (SV.int IntKind.i64 (IntKind.wrap IntKind.i64 (IntKind.wrap IntKind.i64 (IntKind.wrap IntKind.i64 ((2 : Int) * i) + (1 : Int)) + (1 : Int))) :: (SV.int IntKind.i64 n :: (SV.bool (decide (IntKind.wrap IntKind.i64 (IntKind.wrap IntKind.i64 (IntKind.wrap IntKind.i64 ((2 : Int) * i) + (1 : Int)) + (1 : Int)) < n)) :: (SV.bool true :: (SV.iface (166 : TypeId) (SV.ptr 0 b 0) :: (SV.int IntKind.i64 (IntKind.wrap IntKind.i64 (IntKind.wrap IntKind.i64 (IntKind.wrap IntKind.i64 ((2 : Int) * i) + (1 : Int)) + (1 : Int))) :: (SV.int IntKind.i64 (IntKind.wrap IntKind.i64 (IntKind.wrap IntKind.i64 ((2 : Int) * i) + (1 : Int))) :: (SV.bool (lessI bef (List.getD xs_1 (Int.toNat (IntKind.wrap IntKind.i64 (IntKind.wrap IntKind.i64 (IntKind.wrap IntKind.i64 ((2 : Int) * i) + (1 : Int)) + (1 : Int)))) (IT.mk (0 : Int) (0 : Int), (0 : Int))) (List.getD xs_1 (Int.toNat (IntKind.wrap IntKind.i64 (IntKind.wrap IntKind.i64 ((2 : Int) * i) + (1 : Int)))) (IT.mk (0 : Int) (0 : Int), (0 : Int)))) :: (SV.bool true :: (SV.int IntKind.i64 (IntKind.wrap IntKind.i64 (IntKind.wrap IntKind.i64 (IntKind.wrap IntKind.i64 ((2 : Int) * i) + (1 : Int)) + (1 : Int))) :: (SV.iface (166 : TypeId) (SV.ptr 0 b 0) :: (SV.int IntKind.i64 (IntKind.wrap IntKind.i64 (IntKind.wrap IntKind.i64 (IntKind.wrap IntKind.i64 ((2 : Int) * i) + (1 : Int)) + (1 : Int))) :: (SV.int IntKind.i64 i :: (SV.bool (lessI bef_1 (List.getD xs_2 (Int.toNat (IntKind.wrap IntKind.i64 (IntKind.wrap IntKind.i64 (IntKind.wrap IntKind.i64 ((2 : Int) * i) + (1 : Int)) + (1 : Int)))) (IT.mk (0 : Int) (0 : Int), (0 : Int))) (List.getD xs_2 (Int.toNat i) (IT.mk (0 : Int) (0 : Int), (0 : Int)))) :: (SV.bool false :: (SV.iface (166 : TypeId) (SV.ptr 0 b 0) :: (SV.int IntKind.i64 i :: (SV.int IntKind.i64 (IntKind.wrap IntKind.i64 (IntKind.wrap IntKind.i64 (IntKind.wrap IntKind.i64 ((2 : Int) * i) + (1 : Int)) + (1 : Int))) :: (SV.tuple [] :: (SV.int IntKind.i64 (IntKind.wrap IntKind.i64 (IntKind.wrap IntKind.i64 (IntKind.wrap IntKind.i64 ((2 : Int) * i) + (1 : Int)) + (1 : Int))) :: (rawR u 45 [] 3))))))))))))))))))))))))))))))))))))))) 4))))
                       [Ent.mk (Loc.blk b)
                        (SObj.cells
                         (SV.vec 1 ao
                          (List.length
                           (swapL (IT.mk (0 : Int) (0 : Int), (0 : Int)) xs_3 (Int.toNat i)
                            (Int.toNat (IntKind.wrap IntKind.i64 (IntKind.wrap IntKind.i64 (IntKind.wrap IntKind.i64 ((2 : Int) * i) + (1 : Int)) + (1 : Int))))))
                          cap ::
                          SV.func (Fn.func f) [] [] :: rest)
                         T),
                        Ent.mk (Loc.sl ao cap)
                         (SObj.vecL (168 : TypeId) 3 encItP
                          (swapL (IT.mk (0 : Int) (0 : Int), (0 : Int)) xs_3 (Int.toNat i)
                           (Int.toNat (IntKind.wrap IntKind.i64 (IntKind.wrap IntKind.i64 (IntKind.wrap IntKind.i64 ((2 : Int) * i) + (1 : Int)) + (1 : Int)))))
                          (IT.mk (0 : Int) (0 : Int), (0 : Int)))])
         | false =>
          true = true ∧
           ∃ (xs_2 : List (IT × Int)),
            (Ent.mk (Loc.sl ao cap) (SObj.vecL (168 : TypeId) 3 encItP xs (IT.mk (0 : Int) (0 : Int), (0 : Int))) =
             Ent.mk (Loc.sl ao cap) (SObj.vecL (168 : TypeId) 3 encItP xs_2 (IT.mk (0 : Int) (0 : Int), (0 : Int))) ∧
             b = b ∧ List.length xs = List.length xs_2 ∧ false = false) ∧
             (IntKind.i64 = IntKind.i64 ∧
              IntKind.i64 = IntKind.i64 ∧
               (0 : Int) ≤ IntKind.wrap IntKind.i64 (IntKind.wrap IntKind.i64 ((2 : Int) * i) + (1 : Int)) ∧
                IntKind.wrap IntKind.i64 (IntKind.wrap IntKind.i64 ((2 : Int) * i) + (1 : Int)) < (↑(List.length xs_2) : Int) ∧ (0 : Int) ≤ i ∧ i < (↑(List.length xs_2) : Int)) ∧
              ∃ (bef_1 : IT → IT → Bool),
               RP f bef_1 ∧
                match
                 !lessI bef_1 (List.getD xs_2 (Int.toNat (IntKind.wrap IntKind.i64 (IntKind.wrap IntKind.i64 ((2 : Int) * i) + (1 : Int)))) (IT.mk (0 : Int) (0 : Int), (0 : Int)))
                  (List.getD xs_2 (Int.toNat i) (IT.mk (0 : Int) (0 : Int), (0 : Int))) with
                | true =>
                 N
                  [Ent.mk (Loc.blk b) (SObj.cells (SV.vec 1 ao (List.length xs) cap :: SV.func (Fn.func f) [] [] :: rest) T),
                   Ent.mk (Loc.sl ao cap) (SObj.vecL (168 : TypeId) 3 encItP xs (IT.mk (0 : Int) (0 : Int), (0 : Int)))]
                  (SV.bool (decide (i > i0)))
                | false =>
                 true = true ∧
                  ∃ (xs_3 : List (IT × Int)),
                   (Ent.mk (Loc.sl ao cap) (SObj.vecL (168 : TypeId) 3 encItP xs (IT.mk (0 : Int) (0 : Int), (0 : Int))) =
                    Ent.mk (Loc.sl ao cap) (SObj.vecL (168 : TypeId) 3 encItP xs_3 (IT.mk (0 : Int) (0 : Int), (0 : Int))) ∧
                    b = b ∧ List.length xs = List.length xs_3 ∧ false = false) ∧
                    (IntKind.i64 = IntKind.i64 ∧
                     IntKind.i64 = IntKind.i64 ∧
                      (0 : Int) ≤ i ∧
                       i < (↑(List.length xs_3) : Int) ∧
                        (0 : Int) ≤ IntKind.wrap IntKind.i64 (IntKind.wrap IntKind.i64 ((2 : Int) * i) + (1 : Int)) ∧
                         IntKind.wrap IntKind.i64 (IntKind.wrap IntKind.i64 ((2 : Int) * i) + (1 : Int)) < (↑(List.length xs_3) : Int)) ∧
                     K (Frm.loop J :: Frm.blk 0 :: frm [] (bodyOf Try.f100) [1, 1, 1] [])
                      (Sy.mk (SV.iface (166 : TypeId) (SV.ptr 0 b 0) :: (SV.int IntKind.i64 i0 :: (SV.int IntKind.i64 n :: (rawR u 3 (SV.int IntKind.i64 (IntKind.wrap IntKind.i64 (IntKind.wrap IntKind.i64 ((2 : Int) * i) + (1 : Int))) :: (SV.int IntKind.i64 (IntKind.wrap IntKind.i64 (IntKind.wrap IntKind.i64 ((2 : Int) * i) + (1 : Int))) :: (SV.int IntKind.i64 (IntKind.wrap IntKind.i64 (IntKind.wrap IntKind.i64 ((2 : Int) * i) + (1 : Int))) :: (SV.int IntKind.i64 (IntKind.wrap IntKind.i64 (IntKind.wrap IntKind.i64 (IntKind.wrap IntKind.i64 ((2 : Int) * i) + (1 : Int)) + (1 : Int))) :: (SV.raw (u 11) :: (SV.int IntKind.i64 i :: (SV.int IntKind.i64 (IntKind.wrap IntKind.i64 ((2 : Int) * i)) :: (SV.int IntKind.i64 (IntKind.wrap IntKind.i64 (IntKind.wrap IntKind.i64 ((2 : Int) * i) + (1 : Int))) :: (SV.int IntKind.i64 (IntKind.wrap IntKind.i64 (IntKind.wrap IntKind.i64 ((2 : Int) * i) + (1 : Int))) :: (SV.int IntKind.i64 n :: (SV.bool (decide (IntKind.wrap IntKind.i64 (IntKind.wrap IntKind.i64 ((2 : Int) * i) + (1 : Int)) ≥ n)) :: (SV.bool false :: (SV.int IntKind.i64 (IntKind.wrap IntKind.i64 (IntKind.wrap IntKind.i64 ((2 : Int) * i) + (1 : Int))) :: (SV.bool (decide (IntKind.wrap IntKind.i64 (IntKind.wrap IntKind.i64 ((2 : Int) * i) + (1 : Int)) < (0 : Int))) :: (SV.bool false :: (SV.int IntKind.i64 (IntKind.wrap IntKind.i64 (IntKind.wrap IntKind.i64 ((2 : Int) * i) + (1 : Int))) :: (SV.int IntKind.i64 (IntKind.wrap IntKind.i64 (IntKind.wrap IntKind.i64 ((2 : Int) * i) + (1 : Int))) :: (SV.int IntKind.i64 (IntKind.wrap IntKind.i64 (IntKind.wrap IntKind.i64 (IntKind.wrap IntKind.i64 ((2 : Int) * i) + (1 : Int)) + (1 : Int))) :: (SV.int IntKind.i64 (IntKind.wrap IntKind.i64 (IntKind.wrap IntKind.i64 (IntKind.wrap IntKind.i64 ((2 : Int) * i) + (1 : Int)) + (1 : Int))) :: (SV.int IntKind.i64 n :: (SV.bool (decide (IntKind.wrap IntKind.i64 (IntKind.wrap IntKind.i64 (IntKind.wrap IntKind.i64 ((2 : Int) * i) + (1 : Int)) + (1 : Int)) < n)) :: (SV.bool true :: (SV.iface (166 : TypeId) (SV.ptr 0 b 0) :: (SV.int IntKind.i64 (IntKind.wrap IntKind.i64 (IntKind.wrap IntKind.i64 (IntKind.wrap IntKind.i64 ((2 : Int) * i) + (1 : Int)) + (1 : Int))) :: (SV.int IntKind.i64 (IntKind.wrap IntKind.i64 (IntKind.wrap IntKind.i64 ((2 : Int) * i) + (1 : Int))) :: (SV.bool (lessI bef (List.getD xs_1 (Int.toNat (IntKind.wrap IntKind.i64 (IntKind.wrap IntKind.i64 (IntKind.wrap IntKind.i64 ((2 : Int) * i) + (1 : Int)) + (1 : Int)))) (IT.mk (0 : Int) (0 : Int), (0 : Int))) (List.getD xs_1 (Int.toNat (IntKind.wrap IntKind.i64 (IntKind.wrap IntKind.i64 ((2 : Int) * i) + (1 : Int)))) (IT.mk (0 : Int) (0 : Int), (0 : Int)))) :: (SV.bool false :: (SV.raw (u 34) :: (SV.iface (166 : TypeId) (SV.ptr 0 b 0) :: (SV.int IntKind.i64 (IntKind.wrap IntKind.i64 (IntKind.wrap IntKind.i64 ((2 : Int) * i) + (1 : Int))) :: (SV.int IntKind.i64 i :: (SV.bool (lessI bef_1 (List.getD xs_2 (Int.toNat (IntKind.wrap IntKind.i64 (IntKind.wrap IntKind.i64 ((2 : Int) * i) + (1 : Int)))) (IT.mk (0 : Int) (0 : Int), (0 : Int))) (List.getD xs_2 (Int.toNat i) (IT.mk (0 : Int) (0 : Int), (0 : Int)))) :: (SV.bool false :: (SV.iface (166 : TypeId) (SV.ptr 0 b 0) :: (SV.int IntKind.i64 i :: (SV.int IntKind.i64 (IntKind.wrap IntKind.i64 (IntKind.wrap IntKind.i64 ((2 : Int) * i) + (1 : Int))) :: (SV.tuple [] :: (SV.int IntKind.i64 (IntKind.wrap IntKind.i64 (IntKind.wrap IntKind.i64 ((2 : Int) * i) + (1 : Int))) :: (rawR u 45 [] 3))))))))))))))))))))))))))))))))))))))) 4))))
                       [Ent.mk (Loc.blk b)
                        (SObj.cells
                         (SV.vec 1 ao
                          (List.length
                           (swapL (IT.mk (0 : Int) (0 : Int), (0 : Int)) xs_3 (Int.toNat i)
                            (Int.toNat (IntKind.wrap IntKind.i64 (IntKind.wrap IntKind.i64 ((2 : Int) * i) + (1 : Int))))))
                          cap ::
                          SV.func (Fn.func f) [] [] :: rest)
                         T),
                        Ent.mk (Loc.sl ao cap)
                         (SObj.vecL (168 : TypeId) 3 encItP
                          (swapL (IT.mk (0 : Int) (0 : Int), (0 : Int)) xs_3 (Int.toNat i)
                           (Int.toNat (IntKind.wrap IntKind.i64 (IntKind.wrap IntKind.i64 ((2 : Int) * i) + (1 : Int)))))
                          (IT.mk (0 : Int) (0 : Int), (0 : Int)))])
  | false =>
   true = true ∧
    ∃ (xs_1 : List (IT × Int)),
     (Ent.mk (Loc.sl ao cap) (SObj.vecL (168 : TypeId) 3 encItP xs (IT.mk (0 : Int) (0 : Int), (0 : Int))) =
      Ent.mk (Loc.sl ao cap) (SObj.vecL (168 : TypeId) 3 encItP xs_1 (IT.mk (0 : Int) (0 : Int), (0 : Int))) ∧
      b = b ∧ List.length xs = List.length xs_1 ∧ false = false) ∧
      (IntKind.i64 = IntKind.i64 ∧
       IntKind.i64 = IntKind.i64 ∧
        (0 : Int) ≤ IntKind.wrap IntKind.i64 (IntKind.wrap IntKind.i64 ((2 : Int) * i) + (1 : Int)) ∧
         IntKind.wrap IntKind.i64 (IntKind.wrap IntKind.i64 ((2 : Int) * i) + (1 : Int)) < (↑(List.length xs_1) : Int) ∧ (0 : Int) ≤ i ∧ i < (↑(List.length xs_1) : Int)) ∧
       ∃ (bef : IT → IT → Bool),
        RP f bef ∧
         match
          !lessI bef (List.getD xs_1 (Int.toNat (IntKind.wrap IntKind.i64 (IntKind.wrap IntKind.i64 ((2 : Int) * i) + (1 : Int)))) (IT.mk (0 : Int) (0 : Int), (0 : Int)))
           (List.getD xs_1 (Int.toNat i) (IT.mk (0 : Int) (0 : Int), (0 : Int))) with
         | true =>
          N
           [Ent.mk (Loc.blk b) (SObj.cells (SV.vec 1 ao (List.length xs) cap :: SV.func (Fn.func f) [] [] :: rest) T),
            Ent.mk (Loc.sl ao cap) (SObj.vecL (168 : TypeId) 3 encItP xs (IT.mk (0 : Int) (0 : Int), (0 : Int)))]
           (SV.bool (decide (i > i0)))
         | false =>
          true = true ∧
           ∃ (xs_2 : List (IT × Int)),
            (Ent.mk (Loc.sl ao cap) (SObj.vecL (168 : TypeId) 3 encItP xs (IT.mk (0 : Int) (0 : Int), (0 : Int))) =
             Ent.mk (Loc.sl ao cap) (SObj.vecL (168 : TypeId) 3 encItP xs_2 (IT.mk (0 : Int) (0 : Int), (0 : Int))) ∧
             b = b ∧ List.length xs = List.length xs_2 ∧ false = false) ∧
             (IntKind.i64 = IntKind.i64 ∧
              IntKind.i64 = IntKind.i64 ∧
               (0 : Int) ≤ i ∧
                i < (↑(List.length xs_2) : Int) ∧
                 (0 : Int) ≤ IntKind.wrap IntKind.i64 (IntKind.wrap IntKind.i64 ((2 : Int) * i) + (1 : Int)) ∧
                  IntKind.wrap IntKind.i64 (IntKind.wrap IntKind.i64 ((2 : Int) * i) + (1 : Int)) < (↑(List.length xs_2) : Int)) ∧
              K (Frm.loop J :: Frm.blk 0 :: frm [] (bodyOf Try.f100) [1, 1, 1] [])
               (Sy.mk (SV.iface (166 : TypeId) (SV.ptr 0 b 0) :: (SV.int IntKind.i64 i0 :: (SV.int IntKind.i64 n :: (rawR u 3 (SV.int IntKind.i64 (IntKind.wrap IntKind.i64 (IntKind.wrap IntKind.i64 ((2 : Int) * i) + (1 : Int))) :: (SV.int IntKind.i64 (IntKind.wrap IntKind.i64 (IntKind.wrap IntKind.i64 ((2 : Int) * i) + (1 : Int))) :: (SV.int IntKind.i64 (IntKind.wrap IntKind.i64 (IntKind.wrap IntKind.i64 ((2 : Int) * i) + (1 : Int))) :: (SV.int IntKind.i64 (IntKind.wrap IntKind.i64 (IntKind.wrap IntKind.i64 (IntKind.wrap IntKind.i64 ((2 : Int) * i) + (1 : Int)) + (1 : Int))) :: (SV.raw (u 11) :: (SV.int IntKind.i64 i :: (SV.int IntKind.i64 (IntKind.wrap IntKind.i64 ((2 : Int) * i)) :: (SV.int IntKind.i64 (IntKind.wrap IntKind.i64 (IntKind.wrap IntKind.i64 ((2 : Int) * i) + (1 : Int))) :: (SV.int IntKind.i64 (IntKind.wrap IntKind.i64 (IntKind.wrap IntKind.i64 ((2 : Int) * i) + (1 : Int))) :: (SV.int IntKind.i64 n :: (SV.bool (decide (IntKind.wrap IntKind.i64 (IntKind.wrap IntKind.i64 ((2 : Int) * i) + (1 : Int)) ≥ n)) :: (SV.bool false :: (SV.int IntKind.i64 (IntKind.wrap IntKind.i64 (IntKind.wrap IntKind.i64 ((2 : Int) * i) + (1 : Int))) :: (SV.bool (decide (IntKind.wrap IntKind.i64 (IntKind.wrap IntKind.i64 ((2 : Int) * i) + (1 : Int)) < (0 : Int))) :: (SV.bool false :: (SV.int IntKind.i64 (IntKind.wrap IntKind.i64 (IntKind.wrap IntKind.i64 ((2 : Int) * i) + (1 : Int))) :: (SV.int IntKind.i64 (IntKind.wrap IntKind.i64 (IntKind.wrap IntKind.i64 ((2 : Int) * i) + (1 : Int))) :: (SV.int IntKind.i64 (IntKind.wrap IntKind.i64 (IntKind.wrap IntKind.i64 (IntKind.wrap IntKind.i64 ((2 : Int) * i) + (1 : Int)) + (1 : Int))) :: (SV.int IntKind.i64 (IntKind.wrap IntKind.i64 (IntKind.wrap IntKind.i64 (IntKind.wrap IntKind.i64 ((2 : Int) * i) + (1 : Int)) + (1 : Int))) :: (SV.int IntKind.i64 n :: (SV.bool (decide (IntKind.wrap IntKind.i64 (IntKind.wrap IntKind.i64 (IntKind.wrap IntKind.i64 ((2 : Int) * i) + (1 : Int)) + (1 : Int)) < n)) :: (SV.bool false :: (rawE (SV.bool false :: (SV.raw (u 34) :: (SV.iface (166 : TypeId) (SV.ptr 0 b 0) :: (SV.int IntKind.i64 (IntKind.wrap IntKind.i64 (IntKind.wrap IntKind.i64 ((2 : Int) * i) + (1 : Int))) :: (SV.int IntKind.i64 i :: (SV.bool (lessI bef (List.getD xs_1 (Int.toNat (IntKind.wrap IntKind.i64 (IntKind.wrap IntKind.i64 ((2 : Int) * i) + (1 : Int)))) (IT.mk (0 : Int) (0 : Int), (0 : Int))) (List.getD xs_1 (Int.toNat i) (IT.mk (0 : Int) (0 : Int), (0 : Int)))) :: (SV.bool false :: (SV.iface (166 : TypeId) (SV.ptr 0 b 0) :: (SV.int IntKind.i64 i :: (SV.int IntKind.i64 (IntKind.wrap IntKind.i64 (IntKind.wrap IntKind.i64 ((2 : Int) * i) + (1 : Int))) :: (SV.tuple [] :: (SV.int IntKind.i64 (IntKind.wrap IntKind.i64 (IntKind.wrap IntKind.i64 ((2 : Int) * i) + (1 : Int))) :: (rawR u 45 [] 3))))))))))))) 4))))))))))))))))))))))) 4))))
                [Ent.mk (Loc.blk b)
                 (SObj.cells
                  (SV.vec 1 ao
                   (List.length
                    (swapL (IT.mk (0 : Int) (0 : Int), (0 : Int)) xs_2 (Int.toNat i)
                     (Int.toNat (IntKind.wrap IntKind.i64 (IntKind.wrap IntKind.i64 ((2 : Int) * i) + (1 : Int))))))
                   cap ::
                   SV.func (Fn.func f) [] [] :: rest)
                  T),
                 Ent.mk (Loc.sl ao cap)
                  (SObj.vecL (168 : TypeId) 3 encItP
                   (swapL (IT.mk (0 : Int) (0 : Int), (0 : Int)) xs_2 (Int.toNat i) (Int.toNat (IntKind.wrap IntKind.i64 (IntKind.wrap IntKind.i64 ((2 : Int) * i) + (1 : Int)))))
                   (IT.mk (0 : Int) (0 : Int), (0 : Int)))])) := by kernel_rfl


theorem qPhpush (K : List Frm → Sy → Prop) (N : List Ent → SV → Prop) (J : Act → World → Prop) (u : Nat → Value) (b cap : Nat) (ao : Option Addr) (rest : List SV) (T : TypeId) (xs : List (IT × Int)) (f : FuncId) (v : IT × Int) : (run Try.prog qTP2 false [] K (retP Try.prog Try.f80.results.toList N) 900 [.code (bodyOf Try.f80)] ⟨padTo 12 [(.iface 166 (.ptr 0 b 0)), .iface 168 (.agg (encItP v))], qhG 168 3 encItP ((⟨0, 0⟩ : IT), (0 : Int)) b ao cap f rest T xs⟩) = (
true = true ∧
 ∃ (xs_1 : List (IT × Int)),
  (Ent.mk (Loc.sl ao cap) (SObj.vecL (168 : TypeId) 3 encItP xs (IT.mk (0 : Int) (0 : Int), (0 : Int))) =
   Ent.mk (Loc.sl ao cap) (SObj.vecL (168 : TypeId) 3 encItP xs_1 (IT.mk (0 : Int) (0 : Int), (0 : Int))) ∧
   b = b ∧ List.length xs = List.length xs_1 ∧ false = false) ∧
   ∃ (x : IT × Int),
    ((168 : TypeId) = (168 : TypeId) ∧
     [SV.int IntKind.i64 x.1.1, SV.int IntKind.i64 x.1.2, SV.int IntKind.i64 x.2] = [SV.int IntKind.i64 v.1.1, SV.int IntKind.i64 v.1.2, SV.int IntKind.i64 v.2] ∧
      (List.length xs_1 + 1) * 24 ≤ 140737488355328 ∧ List.length xs_1 + 1 ≤ 9223372036854775807) ∧
     ∀ (ao2 : Option Addr) (cap2 : Nat),
      true = true ∧
       b = b ∧
        true = true ∧
         ∃ (xs : List (IT × Int)),
          (Ent.mk (Loc.sl ao2 cap2) (SObj.vecL (168 : TypeId) 3 encItP (xs_1 ++ [x]) (IT.mk (0 : Int) (0 : Int), (0 : Int))) =
           Ent.mk (Loc.sl ao2 cap2) (SObj.vecL (168 : TypeId) 3 encItP xs (IT.mk (0 : Int) (0 : Int), (0 : Int))) ∧
           b = b ∧ List.length (xs_1 ++ [x]) = List.length xs ∧ false = false) ∧
           ((166 : TypeId) = (166 : TypeId) ∧
            IntKind.i64 = IntKind.i64 ∧
             (0 : Int) ≤ IntKind.wrap IntKind.i64 ((↑(List.length (xs_1 ++ [x])) : Int) - (1 : Int)) ∧
              IntKind.wrap IntKind.i64 ((↑(List.length (xs_1 ++ [x])) : Int) - (1 : Int)) < (↑(List.length xs) : Int) ∧ List.length xs ≤ 2305843009213693952) ∧
            ∃ (bef : IT → IT → Bool),
             RP f bef ∧
              N
               [Ent.mk (Loc.blk b)
                (SObj.cells
                 (SV.vec 1 ao2
                  (List.length
                   (upL (lessI bef) (IT.mk (0 : Int) (0 : Int), (0 : Int)) (Int.toNat (IntKind.wrap IntKind.i64 ((↑(List.length (xs_1 ++ [x])) : Int) - (1 : Int)))) xs
                    (Int.toNat (IntKind.wrap IntKind.i64 ((↑(List.length (xs_1 ++ [x])) : Int) - (1 : Int))))))
                  cap2 ::
                  SV.func (Fn.func f) [] [] :: rest)
                 T),
                Ent.mk (Loc.sl ao2 cap2)
                 (SObj.vecL (168 : TypeId) 3 encItP
                  (upL (lessI bef) (IT.mk (0 : Int) (0 : Int), (0 : Int)) (Int.toNat (IntKind.wrap IntKind.i64 ((↑(List.length (xs_1 ++ [x])) : Int) - (1 : Int)))) xs
                   (Int.toNat (IntKind.wrap IntKind.i64 ((↑(List.length (xs_1 ++ [x])) : Int) - (1 : Int)))))
                  (IT.mk (0 : Int) (0 : Int), (0 : Int)))]
               (SV.tuple [])) := by kernel_rfl


theorem qPhpop (K : List Frm → Sy → Prop) (N : List Ent → SV → Prop) (J : Act → World → Prop) (u : Nat → Value) (b cap : Nat) (ao : Option Addr) (rest : List SV) (T : TypeId) (xs : List (IT × Int)) (f : FuncId) : (run Try.prog qTP2 false [] K (retP Try.prog Try.f81.results.toList N) 900 [.code (bodyOf Try.f81)] ⟨padTo 15 [(.iface 166 (.ptr 0 b 0))], qhG 168 3 encItP ((⟨0, 0⟩ : IT), (0 : Int)) b ao cap f rest T xs⟩) = (
true = true ∧
 b = b ∧
  true = true ∧
   ∃ (xs_1 : List (IT × Int)),
    (Ent.mk (Loc.sl ao cap) (SObj.vecL (168 : TypeId) 3 encItP xs (IT.mk (0 : Int) (0 : Int), (0 : Int))) =
     Ent.mk (Loc.sl ao cap) (SObj.vecL (168 : TypeId) 3 encItP xs_1 (IT.mk (0 : Int) (0 : Int), (0 : Int))) ∧
     b = b ∧ List.length xs = List.length xs_1 ∧ false = false) ∧
     (IntKind.i64 = IntKind.i64 ∧
      IntKind.i64 = IntKind.i64 ∧
       (0 : Int) ≤ (0 : Int) ∧
        (0 : Int) < (↑(List.length xs_1) : Int) ∧
         (0 : Int) ≤ IntKind.wrap IntKind.i64 ((↑(List.length xs) : Int) - (1 : Int)) ∧ IntKind.wrap IntKind.i64 ((↑(List.length xs) : Int) - (1 : Int)) < (↑(List.length xs_1) : Int)) ∧
      true = true ∧
       ∃ (xs_2 : List (IT × Int)),
        (Ent.mk (Loc.sl ao cap)
         (SObj.vecL (168 : TypeId) 3 encItP
          (swapL (IT.mk (0 : Int) (0 : Int), (0 : Int)) xs_1 0 (Int.toNat (IntKind.wrap IntKind.i64 ((↑(List.length xs) : Int) - (1 : Int)))))
          (IT.mk (0 : Int) (0 : Int), (0 : Int))) =
         Ent.mk (Loc.sl ao cap) (SObj.vecL (168 : TypeId) 3 encItP xs_2 (IT.mk (0 : Int) (0 : Int), (0 : Int))) ∧
         b = b ∧
          List.length (swapL (IT.mk (0 : Int) (0 : Int), (0 : Int)) xs_1 0 (Int.toNat (IntKind.wrap IntKind.i64 ((↑(List.length xs) : Int) - (1 : Int))))) = List.length xs_2 ∧
           false = false) ∧
         ((166 : TypeId) = (166 : TypeId) ∧
          IntKind.i64 = IntKind.i64 ∧
           IntKind.i64 = IntKind.i64 ∧
            (0 : Int) ≤ (0 : Int) ∧
             (0 : Int) ≤ (↑(List.length xs_2) : Int) ∧
              (0 : Int) ≤ IntKind.wrap IntKind.i64 ((↑(List.length xs) : Int) - (1 : Int)) ∧
               IntKind.wrap IntKind.i64 ((↑(List.length xs) : Int) - (1 : Int)) ≤ (↑(List.length xs_2) : Int) ∧ List.length xs_2 ≤ 2305843009213693952) ∧
          ∃ (bef : IT → IT → Bool),
           RP f bef ∧
            ∀ (bb : Bool),
             true = true ∧
              ∃ (xs_3 : List (IT × Int)),
               (Ent.mk (Loc.sl ao cap)
                (SObj.vecL (168 : TypeId) 3 encItP
                 (downL (lessI bef) (IT.mk (0 : Int) (0 : Int), (0 : Int)) (List.length xs_2) xs_2 0
                  (Int.toNat (IntKind.wrap IntKind.i64 ((↑(List.length xs) : Int) - (1 : Int)))))
                 (IT.mk (0 : Int) (0 : Int), (0 : Int))) =
                Ent.mk (Loc.sl ao cap) (SObj.vecL (168 : TypeId) 3 encItP xs_3 (IT.mk (0 : Int) (0 : Int), (0 : Int))) ∧
                b = b ∧
                 List.length
                  (downL (lessI bef) (IT.mk (0 : Int) (0 : Int), (0 : Int)) (List.length xs_2) xs_2 0
                   (Int.toNat (IntKind.wrap IntKind.i64 ((↑(List.length xs) : Int) - (1 : Int))))) =
                  List.length xs_3 ∧
                  false = false) ∧
                (0 < List.length xs_3 ∧ List.length xs_3 ≤ 9223372036854775807) ∧
                 N
                  [Ent.mk (Loc.blk b) (SObj.cells (SV.vec 1 ao (List.length (List.take (List.length xs_3 - 1) xs_3)) cap :: SV.func (Fn.func f) [] [] :: rest) T),
                   Ent.mk (Loc.sl ao cap) (SObj.vecL (168 : TypeId) 3 encItP (List.take (List.length xs_3 - 1) xs_3) (IT.mk (0 : Int) (0 : Int), (0 : Int)))]
                  (SV.iface (168 : TypeId)
                   (SV.agg
                    [SV.int IntKind.i64 (List.getD xs_3 (List.length xs_3 - 1) (IT.mk (0 : Int) (0 : Int), (0 : Int))).1.1,
                     SV.int IntKind.i64 (List.getD xs_3 (List.length xs_3 - 1) (IT.mk (0 : Int) (0 : Int), (0 : Int))).1.2,
                     SV.int IntKind.i64 (List.getD xs_3 (List.length xs_3 - 1) (IT.mk (0 : Int) (0 : Int), (0 : Int))).2]))) := by kernel_rfl


theorem qPhin_start (K : List Frm → Sy → Prop) (N : List Ent → SV → Prop) (J : Act → World → Prop) (u : Nat → Value) (b cap : Nat) (ao : Option Addr) (rest : List SV) (T : TypeId) (xs : List (IT × Int)) (f : FuncId) : (run Try.prog qTP2 false [] K (retP Try.prog Try.f92.results.toList N) 900 [.code (bodyOf Try.f92)] ⟨padTo 17 [(.iface 166 (.ptr 0 b 0))], qhG 168 3 encItP ((⟨0, 0⟩ : IT), (0 : Int)) b ao cap f rest T xs⟩) = (
true = true ∧
 b = b ∧
  (2 : Int) ≠ (0 : Int) ∧
   K (frm [] (bodyOf Try.f92) [1, 1, 0] [])
    (Sy.mk (SV.iface (166 : TypeId) (SV.ptr 0 b 0) :: (SV.raw (Value.tuple #[]) :: (SV.int IntKind.i64 (↑(List.length xs) : Int) :: (SV.int IntKind.i64 (IntKind.wrap IntKind.i64 (IntKind.wrap IntKind.i64 (Int.tdiv (↑(List.length xs) : Int) (2 : Int)) - (1 : Int))) :: (SV.iface (166 : TypeId) (SV.ptr 0 b 0) :: (SV.int IntKind.i64 (↑(List.length xs) : Int) :: (SV.int IntKind.i64 (↑(List.length xs) : Int) :: (SV.int IntKind.i64 (IntKind.wrap IntKind.i64 (Int.tdiv (↑(List.length xs) : Int) (2 : Int))) :: (SV.int IntKind.i64 (IntKind.wrap IntKind.i64 (IntKind.wrap IntKind.i64 (Int.tdiv (↑(List.length xs) : Int) (2 : Int)) - (1 : Int))) :: (rawE [] 8))))))))))
     [Ent.mk (Loc.blk b) (SObj.cells (SV.vec 1 ao (List.length xs) cap :: SV.func (Fn.func f) [] [] :: rest) T),
      Ent.mk (Loc.sl ao cap) (SObj.vecL (168 : TypeId) 3 encItP xs (IT.mk (0 : Int) (0 : Int), (0 : Int)))])) := by kernel_rfl


theorem qPhin_body (K : List Frm → Sy → Prop) (N : List Ent → SV → Prop) (J : Act → World → Prop) (u : Nat → Value) (b cap : Nat) (ao : Option Addr) (rest : List SV) (T : TypeId) (xs : List (IT × Int)) (f : FuncId) (i : Int) : (run Try.prog qTP2 false [] K (retP Try.prog Try.f92.results.toList N) 900 (frm [J] (bodyOf Try.f92) [1, 1, 0, 0] []) ⟨mkT u 17 0 [(0, (.iface 166 (.ptr 0 b 0))), (2, .int .i64 (xs.length : Int)), (3, .int .i64 i)], qhG 168 3 encItP ((⟨0, 0⟩ : IT), (0 : Int)) b ao cap f rest T xs⟩) = (
match decide (i ≥ (0 : Int)) with
| true =>
 true = true ∧
  ∃ (xs_1 : List (IT × Int)),
   (Ent.mk (Loc.sl ao cap) (SObj.vecL (168 : TypeId) 3 encItP xs (IT.mk (0 : Int) (0 : Int), (0 : Int))) =
    Ent.mk (Loc.sl ao cap) (SObj.vecL (168 : TypeId) 3 encItP xs_1 (IT.mk (0 : Int) (0 : Int), (0 : Int))) ∧
    b = b ∧ List.length xs = List.length xs_1 ∧ false = false) ∧
    ((166 : TypeId) = (166 : TypeId) ∧
     IntKind.i64 = IntKind.i64 ∧
      IntKind.i64 = IntKind.i64 ∧
       (0 : Int) ≤ i ∧
        i ≤ (↑(List.length xs_1) : Int) ∧ (0 : Int) ≤ (↑(List.length xs) : Int) ∧ (↑(List.length xs) : Int) ≤ (↑(List.length xs_1) : Int) ∧ List.length xs_1 ≤ 2305843009213693952) ∧
     ∃ (bef : IT → IT → Bool),
      RP f bef ∧
       ∀ (bb : Bool),
        K [Frm.loop J, Frm.blk 0]
         (Sy.mk (SV.iface (166 : TypeId) (SV.ptr 0 b 0) :: (SV.raw (u 1) :: (SV.int IntKind.i64 (↑(List.length xs) : Int) :: (SV.int IntKind.i64 (IntKind.wrap IntKind.i64 (i - (1 : Int))) :: (rawR u 4 (SV.int IntKind.i64 i :: (SV.bool true :: (SV.int IntKind.i64 i :: (SV.int IntKind.i64 (IntKind.wrap IntKind.i64 (i - (1 : Int))) :: (SV.iface (166 : TypeId) (SV.ptr 0 b 0) :: (SV.int IntKind.i64 i :: (SV.int IntKind.i64 (↑(List.length xs) : Int) :: (SV.bool bb :: [])))))))) 5)))))
          [Ent.mk (Loc.blk b)
           (SObj.cells
            (SV.vec 1 ao (List.length (downL (lessI bef) (IT.mk (0 : Int) (0 : Int), (0 : Int)) (List.length xs_1) xs_1 (Int.toNat i) (Int.toNat (↑(List.length xs) : Int))))
             cap ::
             SV.func (Fn.func f) [] [] :: rest)
            T),
           Ent.mk (Loc.sl ao cap)
            (SObj.vecL (168 : TypeId) 3 encItP
             (downL (lessI bef) (IT.mk (0 : Int) (0 : Int), (0 : Int)) (List.length xs_1) xs_1 (Int.toNat i) (Int.toNat (↑(List.length xs) : Int)))
             (IT.mk (0 : Int) (0 : Int), (0 : Int)))])
| false =>
 N
  [Ent.mk (Loc.blk b) (SObj.cells (SV.vec 1 ao (List.length xs) cap :: SV.func (Fn.func f) [] [] :: rest) T),
   Ent.mk (Loc.sl ao cap) (SObj.vecL (168 : TypeId) 3 encItP xs (IT.mk (0 : Int) (0 : Int), (0 : Int)))]
  (SV.tuple [])) := by kernel_rfl
end Go.Proofs.Ytjnkfgigpapeaaa

/- queue.Queue[reveille/reveillelaw13.Item]: container/heap over its piles. -/
namespace Go.Proofs.Ytjnkfgigpapeaaa
open Go Go.RowKit

section
variable {W : World} {F : List Ch} (b cap : Nat) (ao : Option Addr) (rest : List SV) (T : TypeId) (f : FuncId) (bef : IT → IT → Bool) (len : Nat) (R0 : List (IT × Int))

def qPupLive (s : List (IT × Int) × Nat) : List (Nat × SV) := [(0, .iface 166 (.ptr 0 b 0)), (1, .int .i64 (s.2 : Int))]
def qPHeap (s : List (IT × Int) × Nat) : List Ent := qhG 168 3 encItP ((⟨0, 0⟩ : IT), (0 : Int)) b ao cap f rest T s.1
structure QPUp (s : List (IT × Int) × Nat) : Prop where
  lt : s.2 < s.1.length
  len : s.1.length = len
  go : ∃ m, s.2 ≤ m ∧ upL (lessI bef) ((⟨0, 0⟩ : IT), (0 : Int)) m s.1 s.2 = R0

theorem qPup_round (hR : RP f bef) (hlen : len ≤ 2305843009213693952) (s : List (IT × Int) × Nat) (h : QPUp bef len R0 s) (u : Nat → Value) :
    G Try.prog (endQ Try.prog Try.f99 W F fun h' r => h' = qhG 168 3 encItP ((⟨0, 0⟩ : IT), (0 : Int)) b ao cap f rest T R0 ∧ r = .tuple []) W F (frm [Back W F 23 (qPupLive b) (qPHeap b cap ao rest T f) (QPUp bef len R0) (fun s => s.2) s.2] (bodyOf Try.f99) [0, 0] []) ⟨mkT u 23 0 (qPupLive b s), qPHeap b cap ao rest T f s⟩ := by
  obtain ⟨xs, j⟩ := s
  obtain ⟨h1, h2, m, hm, he⟩ := h
  dsimp only at h1 h2 hm he ⊢
  refine G_run (kc := false) (ss := []) qTP1_ok hmQP 900 ?_
  unfold qPupLive qPHeap
  dsimp only
  rw [qPup_body]
  have hw : IntKind.wrap .i64 (Int.tdiv (IntKind.wrap .i64 ((j : Int) - 1)) 2) = (((j - 1) / 2 : Nat) : Int) := by
    rw [IntWalk.i64_in ((j : Int) - 1) (by omega)]
    by_cases j0 : j = 0
    · subst j0; decide
    · rw [Int.tdiv_eq_ediv_of_nonneg (by omega), IntWalk.i64_in _ (by omega)]; omega
  rw [hw]
  refine ⟨by decide, ?_⟩
  split <;> rename_i hh
  · have hj : (j - 1) / 2 = j := by have := beq_iff_eq.1 hh; omega
    exact ⟨by rw [← he, upL_stop (.inl hj)], rfl⟩
  · have hj : (j - 1) / 2 ≠ j := by have := beq_eq_false_iff_ne.1 hh; omega
    refine ⟨rfl, xs, ⟨rfl, rfl, rfl, rfl⟩, ⟨rfl, rfl, by omega, by omega, by omega, by omega⟩, bef, hR, ?_⟩
    split <;> rename_i hl
    · exact ⟨by rw [← he, upL_stop (.inr (by rw [Bool.not_eq_true'] at hl; exact hl))], rfl⟩
    · refine ⟨rfl, xs, ⟨rfl, rfl, rfl, rfl⟩, ⟨rfl, rfl, by omega, by omega, by omega, by omega⟩, ?_⟩
      refine G_back (swapL ((⟨0, 0⟩ : IT), (0 : Int)) xs ((j - 1) / 2) j, (j - 1) / 2) ⟨by rw [length_swapL]; dsimp only; omega, by rw [length_swapL]; exact h2, m - 1, by dsimp only; omega, by rw [← he, upL_go hj (by rw [Bool.not_eq_false'] at hl; exact hl) hm]⟩ (by dsimp only; omega) rfl ⟨rfl, rfl, trivial⟩ (fun w hw => hw)
end

theorem qPup_spec (b cap : Nat) (ao : Option Addr) (rest : List SV) (T : TypeId) (f : FuncId) (bef : IT → IT → Bool) (hR : RP f bef) (xs : List (IT × Int)) (j : Nat) (hj : j < xs.length) (hl : xs.length ≤ 2305843009213693952) :
    Spec Try.prog 99 (qhG 168 3 encItP ((⟨0, 0⟩ : IT), (0 : Int)) b ao cap f rest T xs) [.iface 166 (.ptr 0 b 0), .int .i64 (j : Int)] fun h' r => h' = qhG 168 3 encItP ((⟨0, 0⟩ : IT), (0 : Int)) b ao cap f rest T (upL (lessI bef) ((⟨0, 0⟩ : IT), (0 : Int)) j xs j) ∧ r = .tuple [] := by
  refine Spec.of_G 23 Try.func99 (c := bodyOf Try.f99) (by kernel_rfl) (by kernel_rfl) (Nat.le_of_ble_eq_true rfl) fun W F => ?_
  refine G_run (kc := false) (ss := []) qTP1_ok hmQP 900 ?_
  rw [qPup_start (J := fun _ _ => False) (u := fun _ => undef)]
  exact G_loopAt [] (bodyOf Try.f99) [0] 23 (qPupLive b) (qPHeap b cap ao rest T f) (QPUp bef xs.length (upL (lessI bef) ((⟨0, 0⟩ : IT), (0 : Int)) j xs j)) (fun s => s.2) (xs, j) (by kernel_rfl) (fun J => by kernel_rfl) ⟨hj, rfl, j, Nat.le_refl _, rfl⟩ rfl ⟨rfl, rfl, trivial⟩ (fun w hw => hw) fun s hs u => qPup_round b cap ao rest T f bef xs.length _ hR hl s hs u

theorem qPup_ok : CtrOk Try.prog 99 (upC 168 3 encItP ((⟨0, 0⟩ : IT), (0 : Int)) 166 RP) := by
  intro args hs N h
  unfold upC at h
  split at h
  · rename_i t l b k j
    unfold onPile at h
    split at h
    · rename_i b' l2 ao n' cap f rest T hl
      split at h
      · rename_i e hl2
        obtain ⟨xs, ⟨rfl, rfl, rfl, hne⟩, ⟨rfl, rfl, g1, g2, g3⟩, bef, hR, hN⟩ := h
        obtain ⟨j', rfl⟩ := Int.eq_ofNat_of_zero_le g1
        refine Spec.pile 168 3 encItP ((⟨0, 0⟩ : IT), (0 : Int)) hl hl2 hne (args' := [.iface 166 (.ptr 0 b' 0), .int .i64 (j' : Int)]) (by rfl) (fun _ _ => qPup_spec b' cap ao rest T f bef hR xs j' (by omega) (by omega)) ?_
        rintro h' r ⟨rfl, rfl⟩
        exact ⟨_, ao, cap, rest, _, fun W F w hr => hr, rfl, hN⟩
      · exact h.elim
    · exact h.elim
  · exact h.elim

section
variable {W : World} {F : List Ch} (b cap : Nat) (ao : Option Addr) (rest : List SV) (T : TypeId) (f : FuncId) (bef : IT → IT → Bool) (len n i0 : Nat) (R0 : List (IT × Int))

def qPdnLive (s : List (IT × Int) × Nat) : List (Nat × SV) := [(0, .iface 166 (.ptr 0 b 0)), (1, .int .i64 (i0 : Int)), (2, .int .i64 (n : Int)), (7, .int .i64 (s.2 : Int))]
structure QPDn (s : List (IT × Int) × Nat) : Prop where
  le : s.2 ≤ len
  len : s.1.length = len
  go : ∃ m, n ≤ m + s.2 + 1 ∧ downL (lessI bef) ((⟨0, 0⟩ : IT), (0 : Int)) m s.1 s.2 n = R0

theorem qPdn_round (hR : RP f bef) (hlen : len ≤ 2305843009213693952) (hn : n ≤ len) (s : List (IT × Int) × Nat) (h : QPDn bef len n R0 s) (u : Nat → Value) :
    G Try.prog (endQ Try.prog Try.f100 W F fun h' r => h' = qhG 168 3 encItP ((⟨0, 0⟩ : IT), (0 : Int)) b ao cap f rest T R0 ∧ ∃ bb, r = .bool bb) W F (frm [Back W F 48 (qPdnLive b n i0) (qPHeap b cap ao rest T f) (QPDn bef len n R0) (fun s => len - s.2) (len - s.2)] (bodyOf Try.f100) [1, 1, 0, 0, 0] []) ⟨mkT u 48 0 (qPdnLive b n i0 s), qPHeap b cap ao rest T f s⟩ := by
  obtain ⟨xs, i⟩ := s
  obtain ⟨h1, h2, m, hm, he⟩ := h
  dsimp only at h1 h2 hm he ⊢
  refine G_run (kc := false) (ss := []) qTP1_ok hmQP 900 ?_
  unfold qPdnLive qPHeap
  dsimp only
  rw [qPdn_body]
  have e1 : IntKind.wrap .i64 (2 * (i : Int)) = 2 * (i : Int) := IntWalk.i64_in _ (by omega)
  have e2 : IntKind.wrap .i64 (2 * (i : Int) + 1) = 2 * (i : Int) + 1 := IntWalk.i64_in _ (by omega)
  have e3 : IntKind.wrap .i64 (2 * (i : Int) + 1 + 1) = 2 * (i : Int) + 1 + 1 := IntWalk.i64_in _ (by omega)
  have e4 : Int.toNat (2 * (i : Int) + 1) = 2 * i + 1 := by omega
  have e5 : Int.toNat (2 * (i : Int) + 1 + 1) = 2 * i + 2 := by omega
  rw [e1, e2, e3, e4, e5]
  have go : ∀ kd : Nat, ¬ n ≤ 2 * i + 1 → kidL (lessI bef) ((⟨0, 0⟩ : IT), (0 : Int)) xs i n = kd → (kd = 2 * i + 1 ∨ kd = 2 * i + 2) → kd < n → lessI bef (xs.getD kd ((⟨0, 0⟩ : IT), (0 : Int))) (xs.getD i ((⟨0, 0⟩ : IT), (0 : Int))) = true → QPDn bef len n R0 (swapL ((⟨0, 0⟩ : IT), (0 : Int)) xs i kd, kd) ∧ len - kd < len - i := by
    intro kd q1 q2 q3 q4 q5
    refine ⟨⟨by dsimp only; omega, by rw [length_swapL]; exact h2, m - 1, by dsimp only; omega, ?_⟩, by omega⟩
    dsimp only
    rw [← he, downL_go q1 (by rw [q2]; exact q5) hm, q2]
  split <;> rename_i c1
  · exact ⟨by rw [← he, downL_stop (.inl (by simp at c1; omega))], _, rfl⟩
  · have c1' : ¬ n ≤ 2 * i + 1 := by simp at c1; omega
    split <;> rename_i c2
    · simp at c2; omega
    · split <;> rename_i c3
      · have c3' : 2 * i + 2 < n := by simp at c3; omega
        refine ⟨rfl, xs, ⟨rfl, rfl, rfl, rfl⟩, ⟨rfl, rfl, by omega, by omega, by omega, by omega⟩, bef, hR, ?_⟩
        split <;> rename_i c4
        · have hk := kidL_two (lt := lessI bef) (d := ((⟨0, 0⟩ : IT), (0 : Int))) c3' c4
          refine ⟨rfl, xs, ⟨rfl, rfl, rfl, rfl⟩, ⟨rfl, rfl, by omega, by omega, by omega, by omega⟩, bef, hR, ?_⟩
          split <;> rename_i c5
          · exact ⟨by rw [← he, downL_stop (.inr (by rw [hk]; simpa using c5))], _, rfl⟩
          · refine ⟨rfl, xs, ⟨rfl, rfl, rfl, rfl⟩, ⟨rfl, rfl, by omega, by omega, by omega, by omega⟩, ?_⟩
            obtain ⟨a1, a2⟩ := go _ c1' hk (.inr rfl) (by omega) (by simpa using c5)
            exact G_back (swapL ((⟨0, 0⟩ : IT), (0 : Int)) xs i (2 * i + 2), 2 * i + 2) a1 a2 rfl ⟨rfl, rfl, rfl, congrArg (Value.int .i64) (by dsimp only; omega), trivial⟩ (fun w hw => hw)
        · have hk := kidL_one (lt := lessI bef) (d := ((⟨0, 0⟩ : IT), (0 : Int))) (xs := xs) (i := i) (n := n) fun _ => by simpa using c4
          refine ⟨rfl, xs, ⟨rfl, rfl, rfl, rfl⟩, ⟨rfl, rfl, by omega, by omega, by omega, by omega⟩, bef, hR, ?_⟩
          split <;> rename_i c5
          · exact ⟨by rw [← he, downL_stop (.inr (by rw [hk]; simpa using c5))], _, rfl⟩
          · refine ⟨rfl, xs, ⟨rfl, rfl, rfl, rfl⟩, ⟨rfl, rfl, by omega, by omega, by omega, by omega⟩, ?_⟩
            obtain ⟨a1, a2⟩ := go _ c1' hk (.inl rfl) (by omega) (by simpa using c5)
            exact G_back (swapL ((⟨0, 0⟩ : IT), (0 : Int)) xs i (2 * i + 1), 2 * i + 1) a1 a2 rfl ⟨rfl, rfl, rfl, congrArg (Value.int .i64) (by dsimp only; omega), trivial⟩ (fun w hw => hw)
      · have hk := kidL_one (lt := lessI bef) (d := ((⟨0, 0⟩ : IT), (0 : Int))) (xs := xs) (i := i) (n := n) fun h => by simp at c3; omega
        refine ⟨rfl, xs, ⟨rfl, rfl, rfl, rfl⟩, ⟨rfl, rfl, by omega, by omega, by omega, by omega⟩, bef, hR, ?_⟩
        split <;> rename_i c5
        · exact ⟨by rw [← he, downL_stop (.inr (by rw [hk]; simpa using c5))], _, rfl⟩
        · refine ⟨rfl, xs, ⟨rfl, rfl, rfl, rfl⟩, ⟨rfl, rfl, by omega, by omega, by omega, by omega⟩, ?_⟩
          obtain ⟨a1, a2⟩ := go _ c1' hk (.inl rfl) (by omega) (by simpa using c5)
          exact G_back (swapL ((⟨0, 0⟩ : IT), (0 : Int)) xs i (2 * i + 1), 2 * i + 1) a1 a2 rfl ⟨rfl, rfl, rfl, congrArg (Value.int .i64) (by dsimp only; omega), trivial⟩ (fun w hw => hw)
end

theorem qPdn_spec (b cap : Nat) (ao : Option Addr) (rest : List SV) (T : TypeId) (f : FuncId) (bef : IT → IT → Bool) (hR : RP f bef) (xs : List (IT × Int)) (i0 n : Nat) (hi0 : i0 ≤ xs.length) (hn : n ≤ xs.length) (hl : xs.length ≤ 2305843009213693952) :
    Spec Try.prog 100 (qhG 168 3 encItP ((⟨0, 0⟩ : IT), (0 : Int)) b ao cap f rest T xs) [.iface 166 (.ptr 0 b 0), .int .i64 (i0 : Int), .int .i64 (n : Int)] fun h' r => h' = qhG 168 3 encItP ((⟨0, 0⟩ : IT), (0 : Int)) b ao cap f rest T (downL (lessI bef) ((⟨0, 0⟩ : IT), (0 : Int)) xs.length xs i0 n) ∧ ∃ bb, r = .bool bb := by
  refine Spec.of_G 48 Try.func100 (c := bodyOf Try.f100) (by kernel_rfl) (by kernel_rfl) (Nat.le_of_ble_eq_true rfl) fun W F => ?_
  refine G_run (kc := false) (ss := []) qTP1_ok hmQP 900 ?_
  rw [qPdn_start (J := fun _ _ => False) (u := fun _ => undef)]
  exact G_loopAt [] (bodyOf Try.f100) [1, 1, 0, 0] 48 (qPdnLive b n i0) (qPHeap b cap ao rest T f) (QPDn bef xs.length n (downL (lessI bef) ((⟨0, 0⟩ : IT), (0 : Int)) xs.length xs i0 n)) (fun s => xs.length - s.2) (xs, i0) (by kernel_rfl) (fun J => by kernel_rfl) ⟨hi0, rfl, xs.length, by dsimp only; omega, rfl⟩ rfl ⟨rfl, rfl, rfl, rfl, trivial⟩ (fun w hw => hw) fun s hs u => qPdn_round b cap ao rest T f bef xs.length n i0 _ hR hl hn s hs u

theorem qPdn_ok : CtrOk Try.prog 100 (downAC 168 3 encItP ((⟨0, 0⟩ : IT), (0 : Int)) 166 RP) := by
  intro args hs N h
  unfold downAC at h
  split at h
  · rename_i t l b k i k' n
    unfold onPile at h
    split at h
    · rename_i b' l2 ao n' cap f rest T hl
      split at h
      · rename_i e hl2
        obtain ⟨xs, ⟨rfl, rfl, rfl, hne⟩, ⟨rfl, rfl, rfl, g0, g00, g1, g2, g3⟩, bef, hR, hN⟩ := h
        obtain ⟨j', rfl⟩ := Int.eq_ofNat_of_zero_le g1
        obtain ⟨i', rfl⟩ := Int.eq_ofNat_of_zero_le g0
        refine Spec.pile 168 3 encItP ((⟨0, 0⟩ : IT), (0 : Int)) hl hl2 hne (args' := [.iface 166 (.ptr 0 b' 0), .int .i64 (i' : Int), .int .i64 (j' : Int)]) (by rfl) (fun _ _ => qPdn_spec b' cap ao rest T f bef hR xs i' j' (by omega) (by omega) (by omega)) ?_
        rintro h' r ⟨rfl, bb, rfl⟩
        exact ⟨_, ao, cap, rest, _, fun W F w hr => hr, rfl, hN bb⟩
      · exact h.elim
    · exact h.elim
  · exact h.elim

theorem qTP2_ok : AllOk Try.prog qTP2 := ⟨qPup_ok, qPdn_ok, qTP1_ok⟩

theorem qPhpush_ok : CtrOk Try.prog 80 (hpushC 168 3 encItP ((⟨0, 0⟩ : IT), (0 : Int)) 166 24 RP) := by
  intro args hs N h
  unfold hpushC at h
  split at h
  · rename_i t l b t' cs
    unfold onPile at h
    split at h
    · rename_i b' l2 ao n' cap f rest T hl
      split at h
      · rename_i e hl2
        obtain ⟨xs, ⟨rfl, rfl, rfl, hne⟩, x, ⟨rfl, rfl, rfl, g1, g2⟩, bef, hR, hN⟩ := h
        refine Spec.pile 168 3 encItP ((⟨0, 0⟩ : IT), (0 : Int)) hl hl2 hne (args' := [.iface 166 (.ptr 0 b' 0), .iface 168 (.agg (encItP x))]) (Post' := fun h' r => ∃ ao2 cap2, h' = qhG 168 3 encItP ((⟨0, 0⟩ : IT), (0 : Int)) b' ao2 cap2 f rest T (pushL (lessI bef) ((⟨0, 0⟩ : IT), (0 : Int)) xs x) ∧ r = .tuple []) (by rfl) (fun _ _ => ?_) ?_
        · refine Spec.of_G 12 Try.func80 (c := bodyOf Try.f80) (by kernel_rfl) (by kernel_rfl) (Nat.le_of_ble_eq_true rfl) fun W F => ?_
          refine G_run (kc := false) (ss := []) qTP2_ok hmQP 900 ?_
          rw [qPhpush (J := fun _ _ => False) (u := fun _ => undef)]
          have hlx : (xs ++ [x]).length = xs.length + 1 := by simp
          have hw : IntKind.wrap .i64 (((xs ++ [x]).length : Int) - 1) = (xs.length : Int) := by rw [hlx, IntWalk.i64_in _ (by omega)]; omega
          refine ⟨rfl, xs, ⟨rfl, rfl, rfl, rfl⟩, x, ⟨rfl, rfl, g1, by omega⟩, fun ao2 cap2 => ⟨rfl, rfl, rfl, xs ++ [x], ⟨rfl, rfl, rfl, rfl⟩, ?_⟩⟩
          rw [hw]
          exact ⟨⟨rfl, rfl, by omega, by omega, by omega⟩, bef, hR, ao2, cap2, rfl, rfl⟩
        · rintro h' r ⟨ao2, cap2, rfl, rfl⟩
          exact ⟨_, ao2, cap2, rest, _, fun W F w hr => hr, rfl, hN ao2 cap2⟩
      · exact h.elim
    · exact h.elim
  · exact h.elim

theorem qPhpop_ok : CtrOk Try.prog 81 (hpopC 168 3 encItP ((⟨0, 0⟩ : IT), (0 : Int)) 166 RP) := by
  intro args hs N h
  unfold hpopC at h
  split at h
  · rename_i t l b
    unfold onPile at h
    split at h
    · rename_i b' l2 ao n' cap f rest T hl
      split at h
      · rename_i e hl2
        obtain ⟨xs, ⟨rfl, rfl, rfl, hne⟩, ⟨rfl, g1, g2⟩, bef, hR, hN⟩ := h
        refine Spec.pile 168 3 encItP ((⟨0, 0⟩ : IT), (0 : Int)) hl hl2 hne (args' := [.iface 166 (.ptr 0 b' 0)]) (Post' := fun h' r => h' = qhG 168 3 encItP ((⟨0, 0⟩ : IT), (0 : Int)) b' ao cap f rest T (popL (lessI bef) ((⟨0, 0⟩ : IT), (0 : Int)) xs) ∧ r = .iface 168 (.agg (encItP (xs.getD 0 ((⟨0, 0⟩ : IT), (0 : Int)))))) (by rfl) (fun _ _ => ?_) ?_
        · refine Spec.of_G 15 Try.func81 (c := bodyOf Try.f81) (by kernel_rfl) (by kernel_rfl) (Nat.le_of_ble_eq_true rfl) fun W F => ?_
          refine G_run (kc := false) (ss := []) qTP2_ok hmQP 900 ?_
          rw [qPhpop (J := fun _ _ => False) (u := fun _ => undef)]
          have hw : IntKind.wrap .i64 ((xs.length : Int) - 1) = ((xs.length - 1 : Nat) : Int) := by rw [IntWalk.i64_in _ (by omega)]; omega
          have hs1 : (swapL ((⟨0, 0⟩ : IT), (0 : Int)) xs 0 (xs.length - 1)).length = xs.length := length_swapL _ _ _
          have hd1 : (downL (lessI bef) ((⟨0, 0⟩ : IT), (0 : Int)) xs.length (swapL ((⟨0, 0⟩ : IT), (0 : Int)) xs 0 (xs.length - 1)) 0 (xs.length - 1)).length = xs.length := by rw [length_downL, hs1]
          have hlast := last_downL (lt := lessI bef) (d := ((⟨0, 0⟩ : IT), (0 : Int))) g1
          rw [hw]
          refine ⟨rfl, rfl, rfl, xs, ⟨rfl, rfl, rfl, rfl⟩, ⟨rfl, rfl, by omega, by omega, by omega, by omega⟩, rfl, swapL ((⟨0, 0⟩ : IT), (0 : Int)) xs 0 (xs.length - 1), ⟨rfl, rfl, rfl, rfl⟩, ⟨rfl, rfl, rfl, by omega, by omega, by omega, by omega, by omega⟩, bef, hR, fun bb => ⟨rfl, downL (lessI bef) ((⟨0, 0⟩ : IT), (0 : Int)) xs.length (swapL ((⟨0, 0⟩ : IT), (0 : Int)) xs 0 (xs.length - 1)) 0 (xs.length - 1), ⟨by simp only [hs1, Int.toNat_natCast], rfl, by simp only [hs1, Int.toNat_natCast], rfl⟩, ⟨by omega, by omega⟩, ?_⟩⟩
          rw [hd1, hlast]
          exact ⟨rfl, rfl⟩
        · rintro h' r ⟨rfl, rfl⟩
          exact ⟨_, ao, cap, rest, _, fun W F w hr => hr, rfl, hN⟩
      · exact h.elim
    · exact h.elim
  · exact h.elim

section
variable {W : World} {F : List Ch} (b cap : Nat) (ao : Option Addr) (rest : List SV) (T : TypeId) (f : FuncId) (bef : IT → IT → Bool) (len : Nat) (R0 : List (IT × Int))
def qPinLive (s : List (IT × Int) × Nat) : List (Nat × SV) := [(0, .iface 166 (.ptr 0 b 0)), (2, .int .i64 (len : Int)), (3, .int .i64 ((s.2 : Int) - 1))]
structure QPIn (s : List (IT × Int) × Nat) : Prop where
  le : s.2 ≤ len
  len : s.1.length = len
  go : initL (lessI bef) ((⟨0, 0⟩ : IT), (0 : Int)) s.2 s.1 = R0
theorem qPin_round (hR : RP f bef) (hlen : len ≤ 1000000000) (s : List (IT × Int) × Nat) (h : QPIn bef len R0 s) (u : Nat → Value) :
    G Try.prog (endQ Try.prog Try.f92 W F fun h' r => h' = qhG 168 3 encItP ((⟨0, 0⟩ : IT), (0 : Int)) b ao cap f rest T R0 ∧ r = .tuple []) W F (frm [Back W F 17 (qPinLive b len) (qPHeap b cap ao rest T f) (QPIn bef len R0) (fun s => s.2) s.2] (bodyOf Try.f92) [1, 1, 0, 0] []) ⟨mkT u 17 0 (qPinLive b len s), qPHeap b cap ao rest T f s⟩ := by
  obtain ⟨xs, i⟩ := s
  obtain ⟨h1, h2, he⟩ := h
  dsimp only at h1 h2 he ⊢
  refine G_run (kc := false) (ss := []) qTP2_ok hmQP 900 ?_
  unfold qPinLive qPHeap
  dsimp only
  subst h2
  rw [qPhin_body]
  cases hd : decide ((i : Int) - 1 ≥ 0) with
  | false =>
    simp only [decide_eq_false_iff_not] at hd
    obtain rfl : i = 0 := by omega
    exact ⟨by rw [← he]; rfl, rfl⟩
  | true =>
    simp only [decide_eq_true_eq] at hd
    obtain ⟨j, rfl⟩ : ∃ j, i = j + 1 := ⟨i - 1, by omega⟩
    have e1 : ((j + 1 : Nat) : Int) - 1 = (j : Int) := by omega
    have e2 : IntKind.wrap .i64 ((j : Int) - 1) = (j : Int) - 1 := IntWalk.i64_in _ (by omega)
    rw [e1]
    refine ⟨rfl, xs, ⟨rfl, rfl, rfl, rfl⟩, ⟨rfl, rfl, rfl, by omega, by omega, by omega, by omega, by omega⟩, bef, hR, fun bb => ?_⟩
    simp only [Int.toNat_natCast]
    rw [e2]
    exact G_back (downL (lessI bef) ((⟨0, 0⟩ : IT), (0 : Int)) xs.length xs j xs.length, j) ⟨by dsimp only; omega, length_downL _ _ _ _, he⟩ (by dsimp only; omega) rfl ⟨rfl, rfl, rfl, trivial⟩ (fun w hw => hw)
end
theorem qPhinit_ok : CtrOk Try.prog 92 (hinitC 168 3 encItP ((⟨0, 0⟩ : IT), (0 : Int)) 166 RP) := by
  intro args hs N h
  unfold hinitC at h
  split at h
  · rename_i t l b
    unfold onPile at h
    split at h
    · rename_i b' l2 ao n' cap f rest T hl
      split at h
      · rename_i e hl2
        obtain ⟨xs, ⟨rfl, rfl, rfl, hne⟩, ⟨rfl, g1⟩, bef, hR, hN⟩ := h
        refine Spec.pile 168 3 encItP ((⟨0, 0⟩ : IT), (0 : Int)) hl hl2 hne (args' := [.iface 166 (.ptr 0 b' 0)]) (Post' := fun h' r => h' = qhG 168 3 encItP ((⟨0, 0⟩ : IT), (0 : Int)) b' ao cap f rest T (initL (lessI bef) ((⟨0, 0⟩ : IT), (0 : Int)) (xs.length / 2) xs) ∧ r = .tuple []) (by rfl) (fun _ _ => ?_) ?_
        · refine Spec.of_G 17 Try.func92 (c := bodyOf Try.f92) (by kernel_rfl) (by kernel_rfl) (Nat.le_of_ble_eq_true rfl) fun W F => ?_
          refine G_run (kc := false) (ss := []) qTP2_ok hmQP 900 ?_
          rw [qPhin_start (J := fun _ _ => False) (u := fun _ => undef)]
          have hw : IntKind.wrap .i64 (IntKind.wrap .i64 (Int.tdiv (xs.length : Int) 2) - 1) = ((xs.length / 2 : Nat) : Int) - 1 := by
            rw [Int.tdiv_eq_ediv_of_nonneg (by omega), IntWalk.i64_in ((xs.length : Int) / 2) (by omega), IntWalk.i64_in _ (by omega)]; omega
          rw [hw]
          refine ⟨rfl, ?_⟩
          repeat' first
            | exact rfl
            | decide
            | exact G_loopAt [] (bodyOf Try.f92) [1, 1, 0] 17 (qPinLive b' xs.length) (qPHeap b' cap ao rest T f) (QPIn bef xs.length (initL (lessI bef) ((⟨0, 0⟩ : IT), (0 : Int)) (xs.length / 2) xs)) (fun s => s.2) (xs, xs.length / 2) (by kernel_rfl) (fun J => by kernel_rfl) ⟨by dsimp only; omega, rfl, rfl⟩ rfl ⟨rfl, rfl, rfl, trivial⟩ (fun w hw => hw) fun s hs u => qPin_round b' cap ao rest T f bef xs.length _ hR g1 s hs u
            | apply And.intro
            | fail
        · rintro h' r ⟨rfl, rfl⟩
          exact ⟨_, ao, cap, rest, _, fun W F w hr => hr, rfl, hN⟩
      · exact h.elim
    · exact h.elim
  · exact h.elim
end Go.Proofs.Ytjnkfgigpapeaaa

