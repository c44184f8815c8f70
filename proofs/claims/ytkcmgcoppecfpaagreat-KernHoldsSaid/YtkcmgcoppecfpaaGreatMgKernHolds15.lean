import Derived.Test.YtkcmgcoppecfpaaGreatMgKernHolds7
import Derived.Test.YtkcmgcoppecfpaaGreatMgKernHolds6
import Derived.Test.YtkcmgcoppecfpaaGreatMgKernHolds11
import Derived.Test.YtkcmgcoppecfpaaGreatMgKernHolds12
import Derived.Test.YtkcmgcoppecfpaaGreatMgKernHolds13
import Derived.Test.YtkcmgcoppecfpaaGreatMgKernHolds14
/- YtkcmgcoppecfpaaGreatPrcD -/
/- proc.Table: going through it. -/
namespace Go.Proofs.YtkcmgcoppecfpaaGreat
open Go Go.RowKit
set_option linter.unusedVariables false
/-- The function that is called for each process: R i: the other entries ahead of process i; Stop: where it says 'false'. -/
def all1Y (fv : Value) (s : PT) (b : Nat) (R : Nat → List Ent) (Stop : PT → List Ent → Prop) : YCtr := fun v args hs N => v = fv ∧ match hs with
  | e0 :: e1 :: e2 :: rest => ∃ i x, s.ps[i]? = some x ∧ args = [.agg (encP6 x.2)] ∧ e0 = pkA b ptE s ∧ e2 = pk 0 (R i) ∧
      N (pkA b ptE s :: e1 :: pk 0 (R (i + 1)) :: rest) (.bool true) ∧ ∀ s' R', Stop s' R' → N (pkA b ptE s' :: e1 :: pk 0 R' :: rest) (.bool false)
  | _ => False
def ptK : Tbl := [(81, inl Tryz.prog [] true Tryz.f81 100), (80, srtIC 94 3)]
def ptG : Tbl := (16, adtC ptE getM) :: ptK
/-- The first ones: all where 'stop' isn't above 0. -/
def upto (stop : Int) (l : List PR) : List PR := match decide (stop ≤ 0) with
  | true => l
  | false => l.take stop.toNat
/-- all: the processes, in order. -/
def allPC : Ctr := fun args hs N => match args with
  | [.ptr l b 0, .int .i64 stop] => match nth hs l with
    | some ⟨.blk b', .adt (σ := σ') p s⟩ => b' = b ∧ ∃ h : σ' = PT, AdtIs p ptE ∧ (pOk (cast h s) ∧ (cast h s).ps.length ≤ 200) ∧
        ∀ ao cap, N (snoc hs ⟨.sl ao cap, .vecL 38 6 encP6 (upto stop ((cast h s).ps.map (·.2))) PR.zero⟩) (.vec (lenN hs) ao (upto stop ((cast h s).ps.map (·.2))).length cap)
    | _ => False
  | _ => False
def ptAr : Tbl := [(36, inl Tryz.prog [] true Tryz.f36 100)]
end Go.Proofs.YtkcmgcoppecfpaaGreat

/- YtkcmgcoppecfpaaGreatPr5Run -/
namespace Go.Proofs.YtkcmgcoppecfpaaGreat
set_option linter.unusedVariables false
open Go Go.RowKit
set_option maxHeartbeats 0
set_option maxRecDepth 100000
set_option maxRecDepth 100000

theorem al_start (K : List Frm → Sy → Prop) (X : Code → Sy → Prop) (E : Sy → Prop) (s : PT) (b bt : Nat) (fv : Value) (R : Nat → List Ent) (Stop : PT → List Ent → Prop) : (runR Tryz.prog ptG (all1Y fv s b R Stop) true [] K X E 300 [.code (bodyOf Tryz.f79)] ⟨padTo 32 [.raw fv, .ptr 3 bt 0], [⟨.blk b, .cells [.map 1 s.bm, .int .i64 s.room, .int .i64 s.last] 119⟩, ⟨.blk s.bm, .mapL (some .i64) encB1 (s.ps.map pkey)⟩, pk 0 (s.ps.map procE), ⟨.blk bt, .cells [.ptr 0 b 0] 42⟩, pk 0 (R 0)]⟩) = (
bt = bt ∧
 b = b ∧
  true = true ∧
   true = true ∧
    ∀ (b_1 : Nat),
     true = true ∧
      94 = 94 ∧
       (b_1 = b_1 ∧ s.1 = s.1 ∧ some IntKind.i64 = some IntKind.i64 ∧ wfI (List.map pkey s.2)) ∧
        ∀ (ao : Option Addr) (cap : Nat),
         K (frm [] (bodyOf Tryz.f79) [1, 0] [])
          (Sy.mk (SV.raw fv :: (SV.ptr 3 bt 0 :: (rawE (SV.ptr 0 b 0 :: (SV.ptr 0 b 0 :: (SV.ptr 0 b 0 :: (SV.map 1 s.1 :: (SV.func (Fn.func 94) [] [SV.ptr 5 b_1 0] :: (SV.vec 6 ao (List.length (sortI (List.map pkey s.2))) cap :: (SV.int IntKind.i64 (↑(List.length (sortI (List.map pkey s.2))) : Int) :: (SV.int IntKind.i64 (0 : Int) :: (rawE [] 17))))))))) 5)))
           [Ent.mk (Loc.blk b) (SObj.cells [SV.map 1 s.1, SV.int IntKind.i64 s.3, SV.int IntKind.i64 s.4] (119 : TypeId)),
            Ent.mk (Loc.blk s.1) (SObj.mapL (some IntKind.i64) encB1 (List.map pkey s.2)), pk 0 (List.map procE s.2),
            Ent.mk (Loc.blk bt) (SObj.cells [SV.ptr 0 b 0] (42 : TypeId)), pk 0 (R 0), Ent.mk (Loc.blk b_1) (SObj.cells [SV.map 1 s.1] 117),
            Ent.mk (Loc.sl ao cap) (SObj.vecL 3 1 encI1 (sortI (List.map pkey s.2)) (0 : Int))])) := by kernel_rfl


theorem al_body (K : List Frm → Sy → Prop) (X : Code → Sy → Prop) (E : Sy → Prop) (J : Act → World → Prop) (s : PT) (b bt : Nat) (fv : Value) (R : Nat → List Ent) (Stop : PT → List Ent → Prop) (aok : Option Addr) (capk : Nat) (ks : List Int) (i : Nat) (u : Nat → Value) : (runR Tryz.prog ptG (all1Y fv s b R Stop) true [] K X E 900 (frm [J] (bodyOf Tryz.f79) [1, 0, 0] []) ⟨mkT u 32 0 [(0, .raw fv), (1, .ptr 1 bt 0), (12, .vec 3 aok ks.length capk), (13, .int .i64 (ks.length : Int)), (14, .int .i64 (i : Int))], [pkA b ptE s, ⟨.blk bt, .cells [.ptr 0 b 0] 42⟩, pk 0 (R i), ⟨.sl aok capk, .vecL 3 1 encI1 ks 0⟩]⟩) = (
match decide ((↑i : Int) < (↑(List.length ks) : Int)) with
| true =>
 (aok = aok ∧ capk = capk ∧ List.length ks = List.length ks ∧ (0 : Int) ≤ (↑i : Int) ∧ (↑i : Int) < (↑(List.length ks) : Int)) ∧
  (Addr.blkD aok = Addr.blkD aok ∧ Addr.offD aok = Addr.offD aok ∧ 1 = 1 ∧ Int.toNat (↑i : Int) < List.length ks) ∧
   bt = bt ∧
    true = true ∧
     b = b ∧
      ∃ (h : PT = PT),
       AdtIs (fun (s : PT) (b : Nat) ↦ packs (ptE s b)) ptE ∧
        pOk s ∧
         ∀ (b_1 : Nat),
          (b_1 = b_1 ∧ true = true ∧ 6 = 6 ∧ 6 ≤ 6) ∧
           match pHas s (List.getD ks (Int.toNat (↑i : Int)) (0 : Int)) with
           | true =>
            (b_1 = b_1 ∧ 6 = 6) ∧
             fv = fv ∧
              ∃ (i_1 : Nat),
               ∃ (x : Nat × PR),
                s.2[i_1]? = some x ∧
                 [SV.agg
                  [SV.int IntKind.i64 (pGet s (List.getD ks (Int.toNat (↑i : Int)) (0 : Int))).1, SV.int IntKind.i64 (pGet s (List.getD ks (Int.toNat (↑i : Int)) (0 : Int))).2,
                   SV.str (pGet s (List.getD ks (Int.toNat (↑i : Int)) (0 : Int))).3, SV.bool (pGet s (List.getD ks (Int.toNat (↑i : Int)) (0 : Int))).4,
                   SV.int IntKind.i64 (pGet s (List.getD ks (Int.toNat (↑i : Int)) (0 : Int))).5, SV.str (pGet s (List.getD ks (Int.toNat (↑i : Int)) (0 : Int))).6]] =
                  [SV.agg [SV.int IntKind.i64 x.2.1, SV.int IntKind.i64 x.2.2, SV.str x.2.3, SV.bool x.2.4, SV.int IntKind.i64 x.2.5, SV.str x.2.6]] ∧
                  pkA b ptE s = pkA b ptE s ∧
                   pk 0 (R i) = pk 0 (R i_1) ∧
                    K [Frm.loop J, Frm.blk 0]
                     (Sy.mk (SV.raw fv :: (SV.ptr 1 bt 0 :: (SV.raw (u 2) :: (SV.raw (u 3) :: (SV.int IntKind.i64 (List.getD ks (Int.toNat (↑i : Int)) (0 : Int)) :: (SV.ptr 4 b_1 0 :: (SV.bool (pHas s (List.getD ks (Int.toNat (↑i : Int)) (0 : Int))) :: (rawR u 7 (SV.vec 3 aok (List.length ks) capk :: (SV.int IntKind.i64 (↑(List.length ks) : Int) :: (SV.int IntKind.i64 (IntKind.wrap IntKind.i64 ((↑i : Int) + (1 : Int))) :: (SV.bool true :: (SV.eptr 3 (Addr.blkD aok) (Addr.offD aok) 1 (Int.toNat (↑i : Int)) 0 :: (SV.int IntKind.i64 (List.getD ks (Int.toNat (↑i : Int)) (0 : Int)) :: (SV.tuple [SV.agg [SV.int IntKind.i64 (pGet s (List.getD ks (Int.toNat (↑i : Int)) (0 : Int))).1, SV.int IntKind.i64 (pGet s (List.getD ks (Int.toNat (↑i : Int)) (0 : Int))).2, SV.str (pGet s (List.getD ks (Int.toNat (↑i : Int)) (0 : Int))).3, SV.bool (pGet s (List.getD ks (Int.toNat (↑i : Int)) (0 : Int))).4, SV.int IntKind.i64 (pGet s (List.getD ks (Int.toNat (↑i : Int)) (0 : Int))).5, SV.str (pGet s (List.getD ks (Int.toNat (↑i : Int)) (0 : Int))).6], SV.bool (pHas s (List.getD ks (Int.toNat (↑i : Int)) (0 : Int)))] :: (SV.ptr 0 b 0 :: (SV.int IntKind.i64 (List.getD ks (Int.toNat (↑i : Int)) (0 : Int)) :: (SV.tuple [SV.agg [SV.int IntKind.i64 (pGet s (List.getD ks (Int.toNat (↑i : Int)) (0 : Int))).1, SV.int IntKind.i64 (pGet s (List.getD ks (Int.toNat (↑i : Int)) (0 : Int))).2, SV.str (pGet s (List.getD ks (Int.toNat (↑i : Int)) (0 : Int))).3, SV.bool (pGet s (List.getD ks (Int.toNat (↑i : Int)) (0 : Int))).4, SV.int IntKind.i64 (pGet s (List.getD ks (Int.toNat (↑i : Int)) (0 : Int))).5, SV.str (pGet s (List.getD ks (Int.toNat (↑i : Int)) (0 : Int))).6], SV.bool (pHas s (List.getD ks (Int.toNat (↑i : Int)) (0 : Int)))] :: (SV.agg [SV.int IntKind.i64 (pGet s (List.getD ks (Int.toNat (↑i : Int)) (0 : Int))).1, SV.int IntKind.i64 (pGet s (List.getD ks (Int.toNat (↑i : Int)) (0 : Int))).2, SV.str (pGet s (List.getD ks (Int.toNat (↑i : Int)) (0 : Int))).3, SV.bool (pGet s (List.getD ks (Int.toNat (↑i : Int)) (0 : Int))).4, SV.int IntKind.i64 (pGet s (List.getD ks (Int.toNat (↑i : Int)) (0 : Int))).5, SV.str (pGet s (List.getD ks (Int.toNat (↑i : Int)) (0 : Int))).6] :: (SV.bool (pHas s (List.getD ks (Int.toNat (↑i : Int)) (0 : Int))) :: (SV.bool (pHas s (List.getD ks (Int.toNat (↑i : Int)) (0 : Int))) :: (SV.bool true :: (SV.raw fv :: (SV.agg [SV.int IntKind.i64 (pGet s (List.getD ks (Int.toNat (↑i : Int)) (0 : Int))).1, SV.int IntKind.i64 (pGet s (List.getD ks (Int.toNat (↑i : Int)) (0 : Int))).2, SV.str (pGet s (List.getD ks (Int.toNat (↑i : Int)) (0 : Int))).3, SV.bool (pGet s (List.getD ks (Int.toNat (↑i : Int)) (0 : Int))).4, SV.int IntKind.i64 (pGet s (List.getD ks (Int.toNat (↑i : Int)) (0 : Int))).5, SV.str (pGet s (List.getD ks (Int.toNat (↑i : Int)) (0 : Int))).6] :: (SV.bool true :: (SV.bool false :: (SV.bool false :: (SV.int IntKind.i64 (IntKind.wrap IntKind.i64 ((↑i : Int) + (1 : Int))) :: [])))))))))))))))))))) 5))))))))
                      [pkA b ptE s, Ent.mk (Loc.blk bt) (SObj.cells [SV.ptr 0 b 0] (42 : TypeId)), pk 0 (R (i_1 + 1)),
                       Ent.mk (Loc.sl aok capk) (SObj.vecL (3 : TypeId) 1 encI1 ks (0 : Int)),
                       Ent.mk (Loc.blk b_1)
                        (SObj.cells
                         [SV.int IntKind.i64 (pGet s (List.getD ks (Int.toNat (↑i : Int)) (0 : Int))).1,
                          SV.int IntKind.i64 (pGet s (List.getD ks (Int.toNat (↑i : Int)) (0 : Int))).2, SV.str (pGet s (List.getD ks (Int.toNat (↑i : Int)) (0 : Int))).3,
                          SV.bool (pGet s (List.getD ks (Int.toNat (↑i : Int)) (0 : Int))).4, SV.int IntKind.i64 (pGet s (List.getD ks (Int.toNat (↑i : Int)) (0 : Int))).5,
                          SV.str (pGet s (List.getD ks (Int.toNat (↑i : Int)) (0 : Int))).6]
                         38)]) ∧
                     ∀ (s' : PT) (R' : List Ent),
                      Stop s' R' →
                       X Code.ret
                        (Sy.mk (SV.raw fv :: (SV.ptr 1 bt 0 :: (SV.raw (u 2) :: (SV.raw (u 3) :: (SV.int IntKind.i64 (List.getD ks (Int.toNat (↑i : Int)) (0 : Int)) :: (SV.ptr 4 b_1 0 :: (SV.bool (pHas s (List.getD ks (Int.toNat (↑i : Int)) (0 : Int))) :: (rawR u 7 (SV.vec 3 aok (List.length ks) capk :: (SV.int IntKind.i64 (↑(List.length ks) : Int) :: (SV.int IntKind.i64 (↑i : Int) :: (SV.bool true :: (SV.eptr 3 (Addr.blkD aok) (Addr.offD aok) 1 (Int.toNat (↑i : Int)) 0 :: (SV.int IntKind.i64 (List.getD ks (Int.toNat (↑i : Int)) (0 : Int)) :: (SV.tuple [SV.agg [SV.int IntKind.i64 (pGet s (List.getD ks (Int.toNat (↑i : Int)) (0 : Int))).1, SV.int IntKind.i64 (pGet s (List.getD ks (Int.toNat (↑i : Int)) (0 : Int))).2, SV.str (pGet s (List.getD ks (Int.toNat (↑i : Int)) (0 : Int))).3, SV.bool (pGet s (List.getD ks (Int.toNat (↑i : Int)) (0 : Int))).4, SV.int IntKind.i64 (pGet s (List.getD ks (Int.toNat (↑i : Int)) (0 : Int))).5, SV.str (pGet s (List.getD ks (Int.toNat (↑i : Int)) (0 : Int))).6], SV.bool (pHas s (List.getD ks (Int.toNat (↑i : Int)) (0 : Int)))] :: (SV.ptr 0 b 0 :: (SV.int IntKind.i64 (List.getD ks (Int.toNat (↑i : Int)) (0 : Int)) :: (SV.tuple [SV.agg [SV.int IntKind.i64 (pGet s (List.getD ks (Int.toNat (↑i : Int)) (0 : Int))).1, SV.int IntKind.i64 (pGet s (List.getD ks (Int.toNat (↑i : Int)) (0 : Int))).2, SV.str (pGet s (List.getD ks (Int.toNat (↑i : Int)) (0 : Int))).3, SV.bool (pGet s (List.getD ks (Int.toNat (↑i : Int)) (0 : Int))).4, SV.int IntKind.i64 (pGet s (List.getD ks (Int.toNat (↑i : Int)) (0 : Int))).5, SV.str (pGet s (List.getD ks (Int.toNat (↑i : Int)) (0 : Int))).6], SV.bool (pHas s (List.getD ks (Int.toNat (↑i : Int)) (0 : Int)))] :: (SV.agg [SV.int IntKind.i64 (pGet s (List.getD ks (Int.toNat (↑i : Int)) (0 : Int))).1, SV.int IntKind.i64 (pGet s (List.getD ks (Int.toNat (↑i : Int)) (0 : Int))).2, SV.str (pGet s (List.getD ks (Int.toNat (↑i : Int)) (0 : Int))).3, SV.bool (pGet s (List.getD ks (Int.toNat (↑i : Int)) (0 : Int))).4, SV.int IntKind.i64 (pGet s (List.getD ks (Int.toNat (↑i : Int)) (0 : Int))).5, SV.str (pGet s (List.getD ks (Int.toNat (↑i : Int)) (0 : Int))).6] :: (SV.bool (pHas s (List.getD ks (Int.toNat (↑i : Int)) (0 : Int))) :: (SV.bool (pHas s (List.getD ks (Int.toNat (↑i : Int)) (0 : Int))) :: (SV.bool true :: (SV.raw fv :: (SV.agg [SV.int IntKind.i64 (pGet s (List.getD ks (Int.toNat (↑i : Int)) (0 : Int))).1, SV.int IntKind.i64 (pGet s (List.getD ks (Int.toNat (↑i : Int)) (0 : Int))).2, SV.str (pGet s (List.getD ks (Int.toNat (↑i : Int)) (0 : Int))).3, SV.bool (pGet s (List.getD ks (Int.toNat (↑i : Int)) (0 : Int))).4, SV.int IntKind.i64 (pGet s (List.getD ks (Int.toNat (↑i : Int)) (0 : Int))).5, SV.str (pGet s (List.getD ks (Int.toNat (↑i : Int)) (0 : Int))).6] :: (SV.bool false :: (SV.bool true :: (SV.bool true :: (SV.raw (u 31) :: [])))))))))))))))))))) 5))))))))
                         [pkA b ptE s', Ent.mk (Loc.blk bt) (SObj.cells [SV.ptr 0 b 0] (42 : TypeId)), pk 0 R',
                          Ent.mk (Loc.sl aok capk) (SObj.vecL (3 : TypeId) 1 encI1 ks (0 : Int)),
                          Ent.mk (Loc.blk b_1)
                           (SObj.cells
                            [SV.int IntKind.i64 (pGet s (List.getD ks (Int.toNat (↑i : Int)) (0 : Int))).1,
                             SV.int IntKind.i64 (pGet s (List.getD ks (Int.toNat (↑i : Int)) (0 : Int))).2,
                             SV.str (pGet s (List.getD ks (Int.toNat (↑i : Int)) (0 : Int))).3, SV.bool (pGet s (List.getD ks (Int.toNat (↑i : Int)) (0 : Int))).4,
                             SV.int IntKind.i64 (pGet s (List.getD ks (Int.toNat (↑i : Int)) (0 : Int))).5,
                             SV.str (pGet s (List.getD ks (Int.toNat (↑i : Int)) (0 : Int))).6]
                            38)])
           | false =>
            K [Frm.loop J, Frm.blk 0]
             (Sy.mk (SV.raw fv :: (SV.ptr 1 bt 0 :: (SV.raw (u 2) :: (SV.raw (u 3) :: (SV.int IntKind.i64 (List.getD ks (Int.toNat (↑i : Int)) (0 : Int)) :: (SV.ptr 4 b_1 0 :: (SV.bool (pHas s (List.getD ks (Int.toNat (↑i : Int)) (0 : Int))) :: (rawR u 7 (SV.vec 3 aok (List.length ks) capk :: (SV.int IntKind.i64 (↑(List.length ks) : Int) :: (SV.int IntKind.i64 (IntKind.wrap IntKind.i64 ((↑i : Int) + (1 : Int))) :: (SV.bool true :: (SV.eptr 3 (Addr.blkD aok) (Addr.offD aok) 1 (Int.toNat (↑i : Int)) 0 :: (SV.int IntKind.i64 (List.getD ks (Int.toNat (↑i : Int)) (0 : Int)) :: (SV.tuple [SV.agg [SV.int IntKind.i64 (pGet s (List.getD ks (Int.toNat (↑i : Int)) (0 : Int))).1, SV.int IntKind.i64 (pGet s (List.getD ks (Int.toNat (↑i : Int)) (0 : Int))).2, SV.str (pGet s (List.getD ks (Int.toNat (↑i : Int)) (0 : Int))).3, SV.bool (pGet s (List.getD ks (Int.toNat (↑i : Int)) (0 : Int))).4, SV.int IntKind.i64 (pGet s (List.getD ks (Int.toNat (↑i : Int)) (0 : Int))).5, SV.str (pGet s (List.getD ks (Int.toNat (↑i : Int)) (0 : Int))).6], SV.bool (pHas s (List.getD ks (Int.toNat (↑i : Int)) (0 : Int)))] :: (SV.ptr 0 b 0 :: (SV.int IntKind.i64 (List.getD ks (Int.toNat (↑i : Int)) (0 : Int)) :: (SV.tuple [SV.agg [SV.int IntKind.i64 (pGet s (List.getD ks (Int.toNat (↑i : Int)) (0 : Int))).1, SV.int IntKind.i64 (pGet s (List.getD ks (Int.toNat (↑i : Int)) (0 : Int))).2, SV.str (pGet s (List.getD ks (Int.toNat (↑i : Int)) (0 : Int))).3, SV.bool (pGet s (List.getD ks (Int.toNat (↑i : Int)) (0 : Int))).4, SV.int IntKind.i64 (pGet s (List.getD ks (Int.toNat (↑i : Int)) (0 : Int))).5, SV.str (pGet s (List.getD ks (Int.toNat (↑i : Int)) (0 : Int))).6], SV.bool (pHas s (List.getD ks (Int.toNat (↑i : Int)) (0 : Int)))] :: (SV.agg [SV.int IntKind.i64 (pGet s (List.getD ks (Int.toNat (↑i : Int)) (0 : Int))).1, SV.int IntKind.i64 (pGet s (List.getD ks (Int.toNat (↑i : Int)) (0 : Int))).2, SV.str (pGet s (List.getD ks (Int.toNat (↑i : Int)) (0 : Int))).3, SV.bool (pGet s (List.getD ks (Int.toNat (↑i : Int)) (0 : Int))).4, SV.int IntKind.i64 (pGet s (List.getD ks (Int.toNat (↑i : Int)) (0 : Int))).5, SV.str (pGet s (List.getD ks (Int.toNat (↑i : Int)) (0 : Int))).6] :: (SV.bool (pHas s (List.getD ks (Int.toNat (↑i : Int)) (0 : Int))) :: (SV.bool (pHas s (List.getD ks (Int.toNat (↑i : Int)) (0 : Int))) :: (SV.bool false :: (rawE (SV.bool false :: (SV.int IntKind.i64 (IntKind.wrap IntKind.i64 ((↑i : Int) + (1 : Int))) :: [])) 4))))))))))))))) 5))))))))
              [pkA b ptE s, Ent.mk (Loc.blk bt) (SObj.cells [SV.ptr 0 b 0] (42 : TypeId)), pk 0 (R i),
               Ent.mk (Loc.sl aok capk) (SObj.vecL (3 : TypeId) 1 encI1 ks (0 : Int)),
               Ent.mk (Loc.blk b_1)
                (SObj.cells
                 [SV.int IntKind.i64 (pGet s (List.getD ks (Int.toNat (↑i : Int)) (0 : Int))).1, SV.int IntKind.i64 (pGet s (List.getD ks (Int.toNat (↑i : Int)) (0 : Int))).2,
                  SV.str (pGet s (List.getD ks (Int.toNat (↑i : Int)) (0 : Int))).3, SV.bool (pGet s (List.getD ks (Int.toNat (↑i : Int)) (0 : Int))).4,
                  SV.int IntKind.i64 (pGet s (List.getD ks (Int.toNat (↑i : Int)) (0 : Int))).5, SV.str (pGet s (List.getD ks (Int.toNat (↑i : Int)) (0 : Int))).6]
                 38)])
| false =>
 E
  (Sy.mk (SV.raw fv :: (SV.ptr 1 bt 0 :: (rawR u 2 (SV.vec 3 aok (List.length ks) capk :: (SV.int IntKind.i64 (↑(List.length ks) : Int) :: (SV.int IntKind.i64 (↑i : Int) :: (SV.bool false :: (rawR u 16 [] 16))))) 10)))
   [pkA b ptE s, Ent.mk (Loc.blk bt) (SObj.cells [SV.ptr 0 b 0] (42 : TypeId)), pk 0 (R i), Ent.mk (Loc.sl aok capk) (SObj.vecL (3 : TypeId) 1 encI1 ks (0 : Int))])) := by kernel_rfl
end Go.Proofs.YtkcmgcoppecfpaaGreat

/- YtkcmgcoppecfpaaGreatPrc3 -/
/- proc.Table: All. -/
namespace Go.Proofs.YtkcmgcoppecfpaaGreat
open Go Go.RowKit
set_option linter.unusedVariables false
set_option linter.unusedSimpArgs false
set_option linter.unnecessarySimpa false
set_option maxHeartbeats 0

open Go.Maps Go.Sort Go.Shelf
theorem getP_at {ps : List (Nat × PR)} (ha : ps.Pairwise fun x y => x.2.pid < y.2.pid) {i : Nat} (h : i < ps.length) : getP ps ps[i].2.pid = some ps[i] := by
  unfold getP
  rw [List.find?_eq_some_iff_append]
  refine ⟨by simp, ps.take i, ps.drop (i + 1), ?_, fun y hy => ?_⟩
  · rw [List.getElem_cons_drop, List.take_append_drop]
  · obtain ⟨j, hj, rfl⟩ := List.mem_iff_getElem.1 hy
    rw [List.getElem_take]
    have hj2 : j < i := by simp at hj; omega
    have := List.pairwise_iff_getElem.1 ha j i (by omega) h hj2
    simp; omega
theorem pOk.wf {s : PT} (ho : pOk s) : wfI (s.ps.map pkey) := by
  refine ⟨?_, by have := ho.len; simp; omega, fun e he => ?_⟩
  · unfold keysOk
    rw [List.pairwise_map]
    refine ho.asc.imp fun {x y} h => ?_
    simp [pkey, keyEq]; omega
  · obtain ⟨x, hx, rfl⟩ := List.mem_map.1 he
    have h1 := ho.le x hx
    have h2 := ho.last
    simp only [pkey, keyInt, Lit.wf, Bool.and_eq_true, decide_eq_true_eq]
    constructor
    · exact decide_eq_true (show (-9223372036854775808 : Int) ≤ _ by omega)
    · exact decide_eq_true (show _ ≤ (9223372036854775807 : Int) by omega)
theorem pOk.sort {s : PT} (ho : pOk s) : sortI (s.ps.map pkey) = s.ps.map fun x => x.2.pid := by
  unfold sortI
  have e : (s.ps.map pkey).map (fun e => keyInt e.1) = s.ps.map fun x => x.2.pid := by rw [List.map_map]; rfl
  rw [e]
  refine List.mergeSort_of_pairwise ?_
  rw [List.pairwise_map]
  exact ho.asc.imp fun {x y} h => by simp [leI]; omega

theorem ptK_ok : AllOk Tryz.prog ptK := ⟨inl_ok trivial hmP Tryz.func81 (by kernel_rfl), srtI_ok rfl ⟨_, Tryz.func94, by kernel_rfl, _, rfl⟩ (fun w b rm nn D0 h1 h2 h3 => AnyZI.keys_gives (ρ := keysP_ren) { keysP with } Fence.wide _ trivial rfl (by omega) b rm nn D0 w h1 h2 h3), trivial⟩
theorem ptG_ok : AllOk Tryz.prog ptG := ⟨pGet_ok, ptK_ok⟩

/-- What the function says of one process. -/
def OneV (fv : Value) (s : PT) (b : Nat) (R : Nat → List Ent) (Stop : PT → List Ent → Prop) : Prop := ∀ i x, s.ps[i]? = some x → VSpec Tryz.prog fv [pkA b ptE s, pk 0 (R i)] [.agg (encP6 x.2)] fun h r => (h = [pkA b ptE s, pk 0 (R (i + 1))] ∧ r = .bool true) ∨ ∃ s' R', Stop s' R' ∧ h = [pkA b ptE s', pk 0 R'] ∧ r = .bool false
theorem all1Y_ok {fv : Value} {s : PT} {b : Nat} {R : Nat → List Ent} {Stop : PT → List Ent → Prop} (hV : OneV fv s b R Stop) : YOk Tryz.prog (all1Y fv s b R Stop) := by
  rintro v args hs N ⟨rfl, h⟩
  split at h
  case h_2 => exact h.elim
  rename_i e0 e1 e2 rest
  obtain ⟨i, x, hx, rfl, rfl, rfl, hN1, hN2⟩ := h
  refine VSpec.at [0, 2] rfl rfl (hV i x hx) fun h' r hp => ?_
  rcases hp with ⟨rfl, rfl⟩ | ⟨s', R', hs, rfl, rfl⟩
  · exact ⟨Nat.le_refl _, by simpa [putBack, setN, appE_eq] using hN1⟩
  · exact ⟨Nat.le_refl _, by simpa [putBack, setN, appE_eq] using hN2 s' R' hs⟩

theorem all1_iter {fv : Value} {s : PT} {b bt : Nat} {R : Nat → List Ent} {Stop : PT → List Ent → Prop} (ho : pOk s) (hV : OneV fv s b R Stop) :
    Spec Tryz.prog 79 [pkA b ptE s, ⟨.blk bt, .cells [.ptr 0 b 0] 42⟩, pk 0 (R 0)] [.raw fv, .ptr 1 bt 0] fun h' r => r = .tuple [] ∧ (h' = [pkA b ptE s, pk 0 (R s.ps.length)] ∨ ∃ s' R', Stop s' R' ∧ h' = [pkA b ptE s', pk 0 R']) := by
  refine Spec.pre (hs' := [⟨.blk b, .cells [.map 1 s.bm, .int .i64 s.room, .int .i64 s.last] 119⟩, ⟨.blk s.bm, .mapL (some .i64) encB1 (s.ps.map pkey)⟩, pk 0 (s.ps.map procE), ⟨.blk bt, .cells [.ptr 0 b 0] 42⟩, pk 0 (R 0)]) (args' := [.raw fv, .ptr 3 bt 0]) (fun W F w hr => hr.unpkA) rfl (Spec.up ?_)
  refine Spec.of_GR 32 Tryz.func79 (c := bodyOf Tryz.f79) (by kernel_rfl) (by kernel_rfl) (Nat.le_of_ble_eq_true rfl) fun W F => ?_
  refine runR_sound (kc := true) (ss := []) (fun _ _ h => h) ptG_ok (all1Y_ok hV) hmP Ends.fn 300 _ _ ?_
  rw [al_start]
  refine ⟨rfl, rfl, rfl, rfl, fun b1 => ⟨rfl, rfl, ⟨rfl, rfl, rfl, ho.wf⟩, fun aok capk => ?_⟩⟩
  rw [ho.sort]
  have hlen : (s.ps.map fun x => x.2.pid).length = s.ps.length := by simp
  have hll := ho.len
  refine GR_loopAt (ι := Nat) [] (bodyOf Tryz.f79) [1, 0] 32 (fun i => [(0, .raw fv), (1, .ptr 1 bt 0), (12, .vec 3 aok (s.ps.map fun x => x.2.pid).length capk), (13, .int .i64 ((s.ps.map fun x => x.2.pid).length : Int)), (14, .int .i64 (i : Int))])
    (fun i => [pkA b ptE s, ⟨.blk bt, .cells [.ptr 0 b 0] 42⟩, pk 0 (R i), ⟨.sl aok capk, .vecL 3 1 encI1 (s.ps.map fun x => x.2.pid) 0⟩]) (fun i => i ≤ s.ps.length) (fun i => s.ps.length - i) 0 (by kernel_rfl) (fun J => by kernel_rfl) (Nat.zero_le _) rfl ⟨rfl, rfl, rfl, rfl, rfl, trivial⟩ (fun w hw => ?_) fun i hi u => ?_
  · have h1 : Rep W F (pkA b ptE s :: _) w := Rep.pkA (S := ptE) (s := s) (b := b) (t := _) hw
    exact Rep.pick (π := [0, 1, 2, 4]) (by decide) rfl h1
  simp only [List.nil_append, List.cons_append]
  refine runR_sound (kc := true) (ss := []) (fun _ _ h => h) ptG_ok (all1Y_ok hV) hmP Ends.fn 900 _ _ ?_
  rw [al_body]
  cases hlt : decide ((i : Int) < ((s.ps.map fun x => x.2.pid).length : Int)) with
  | false =>
    simp only [decide_eq_false_iff_not, hlen] at hlt
    obtain rfl : i = s.ps.length := by omega
    exact ⟨_, _, fun W F w hr => Rep.pick (π := [0, 2]) (by decide) rfl hr, rfl, rfl, .inl rfl⟩
  | true =>
    simp only [decide_eq_true_eq, hlen] at hlt
    have hi' : i < s.ps.length := by omega
    have t1 : Int.toNat (i : Int) = i := by omega
    have t2 : IntKind.wrap .i64 ((i : Int) + 1) = ((i + 1 : Nat) : Int) := IntWalk.i64_in _ (by omega)
    have hk : (s.ps.map fun x => x.2.pid).getD i 0 = s.ps[i].2.pid := by simp [List.getD, hi']
    have hg := getP_at ho.asc hi'
    obtain ⟨e1, e2, _⟩ := pHas_some hg
    rw [t1, t2, hk, e1, e2]
    refine ⟨⟨rfl, rfl, rfl, by omega, by rw [hlen]; exact hlt⟩, ⟨rfl, rfl, rfl, by rw [hlen]; exact hi'⟩, rfl, rfl, rfl, rfl, HEq.rfl, ho, fun b2 => ⟨⟨rfl, rfl, rfl, Nat.le_refl _⟩, ⟨rfl, rfl⟩, rfl, i, s.ps[i], List.getElem?_eq_getElem hi', rfl, rfl, rfl, ?_, fun s' R' hst => ?_⟩⟩
    · exact GR_back (i + 1) (by omega) (by omega) rfl ⟨rfl, rfl, rfl, rfl, rfl, trivial⟩ (fun w hr => Rep.pick (π := [0, 1, 2, 3]) (by decide) rfl hr)
    · exact ⟨_, _, fun W F w hr => Rep.pick (π := [0, 2]) (by decide) rfl hr, rfl, rfl, .inr ⟨s', R', hst, rfl⟩⟩
end Go.Proofs.YtkcmgcoppecfpaaGreat

/- YtkcmgcoppecfpaaGreatPr6Run -/
namespace Go.Proofs.YtkcmgcoppecfpaaGreat
set_option linter.unusedVariables false
open Go Go.RowKit
set_option maxHeartbeats 0
set_option maxRecDepth 100000
set_option maxRecDepth 100000


end Go.Proofs.YtkcmgcoppecfpaaGreat

/- YtkcmgcoppecfpaaGreatPrc4 -/
/- proc.Table: all its processes. -/
namespace Go.Proofs.YtkcmgcoppecfpaaGreat
open Go Go.RowKit
set_option linter.unusedVariables false
set_option linter.unusedSimpArgs false
set_option linter.unnecessarySimpa false
set_option maxHeartbeats 0

theorem upto_last {stop : Int} {l : List PR} {i : Nat} (h1 : stop ≤ 0 ∨ (i : Int) < stop) (h2 : l.length = i) : upto stop l = l := by
  unfold upto
  split
  · rfl
  · rename_i h
    simp only [decide_eq_false_iff_not] at h
    exact List.take_of_length_le (by omega)
def laF (s : PT) (stop : Int) (bs bl : Nat) (l : List PR) (ac : Option Addr × Nat) : List Ent := [⟨.blk bs, .cells [.int .i64 stop] 3⟩, ⟨.blk bl, .cells [.vec 3 ac.1 l.length ac.2] 74⟩, ⟨.sl ac.1 ac.2, .vecL 38 6 encP6 l PR.zero⟩]
def laI (stop : Int) (i : Nat) : Type := { _ac : Option Addr × Nat // stop ≤ 0 ∨ (i : Int) < stop }
def laR (s : PT) (stop : Int) (bs bl : Nat) (i : Nat) : List Ent := [exP fun ac : laI stop i => laF s stop bs bl ((s.ps.take i).map (·.2)) ac.1]
end Go.Proofs.YtkcmgcoppecfpaaGreat

/- YtkcmgcoppecfpaaGreatPr7Run -/
namespace Go.Proofs.YtkcmgcoppecfpaaGreat
set_option linter.unusedVariables false
open Go Go.RowKit
set_option maxHeartbeats 0
set_option maxRecDepth 100000
set_option maxRecDepth 100000

theorem rp_start (K : List Frm → Sy → Prop) (X : Code → Sy → Prop) (E : Sy → Prop) (s : PT) (b : Nat) (parent : Int) : (runR Tryz.prog ptAr (noY) true [] K X E 600 [.code (bodyOf Tryz.f60)] ⟨padTo 26 [.ptr 0 b 0, .int .i64 parent], [pkA b ptE s]⟩) = (
true = true ∧
 ∀ (b_1 : Nat),
  true = true ∧
   ∀ (b_2 b_3 b_4 : Nat),
    b_1 = b_1 ∧
     true = true ∧
      true = true ∧
       ∀ (b_5 : Nat),
        K (frm [] (bodyOf Tryz.f60) [1, 0, 1, 0] [])
         (Sy.mk (SV.ptr 0 b 0 :: (SV.int IntKind.i64 parent :: (SV.ptr 1 b_1 0 :: (SV.ptr 2 b_2 0 :: (SV.ptr 3 b_3 0 :: (SV.ptr 4 b_4 0 :: (SV.raw (Value.tuple #[]) :: (SV.ptr 0 b 0 :: (SV.func (Fn.func 79) [] [SV.ptr 5 b_5 0] :: (rawE [] 17))))))))))
          [pkA b ptE s, Ent.mk (Loc.blk b_1) (SObj.cells [SV.ptr 0 b 0] 42), Ent.mk (Loc.blk b_2) (SObj.cells [SV.int IntKind.i64 parent] 3),
           Ent.mk (Loc.blk b_3)
            (SObj.cells [SV.int IntKind.i64 (0 : Int), SV.int IntKind.i64 (0 : Int), SV.str (ByteArray.mk #[]), SV.bool false, SV.int IntKind.i64 (0 : Int), SV.str (ByteArray.mk #[])]
             38),
           Ent.mk (Loc.blk b_4) (SObj.cells [SV.int IntKind.i64 (0 : Int)] 27), Ent.mk (Loc.blk b_5) (SObj.cells [SV.ptr 0 b 0] 42)])) := by kernel_rfl
end Go.Proofs.YtkcmgcoppecfpaaGreat

/- YtkcmgcoppecfpaaGreatPr8Run -/
namespace Go.Proofs.YtkcmgcoppecfpaaGreat
set_option linter.unusedVariables false
open Go Go.RowKit
set_option maxHeartbeats 0
set_option maxRecDepth 100000
set_option maxRecDepth 100000

theorem rp_asg (K : List Frm → Sy → Prop) (X : Code → Sy → Prop) (E : Sy → Prop) (s : PT) (b b1 b2 b3 b4 D l : Nat) (rc : Loop) (parent : Int) (r : PR) (u : Nat → Value) : (runR Tryz.prog [] (noY) true [] K X E 60 ([.code (rfA (codeAt (bodyOf Tryz.f60) [1, 0, 1, 0]))]) ⟨mkT u 26 0 [(2, .ptr 1 b1 0), (3, .ptr 2 b2 0), (4, .ptr 3 b3 0), (5, .ptr 4 b4 0), (9, .agg (encP6 r))], [pkA b ptE s, ⟨.blk b1, .cells [.ptr 0 b 0] 42⟩, ⟨.blk b2, .cells [.int .i64 parent] 3⟩, ⟨.blk b3, .cells (encP6 PR.zero) 38⟩, ⟨.blk b4, .cells [.int .i64 0] 27⟩, dent D true, lp l rc .ready none]⟩) = (
∀ (b_1 : Nat),
 (b_1 = b_1 ∧ true = true ∧ 6 = 6 ∧ 6 ≤ 6) ∧
  E
   (Sy.mk (SV.raw (u 0) :: (SV.raw (u 1) :: (SV.ptr 1 b1 0 :: (SV.ptr 2 b2 0 :: (SV.ptr 3 b3 0 :: (SV.ptr 4 b4 0 :: (SV.ptr 7 b_1 0 :: (SV.raw (u 7) :: (SV.raw (u 8) :: (SV.agg [SV.int IntKind.i64 r.1, SV.int IntKind.i64 r.2, SV.str r.3, SV.bool r.4, SV.int IntKind.i64 r.5, SV.str r.6] :: (rawR u 10 [] 16)))))))))))
    [pkA b ptE s, Ent.mk (Loc.blk b1) (SObj.cells [SV.ptr 0 b 0] (42 : TypeId)), Ent.mk (Loc.blk b2) (SObj.cells [SV.int IntKind.i64 parent] (3 : TypeId)),
     Ent.mk (Loc.blk b3)
      (SObj.cells
       [SV.int IntKind.i64 (0 : Int), SV.int IntKind.i64 (0 : Int), SV.str (PR.mk (0 : Int) (0 : Int) (ByteArray.mk #[]) false (0 : Int) (ByteArray.mk #[]) false false).group, SV.bool false,
        SV.int IntKind.i64 (0 : Int), SV.str (PR.mk (0 : Int) (0 : Int) (ByteArray.mk #[]) false (0 : Int) (ByteArray.mk #[]) false false).cmd]
       (38 : TypeId)),
     Ent.mk (Loc.blk b4) (SObj.cells [SV.int IntKind.i64 (0 : Int)] (27 : TypeId)), dent D true, lp l rc LoopState.ready (@none Code),
     Ent.mk (Loc.blk b_1) (SObj.cells [SV.int IntKind.i64 r.1, SV.int IntKind.i64 r.2, SV.str r.3, SV.bool r.4, SV.int IntKind.i64 r.5, SV.str r.6] 38)])) := by kernel_rfl


theorem rp_body (K : List Frm → Sy → Prop) (X : Code → Sy → Prop) (E : Sy → Prop) (s : PT) (b b1 b2 b3 b4 D l : Nat) (rc : Loop) (parent : Int) (r : PR) (b6 : Nat) (rest : List Ent) (u : Nat → Value) : (runR Tryz.prog [] (noY) true [] K X E 600 ([.code (rfB (codeAt (bodyOf Tryz.f60) [1, 0, 1, 0]))]) ⟨mkT u 26 0 [(2, .ptr 1 b1 0), (3, .ptr 2 b2 0), (4, .ptr 3 b3 0), (5, .ptr 4 b4 0), (6, .ptr 7 b6 0)], [⟨.blk b, .cells [.map 8 s.bm, .int .i64 s.room, .int .i64 s.last] 119⟩, ⟨.blk b1, .cells [.ptr 0 b 0] 42⟩, ⟨.blk b2, .cells [.int .i64 parent] 3⟩, ⟨.blk b3, .cells (encP6 PR.zero) 38⟩, ⟨.blk b4, .cells [.int .i64 0] 27⟩, dent D true, lp l rc .busy none, ⟨.blk b6, .cells (encP6 r) 38⟩, ⟨.blk s.bm, .mapL (some .i64) encB1 (s.ps.map pkey)⟩, pk 0 rest]⟩) = (
b6 = b6 ∧
 match r.4 with
 | true =>
  b6 = b6 ∧
   b2 = b2 ∧
    match r.2 == parent with
    | true =>
     b6 = b6 ∧
      b1 = b1 ∧
       b = b ∧
        (s.1 = s.1 ∧ some IntKind.i64 = some IntKind.i64 ∧ some IntKind.i64 = some IntKind.i64) ∧
         (b6 = b6 ∧ 6 = 6) ∧
          (b3 = b3 ∧ true = true ∧ 6 = 6 ∧ 6 ≤ 6) ∧
           (b4 = b4 ∧ true = true ∧ 1 = 1 ∧ 1 ≤ 1) ∧
            X Code.ret
             (Sy.mk (SV.raw (u 0) :: (SV.raw (u 1) :: (SV.ptr 1 b1 0 :: (SV.ptr 2 b2 0 :: (SV.ptr 3 b3 0 :: (SV.ptr 4 b4 0 :: (SV.ptr 7 b6 0 :: (rawR u 7 (SV.ptr 7 b6 3 :: (SV.bool r.4 :: (SV.bool true :: (SV.ptr 7 b6 1 :: (SV.int IntKind.i64 r.2 :: (SV.int IntKind.i64 parent :: ((SV.bool (r.2 == parent)) :: (SV.bool true :: (SV.ptr 0 b 0 :: (SV.ptr 0 b 0 :: (SV.ptr 0 b 0 :: (SV.map 8 s.1 :: (SV.ptr 7 b6 0 :: (SV.int IntKind.i64 r.1 :: (SV.agg [SV.int IntKind.i64 r.1, SV.int IntKind.i64 r.2, SV.str r.3, SV.bool r.4, SV.int IntKind.i64 r.5, SV.str r.6] :: (SV.raw (u 25) :: [])))))))))))))))) 3))))))))
              [Ent.mk (Loc.blk b) (SObj.cells [SV.map 8 s.1, SV.int IntKind.i64 s.3, SV.int IntKind.i64 s.4] (119 : TypeId)),
               Ent.mk (Loc.blk b1) (SObj.cells [SV.ptr 0 b 0] (42 : TypeId)), Ent.mk (Loc.blk b2) (SObj.cells [SV.int IntKind.i64 parent] (3 : TypeId)),
               Ent.mk (Loc.blk b3) (SObj.cells [SV.int IntKind.i64 r.1, SV.int IntKind.i64 r.2, SV.str r.3, SV.bool r.4, SV.int IntKind.i64 r.5, SV.str r.6] (38 : TypeId)),
               Ent.mk (Loc.blk b4) (SObj.cells [SV.int IntKind.i64 (0 : Int)] (27 : TypeId)), dent D true, lp l rc LoopState.busy (@none Code),
               Ent.mk (Loc.blk b6) (SObj.cells [SV.int IntKind.i64 r.1, SV.int IntKind.i64 r.2, SV.str r.3, SV.bool r.4, SV.int IntKind.i64 r.5, SV.str r.6] (38 : TypeId)),
               Ent.mk (Loc.blk s.1) (SObj.mapL (some IntKind.i64) encB1 (mdel (List.map pkey s.2) (Key.i IntKind.i64 r.1))), pk 0 rest])
    | false =>
     E
      (Sy.mk (SV.raw (u 0) :: (SV.raw (u 1) :: (SV.ptr 1 b1 0 :: (SV.ptr 2 b2 0 :: (SV.ptr 3 b3 0 :: (SV.ptr 4 b4 0 :: (SV.ptr 7 b6 0 :: (rawR u 7 (SV.ptr 7 b6 3 :: (SV.bool r.4 :: (SV.bool true :: (SV.ptr 7 b6 1 :: (SV.int IntKind.i64 r.2 :: (SV.int IntKind.i64 parent :: ((SV.bool (r.2 == parent)) :: (SV.bool false :: (rawR u 18 [] 8))))))))) 3))))))))
       [Ent.mk (Loc.blk b) (SObj.cells [SV.map 8 s.1, SV.int IntKind.i64 s.3, SV.int IntKind.i64 s.4] (119 : TypeId)),
        Ent.mk (Loc.blk b1) (SObj.cells [SV.ptr 0 b 0] (42 : TypeId)), Ent.mk (Loc.blk b2) (SObj.cells [SV.int IntKind.i64 parent] (3 : TypeId)),
        Ent.mk (Loc.blk b3)
         (SObj.cells
          [SV.int IntKind.i64 (0 : Int), SV.int IntKind.i64 (0 : Int), SV.str (PR.mk (0 : Int) (0 : Int) (ByteArray.mk #[]) false (0 : Int) (ByteArray.mk #[]) false false).group,
           SV.bool false, SV.int IntKind.i64 (0 : Int), SV.str (PR.mk (0 : Int) (0 : Int) (ByteArray.mk #[]) false (0 : Int) (ByteArray.mk #[]) false false).cmd]
          (38 : TypeId)),
        Ent.mk (Loc.blk b4) (SObj.cells [SV.int IntKind.i64 (0 : Int)] (27 : TypeId)), dent D true, lp l rc LoopState.busy (@none Code),
        Ent.mk (Loc.blk b6) (SObj.cells [SV.int IntKind.i64 r.1, SV.int IntKind.i64 r.2, SV.str r.3, SV.bool r.4, SV.int IntKind.i64 r.5, SV.str r.6] (38 : TypeId)),
        Ent.mk (Loc.blk s.1) (SObj.mapL (some IntKind.i64) encB1 (List.map pkey s.2)), pk 0 rest])
 | false =>
  E
   (Sy.mk (SV.raw (u 0) :: (SV.raw (u 1) :: (SV.ptr 1 b1 0 :: (SV.ptr 2 b2 0 :: (SV.ptr 3 b3 0 :: (SV.ptr 4 b4 0 :: (SV.ptr 7 b6 0 :: (rawR u 7 (SV.ptr 7 b6 3 :: (SV.bool r.4 :: (SV.bool false :: (rawE (SV.bool false :: (rawR u 18 [] 8)) 4)))) 3))))))))
    [Ent.mk (Loc.blk b) (SObj.cells [SV.map 8 s.1, SV.int IntKind.i64 s.3, SV.int IntKind.i64 s.4] (119 : TypeId)),
     Ent.mk (Loc.blk b1) (SObj.cells [SV.ptr 0 b 0] (42 : TypeId)), Ent.mk (Loc.blk b2) (SObj.cells [SV.int IntKind.i64 parent] (3 : TypeId)),
     Ent.mk (Loc.blk b3)
      (SObj.cells
       [SV.int IntKind.i64 (0 : Int), SV.int IntKind.i64 (0 : Int), SV.str (PR.mk (0 : Int) (0 : Int) (ByteArray.mk #[]) false (0 : Int) (ByteArray.mk #[]) false false).group, SV.bool false,
        SV.int IntKind.i64 (0 : Int), SV.str (PR.mk (0 : Int) (0 : Int) (ByteArray.mk #[]) false (0 : Int) (ByteArray.mk #[]) false false).cmd]
       (38 : TypeId)),
     Ent.mk (Loc.blk b4) (SObj.cells [SV.int IntKind.i64 (0 : Int)] (27 : TypeId)), dent D true, lp l rc LoopState.busy (@none Code),
     Ent.mk (Loc.blk b6) (SObj.cells [SV.int IntKind.i64 r.1, SV.int IntKind.i64 r.2, SV.str r.3, SV.bool r.4, SV.int IntKind.i64 r.5, SV.str r.6] (38 : TypeId)),
     Ent.mk (Loc.blk s.1) (SObj.mapL (some IntKind.i64) encB1 (List.map pkey s.2)), pk 0 rest])) := by kernel_rfl


theorem rp_end (K : List Frm → Sy → Prop) (E : Sy → Prop) (N : List Ent → SV → Prop) (s : PT) (b b1 b2 b3 b4 D l : Nat) (rc : Loop) (parent : Int) (u : Nat → Value) : (runR Tryz.prog [] (noY) true [] K (endMX Tryz.prog Tryz.f60.results.toList D 5 N) E 600 ((frm [] (bodyOf Tryz.f60) [1, 0, 1, 0] []).tail) ⟨mkT u 26 0 [(2, .ptr 1 b1 0), (3, .ptr 2 b2 0), (4, .ptr 3 b3 0), (5, .ptr 4 b4 0)], [pkA b ptE s, ⟨.blk b1, .cells [.ptr 0 b 0] 42⟩, ⟨.blk b2, .cells [.int .i64 parent] 3⟩, ⟨.blk b3, .cells (encP6 PR.zero) 38⟩, ⟨.blk b4, .cells [.int .i64 0] 27⟩, dent D true, lp l rc .exhausted none]⟩) = (
(true = true ∧ true = true) ∧
 (b3 = b3 ∧ true = true ∧ 6 = 6 ∧ 6 ≤ 6) ∧
  (b4 = b4 ∧ true = true ∧ 1 = 1 ∧ 1 ≤ 1) ∧
   some (dent D true) = some (dent D true) ∧
    (b3 = b3 ∧ 6 = 6) ∧
     b4 = b4 ∧
      N
       [pkA b ptE s, Ent.mk (Loc.blk b1) (SObj.cells [SV.ptr 0 b 0] (42 : TypeId)), Ent.mk (Loc.blk b2) (SObj.cells [SV.int IntKind.i64 parent] (3 : TypeId)),
        Ent.mk (Loc.blk b3)
         (SObj.cells [SV.int IntKind.i64 (0 : Int), SV.int IntKind.i64 (0 : Int), SV.str (ByteArray.mk #[]), SV.bool false, SV.int IntKind.i64 (0 : Int), SV.str (ByteArray.mk #[])]
          (38 : TypeId)),
        Ent.mk (Loc.blk b4) (SObj.cells [SV.int IntKind.i64 (80 : Int)] (27 : TypeId)), dent D false, lp l rc LoopState.exhausted (@none Code)]
       (SV.tuple
        [SV.agg [SV.int IntKind.i64 (0 : Int), SV.int IntKind.i64 (0 : Int), SV.str (ByteArray.mk #[]), SV.bool false, SV.int IntKind.i64 (0 : Int), SV.str (ByteArray.mk #[])],
         SV.int IntKind.i64 (80 : Int)])) := by kernel_rfl


theorem rp_ret (K : List Frm → Sy → Prop) (E : Sy → Prop) (N : List Ent → SV → Prop) (s : PT) (b b1 b2 b3 b4 D l : Nat) (rc : Loop) (parent : Int) (r : PR) (u : Nat → Value) : (runR Tryz.prog [] (noY) true [] K (endMX Tryz.prog Tryz.f60.results.toList D 5 N) E 600 (Frm.code .ret :: (frm [] (bodyOf Tryz.f60) [1, 0, 1, 0] []).tail) ⟨mkT u 26 0 [(2, .ptr 1 b1 0), (3, .ptr 2 b2 0), (4, .ptr 3 b3 0), (5, .ptr 4 b4 0)], [pkA b ptE s, ⟨.blk b1, .cells [.ptr 0 b 0] 42⟩, ⟨.blk b2, .cells [.int .i64 parent] 3⟩, ⟨.blk b3, .cells (encP6 r) 38⟩, ⟨.blk b4, .cells [.int .i64 0] 27⟩, dent D true, lp l rc .exhausted (some .ret)]⟩) = (
some (dent D true) = some (dent D true) ∧
 (b3 = b3 ∧ 6 = 6) ∧
  b4 = b4 ∧
   N
    [pkA b ptE s, Ent.mk (Loc.blk b1) (SObj.cells [SV.ptr 0 b 0] (42 : TypeId)), Ent.mk (Loc.blk b2) (SObj.cells [SV.int IntKind.i64 parent] (3 : TypeId)),
     Ent.mk (Loc.blk b3) (SObj.cells [SV.int IntKind.i64 r.1, SV.int IntKind.i64 r.2, SV.str r.3, SV.bool r.4, SV.int IntKind.i64 r.5, SV.str r.6] (38 : TypeId)),
     Ent.mk (Loc.blk b4) (SObj.cells [SV.int IntKind.i64 (0 : Int)] (27 : TypeId)), dent D false, lp l rc LoopState.exhausted (some Code.ret)]
    (SV.tuple [SV.agg [SV.int IntKind.i64 r.1, SV.int IntKind.i64 r.2, SV.str r.3, SV.bool r.4, SV.int IntKind.i64 r.5, SV.str r.6], SV.int IntKind.i64 (0 : Int)])) := by kernel_rfl
end Go.Proofs.YtkcmgcoppecfpaaGreat

/- YtkcmgcoppecfpaaGreatPrc5 -/
/- proc.Table: Reap. -/
namespace Go.Proofs.YtkcmgcoppecfpaaGreat
open Go Go.RowKit
set_option linter.unusedVariables false
set_option linter.unusedSimpArgs false
set_option linter.unnecessarySimpa false
set_option maxHeartbeats 0

theorem mdel_pkey (pid : Int) : ∀ {ps : List (Nat × PR)}, (ps.Pairwise fun x y => x.2.pid < y.2.pid) → mdel (ps.map pkey) (.i .i64 pid) = (ps.filter fun y => !(y.2.pid == pid)).map pkey
  | [], _ => rfl
  | x :: ps, h => by
    have h := List.pairwise_cons.1 h
    have e : keyEq (.i .i64 pid) (pkey x).1 = (x.2.pid == pid) := by
      rw [Bool.eq_iff_iff]; simp only [pkey, keyEq, beq_iff_eq]; exact eq_comm
    have e2 : pkey x = ((pkey x).1, x.1) := rfl
    rw [List.map_cons, e2]
    simp only [mdel, e]
    cases hq : x.2.pid == pid with
    | true =>
      have hq' : x.2.pid = pid := by simpa using hq
      have : (ps.filter fun y => !(y.2.pid == pid)) = ps := List.filter_eq_self.2 fun y hy => by
        have := h.1 y hy
        simp; omega
      simp [List.filter_cons, hq, this]
    | false => simp [List.filter_cons, hq, mdel_pkey pid h.2, pkey]
def isDead (parent : Int) (x : Nat × PR) : Bool := x.2.zombie && x.2.parent == parent
def rpR (b b1 b2 b3 b4 D l : Nat) (rc : Loop) (parent : Int) (res : PR) (st : LoopState) (j : Option Code) : List Ent := [⟨.blk b1, .cells [.ptr 0 b 0] 42⟩, ⟨.blk b2, .cells [.int .i64 parent] 3⟩, ⟨.blk b3, .cells (encP6 res) 38⟩, ⟨.blk b4, .cells [.int .i64 0] 27⟩, dent D true, lp l rc st j]
def rpI (s : PT) (parent : Int) (i : Nat) : Type := { _u : Unit // ∀ y ∈ s.ps.take i, isDead parent y = false }
def rpX (s : PT) (b b1 b2 b3 b4 D l : Nat) (rc : Loop) (parent : Int) (i : Nat) : List Ent := [exP fun _ : rpI s parent i => rpR b b1 b2 b3 b4 D l rc parent PR.zero .ready none]
def delP (s : PT) (pid : Int) : PT := { s with ps := s.ps.filter fun y => !(y.2.pid == pid) }
section
variable {s : PT} {b b1 b2 b3 b4 b5 D l : Nat} {rc : Loop} {parent : Int} {T : List SV} (hrt : rc.tmps = (denL T).toArray) (hrp : rc.params = rfP (codeAt (bodyOf Tryz.f60) [1, 0, 1, 0])) (hra : rc.assign = rfA (codeAt (bodyOf Tryz.f60) [1, 0, 1, 0])) (hrb : rc.body = rfB (codeAt (bodyOf Tryz.f60) [1, 0, 1, 0]))
include hrt hrp hra hrb
theorem rp_V (ho : pOk s) (hl : ∀ v, lenN (setMany T [9] [v]) = 26 ∧ liveOk (setMany T [9] [v]) [(2, .ptr 1 b1 0), (3, .ptr 2 b2 0), (4, .ptr 3 b3 0), (5, .ptr 4 b4 0), (9, v)]) : OneV (.func (.yield l) #[] #[]) s b (rpX s b b1 b2 b3 b4 D l rc parent) (fun s' R' => ∃ x, deadOf s parent = some x ∧ s' = delP s x.2.pid ∧ R' = rpR b b1 b2 b3 b4 D l rc parent x.2 .done (some .ret)) := by
  intro i x hx
  obtain ⟨hi, he⟩ := List.getElem?_eq_some_iff.1 hx
  refine .inr ⟨l, rfl, YSpec.ex (ι := rpI s parent i) (hs' := fun _ => pkA b ptE s :: rpR b b1 b2 b3 b4 D l rc parent PR.zero .ready none) (fun W F w hr => Rep.pkex hr) ?_⟩
  rintro ⟨_, hst⟩
  obtain ⟨pb, r⟩ := x
  have htk : s.ps.take (i + 1) = s.ps.take i ++ [(pb, r)] := by rw [List.take_add_one, hx]; rfl
  refine YSpec.up (YSpec.of_GR (p := 6) (T0 := T) (ps := [9]) rfl hrt hrp hra hrb rfl rfl fun W F => ?_)
  refine GR_live 26 [(2, .ptr 1 b1 0), (3, .ptr 2 b2 0), (4, .ptr 3 b3 0), (5, .ptr 4 b4 0), (9, .agg (encP6 r))] [pkA b ptE s, ⟨.blk b1, .cells [.ptr 0 b 0] 42⟩, ⟨.blk b2, .cells [.int .i64 parent] 3⟩, ⟨.blk b3, .cells (encP6 PR.zero) 38⟩, ⟨.blk b4, .cells [.int .i64 0] 27⟩, dent D true, lp l rc .ready none] (hl _).1 (hl _).2 (fun _ h => h) fun u => ?_
  refine runR_sound (kc := true) (ss := []) (Cs := []) (Y := noY) (K := fun _ _ => False) (fun _ _ h => h.elim) trivial (noY_ok _) hmP Ends.assign 60 _ _ ?_
  rw [rp_asg]
  refine fun b6 => ⟨⟨rfl, rfl, rfl, by decide⟩, rfl, ?_⟩
  refine GR_live 26 [(2, .ptr 1 b1 0), (3, .ptr 2 b2 0), (4, .ptr 3 b3 0), (5, .ptr 4 b4 0), (6, .ptr 7 b6 0)] [⟨.blk b, .cells [.map 8 s.bm, .int .i64 s.room, .int .i64 s.last] 119⟩, ⟨.blk b1, .cells [.ptr 0 b 0] 42⟩, ⟨.blk b2, .cells [.int .i64 parent] 3⟩, ⟨.blk b3, .cells (encP6 PR.zero) 38⟩, ⟨.blk b4, .cells [.int .i64 0] 27⟩, dent D true, lp l rc .busy none, ⟨.blk b6, .cells (encP6 r) 38⟩, ⟨.blk s.bm, .mapL (some .i64) encB1 (s.ps.map pkey)⟩, pk 0 (s.ps.map procE)] rfl ⟨rfl, rfl, rfl, rfl, rfl, trivial⟩ (fun w hr => ?_) fun u => ?_
  · have h1 : Rep W F (ptE s b ++ _) w := Rep.unpkA (S := ptE) (s := s) (b := b) hr
    have h2 := Rep.pick (π := [0, 3, 4, 5, 6, 7, 8, 9, 1, 2]) (by decide) rfl h1
    exact Rep.cellsEq (l := 0) (cs' := [.map 8 s.bm, .int .i64 s.room, .int .i64 s.last]) rfl (by rfl) h2
  have hback : isDead parent (pb, r) = false → ∀ e6 : Ent, ∀ W F w, Rep W F [⟨.blk b, .cells [.map 8 s.bm, .int .i64 s.room, .int .i64 s.last] 119⟩, ⟨.blk b1, .cells [.ptr 0 b 0] 42⟩, ⟨.blk b2, .cells [.int .i64 parent] 3⟩, ⟨.blk b3, .cells (encP6 PR.zero) 38⟩, ⟨.blk b4, .cells [.int .i64 0] 27⟩, dent D true, lp l rc .ready none, e6, ⟨.blk s.bm, .mapL (some .i64) encB1 (s.ps.map pkey)⟩, pk 0 (s.ps.map procE)] w → Rep W F [pkA b ptE s, pk 0 (rpX s b b1 b2 b3 b4 D l rc parent (i + 1))] w := fun hd e6 W F w hr => by
    have h1 := Rep.cellsEq (l := 0) (cs' := [.map 1 s.bm, .int .i64 s.room, .int .i64 s.last]) rfl (by rfl) hr
    have h2 : Rep W F (ptE s b ++ rpR b b1 b2 b3 b4 D l rc parent PR.zero .ready none) w := Rep.pick (π := [0, 8, 9, 1, 2, 3, 4, 5, 6]) (by decide) rfl h1
    exact Rep.expk (f := fun _ : rpI s parent (i + 1) => rpR b b1 b2 b3 b4 D l rc parent PR.zero .ready none) ⟨(), fun y hy => by
      rw [htk] at hy
      rcases List.mem_append.1 hy with hy | hy
      · exact hst y hy
      · rw [List.mem_singleton.1 hy]; exact hd⟩ (Rep.pkA (S := ptE) (s := s) (b := b) h2)
  refine runR_sound (kc := true) (ss := []) (Cs := []) (Y := noY) (K := fun _ _ => False) (fun _ _ h => h.elim) trivial (noY_ok _) hmP (Ends.round (p := 6) (rc := rc) (j := none)) 600 _ _ ?_
  rw [rp_body]
  refine ⟨rfl, ?_⟩
  cases hz : r.zombie with
  | false => exact ⟨rfl, [pkA b ptE s, pk 0 (rpX s b b1 b2 b3 b4 D l rc parent (i + 1))], .bool true, hback (by simp [isDead, hz]) _, rfl, .inl ⟨rfl, rfl⟩⟩
  | true =>
    refine ⟨rfl, rfl, ?_⟩
    cases hp : r.parent == parent with
    | false => exact ⟨rfl, [pkA b ptE s, pk 0 (rpX s b b1 b2 b3 b4 D l rc parent (i + 1))], .bool true, hback (by simp [isDead, hp]) _, rfl, .inl ⟨rfl, rfl⟩⟩
    | true =>
      refine ⟨rfl, rfl, rfl, ⟨rfl, rfl, rfl⟩, ⟨rfl, rfl⟩, ⟨rfl, rfl, rfl, by decide⟩, ⟨rfl, rfl, rfl, by decide⟩, ?_⟩
      have hdd : deadOf s parent = some (pb, r) := by
        unfold deadOf
        rw [List.find?_eq_some_iff_append]
        refine ⟨by simp [hz, hp], s.ps.take i, s.ps.drop (i + 1), ?_, fun y hy => ?_⟩
        · rw [← he, List.getElem_cons_drop, List.take_append_drop]
        · have := hst y hy
          unfold isDead at this
          rw [this]; rfl
      refine ⟨rfl, [pkA b ptE (delP s r.pid), pk 0 (rpR b b1 b2 b3 b4 D l rc parent r .done (some .ret))], .bool false, fun W F w hr => ?_, rfl, .inr ⟨_, _, ⟨(pb, r), hdd, rfl, rfl⟩, rfl, rfl⟩⟩
      have hr2 : Rep W F [⟨.blk b, .cells [.map 8 s.bm, .int .i64 s.room, .int .i64 s.last] 119⟩, ⟨.blk b1, .cells [.ptr 0 b 0] 42⟩, ⟨.blk b2, .cells [.int .i64 parent] 3⟩, ⟨.blk b3, .cells (encP6 r) 38⟩, ⟨.blk b4, .cells [.int .i64 0] 27⟩, dent D true, lp l rc .done (some .ret), ⟨.blk b6, .cells (encP6 r) 38⟩, ⟨.blk s.bm, .mapL (some .i64) encB1 (mdel (s.ps.map pkey) (.i .i64 r.pid))⟩, pk 0 (s.ps.map procE)] w := by
        have : encP6 r = [SV.int IntKind.i64 r.1, SV.int IntKind.i64 r.2, SV.str r.3, SV.bool true, SV.int IntKind.i64 r.5, SV.str r.6] := by unfold encP6; rw [hz]
        first
          | exact hr
          | (rw [this]; exact hr)
      have h1 := Rep.cellsEq (l := 0) (cs' := [.map 1 s.bm, .int .i64 s.room, .int .i64 s.last]) rfl (by rfl) hr2
      have hg := getP_at ho.asc hi
      rw [he] at hg
      obtain ⟨l1, l2, hs, _, _, hf⟩ := getP_split ho.asc hg
      dsimp only at hf
      rw [mdel_pkey _ ho.asc] at h1
      have e1 : s.ps.map procE = l1.map procE ++ procE (pb, r) :: l2.map procE := by
        conv => lhs; rw [hs]
        simp
      rw [e1] at h1
      have h2 := Rep.outP (p := [_, _, _, _, _, _, _, _, _]) (t := []) h1
      have h3 : Rep W F ([⟨.blk b, .cells [.map 1 s.bm, .int .i64 s.room, .int .i64 s.last] 119⟩, ⟨.blk s.bm, .mapL (some .i64) encB1 ((s.ps.filter fun y => !(y.2.pid == r.pid)).map pkey)⟩, pk 0 (l1.map procE ++ l2.map procE)] ++ rpR b b1 b2 b3 b4 D l rc parent r .done (some .ret)) w := Rep.pick (π := [0, 8, 10, 1, 2, 3, 4, 5, 6]) (by decide) rfl h2
      have e2 : l1.map procE ++ l2.map procE = (s.ps.filter fun y => !(y.2.pid == r.pid)).map procE := by rw [hf]; simp
      rw [e2] at h3
      have h4 : Rep W F (pkA b ptE (delP s r.pid) :: rpR b b1 b2 b3 b4 D l rc parent r .done (some .ret)) w := Rep.pkA (S := ptE) (s := delP s r.pid) (b := b) h3
      exact Rep.pkAt 0 (p := [_]) (t := []) (by simpa using h4)
theorem rp_spec (ho : pOk s) (hl : ∀ v, lenN (setMany T [9] [v]) = 26 ∧ liveOk (setMany T [9] [v]) [(2, .ptr 1 b1 0), (3, .ptr 2 b2 0), (4, .ptr 3 b3 0), (5, .ptr 4 b4 0), (9, v)]) : Spec Tryz.prog 79 [pkA b ptE s, ⟨.blk b1, .cells [.ptr 0 b 0] 42⟩, ⟨.blk b2, .cells [.int .i64 parent] 3⟩, ⟨.blk b3, .cells (encP6 PR.zero) 38⟩, ⟨.blk b4, .cells [.int .i64 0] 27⟩, ⟨.blk b5, .cells [.ptr 0 b 0] 42⟩, dent D true, lp l rc .ready none] [.func (.yield l) [] [], .ptr 5 b5 0] fun h _ =>
    (deadOf s parent = none ∧ h = pkA b ptE s :: rpR b b1 b2 b3 b4 D l rc parent PR.zero .ready none) ∨ ∃ x, deadOf s parent = some x ∧ h = pkA b ptE (delP s x.2.pid) :: rpR b b1 b2 b3 b4 D l rc parent x.2 .done (some .ret) := by
  intro W F w hr
  have h1 : Rep W F ([pkA b ptE s, ⟨.blk b5, .cells [.ptr 0 b 0] 42⟩] ++ pk 0 (rpX s b b1 b2 b3 b4 D l rc parent 0) :: []) w := by
    refine Rep.pkAt 0 (p := [_, _]) (t := []) ?_
    have h5 : Rep W F (rpR b b1 b2 b3 b4 D l rc parent PR.zero .ready none ++ [pkA b ptE s, ⟨.blk b5, .cells [.ptr 0 b 0] 42⟩]) w := Rep.pick (π := [1, 2, 3, 4, 6, 7, 0, 5]) (by decide) rfl hr
    have h6 : Rep W F ([exP fun _ : rpI s parent 0 => rpR b b1 b2 b3 b4 D l rc parent PR.zero .ready none] ++ [_, _]) w := Rep.ex (f := fun _ : rpI s parent 0 => rpR b b1 b2 b3 b4 D l rc parent PR.zero .ready none) ⟨(), by simp⟩ h5
    exact Rep.pick (π := [1, 2, 0]) (by decide) rfl h6
  refine Calls.mono (all1_iter (b := b) (bt := b5) ho (rp_V hrt hrp hra hrb ho hl) W F w h1) ?_
  rintro e w' ⟨h', r, ⟨rfl, hc⟩, rfl, hr'⟩
  rcases hc with rfl | ⟨s', R', ⟨x, hd, rfl, rfl⟩, rfl⟩
  · obtain ⟨⟨_, hst⟩, h7⟩ := Rep.pkex hr'
    refine ⟨_, .tuple [], .inl ⟨?_, rfl⟩, rfl, h7⟩
    rw [List.take_length] at hst
    unfold deadOf
    rw [List.find?_eq_none]
    intro y hy
    have := hst y hy
    unfold isDead at this
    rw [this]; simp
  · have h7 := Rep.unpkAt (p := [_]) (t := []) hr'
    exact ⟨_, .tuple [], .inr ⟨x, hd, rfl⟩, rfl, by simpa using h7⟩
end
theorem ptAr_ok : AllOk Tryz.prog ptAr := ⟨inl_ok trivial hmP Tryz.func36 (by kernel_rfl), trivial⟩
theorem pReap_ok : CtrOk Tryz.prog 60 (adtC ptE reapM) := adt_ok fun b s rest N h => by
  unfold reapM at h
  split at h
  case h_2 => exact h.elim
  rename_i parent
  obtain ⟨ho, h⟩ := h
  refine Spec.pre (hs' := [pkA b ptE s]) (args' := [.ptr 0 b 0, .int .i64 parent]) (fun W F w hr => Rep.pkA1 hr) rfl ?_
  refine Spec.of_GR 26 Tryz.func60 (c := bodyOf Tryz.f60) (by kernel_rfl) (by kernel_rfl) (Nat.le_of_ble_eq_true rfl) fun W F => ?_
  refine runR_sound (kc := true) (ss := []) (fun _ _ h => h) ptAr_ok (noY_ok _) hmP Ends.fn 600 _ _ ?_
  rw [rp_start]
  refine ⟨rfl, fun b1 => ⟨rfl, fun b2 b3 b4 => ⟨rfl, rfl, rfl, fun b5 => ?_⟩⟩⟩
  refine GR_rangeAt [] (bodyOf Tryz.f60) [1, 0, 1, 0] (f := 79) (first := []) (captured := [.ptr 5 b5 0]) (by kernel_rfl) (by kernel_rfl) (by kernel_rfl) fun D l rc hrt hrp hra hrb =>
    ⟨_, rp_spec hrt hrp hra hrb ho fun v => ⟨rfl, rfl, rfl, rfl, rfl, rfl, trivial⟩, ?_⟩
  rintro h' v (⟨hd, rfl⟩ | ⟨x, hd, rfl⟩)
  · refine ⟨6, .ready, none, by decide, rfl, ?_⟩
    dsimp only
    refine GR_live 26 [(2, .ptr 1 b1 0), (3, .ptr 2 b2 0), (4, .ptr 3 b3 0), (5, .ptr 4 b4 0)] [pkA b ptE s, ⟨.blk b1, .cells [.ptr 0 b 0] 42⟩, ⟨.blk b2, .cells [.int .i64 parent] 3⟩, ⟨.blk b3, .cells (encP6 PR.zero) 38⟩, ⟨.blk b4, .cells [.int .i64 0] 27⟩, dent D true, lp l rc .exhausted none] rfl ⟨rfl, rfl, rfl, rfl, trivial⟩ (fun w hr => hr) fun u => ?_
    refine runR_sound (Cs := []) (Y := noY) (kc := true) (ss := []) (K := fun _ _ => False) (fun _ _ h => h.elim) trivial (noY_ok _) hmP (Ends.fnM D 5) 600 _ _ ?_
    rw [rp_end]
    refine ⟨⟨rfl, rfl⟩, ⟨rfl, rfl, rfl, by decide⟩, ⟨rfl, rfl, rfl, by decide⟩, ?_⟩
    have e : pReap s parent = (s, PR.zero, 80) := by unfold pReap; rw [hd]
    rw [e] at h
    exact ⟨rfl, ⟨rfl, rfl⟩, rfl, s, fun W F w hr => (Rep.pick (π := [0]) (by decide) rfl hr).unpkA1, h⟩
  · refine ⟨6, .done, some .ret, by decide, rfl, ?_⟩
    dsimp only
    refine GR_live 26 [(2, .ptr 1 b1 0), (3, .ptr 2 b2 0), (4, .ptr 3 b3 0), (5, .ptr 4 b4 0)] [pkA b ptE (delP s x.2.pid), ⟨.blk b1, .cells [.ptr 0 b 0] 42⟩, ⟨.blk b2, .cells [.int .i64 parent] 3⟩, ⟨.blk b3, .cells (encP6 x.2) 38⟩, ⟨.blk b4, .cells [.int .i64 0] 27⟩, dent D true, lp l rc .exhausted (some .ret)] rfl ⟨rfl, rfl, rfl, rfl, trivial⟩ (fun w hr => hr) fun u => ?_
    refine runR_sound (Cs := []) (Y := noY) (kc := true) (ss := []) (K := fun _ _ => False) (fun _ _ h => h.elim) trivial (noY_ok _) hmP (Ends.fnM D 5) 600 _ _ ?_
    rw [rp_ret]
    have e : pReap s parent = (delP s x.2.pid, x.2, 0) := by unfold pReap; rw [hd]; rfl
    rw [e] at h
    exact ⟨rfl, ⟨rfl, rfl⟩, rfl, delP s x.2.pid, fun W F w hr => (Rep.pick (π := [0]) (by decide) rfl hr).unpkA1, h⟩
end Go.Proofs.YtkcmgcoppecfpaaGreat

/- YtkcmgcoppecfpaaGreatKh -/
/- KernHolds. -/
namespace Go.Proofs.YtkcmgcoppecfpaaGreat
open Go Go.RowKit
set_option linter.unusedVariables false
set_option linter.unusedSimpArgs false
set_option linter.unnecessarySimpa false
set_option maxHeartbeats 0

set_option maxRecDepth 100000
theorem hmKh : Tryz.prog.follows .mixedOrders = true := by kernel_rfl
theorem khT_ok : AllOk Tryz.prog khT := ⟨inl_ok ⟨pReap_ok, trivial⟩ hmK Tryz.func14 (by kernel_rfl), inl_ok knE_ok hmK Tryz.func11 (by kernel_rfl), pGet_ok, gOf_ok, klT_ok⟩
theorem tq8 {z : Int} (h : 0 ≤ z ∧ z ≤ 255) : IntKind.wrap .u8 (Int.tdiv z 8) = z / 8 ∧ 0 ≤ z / 8 ∧ z / 8 ≤ 31 ∧ Int.tmod (z / 8) 3 = z / 8 % 3 ∧ IntKind.wrap .i64 (z / 8) = z / 8 := by
  have e : Int.tdiv z 8 = z / 8 := Int.tdiv_eq_ediv_of_nonneg h.1
  have h1 : 0 ≤ z / 8 ∧ z / 8 ≤ 31 := by omega
  refine ⟨?_, h1.1, h1.2, Int.tmod_eq_emod_of_nonneg h1.1, IntWalk.i64_in _ (by omega)⟩
  rw [e, IntKind.wrap_u8]
  omega
theorem nm3 (j : Nat) (h : j < 3) (d : ByteArray) : names3.getD j d ∈ names3 ∧ sEq (names3.getD j d) ⟨#[]⟩ = false := by
  match j, h with
  | 0, _ => exact ⟨List.mem_cons_self, sE_ne (n := ⟨#[97]⟩) (by decide)⟩
  | 1, _ => exact ⟨List.mem_cons_of_mem _ List.mem_cons_self, sE_ne (n := ⟨#[98]⟩) (by decide)⟩
  | 2, _ => exact ⟨List.mem_cons_of_mem _ (List.mem_cons_of_mem _ List.mem_cons_self), sE_ne (n := ⟨#[99]⟩) (by decide)⟩
section
variable {W : World} {F : List Ch} {ao : Option Addr} {cap : Nat} {bs : List Int} {bn bk bp bg : Nat} {pt : PT} {gr : Grp} {v2 v3 : Value} {m w last x n : Int} {r : RG} {i p : Nat} {st : Sy}
theorem kh43 (hi : i < bs.length) (hl : bs.length ≤ 120) (hK : HK pt gr r (i + 4)) (hp : (p : Int) = pt.last + 1) (h1 : lenN st.tmps = 164) (h2 : liveOk st.tmps [(0, .vec 0 ao bs.length cap), (3, .ptr 4 bk 0), (4, .ptr 1 bn 0), (6, .int .i64 pt.last), (7, .int .i64 (i : Int)), (10, .int .i64 ((cnt gr p : Nat) : Int))]) (hh : ∀ x, Rep W F st.heap x → Rep W F [⟨.sl ao cap, .roL 1 encU8 bs 0⟩, ⟨.sl (some ⟨bn, 0, none⟩) 3, .vecL 26 1 encS names3 ByteArray.empty⟩, pkA bp ptE (pt), pkA bg grpE (gr), ⟨.blk bk, .cells [.ptr 2 bp 0, .ptr 3 bg 0, .raw v2, .raw v3, .int .i64 m, .int .i64 w] 96⟩] x) : G Tryz.prog (endQ Tryz.prog Tryz.f3 W F fun _ r => r = .bool true) W F (frmR [(Back W F 164 (fun x : Nat × PT × Grp => [(0, .vec 0 ao bs.length cap), (3, .ptr 4 bk 0), (4, .ptr 1 bn 0), (6, .int .i64 x.2.1.last), (7, .int .i64 (x.1 : Int))]) (fun x : Nat × PT × Grp => [⟨.sl ao cap, .roL 1 encU8 bs 0⟩, ⟨.sl (some ⟨bn, 0, none⟩) 3, .vecL 26 1 encS names3 ByteArray.empty⟩, pkA bp ptE (x.2.1), pkA bg grpE (x.2.2), ⟨.blk bk, .cells [.ptr 2 bp 0, .ptr 3 bg 0, .raw v2, .raw v3, .int .i64 m, .int .i64 w] 96⟩]) (fun x : Nat × PT × Grp => x.1 ≤ bs.length ∧ ∃ r, HK x.2.1 x.2.2 r (x.1 + 3)) (fun x : Nat × PT × Grp => bs.length - x.1) (bs.length - i))] (bodyOf Tryz.f3) 43) st := by
  refine G_live 164 [(0, .vec 0 ao bs.length cap), (3, .ptr 4 bk 0), (4, .ptr 1 bn 0), (6, .int .i64 pt.last), (7, .int .i64 (i : Int)), (10, .int .i64 ((cnt gr p : Nat) : Int))] [⟨.sl ao cap, .roL 1 encU8 bs 0⟩, ⟨.sl (some ⟨bn, 0, none⟩) 3, .vecL 26 1 encS names3 ByteArray.empty⟩, pkA bp ptE (pt), pkA bg grpE (gr), ⟨.blk bk, .cells [.ptr 2 bp 0, .ptr 3 bg 0, .raw v2, .raw v3, .int .i64 m, .int .i64 w] 96⟩] h1 h2 hh fun u => ?_
  refine G_run (kc := true) (ss := [100045, 200005]) khT_ok hmKh 3000 ?_
  rw [kh_43]
  have hc := hK.count hp
  have hmo := fun n => (hK.kh.gsok (by omega)).mem n
  have w1 : IntKind.wrap .i64 ((i : Int) + 1) = ((i + 1 : Nat) : Int) := IntWalk.i64_in _ (by omega)
  have e0 : ([⟨#[97]⟩, ⟨#[98]⟩, ⟨#[99]⟩] : List ByteArray).getD 0 ByteArray.empty = ⟨#[97]⟩ := rfl
  have e1 : ([⟨#[97]⟩, ⟨#[98]⟩, ⟨#[99]⟩] : List ByteArray).getD 1 ByteArray.empty = ⟨#[98]⟩ := rfl
  have e2 : ([⟨#[97]⟩, ⟨#[98]⟩, ⟨#[99]⟩] : List ByteArray).getD 2 ByteArray.empty = ⟨#[99]⟩ := rfl
  have hcl := cnt_le gr p
  have hlast := hK.kh.pi.last
  have hs : (IntKind.wrap .i64 (IntKind.wrap .i64 (IntKind.wrap .i64 (0 + ((memQ gr ⟨#[97]⟩).length : Int)) + ((memQ gr ⟨#[98]⟩).length : Int)) + ((memQ gr ⟨#[99]⟩).length : Int)) != ((cnt gr p : Nat) : Int)) = false := by
    have a1 : IntKind.wrap .i64 (0 + ((memQ gr ⟨#[97]⟩).length : Int)) = (memQ gr ⟨#[97]⟩).length := by rw [Int.zero_add]; exact IntWalk.i64_in _ (by omega)
    have a2 : IntKind.wrap .i64 (((memQ gr ⟨#[97]⟩).length : Int) + ((memQ gr ⟨#[98]⟩).length : Int)) = ((memQ gr ⟨#[97]⟩).length : Int) + ((memQ gr ⟨#[98]⟩).length : Int) := IntWalk.i64_in _ (by omega)
    have a3 : IntKind.wrap .i64 (((memQ gr ⟨#[97]⟩).length : Int) + ((memQ gr ⟨#[98]⟩).length : Int) + ((memQ gr ⟨#[99]⟩).length : Int)) = ((memQ gr ⟨#[97]⟩).length : Int) + ((memQ gr ⟨#[98]⟩).length : Int) + ((memQ gr ⟨#[99]⟩).length : Int) := IntWalk.i64_in _ (by omega)
    rw [a1, a2, a3, ← hc, bne_eq_false_iff_eq]
    push_cast
    rfl
  have back : ∀ tm ex, lenN tm = 164 → liveOk tm [(0, .vec 0 ao bs.length cap), (3, .ptr 4 bk 0), (4, .ptr 1 bn 0), (6, .int .i64 pt.last), (7, .int .i64 ((i + 1 : Nat) : Int))] → G Tryz.prog (endQ Tryz.prog Tryz.f3 W F fun _ r => r = .bool true) W F (.loop (Back W F 164 (fun x : Nat × PT × Grp => [(0, .vec 0 ao bs.length cap), (3, .ptr 4 bk 0), (4, .ptr 1 bn 0), (6, .int .i64 x.2.1.last), (7, .int .i64 (x.1 : Int))]) (fun x : Nat × PT × Grp => [⟨.sl ao cap, .roL 1 encU8 bs 0⟩, ⟨.sl (some ⟨bn, 0, none⟩) 3, .vecL 26 1 encS names3 ByteArray.empty⟩, pkA bp ptE (x.2.1), pkA bg grpE (x.2.2), ⟨.blk bk, .cells [.ptr 2 bp 0, .ptr 3 bg 0, .raw v2, .raw v3, .int .i64 m, .int .i64 w] 96⟩]) (fun x : Nat × PT × Grp => x.1 ≤ bs.length ∧ ∃ r, HK x.2.1 x.2.2 r (x.1 + 3)) (fun x : Nat × PT × Grp => bs.length - x.1) (bs.length - i)) :: .blk 2 :: frm [] (bodyOf Tryz.f3) [1, 1, 1, 1, 1, 1, 1, 1] []) ⟨tm, [⟨.sl ao cap, .roL 1 encU8 bs 0⟩, ⟨.sl (some ⟨bn, 0, none⟩) 3, .vecL 26 1 encS names3 ByteArray.empty⟩, pkA bp ptE pt, pkA bg grpE gr, ⟨.blk bk, .cells [.ptr 2 bp 0, .ptr 3 bg 0, .raw v2, .raw v3, .int .i64 m, .int .i64 w] 96⟩] ++ ex⟩ := fun tm ex g1 g2 => G_back (i + 1, pt, gr) ⟨by dsimp only; omega, r, hK.up (by dsimp only; omega)⟩ (by dsimp only; omega) g1 g2 (fun z hz => Rep.dropR hz)
  rw [e0, e1, e2, hs]
  repeat' first
    | exact rfl
    | exact HEq.rfl
    | exact trivial
    | exact hmo _
    | exact back _ [_, _, _] rfl ⟨rfl, rfl, rfl, rfl, congrArg (Value.int .i64) w1, trivial⟩
    | apply And.intro
    | (show _ ≤ _; omega)
    | (show _ < _; omega)
    | (refine fun _ => ?_)
    | (refine ⟨rfl, ?_⟩)
    | fail
theorem kh37 (hi : i < bs.length) (hl : bs.length ≤ 120) (hK : HK pt gr r (i + 4)) (h2 : 2 ≤ p) (hp : (p : Int) ≤ pt.last) (h1 : lenN st.tmps = 164) (h2a : liveOk st.tmps [(0, .vec 0 ao bs.length cap), (3, .ptr 4 bk 0), (4, .ptr 1 bn 0), (6, .int .i64 pt.last), (7, .int .i64 (i : Int)), (10, .int .i64 ((cnt gr p : Nat) : Int)), (11, .int .i64 (p : Int))]) (hh : ∀ x, Rep W F st.heap x → Rep W F [⟨.sl ao cap, .roL 1 encU8 bs 0⟩, ⟨.sl (some ⟨bn, 0, none⟩) 3, .vecL 26 1 encS names3 ByteArray.empty⟩, pkA bp ptE (pt), pkA bg grpE (gr), ⟨.blk bk, .cells [.ptr 2 bp 0, .ptr 3 bg 0, .raw v2, .raw v3, .int .i64 m, .int .i64 w] 96⟩] x) : G Tryz.prog (endQ Tryz.prog Tryz.f3 W F fun _ r => r = .bool true) W F (frmR [(Back W F 164 (fun x : Nat × PT × Grp => [(0, .vec 0 ao bs.length cap), (3, .ptr 4 bk 0), (4, .ptr 1 bn 0), (6, .int .i64 x.2.1.last), (7, .int .i64 (x.1 : Int))]) (fun x : Nat × PT × Grp => [⟨.sl ao cap, .roL 1 encU8 bs 0⟩, ⟨.sl (some ⟨bn, 0, none⟩) 3, .vecL 26 1 encS names3 ByteArray.empty⟩, pkA bp ptE (x.2.1), pkA bg grpE (x.2.2), ⟨.blk bk, .cells [.ptr 2 bp 0, .ptr 3 bg 0, .raw v2, .raw v3, .int .i64 m, .int .i64 w] 96⟩]) (fun x : Nat × PT × Grp => x.1 ≤ bs.length ∧ ∃ r, HK x.2.1 x.2.2 r (x.1 + 3)) (fun x : Nat × PT × Grp => bs.length - x.1) (bs.length - i)), (Back W F 164 (fun p : Nat => [(0, .vec 0 ao bs.length cap), (3, .ptr 4 bk 0), (4, .ptr 1 bn 0), (6, .int .i64 pt.last), (7, .int .i64 (i : Int)), (10, .int .i64 ((cnt gr p : Nat) : Int)), (11, .int .i64 (p : Int))]) (fun _ : Nat => [⟨.sl ao cap, .roL 1 encU8 bs 0⟩, ⟨.sl (some ⟨bn, 0, none⟩) 3, .vecL 26 1 encS names3 ByteArray.empty⟩, pkA bp ptE (pt), pkA bg grpE (gr), ⟨.blk bk, .cells [.ptr 2 bp 0, .ptr 3 bg 0, .raw v2, .raw v3, .int .i64 m, .int .i64 w] 96⟩]) (fun p : Nat => 2 ≤ p ∧ (p : Int) ≤ pt.last + 1) (fun p : Nat => (pt.last + 1).toNat - p) ((pt.last + 1).toNat - p))] (bodyOf Tryz.f3) 37) st := by
  refine G_live 164 [(0, .vec 0 ao bs.length cap), (3, .ptr 4 bk 0), (4, .ptr 1 bn 0), (6, .int .i64 pt.last), (7, .int .i64 (i : Int)), (10, .int .i64 ((cnt gr p : Nat) : Int)), (11, .int .i64 (p : Int))] [⟨.sl ao cap, .roL 1 encU8 bs 0⟩, ⟨.sl (some ⟨bn, 0, none⟩) 3, .vecL 26 1 encS names3 ByteArray.empty⟩, pkA bp ptE (pt), pkA bg grpE (gr), ⟨.blk bk, .cells [.ptr 2 bp 0, .ptr 3 bg 0, .raw v2, .raw v3, .int .i64 m, .int .i64 w] 96⟩] h1 h2a hh fun u => ?_
  refine G_run (kc := false) (ss := []) khT_ok hmKh 1500 ?_
  rw [kh_37]
  have ho := hK.kh.pi.ok
  have hlast := hK.kh.pi.last
  have hcl := cnt_le gr p
  obtain ⟨q1, q2⟩ := hK.kh.of_iff (p := (p : Int)) (by omega)
  have w1 : IntKind.wrap .i64 ((p : Int) + 1) = ((p + 1 : Nat) : Int) := IntWalk.i64_in _ (by omega)
  have w2 : IntKind.wrap .i64 (((cnt gr p : Nat) : Int) + 1) = ((cnt gr p + 1 : Nat) : Int) := IntWalk.i64_in _ (by omega)
  have hcs := cnt_succ gr h2
  have back : ∀ tm ex, lenN tm = 164 → liveOk tm [(0, .vec 0 ao bs.length cap), (3, .ptr 4 bk 0), (4, .ptr 1 bn 0), (6, .int .i64 pt.last), (7, .int .i64 (i : Int)), (10, .int .i64 ((cnt gr (p + 1) : Nat) : Int)), (11, .int .i64 ((p + 1 : Nat) : Int))] → G Tryz.prog (endQ Tryz.prog Tryz.f3 W F fun _ r => r = .bool true) W F (.loop (Back W F 164 (fun p : Nat => [(0, .vec 0 ao bs.length cap), (3, .ptr 4 bk 0), (4, .ptr 1 bn 0), (6, .int .i64 pt.last), (7, .int .i64 (i : Int)), (10, .int .i64 ((cnt gr p : Nat) : Int)), (11, .int .i64 (p : Int))]) (fun _ : Nat => [⟨.sl ao cap, .roL 1 encU8 bs 0⟩, ⟨.sl (some ⟨bn, 0, none⟩) 3, .vecL 26 1 encS names3 ByteArray.empty⟩, pkA bp ptE (pt), pkA bg grpE (gr), ⟨.blk bk, .cells [.ptr 2 bp 0, .ptr 3 bg 0, .raw v2, .raw v3, .int .i64 m, .int .i64 w] 96⟩]) (fun p : Nat => 2 ≤ p ∧ (p : Int) ≤ pt.last + 1) (fun p : Nat => (pt.last + 1).toNat - p) ((pt.last + 1).toNat - p)) :: .blk 5 :: frm [(Back W F 164 (fun x : Nat × PT × Grp => [(0, .vec 0 ao bs.length cap), (3, .ptr 4 bk 0), (4, .ptr 1 bn 0), (6, .int .i64 x.2.1.last), (7, .int .i64 (x.1 : Int))]) (fun x : Nat × PT × Grp => [⟨.sl ao cap, .roL 1 encU8 bs 0⟩, ⟨.sl (some ⟨bn, 0, none⟩) 3, .vecL 26 1 encS names3 ByteArray.empty⟩, pkA bp ptE (x.2.1), pkA bg grpE (x.2.2), ⟨.blk bk, .cells [.ptr 2 bp 0, .ptr 3 bg 0, .raw v2, .raw v3, .int .i64 m, .int .i64 w] 96⟩]) (fun x : Nat × PT × Grp => x.1 ≤ bs.length ∧ ∃ r, HK x.2.1 x.2.2 r (x.1 + 3)) (fun x : Nat × PT × Grp => bs.length - x.1) (bs.length - i))] (bodyOf Tryz.f3) [1, 1, 1, 1, 1, 1, 1, 0, 1, 0, 0, 1, 0, 0, 1, 1, 1, 1, 1, 1] []) ⟨tm, [⟨.sl ao cap, .roL 1 encU8 bs 0⟩, ⟨.sl (some ⟨bn, 0, none⟩) 3, .vecL 26 1 encS names3 ByteArray.empty⟩, pkA bp ptE pt, pkA bg grpE gr, ⟨.blk bk, .cells [.ptr 2 bp 0, .ptr 3 bg 0, .raw v2, .raw v3, .int .i64 m, .int .i64 w] 96⟩] ++ ex⟩ := fun tm ex g1 g2 => G_back (p + 1) ⟨by omega, by omega⟩ (by omega) g1 g2 (fun z hz => Rep.dropR hz)
  cases hm : mget gr.of (.i .i64 (p : Int)) with
  | none =>
    have hin : inG gr (p : Int) = false := by unfold inG; rw [hm]; rfl
    rw [hin] at hcs
    rw [hm] at q1
    cases ha : pHas pt (p : Int) with
    | false =>
      repeat' first
        | exact rfl
        | exact HEq.rfl
        | exact ho
        | exact back _ [_] rfl ⟨rfl, rfl, rfl, rfl, rfl, congrArg (fun z : Nat => Value.int .i64 (z : Int)) hcs.symm, congrArg (Value.int .i64) w1, trivial⟩
        | apply And.intro
        | (show _ ≤ _; omega)
        | (refine fun _ => ?_)
        | (refine ⟨rfl, ?_⟩)
        | fail
    | true =>
      rw [ha] at q1
      have hz : (pGet pt (p : Int)).zombie = true := by simpa using q1
      rw [hz]
      repeat' first
        | exact rfl
        | exact HEq.rfl
        | exact ho
        | exact back _ [_] rfl ⟨rfl, rfl, rfl, rfl, rfl, congrArg (fun z : Nat => Value.int .i64 (z : Int)) hcs.symm, congrArg (Value.int .i64) w1, trivial⟩
        | apply And.intro
        | (show _ ≤ _; omega)
        | (refine fun _ => ?_)
        | (refine ⟨rfl, ?_⟩)
        | fail
  | some n =>
    have hin : inG gr (p : Int) = true := by unfold inG; rw [hm]; rfl
    rw [hin] at hcs
    rw [hm] at q1
    have hng := q2 n hm
    have q3 : pHas pt (p : Int) = true ∧ (pGet pt (p : Int)).zombie = false := by simpa using q1.symm
    rw [q3.1, q3.2, ← hng]
    have hse : sEq n n = true := sEq_self n
    dsimp only [Option.isSome]
    rw [hse]
    repeat' first
      | exact rfl
      | exact HEq.rfl
      | exact ho
      | exact back _ [_] rfl ⟨rfl, rfl, rfl, rfl, rfl, congrArg (Value.int .i64) (w2.trans (congrArg (fun z : Nat => (z : Int)) hcs.symm)), congrArg (Value.int .i64) w1, trivial⟩
      | apply And.intro
      | (show _ ≤ _; omega)
      | (refine fun _ => ?_)
      | (refine ⟨rfl, ?_⟩)
      | fail
theorem kh32 (hi : i < bs.length) (hl : bs.length ≤ 120) (hK : HK pt gr r (i + 4)) (hn : mxI last n = pt.last) (h1 : lenN st.tmps = 164) (h2 : liveOk st.tmps [(0, .vec 0 ao bs.length cap), (3, .ptr 4 bk 0), (4, .ptr 1 bn 0), (6, .int .i64 last), (7, .int .i64 (i : Int)), (9, .int .i64 n)]) (hh : ∀ x, Rep W F st.heap x → Rep W F [⟨.sl ao cap, .roL 1 encU8 bs 0⟩, ⟨.sl (some ⟨bn, 0, none⟩) 3, .vecL 26 1 encS names3 ByteArray.empty⟩, pkA bp ptE (pt), pkA bg grpE (gr), ⟨.blk bk, .cells [.ptr 2 bp 0, .ptr 3 bg 0, .raw v2, .raw v3, .int .i64 m, .int .i64 w] 96⟩] x) : G Tryz.prog (endQ Tryz.prog Tryz.f3 W F fun _ r => r = .bool true) W F (frmR [(Back W F 164 (fun x : Nat × PT × Grp => [(0, .vec 0 ao bs.length cap), (3, .ptr 4 bk 0), (4, .ptr 1 bn 0), (6, .int .i64 x.2.1.last), (7, .int .i64 (x.1 : Int))]) (fun x : Nat × PT × Grp => [⟨.sl ao cap, .roL 1 encU8 bs 0⟩, ⟨.sl (some ⟨bn, 0, none⟩) 3, .vecL 26 1 encS names3 ByteArray.empty⟩, pkA bp ptE (x.2.1), pkA bg grpE (x.2.2), ⟨.blk bk, .cells [.ptr 2 bp 0, .ptr 3 bg 0, .raw v2, .raw v3, .int .i64 m, .int .i64 w] 96⟩]) (fun x : Nat × PT × Grp => x.1 ≤ bs.length ∧ ∃ r, HK x.2.1 x.2.2 r (x.1 + 3)) (fun x : Nat × PT × Grp => bs.length - x.1) (bs.length - i))] (bodyOf Tryz.f3) 32) st := by
  refine G_live 164 [(0, .vec 0 ao bs.length cap), (3, .ptr 4 bk 0), (4, .ptr 1 bn 0), (6, .int .i64 last), (7, .int .i64 (i : Int)), (9, .int .i64 n)] [⟨.sl ao cap, .roL 1 encU8 bs 0⟩, ⟨.sl (some ⟨bn, 0, none⟩) 3, .vecL 26 1 encS names3 ByteArray.empty⟩, pkA bp ptE (pt), pkA bg grpE (gr), ⟨.blk bk, .cells [.ptr 2 bp 0, .ptr 3 bg 0, .raw v2, .raw v3, .int .i64 m, .int .i64 w] 96⟩] h1 h2 hh fun u => ?_
  refine G_run (kc := false) (ss := []) khT_ok hmKh 1500 ?_
  rw [kh_32]
  rw [hn]
  refine G_loopAt (ι := Nat) [(Back W F 164 (fun x : Nat × PT × Grp => [(0, .vec 0 ao bs.length cap), (3, .ptr 4 bk 0), (4, .ptr 1 bn 0), (6, .int .i64 x.2.1.last), (7, .int .i64 (x.1 : Int))]) (fun x : Nat × PT × Grp => [⟨.sl ao cap, .roL 1 encU8 bs 0⟩, ⟨.sl (some ⟨bn, 0, none⟩) 3, .vecL 26 1 encS names3 ByteArray.empty⟩, pkA bp ptE (x.2.1), pkA bg grpE (x.2.2), ⟨.blk bk, .cells [.ptr 2 bp 0, .ptr 3 bg 0, .raw v2, .raw v3, .int .i64 m, .int .i64 w] 96⟩]) (fun x : Nat × PT × Grp => x.1 ≤ bs.length ∧ ∃ r, HK x.2.1 x.2.2 r (x.1 + 3)) (fun x : Nat × PT × Grp => bs.length - x.1) (bs.length - i))] (bodyOf Tryz.f3) [1, 1, 1, 1, 1, 1, 1, 0, 1, 0, 0, 1, 0, 0, 1, 1, 1, 1, 1, 0, 1, 0] 164 (fun p : Nat => [(0, .vec 0 ao bs.length cap), (3, .ptr 4 bk 0), (4, .ptr 1 bn 0), (6, .int .i64 pt.last), (7, .int .i64 (i : Int)), (10, .int .i64 ((cnt gr p : Nat) : Int)), (11, .int .i64 (p : Int))]) (fun _ : Nat => [⟨.sl ao cap, .roL 1 encU8 bs 0⟩, ⟨.sl (some ⟨bn, 0, none⟩) 3, .vecL 26 1 encS names3 ByteArray.empty⟩, pkA bp ptE (pt), pkA bg grpE (gr), ⟨.blk bk, .cells [.ptr 2 bp 0, .ptr 3 bg 0, .raw v2, .raw v3, .int .i64 m, .int .i64 w] 96⟩]) (fun p : Nat => 2 ≤ p ∧ (p : Int) ≤ pt.last + 1) (fun p : Nat => (pt.last + 1).toNat - p) 2 (by kernel_rfl) (fun J => by kernel_rfl) ⟨Nat.le_refl _, by have := hK.kh.pi.last1; omega⟩ rfl ⟨rfl, rfl, rfl, rfl, rfl, rfl, rfl, trivial⟩ (fun z hz => hz) ?_
  rintro p ⟨h2p, hp⟩ u
  try dsimp only at h2p hp
  try dsimp only
  simp only [List.nil_append, List.cons_append]
  refine G_run (kc := false) (ss := [37, 43]) khT_ok hmKh 1500 ?_
  rw [kh_l2]
  cases hlt : decide ((p : Int) ≤ pt.last) with
  | true =>
    simp only [decide_eq_true_eq] at hlt
    exact kh37 hi hl hK h2p hlt rfl ⟨rfl, rfl, rfl, rfl, rfl, rfl, rfl, trivial⟩ (fun z hz => hz)
  | false =>
    simp only [decide_eq_false_iff_not] at hlt
    exact kh43 hi hl hK (by omega) rfl ⟨rfl, rfl, rfl, rfl, rfl, rfl, trivial⟩ (fun z hz => hz)
theorem kh22 (hi : i < bs.length) (hl : bs.length ≤ 120) (hb : ∀ z ∈ bs, 0 ≤ z ∧ z ≤ 255) (hK : HK pt gr r (i + 3)) (h1 : lenN st.tmps = 164) (h2 : liveOk st.tmps [(0, .vec 0 ao bs.length cap), (3, .ptr 4 bk 0), (4, .ptr 1 bn 0), (6, .int .i64 pt.last), (7, .int .i64 (i : Int)), (9, .int .i64 0)]) (hh : ∀ x, Rep W F st.heap x → Rep W F [⟨.sl ao cap, .roL 1 encU8 bs 0⟩, ⟨.sl (some ⟨bn, 0, none⟩) 3, .vecL 26 1 encS names3 ByteArray.empty⟩, pkA bp ptE (pt), pkA bg grpE (gr), ⟨.blk bk, .cells [.ptr 2 bp 0, .ptr 3 bg 0, .raw v2, .raw v3, .int .i64 m, .int .i64 w] 96⟩] x) : G Tryz.prog (endQ Tryz.prog Tryz.f3 W F fun _ r => r = .bool true) W F (frmR [(Back W F 164 (fun x : Nat × PT × Grp => [(0, .vec 0 ao bs.length cap), (3, .ptr 4 bk 0), (4, .ptr 1 bn 0), (6, .int .i64 x.2.1.last), (7, .int .i64 (x.1 : Int))]) (fun x : Nat × PT × Grp => [⟨.sl ao cap, .roL 1 encU8 bs 0⟩, ⟨.sl (some ⟨bn, 0, none⟩) 3, .vecL 26 1 encS names3 ByteArray.empty⟩, pkA bp ptE (x.2.1), pkA bg grpE (x.2.2), ⟨.blk bk, .cells [.ptr 2 bp 0, .ptr 3 bg 0, .raw v2, .raw v3, .int .i64 m, .int .i64 w] 96⟩]) (fun x : Nat × PT × Grp => x.1 ≤ bs.length ∧ ∃ r, HK x.2.1 x.2.2 r (x.1 + 3)) (fun x : Nat × PT × Grp => bs.length - x.1) (bs.length - i))] (bodyOf Tryz.f3) 22) st := by
  refine G_live 164 [(0, .vec 0 ao bs.length cap), (3, .ptr 4 bk 0), (4, .ptr 1 bn 0), (6, .int .i64 pt.last), (7, .int .i64 (i : Int)), (9, .int .i64 0)] [⟨.sl ao cap, .roL 1 encU8 bs 0⟩, ⟨.sl (some ⟨bn, 0, none⟩) 3, .vecL 26 1 encS names3 ByteArray.empty⟩, pkA bp ptE (pt), pkA bg grpE (gr), ⟨.blk bk, .cells [.ptr 2 bp 0, .ptr 3 bg 0, .raw v2, .raw v3, .int .i64 m, .int .i64 w] 96⟩] h1 h2 hh fun u => ?_
  refine G_run (kc := false) (ss := [32]) khT_ok hmKh 1500 ?_
  rw [kh_22]
  have hx := hb _ (List.getElem_mem hi)
  have hg : ∀ d, bs.getD i d = bs[i] := fun d => by simp [List.getD, hi]
  obtain ⟨t1, t2, t3, t4, t5⟩ := tq8 hx
  rw [Int.toNat_natCast, hg, t1, t4]
  have hj : 0 ≤ bs[i] / 8 % 3 ∧ bs[i] / 8 % 3 < 3 := by omega
  obtain ⟨n1, n2⟩ := nm3 (Int.toNat (bs[i] / 8 % 3)) (by omega) ByteArray.empty
  have hjl : Int.toNat (bs[i] / 8 % 3) < 3 := by omega
  have hN : names3 = ([⟨#[97]⟩, ⟨#[98]⟩, ⟨#[99]⟩] : List ByteArray) := rfl
  rw [hN] at n1 n2
  generalize hnm : ([⟨#[97]⟩, ⟨#[98]⟩, ⟨#[99]⟩] : List ByteArray).getD (Int.toNat (bs[i] / 8 % 3)) ByteArray.empty = nm at n1 n2 ⊢
  have ho := hK.kh.pi.ok
  have hl1 := hK.kh.pi.last1
  have hgs := hK.kh.gsok (by omega)
  have hth := hK.kh.there (hK.at_ n1)
  rw [hth, n2]
  have hgo := fun z => hK.kh.gl.gok (by omega) z
  have hgk := hK.kh.gl.gk
  have stay : mxI pt.last 0 = pt.last := by unfold mxI; rw [if_neg (by omega)]
  have grow : mxI pt.last (pt.last + 1) = pt.last + 1 := by unfold mxI; rw [if_pos (by omega)]
  have key : ∀ c nb, pSpawn pt 1 nm c nb = (pt, 0, 81) ∨ ∃ pt', pSpawn pt 1 nm c nb = (pt', pt.last + 1, 0) ∧ pt'.last = pt.last + 1 ∧ ∀ ao cap, ∃ r', HK pt' (gPut gr (pt.last + 1) nm ao cap).1 r' (i + 3 + 1) := fun c nb => hK.spawn (by omega) n1 c nb
  refine ⟨⟨rfl, rfl, rfl, by omega, by omega⟩, ⟨rfl, rfl, rfl, hi⟩, by decide, by decide, ⟨rfl, rfl, rfl, hj.1, hj.2⟩, ⟨rfl, rfl, rfl, hjl⟩, rfl, rfl, ⟨rfl, rfl, rfl⟩, rfl, rfl, HEq.rfl, hgs, ?_⟩
  refine ⟨rfl, rfl, rfl, rfl, HEq.rfl, ho, fun nb => ⟨rfl, ?_⟩⟩
  rcases key ⟨#[99]⟩ nb with e | ⟨pt', e, el, hr⟩
  · rw [e]
    exact kh32 hi hl (hK.up (by omega)) stay rfl ⟨rfl, rfl, rfl, rfl, rfl, rfl, trivial⟩ (fun z hz => hz)
  · rw [e]
    dsimp only
    refine ⟨rfl, rfl, rfl, rfl, HEq.rfl, ⟨hgo _, hgk⟩, fun ao cap => ?_⟩
    obtain ⟨r', hK'⟩ := hr ao cap
    exact kh32 hi hl hK' (grow.trans el.symm) rfl ⟨rfl, rfl, rfl, rfl, rfl, rfl, trivial⟩ (fun z hz => hz)
theorem kh25 (hi : i < bs.length) (hl : bs.length ≤ 120) (hK : HK pt gr r (i + 3)) (h1 : lenN st.tmps = 164) (h2 : liveOk st.tmps [(0, .vec 0 ao bs.length cap), (3, .ptr 4 bk 0), (4, .ptr 1 bn 0), (6, .int .i64 pt.last), (7, .int .i64 (i : Int)), (8, .int .i64 x), (9, .int .i64 0)]) (hh : ∀ x, Rep W F st.heap x → Rep W F [⟨.sl ao cap, .roL 1 encU8 bs 0⟩, ⟨.sl (some ⟨bn, 0, none⟩) 3, .vecL 26 1 encS names3 ByteArray.empty⟩, pkA bp ptE (pt), pkA bg grpE (gr), ⟨.blk bk, .cells [.ptr 2 bp 0, .ptr 3 bg 0, .raw v2, .raw v3, .int .i64 m, .int .i64 w] 96⟩] x) : G Tryz.prog (endQ Tryz.prog Tryz.f3 W F fun _ r => r = .bool true) W F (frmR [(Back W F 164 (fun x : Nat × PT × Grp => [(0, .vec 0 ao bs.length cap), (3, .ptr 4 bk 0), (4, .ptr 1 bn 0), (6, .int .i64 x.2.1.last), (7, .int .i64 (x.1 : Int))]) (fun x : Nat × PT × Grp => [⟨.sl ao cap, .roL 1 encU8 bs 0⟩, ⟨.sl (some ⟨bn, 0, none⟩) 3, .vecL 26 1 encS names3 ByteArray.empty⟩, pkA bp ptE (x.2.1), pkA bg grpE (x.2.2), ⟨.blk bk, .cells [.ptr 2 bp 0, .ptr 3 bg 0, .raw v2, .raw v3, .int .i64 m, .int .i64 w] 96⟩]) (fun x : Nat × PT × Grp => x.1 ≤ bs.length ∧ ∃ r, HK x.2.1 x.2.2 r (x.1 + 3)) (fun x : Nat × PT × Grp => bs.length - x.1) (bs.length - i))] (bodyOf Tryz.f3) 25) st := by
  refine G_live 164 [(0, .vec 0 ao bs.length cap), (3, .ptr 4 bk 0), (4, .ptr 1 bn 0), (6, .int .i64 pt.last), (7, .int .i64 (i : Int)), (8, .int .i64 x), (9, .int .i64 0)] [⟨.sl ao cap, .roL 1 encU8 bs 0⟩, ⟨.sl (some ⟨bn, 0, none⟩) 3, .vecL 26 1 encS names3 ByteArray.empty⟩, pkA bp ptE (pt), pkA bg grpE (gr), ⟨.blk bk, .cells [.ptr 2 bp 0, .ptr 3 bg 0, .raw v2, .raw v3, .int .i64 m, .int .i64 w] 96⟩] h1 h2 hh fun u => ?_
  refine G_run (kc := false) (ss := [32]) khT_ok hmKh 1500 ?_
  rw [kh_25]
  have ho := hK.kh.pi.ok
  have hl1 := hK.kh.pi.last1
  have hgo := fun z => hK.kh.gl.gok (by omega) z
  have hgk := hK.kh.gl.gk
  have stay : mxI pt.last 0 = pt.last := by unfold mxI; rw [if_neg (by omega)]
  have grow : mxI pt.last (pt.last + 1) = pt.last + 1 := by unfold mxI; rw [if_pos (by omega)]
  refine ⟨rfl, rfl, rfl, rfl, rfl, HEq.rfl, rfl, rfl, rfl, rfl, HEq.rfl, ho, fun nb => ⟨rfl, ?_⟩⟩
  rcases hK.fork (by omega) x nb with ⟨e, he, e1⟩ | ⟨pt', nm, e1, hm, hne, el, hr⟩
  · have e2 : (e == 0) = false := by simpa using he
    rw [e1]
    dsimp only
    rw [e2]
    exact kh32 hi hl (hK.up (by omega)) stay rfl ⟨rfl, rfl, rfl, rfl, rfl, rfl, trivial⟩ (fun z hz => hz)
  · rw [e1, hm]
    dsimp only
    rw [hne]
    refine ⟨rfl, rfl, rfl, rfl, HEq.rfl, ⟨hgo _, hgk⟩, fun ao cap => ?_⟩
    obtain ⟨r', hK'⟩ := hr ao cap
    exact kh32 hi hl hK' (grow.trans el.symm) rfl ⟨rfl, rfl, rfl, rfl, rfl, rfl, trivial⟩ (fun z hz => hz)
theorem kh27 (hi : i < bs.length) (hl : bs.length ≤ 120) (hK : HK pt gr r (i + 3)) (h1 : lenN st.tmps = 164) (h2 : liveOk st.tmps [(0, .vec 0 ao bs.length cap), (3, .ptr 4 bk 0), (4, .ptr 1 bn 0), (6, .int .i64 pt.last), (7, .int .i64 (i : Int)), (8, .int .i64 x), (9, .int .i64 0)]) (hh : ∀ x, Rep W F st.heap x → Rep W F [⟨.sl ao cap, .roL 1 encU8 bs 0⟩, ⟨.sl (some ⟨bn, 0, none⟩) 3, .vecL 26 1 encS names3 ByteArray.empty⟩, pkA bp ptE (pt), pkA bg grpE (gr), ⟨.blk bk, .cells [.ptr 2 bp 0, .ptr 3 bg 0, .raw v2, .raw v3, .int .i64 m, .int .i64 w] 96⟩] x) : G Tryz.prog (endQ Tryz.prog Tryz.f3 W F fun _ r => r = .bool true) W F (frmR [(Back W F 164 (fun x : Nat × PT × Grp => [(0, .vec 0 ao bs.length cap), (3, .ptr 4 bk 0), (4, .ptr 1 bn 0), (6, .int .i64 x.2.1.last), (7, .int .i64 (x.1 : Int))]) (fun x : Nat × PT × Grp => [⟨.sl ao cap, .roL 1 encU8 bs 0⟩, ⟨.sl (some ⟨bn, 0, none⟩) 3, .vecL 26 1 encS names3 ByteArray.empty⟩, pkA bp ptE (x.2.1), pkA bg grpE (x.2.2), ⟨.blk bk, .cells [.ptr 2 bp 0, .ptr 3 bg 0, .raw v2, .raw v3, .int .i64 m, .int .i64 w] 96⟩]) (fun x : Nat × PT × Grp => x.1 ≤ bs.length ∧ ∃ r, HK x.2.1 x.2.2 r (x.1 + 3)) (fun x : Nat × PT × Grp => bs.length - x.1) (bs.length - i))] (bodyOf Tryz.f3) 27) st := by
  refine G_live 164 [(0, .vec 0 ao bs.length cap), (3, .ptr 4 bk 0), (4, .ptr 1 bn 0), (6, .int .i64 pt.last), (7, .int .i64 (i : Int)), (8, .int .i64 x), (9, .int .i64 0)] [⟨.sl ao cap, .roL 1 encU8 bs 0⟩, ⟨.sl (some ⟨bn, 0, none⟩) 3, .vecL 26 1 encS names3 ByteArray.empty⟩, pkA bp ptE (pt), pkA bg grpE (gr), ⟨.blk bk, .cells [.ptr 2 bp 0, .ptr 3 bg 0, .raw v2, .raw v3, .int .i64 m, .int .i64 w] 96⟩] h1 h2 hh fun u => ?_
  refine G_run (kc := false) (ss := [32]) khT_ok hmKh 1500 ?_
  rw [kh_27]
  have ho := hK.kh.pi.ok
  have hl1 := hK.kh.pi.last1
  have hgo := fun z => hK.kh.gl.gok (by omega) z
  have stay : mxI pt.last 0 = pt.last := by unfold mxI; rw [if_neg (by omega)]
  refine ⟨rfl, rfl, rfl, rfl, rfl, HEq.rfl, ho, ?_⟩
  rcases hK.exit x 0 with e | ⟨pt', e, el, hr⟩
  · rw [e]
    exact kh32 hi hl (hK.up (by omega)) stay rfl ⟨rfl, rfl, rfl, rfl, rfl, rfl, trivial⟩ (fun z hz => hz)
  · rw [e]
    dsimp only
    refine ⟨rfl, rfl, rfl, rfl, HEq.rfl, hgo _, fun ao cap => ?_⟩
    obtain ⟨r', hK'⟩ := hr ao cap
    exact kh32 hi hl hK' (stay.trans el.symm) rfl ⟨rfl, rfl, rfl, rfl, rfl, rfl, trivial⟩ (fun z hz => hz)
theorem kh31 (hi : i < bs.length) (hl : bs.length ≤ 120) (hK : HK pt gr r (i + 3)) (h1 : lenN st.tmps = 164) (h2 : liveOk st.tmps [(0, .vec 0 ao bs.length cap), (3, .ptr 4 bk 0), (4, .ptr 1 bn 0), (6, .int .i64 pt.last), (7, .int .i64 (i : Int)), (8, .int .i64 x), (9, .int .i64 0)]) (hh : ∀ x, Rep W F st.heap x → Rep W F [⟨.sl ao cap, .roL 1 encU8 bs 0⟩, ⟨.sl (some ⟨bn, 0, none⟩) 3, .vecL 26 1 encS names3 ByteArray.empty⟩, pkA bp ptE (pt), pkA bg grpE (gr), ⟨.blk bk, .cells [.ptr 2 bp 0, .ptr 3 bg 0, .raw v2, .raw v3, .int .i64 m, .int .i64 w] 96⟩] x) : G Tryz.prog (endQ Tryz.prog Tryz.f3 W F fun _ r => r = .bool true) W F (frmR [(Back W F 164 (fun x : Nat × PT × Grp => [(0, .vec 0 ao bs.length cap), (3, .ptr 4 bk 0), (4, .ptr 1 bn 0), (6, .int .i64 x.2.1.last), (7, .int .i64 (x.1 : Int))]) (fun x : Nat × PT × Grp => [⟨.sl ao cap, .roL 1 encU8 bs 0⟩, ⟨.sl (some ⟨bn, 0, none⟩) 3, .vecL 26 1 encS names3 ByteArray.empty⟩, pkA bp ptE (x.2.1), pkA bg grpE (x.2.2), ⟨.blk bk, .cells [.ptr 2 bp 0, .ptr 3 bg 0, .raw v2, .raw v3, .int .i64 m, .int .i64 w] 96⟩]) (fun x : Nat × PT × Grp => x.1 ≤ bs.length ∧ ∃ r, HK x.2.1 x.2.2 r (x.1 + 3)) (fun x : Nat × PT × Grp => bs.length - x.1) (bs.length - i))] (bodyOf Tryz.f3) 31) st := by
  refine G_live 164 [(0, .vec 0 ao bs.length cap), (3, .ptr 4 bk 0), (4, .ptr 1 bn 0), (6, .int .i64 pt.last), (7, .int .i64 (i : Int)), (8, .int .i64 x), (9, .int .i64 0)] [⟨.sl ao cap, .roL 1 encU8 bs 0⟩, ⟨.sl (some ⟨bn, 0, none⟩) 3, .vecL 26 1 encS names3 ByteArray.empty⟩, pkA bp ptE (pt), pkA bg grpE (gr), ⟨.blk bk, .cells [.ptr 2 bp 0, .ptr 3 bg 0, .raw v2, .raw v3, .int .i64 m, .int .i64 w] 96⟩] h1 h2 hh fun u => ?_
  refine G_run (kc := false) (ss := [32]) khT_ok hmKh 1500 ?_
  rw [kh_31]
  have ho := hK.kh.pi.ok
  have hl1 := hK.kh.pi.last1
  have hgo := fun z => hK.kh.gl.gok (by omega) z
  have stay : mxI pt.last 0 = pt.last := by unfold mxI; rw [if_neg (by omega)]
  refine ⟨rfl, rfl, rfl, rfl, rfl, HEq.rfl, ho, ?_⟩
  cases hk : (pGet pt x).kill with
  | false => exact kh32 hi hl (hK.up (by omega)) stay rfl ⟨rfl, rfl, rfl, rfl, rfl, rfl, trivial⟩ (fun z hz => hz)
  | true =>
  refine ⟨rfl, rfl, rfl, rfl, rfl, HEq.rfl, ho, ?_⟩
  rcases hK.exit x (-9) with e | ⟨pt', e, el, hr⟩
  · rw [e]
    exact kh32 hi hl (hK.up (by omega)) stay rfl ⟨rfl, rfl, rfl, rfl, rfl, rfl, trivial⟩ (fun z hz => hz)
  · rw [e]
    dsimp only
    refine ⟨rfl, rfl, rfl, rfl, HEq.rfl, hgo _, fun ao cap => ?_⟩
    obtain ⟨r', hK'⟩ := hr ao cap
    exact kh32 hi hl hK' (stay.trans el.symm) rfl ⟨rfl, rfl, rfl, rfl, rfl, rfl, trivial⟩ (fun z hz => hz)
theorem kh19 (hi : i < bs.length) (hl : bs.length ≤ 120) (hK : HK pt gr r (i + 3)) (h1 : lenN st.tmps = 164) (h2 : liveOk st.tmps [(0, .vec 0 ao bs.length cap), (3, .ptr 4 bk 0), (4, .ptr 1 bn 0), (6, .int .i64 pt.last), (7, .int .i64 (i : Int)), (9, .int .i64 0)]) (hh : ∀ x, Rep W F st.heap x → Rep W F [⟨.sl ao cap, .roL 1 encU8 bs 0⟩, ⟨.sl (some ⟨bn, 0, none⟩) 3, .vecL 26 1 encS names3 ByteArray.empty⟩, pkA bp ptE (pt), pkA bg grpE (gr), ⟨.blk bk, .cells [.ptr 2 bp 0, .ptr 3 bg 0, .raw v2, .raw v3, .int .i64 m, .int .i64 w] 96⟩] x) : G Tryz.prog (endQ Tryz.prog Tryz.f3 W F fun _ r => r = .bool true) W F (frmR [(Back W F 164 (fun x : Nat × PT × Grp => [(0, .vec 0 ao bs.length cap), (3, .ptr 4 bk 0), (4, .ptr 1 bn 0), (6, .int .i64 x.2.1.last), (7, .int .i64 (x.1 : Int))]) (fun x : Nat × PT × Grp => [⟨.sl ao cap, .roL 1 encU8 bs 0⟩, ⟨.sl (some ⟨bn, 0, none⟩) 3, .vecL 26 1 encS names3 ByteArray.empty⟩, pkA bp ptE (x.2.1), pkA bg grpE (x.2.2), ⟨.blk bk, .cells [.ptr 2 bp 0, .ptr 3 bg 0, .raw v2, .raw v3, .int .i64 m, .int .i64 w] 96⟩]) (fun x : Nat × PT × Grp => x.1 ≤ bs.length ∧ ∃ r, HK x.2.1 x.2.2 r (x.1 + 3)) (fun x : Nat × PT × Grp => bs.length - x.1) (bs.length - i))] (bodyOf Tryz.f3) 19) st := by
  refine G_live 164 [(0, .vec 0 ao bs.length cap), (3, .ptr 4 bk 0), (4, .ptr 1 bn 0), (6, .int .i64 pt.last), (7, .int .i64 (i : Int)), (9, .int .i64 0)] [⟨.sl ao cap, .roL 1 encU8 bs 0⟩, ⟨.sl (some ⟨bn, 0, none⟩) 3, .vecL 26 1 encS names3 ByteArray.empty⟩, pkA bp ptE (pt), pkA bg grpE (gr), ⟨.blk bk, .cells [.ptr 2 bp 0, .ptr 3 bg 0, .raw v2, .raw v3, .int .i64 m, .int .i64 w] 96⟩] h1 h2 hh fun u => ?_
  refine G_run (kc := false) (ss := [32]) khT_ok hmKh 1500 ?_
  rw [kh_19]
  have ho := hK.kh.pi.ok
  have hl1 := hK.kh.pi.last1
  have stay : mxI pt.last 0 = pt.last := by unfold mxI; rw [if_neg (by omega)]
  obtain ⟨q1, q2⟩ := hK.reap 1
  refine ⟨rfl, fun b => ⟨rfl, rfl, rfl, rfl, HEq.rfl, ho, ⟨rfl, rfl, rfl, Nat.le_refl _⟩, ⟨rfl, rfl⟩, ?_⟩⟩
  exact kh32 hi hl (q1.up (by omega)) (stay.trans q2.symm) rfl ⟨rfl, rfl, rfl, rfl, rfl, rfl, trivial⟩ (fun z hz => Rep.dropR (h := [⟨.sl ao cap, .roL 1 encU8 bs 0⟩, ⟨.sl (some ⟨bn, 0, none⟩) 3, .vecL 26 1 encS names3 ByteArray.empty⟩, pkA bp ptE (pReap pt 1).1, pkA bg grpE gr, ⟨.blk bk, .cells [.ptr 2 bp 0, .ptr 3 bg 0, .raw v2, .raw v3, .int .i64 m, .int .i64 w] 96⟩]) hz)
theorem kh29 (hi : i < bs.length) (hl : bs.length ≤ 120) (hb : ∀ z ∈ bs, 0 ≤ z ∧ z ≤ 255) (hK : HK pt gr r (i + 3)) (h1 : lenN st.tmps = 164) (h2 : liveOk st.tmps [(0, .vec 0 ao bs.length cap), (3, .ptr 4 bk 0), (4, .ptr 1 bn 0), (6, .int .i64 pt.last), (7, .int .i64 (i : Int)), (9, .int .i64 0)]) (hh : ∀ x, Rep W F st.heap x → Rep W F [⟨.sl ao cap, .roL 1 encU8 bs 0⟩, ⟨.sl (some ⟨bn, 0, none⟩) 3, .vecL 26 1 encS names3 ByteArray.empty⟩, pkA bp ptE (pt), pkA bg grpE (gr), ⟨.blk bk, .cells [.ptr 2 bp 0, .ptr 3 bg 0, .raw v2, .raw v3, .int .i64 m, .int .i64 w] 96⟩] x) : G Tryz.prog (endQ Tryz.prog Tryz.f3 W F fun _ r => r = .bool true) W F (frmR [(Back W F 164 (fun x : Nat × PT × Grp => [(0, .vec 0 ao bs.length cap), (3, .ptr 4 bk 0), (4, .ptr 1 bn 0), (6, .int .i64 x.2.1.last), (7, .int .i64 (x.1 : Int))]) (fun x : Nat × PT × Grp => [⟨.sl ao cap, .roL 1 encU8 bs 0⟩, ⟨.sl (some ⟨bn, 0, none⟩) 3, .vecL 26 1 encS names3 ByteArray.empty⟩, pkA bp ptE (x.2.1), pkA bg grpE (x.2.2), ⟨.blk bk, .cells [.ptr 2 bp 0, .ptr 3 bg 0, .raw v2, .raw v3, .int .i64 m, .int .i64 w] 96⟩]) (fun x : Nat × PT × Grp => x.1 ≤ bs.length ∧ ∃ r, HK x.2.1 x.2.2 r (x.1 + 3)) (fun x : Nat × PT × Grp => bs.length - x.1) (bs.length - i))] (bodyOf Tryz.f3) 29) st := by
  refine G_live 164 [(0, .vec 0 ao bs.length cap), (3, .ptr 4 bk 0), (4, .ptr 1 bn 0), (6, .int .i64 pt.last), (7, .int .i64 (i : Int)), (9, .int .i64 0)] [⟨.sl ao cap, .roL 1 encU8 bs 0⟩, ⟨.sl (some ⟨bn, 0, none⟩) 3, .vecL 26 1 encS names3 ByteArray.empty⟩, pkA bp ptE (pt), pkA bg grpE (gr), ⟨.blk bk, .cells [.ptr 2 bp 0, .ptr 3 bg 0, .raw v2, .raw v3, .int .i64 m, .int .i64 w] 96⟩] h1 h2 hh fun u => ?_
  refine G_run (kc := false) (ss := [32]) khT_ok hmKh 1500 ?_
  rw [kh_29]
  have hx := hb _ (List.getElem_mem hi)
  have hg : ∀ d, bs.getD i d = bs[i] := fun d => by simp [List.getD, hi]
  obtain ⟨t1, t2, t3, t4, t5⟩ := tq8 hx
  rw [Int.toNat_natCast, hg, t1, t4]
  have hj : 0 ≤ bs[i] / 8 % 3 ∧ bs[i] / 8 % 3 < 3 := by omega
  have hjl : Int.toNat (bs[i] / 8 % 3) < 3 := by omega
  generalize ([⟨#[97]⟩, ⟨#[98]⟩, ⟨#[99]⟩] : List ByteArray).getD (Int.toNat (bs[i] / 8 % 3)) ByteArray.empty = nm
  have ho := hK.kh.pi.ok
  have hl1 := hK.kh.pi.last1
  have hgs := hK.kh.gsok (by omega)
  have stay : mxI pt.last 0 = pt.last := by unfold mxI; rw [if_neg (by omega)]
  obtain ⟨q1, q2⟩ := hK.killAll 9 (memQ gr nm)
  refine ⟨⟨rfl, rfl, rfl, by omega, by omega⟩, ⟨rfl, rfl, rfl, hi⟩, by decide, by decide, ⟨rfl, rfl, rfl, hj.1, hj.2⟩, ⟨rfl, rfl, rfl, hjl⟩, rfl, ⟨rfl, rfl, rfl⟩, ⟨rfl, rfl⟩, rfl, rfl, HEq.rfl, HEq.rfl, ⟨ho, hgs⟩, ?_⟩
  exact kh32 hi hl (q1.up (by omega)) (stay.trans q2.symm) rfl ⟨rfl, rfl, rfl, rfl, rfl, rfl, trivial⟩ (fun z hz => hz)
theorem kh18 (hi : i < bs.length) (hl : bs.length ≤ 120) (hb : ∀ z ∈ bs, 0 ≤ z ∧ z ≤ 255) (hK : HK pt gr r (i + 3)) (h1 : lenN st.tmps = 164) (h2 : liveOk st.tmps [(0, .vec 0 ao bs.length cap), (3, .ptr 4 bk 0), (4, .ptr 1 bn 0), (6, .int .i64 pt.last), (7, .int .i64 (i : Int)), (8, .int .i64 x), (9, .int .i64 0)]) (hh : ∀ x, Rep W F st.heap x → Rep W F [⟨.sl ao cap, .roL 1 encU8 bs 0⟩, ⟨.sl (some ⟨bn, 0, none⟩) 3, .vecL 26 1 encS names3 ByteArray.empty⟩, pkA bp ptE (pt), pkA bg grpE (gr), ⟨.blk bk, .cells [.ptr 2 bp 0, .ptr 3 bg 0, .raw v2, .raw v3, .int .i64 m, .int .i64 w] 96⟩] x) : G Tryz.prog (endQ Tryz.prog Tryz.f3 W F fun _ r => r = .bool true) W F (frmR [(Back W F 164 (fun x : Nat × PT × Grp => [(0, .vec 0 ao bs.length cap), (3, .ptr 4 bk 0), (4, .ptr 1 bn 0), (6, .int .i64 x.2.1.last), (7, .int .i64 (x.1 : Int))]) (fun x : Nat × PT × Grp => [⟨.sl ao cap, .roL 1 encU8 bs 0⟩, ⟨.sl (some ⟨bn, 0, none⟩) 3, .vecL 26 1 encS names3 ByteArray.empty⟩, pkA bp ptE (x.2.1), pkA bg grpE (x.2.2), ⟨.blk bk, .cells [.ptr 2 bp 0, .ptr 3 bg 0, .raw v2, .raw v3, .int .i64 m, .int .i64 w] 96⟩]) (fun x : Nat × PT × Grp => x.1 ≤ bs.length ∧ ∃ r, HK x.2.1 x.2.2 r (x.1 + 3)) (fun x : Nat × PT × Grp => bs.length - x.1) (bs.length - i))] (bodyOf Tryz.f3) 18) st := by
  refine G_live 164 [(0, .vec 0 ao bs.length cap), (3, .ptr 4 bk 0), (4, .ptr 1 bn 0), (6, .int .i64 pt.last), (7, .int .i64 (i : Int)), (8, .int .i64 x), (9, .int .i64 0)] [⟨.sl ao cap, .roL 1 encU8 bs 0⟩, ⟨.sl (some ⟨bn, 0, none⟩) 3, .vecL 26 1 encS names3 ByteArray.empty⟩, pkA bp ptE (pt), pkA bg grpE (gr), ⟨.blk bk, .cells [.ptr 2 bp 0, .ptr 3 bg 0, .raw v2, .raw v3, .int .i64 m, .int .i64 w] 96⟩] h1 h2 hh fun u => ?_
  refine G_run (kc := false) (ss := [22, 25, 27, 29, 31, 19]) khT_ok hmKh 1500 ?_
  rw [kh_18]
  refine ⟨⟨rfl, rfl, rfl, by omega, by omega⟩, ⟨rfl, rfl, rfl, hi⟩, by decide, ?_⟩
  repeat' first
    | exact kh22 hi hl hb hK rfl ⟨rfl, rfl, rfl, rfl, rfl, rfl, trivial⟩ (fun z hz => hz)
    | exact kh29 hi hl hb hK rfl ⟨rfl, rfl, rfl, rfl, rfl, rfl, trivial⟩ (fun z hz => hz)
    | exact kh19 hi hl hK rfl ⟨rfl, rfl, rfl, rfl, rfl, rfl, trivial⟩ (fun z hz => hz)
    | exact kh25 hi hl hK rfl ⟨rfl, rfl, rfl, rfl, rfl, rfl, rfl, trivial⟩ (fun z hz => hz)
    | exact kh27 hi hl hK rfl ⟨rfl, rfl, rfl, rfl, rfl, rfl, rfl, trivial⟩ (fun z hz => hz)
    | exact kh31 hi hl hK rfl ⟨rfl, rfl, rfl, rfl, rfl, rfl, rfl, trivial⟩ (fun z hz => hz)
    | (split <;> rename_i hj)
    | fail
end
def ptH (bm bp : Nat) : PT := ⟨bm, [(bp, ⟨1, 0, ⟨#[]⟩, false, 0, ⟨#[]⟩, false, false⟩)], 30, 1⟩
def grH (bg bo n1 n2 n3 : Nat) : Grp := ⟨bg, bo, none, 0, [(.s ⟨#[97]⟩, n1, []), (.s ⟨#[98]⟩, n2, []), (.s ⟨#[99]⟩, n3, [])], [], []⟩
theorem HK1 (bm bp bg bo n1 n2 n3 : Nat) : HK (ptH bm bp) (grH bg bo n1 n2 n3) rN3 3 := by
  refine cast ?_ (HK0 bm bp bg bo n1 n2 n3)
  kernel_rfl
theorem kh_ok (ao : Option Addr) (cap : Nat) (bs : List Int) (hb : ∀ z ∈ bs, 0 ≤ z ∧ z ≤ 255) : Spec Tryz.prog 3 [⟨.sl ao cap, .roL 1 encU8 bs 0⟩] [.vec 0 ao bs.length cap] fun _ r => r = .bool true := by
  refine Spec.of_G 164 Tryz.func3 (c := bodyOf Tryz.f3) (by kernel_rfl) (by kernel_rfl) (Nat.le_of_ble_eq_true rfl) fun W F => ?_
  refine G_run (kc := false) (ss := [100008]) khT_ok hmKh 4000 ?_
  rw [kh_start]
  refine ⟨rfl, ?_⟩
  cases c1 : decide ((bs.length : Int) > 120) with
  | true => exact rfl
  | false =>
  simp only [decide_eq_false_iff_not] at c1
  have walk : ∀ (bm bp bg bo n1 n2 n3 bk bpp bgg bn : Nat) (v2 v3 : Value) (tm : List SV), lenN tm = 164 → liveOk tm [(0, .vec 0 ao bs.length cap), (3, .ptr 4 bk 0), (4, .ptr 1 bn 0), (6, .int .i64 (ptH bm bp).last), (7, .int .i64 ((0 : Nat) : Int))] → G Tryz.prog (endQ Tryz.prog Tryz.f3 W F fun _ r => r = .bool true) W F (frm [] (bodyOf Tryz.f3) [1, 1, 1, 1, 1, 1, 1, 0, 1, 0] []) ⟨tm, [⟨.sl ao cap, .roL 1 encU8 bs 0⟩, pkA bpp ptE (ptH bm bp), pkA bgg grpE (grH bg bo n1 n2 n3), ⟨.blk bk, .cells [.ptr 1 bpp 0, .ptr 2 bgg 0, .raw v2, .raw v3, .int .i64 0, .int .i64 0] 96⟩, ⟨.blk bn, .cells [.str ⟨#[97]⟩, .str ⟨#[98]⟩, .str ⟨#[99]⟩] 26⟩]⟩ := by
    intro bm bp0 bg0 bo n1 n2 n3 bk bp bg bn v2 v3 tm g1 g2
    refine G_loopAt (ι := Nat × PT × Grp) [] (bodyOf Tryz.f3) [1, 1, 1, 1, 1, 1, 1, 0, 1, 0] 164 (fun x : Nat × PT × Grp => [(0, .vec 0 ao bs.length cap), (3, .ptr 4 bk 0), (4, .ptr 1 bn 0), (6, .int .i64 x.2.1.last), (7, .int .i64 (x.1 : Int))]) (fun x : Nat × PT × Grp => [⟨.sl ao cap, .roL 1 encU8 bs 0⟩, ⟨.sl (some ⟨bn, 0, none⟩) 3, .vecL 26 1 encS names3 ByteArray.empty⟩, pkA bp ptE (x.2.1), pkA bg grpE (x.2.2), ⟨.blk bk, .cells [.ptr 2 bp 0, .ptr 3 bg 0, .raw v2, .raw v3, .int .i64 0, .int .i64 0] 96⟩]) (fun x : Nat × PT × Grp => x.1 ≤ bs.length ∧ ∃ r, HK x.2.1 x.2.2 r (x.1 + 3)) (fun x : Nat × PT × Grp => bs.length - x.1) (0, ptH bm bp0, grH bg0 bo n1 n2 n3) (by kernel_rfl) (fun J => by kernel_rfl) ⟨Nat.zero_le _, rN3, HK1 _ _ _ _ _ _ _⟩ g1 g2 (fun z hz => ?_) ?_
    · have q1 := Rep.pick (π := [0, 4, 1, 2, 3]) (by decide) rfl (Rep.arrOf (l := 4) (sz := 1) encS names3 ByteArray.empty rfl rfl (fun _ => rfl) hz)
      exact Rep.cellsEq (l := 4) (b := bk) (T := 96) (cs := [.ptr 1 bp 0, .ptr 2 bg 0, .raw v2, .raw v3, .int .i64 0, .int .i64 0]) (cs' := [.ptr 2 bp 0, .ptr 3 bg 0, .raw v2, .raw v3, .int .i64 0, .int .i64 0]) rfl rfl q1
    rintro ⟨i, pt, gr⟩ ⟨hi, r, hK⟩ u
    dsimp only at hi hK
    try dsimp only
    simp only [List.nil_append, List.cons_append]
    refine G_run (kc := false) (ss := [18]) khT_ok hmKh 1500 ?_
    rw [kh_l1]
    cases hlt : decide ((i : Int) < (bs.length : Int)) with
    | false => exact rfl
    | true =>
      simp only [decide_eq_true_eq] at hlt
      have hi2 : i < bs.length := by omega
      have hl : bs.length ≤ 120 := by omega
      have hl1 := hK.kh.pi.last1
      have hl2 := hK.kh.pi.last
      have w2 : IntKind.wrap .i64 (pt.last + 1) = pt.last + 1 := IntWalk.i64_in _ (by omega)
      rw [w2]
      refine ⟨⟨rfl, rfl, rfl, by omega, by omega⟩, ⟨rfl, rfl, rfl, hi2⟩, by decide, by omega, ?_⟩
      exact kh18 hi2 hl hb hK rfl ⟨rfl, rfl, rfl, rfl, rfl, rfl, rfl, trivial⟩ (fun z hz => hz)
  repeat' first
    | exact rfl
    | exact HEq.rfl
    | exact walk _ _ _ _ _ _ _ _ _ _ _ _ _ _ rfl ⟨rfl, rfl, rfl, rfl, rfl, trivial⟩
    | apply And.intro
    | (show _ ≤ _; decide)
    | (show _ < _; decide)
    | (refine fun _ => ?_)
    | (refine ⟨rfl, ?_⟩)
    | fail
end Go.Proofs.YtkcmgcoppecfpaaGreat

