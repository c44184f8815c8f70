import Derived.Test.YtkcmgcoppecfpaaMgPortPlays6
import Derived.Test.YtkcmgcoppecfpaaMgPortPlays4
set_option linter.unusedVariables false
set_option linter.unusedSimpArgs false
set_option linter.unnecessarySimpa false
set_option maxHeartbeats 0
set_option maxRecDepth 100000
namespace Go.Proofs.Ytkcmgcoppecfpaa
open Go Go.RowKit

theorem pt_39 (K : List Frm → Sy → Prop) (N : List Ent → SV → Prop) (J0 : Act → World → Prop) (ao : Option Addr) (cap : Nat) (bs : List StepP) (bt br : Nat) (s : PS) (r : RPs) (i : Nat) (x : StepP) (b6 : Nat) (e : Int) (g : RPt) (rest : List Ent) (u : Nat → Value) : (run Try.prog plT true [41] K (retP Try.prog Try.f3.results.toList N) 2000 (frmR [J0] (bodyOf Try.f3) 39) ⟨mkT u 208 0 [(0, .vec 0 ao bs.length cap), (3, .ptr 1 bt 0), (4, .ptr 2 br 0), (5, .int .i64 (i : Int)), (6, .ptr 7 b6 0), (7, .int .i64 e), (8, .int .i64 e)], [⟨.sl ao cap, .roL 4 encStepP bs StepP.zero⟩, pkA bt psE s, ⟨.blk br, .cells [.vec 3 r.aoL r.L.length r.capL, .int .i64 r.nx, .vec 5 r.aoD r.ds.length r.capD] 30⟩, ⟨.sl r.aoL r.capL, .vecL 62 2 encRpt r.L zP⟩, ⟨.sl g.ao g.cap, .vecL 41 2 encCN g.cs CN.zero⟩, ⟨.sl r.aoD r.capD, .vecL 49 2 encDN r.ds DN.zero⟩, pk 0 rest, ⟨.blk b6, .cells (encStepP x) 32⟩]⟩) = (
match e != e with
| true =>
 (Ent.mk (Loc.sl ao cap) (SObj.roL 4 encStepP bs (StepP.mk (0 : Int) (0 : Int) (ByteArray.mk #[]) (ByteArray.mk #[]))) =
  Ent.mk (Loc.sl ao cap) (SObj.roL 4 encStepP bs (StepP.mk (0 : Int) (0 : Int) (ByteArray.mk #[]) (ByteArray.mk #[]))) ∧
  pkA bt psE s = pkA bt psE s ∧
   Ent.mk (Loc.blk br) (SObj.cells [SV.vec 3 r.aoL (List.length r.3) r.2, SV.int IntKind.i64 r.4, SV.vec 5 r.aoD (List.length r.7) r.6] (30 : TypeId)) =
    Ent.mk (Loc.blk br) (SObj.cells [SV.vec 3 r.aoL (List.length r.3) r.2, SV.int IntKind.i64 r.4, SV.vec 5 r.aoD (List.length r.7) r.6] (30 : TypeId)) ∧
    Ent.mk (Loc.sl r.aoL r.2) (SObj.vecL (62 : TypeId) 2 encRpt r.3 (RPt.mk (ByteArray.mk #[]) (@none Addr) 0 [])) =
     Ent.mk (Loc.sl r.aoL r.2) (SObj.vecL (62 : TypeId) 2 encRpt r.3 (RPt.mk (ByteArray.mk #[]) (@none Addr) 0 [])) ∧
     Ent.mk (Loc.sl g.ao g.3) (SObj.vecL (41 : TypeId) 2 encCN g.4 (CN.mk (0 : Int) (ByteArray.mk #[]))) =
      Ent.mk (Loc.sl g.ao g.3) (SObj.vecL (41 : TypeId) 2 encCN g.4 (CN.mk (0 : Int) (ByteArray.mk #[]))) ∧
      Ent.mk (Loc.sl r.aoD r.6) (SObj.vecL (49 : TypeId) 2 encDN r.7 (DN.mk (0 : Int) (ByteArray.mk #[]))) =
       Ent.mk (Loc.sl r.aoD r.6) (SObj.vecL (49 : TypeId) 2 encDN r.7 (DN.mk (0 : Int) (ByteArray.mk #[]))) ∧
       pk 0 rest = pk 0 rest ∧
        Ent.mk (Loc.blk b6) (SObj.cells [SV.int IntKind.i64 x.1, SV.int IntKind.i64 x.2, SV.str x.3, SV.str x.4] (32 : TypeId)) =
         Ent.mk (Loc.blk b6) (SObj.cells [SV.int IntKind.i64 x.1, SV.int IntKind.i64 x.2, SV.str x.3, SV.str x.4] (32 : TypeId)) ∧
         True) ∧
  (Ent.mk (Loc.sl ao cap) (SObj.roL 4 encStepP bs (StepP.mk (0 : Int) (0 : Int) (ByteArray.mk #[]) (ByteArray.mk #[]))) =
   Ent.mk (Loc.sl ao cap) (SObj.roL 4 encStepP bs (StepP.mk (0 : Int) (0 : Int) (ByteArray.mk #[]) (ByteArray.mk #[]))) ∧
   pkA bt psE s = pkA bt psE s ∧
    Ent.mk (Loc.blk br) (SObj.cells [SV.vec 3 r.aoL (List.length r.3) r.2, SV.int IntKind.i64 r.4, SV.vec 5 r.aoD (List.length r.7) r.6] (30 : TypeId)) =
     Ent.mk (Loc.blk br) (SObj.cells [SV.vec 3 r.aoL (List.length r.3) r.2, SV.int IntKind.i64 r.4, SV.vec 5 r.aoD (List.length r.7) r.6] (30 : TypeId)) ∧
     Ent.mk (Loc.sl r.aoL r.2) (SObj.vecL (62 : TypeId) 2 encRpt r.3 (RPt.mk (ByteArray.mk #[]) (@none Addr) 0 [])) =
      Ent.mk (Loc.sl r.aoL r.2) (SObj.vecL (62 : TypeId) 2 encRpt r.3 (RPt.mk (ByteArray.mk #[]) (@none Addr) 0 [])) ∧
      Ent.mk (Loc.sl g.ao g.3) (SObj.vecL (41 : TypeId) 2 encCN g.4 (CN.mk (0 : Int) (ByteArray.mk #[]))) =
       Ent.mk (Loc.sl g.ao g.3) (SObj.vecL (41 : TypeId) 2 encCN g.4 (CN.mk (0 : Int) (ByteArray.mk #[]))) ∧
       Ent.mk (Loc.sl r.aoD r.6) (SObj.vecL (49 : TypeId) 2 encDN r.7 (DN.mk (0 : Int) (ByteArray.mk #[]))) =
        Ent.mk (Loc.sl r.aoD r.6) (SObj.vecL (49 : TypeId) 2 encDN r.7 (DN.mk (0 : Int) (ByteArray.mk #[]))) ∧
        pk 0 rest = pk 0 rest ∧
         Ent.mk (Loc.blk b6) (SObj.cells [SV.int IntKind.i64 x.1, SV.int IntKind.i64 x.2, SV.str x.3, SV.str x.4] (32 : TypeId)) =
          Ent.mk (Loc.blk b6) (SObj.cells [SV.int IntKind.i64 x.1, SV.int IntKind.i64 x.2, SV.str x.3, SV.str x.4] (32 : TypeId)) ∧
          True) ∧
   (Ent.mk (Loc.sl ao cap) (SObj.roL 4 encStepP bs (StepP.mk (0 : Int) (0 : Int) (ByteArray.mk #[]) (ByteArray.mk #[]))) =
    Ent.mk (Loc.sl ao cap) (SObj.roL 4 encStepP bs (StepP.mk (0 : Int) (0 : Int) (ByteArray.mk #[]) (ByteArray.mk #[]))) ∧
    pkA bt psE s = pkA bt psE s ∧
     Ent.mk (Loc.blk br) (SObj.cells [SV.vec 3 r.aoL (List.length r.3) r.2, SV.int IntKind.i64 r.4, SV.vec 5 r.aoD (List.length r.7) r.6] (30 : TypeId)) =
      Ent.mk (Loc.blk br) (SObj.cells [SV.vec 3 r.aoL (List.length r.3) r.2, SV.int IntKind.i64 r.4, SV.vec 5 r.aoD (List.length r.7) r.6] (30 : TypeId)) ∧
      Ent.mk (Loc.sl r.aoL r.2) (SObj.vecL (62 : TypeId) 2 encRpt r.3 (RPt.mk (ByteArray.mk #[]) (@none Addr) 0 [])) =
       Ent.mk (Loc.sl r.aoL r.2) (SObj.vecL (62 : TypeId) 2 encRpt r.3 (RPt.mk (ByteArray.mk #[]) (@none Addr) 0 [])) ∧
       Ent.mk (Loc.sl g.ao g.3) (SObj.vecL (41 : TypeId) 2 encCN g.4 (CN.mk (0 : Int) (ByteArray.mk #[]))) =
        Ent.mk (Loc.sl g.ao g.3) (SObj.vecL (41 : TypeId) 2 encCN g.4 (CN.mk (0 : Int) (ByteArray.mk #[]))) ∧
        Ent.mk (Loc.sl r.aoD r.6) (SObj.vecL (49 : TypeId) 2 encDN r.7 (DN.mk (0 : Int) (ByteArray.mk #[]))) =
         Ent.mk (Loc.sl r.aoD r.6) (SObj.vecL (49 : TypeId) 2 encDN r.7 (DN.mk (0 : Int) (ByteArray.mk #[]))) ∧
         pk 0 rest = pk 0 rest ∧
          Ent.mk (Loc.blk b6) (SObj.cells [SV.int IntKind.i64 x.1, SV.int IntKind.i64 x.2, SV.str x.3, SV.str x.4] (32 : TypeId)) =
           Ent.mk (Loc.blk b6) (SObj.cells [SV.int IntKind.i64 x.1, SV.int IntKind.i64 x.2, SV.str x.3, SV.str x.4] (32 : TypeId)) ∧
           True) ∧
    (Ent.mk (Loc.sl ao cap) (SObj.roL 4 encStepP bs (StepP.mk (0 : Int) (0 : Int) (ByteArray.mk #[]) (ByteArray.mk #[]))) =
     Ent.mk (Loc.sl ao cap) (SObj.roL 4 encStepP bs (StepP.mk (0 : Int) (0 : Int) (ByteArray.mk #[]) (ByteArray.mk #[]))) ∧
     pkA bt psE s = pkA bt psE s ∧
      Ent.mk (Loc.blk br) (SObj.cells [SV.vec 3 r.aoL (List.length r.3) r.2, SV.int IntKind.i64 r.4, SV.vec 5 r.aoD (List.length r.7) r.6] (30 : TypeId)) =
       Ent.mk (Loc.blk br) (SObj.cells [SV.vec 3 r.aoL (List.length r.3) r.2, SV.int IntKind.i64 r.4, SV.vec 5 r.aoD (List.length r.7) r.6] (30 : TypeId)) ∧
       Ent.mk (Loc.sl r.aoL r.2) (SObj.vecL (62 : TypeId) 2 encRpt r.3 (RPt.mk (ByteArray.mk #[]) (@none Addr) 0 [])) =
        Ent.mk (Loc.sl r.aoL r.2) (SObj.vecL (62 : TypeId) 2 encRpt r.3 (RPt.mk (ByteArray.mk #[]) (@none Addr) 0 [])) ∧
        Ent.mk (Loc.sl g.ao g.3) (SObj.vecL (41 : TypeId) 2 encCN g.4 (CN.mk (0 : Int) (ByteArray.mk #[]))) =
         Ent.mk (Loc.sl g.ao g.3) (SObj.vecL (41 : TypeId) 2 encCN g.4 (CN.mk (0 : Int) (ByteArray.mk #[]))) ∧
         Ent.mk (Loc.sl r.aoD r.6) (SObj.vecL (49 : TypeId) 2 encDN r.7 (DN.mk (0 : Int) (ByteArray.mk #[]))) =
          Ent.mk (Loc.sl r.aoD r.6) (SObj.vecL (49 : TypeId) 2 encDN r.7 (DN.mk (0 : Int) (ByteArray.mk #[]))) ∧
          pk 0 rest = pk 0 rest ∧
           Ent.mk (Loc.blk b6) (SObj.cells [SV.int IntKind.i64 x.1, SV.int IntKind.i64 x.2, SV.str x.3, SV.str x.4] (32 : TypeId)) =
            Ent.mk (Loc.blk b6) (SObj.cells [SV.int IntKind.i64 x.1, SV.int IntKind.i64 x.2, SV.str x.3, SV.str x.4] (32 : TypeId)) ∧
            True) ∧
     N
      [Ent.mk (Loc.sl ao cap) (SObj.roL 4 encStepP bs (StepP.mk (0 : Int) (0 : Int) (ByteArray.mk #[]) (ByteArray.mk #[]))), pkA bt psE s,
       Ent.mk (Loc.blk br) (SObj.cells [SV.vec 3 r.aoL (List.length r.3) r.2, SV.int IntKind.i64 r.4, SV.vec 5 r.aoD (List.length r.7) r.6] (30 : TypeId)),
       Ent.mk (Loc.sl r.aoL r.2) (SObj.vecL (62 : TypeId) 2 encRpt r.3 (RPt.mk (ByteArray.mk #[]) (@none Addr) 0 [])),
       Ent.mk (Loc.sl g.ao g.3) (SObj.vecL (41 : TypeId) 2 encCN g.4 (CN.mk (0 : Int) (ByteArray.mk #[]))),
       Ent.mk (Loc.sl r.aoD r.6) (SObj.vecL (49 : TypeId) 2 encDN r.7 (DN.mk (0 : Int) (ByteArray.mk #[]))), pk 0 rest,
       Ent.mk (Loc.blk b6) (SObj.cells [SV.int IntKind.i64 x.1, SV.int IntKind.i64 x.2, SV.str x.3, SV.str x.4] (32 : TypeId))]
      (SV.bool false)
| false =>
 br = br ∧
  true = true ∧
   bt = bt ∧
    ∃ (h : PS = PS),
     AdtIs (fun (s : PS) (b : Nat) ↦ packs (psE s b)) psE ∧
      psOk s ∧
       (Ent.mk (Loc.sl ao cap) (SObj.roL 4 encStepP bs (StepP.mk (0 : Int) (0 : Int) (ByteArray.mk #[]) (ByteArray.mk #[]))) =
        Ent.mk (Loc.sl ao cap) (SObj.roL 4 encStepP bs (StepP.mk (0 : Int) (0 : Int) (ByteArray.mk #[]) (ByteArray.mk #[]))) ∧
        pkA bt psE s = pkA bt psE s ∧
         Ent.mk (Loc.blk br) (SObj.cells [SV.vec 3 r.aoL (List.length r.3) r.2, SV.int IntKind.i64 r.4, SV.vec 5 r.aoD (List.length r.7) r.6] (30 : TypeId)) =
          Ent.mk (Loc.blk br) (SObj.cells [SV.vec 3 r.aoL (List.length r.3) r.2, SV.int IntKind.i64 r.4, SV.vec 5 r.aoD (List.length r.7) r.6] (30 : TypeId)) ∧
          Ent.mk (Loc.sl r.aoL r.2) (SObj.vecL (62 : TypeId) 2 encRpt r.3 (RPt.mk (ByteArray.mk #[]) (@none Addr) 0 [])) =
           Ent.mk (Loc.sl r.aoL r.2) (SObj.vecL (62 : TypeId) 2 encRpt r.3 (RPt.mk (ByteArray.mk #[]) (@none Addr) 0 [])) ∧
           Ent.mk (Loc.sl g.ao g.3) (SObj.vecL (41 : TypeId) 2 encCN g.4 (CN.mk (0 : Int) (ByteArray.mk #[]))) =
            Ent.mk (Loc.sl g.ao g.3) (SObj.vecL (41 : TypeId) 2 encCN g.4 (CN.mk (0 : Int) (ByteArray.mk #[]))) ∧
            Ent.mk (Loc.sl r.aoD r.6) (SObj.vecL (49 : TypeId) 2 encDN r.7 (DN.mk (0 : Int) (ByteArray.mk #[]))) =
             Ent.mk (Loc.sl r.aoD r.6) (SObj.vecL (49 : TypeId) 2 encDN r.7 (DN.mk (0 : Int) (ByteArray.mk #[]))) ∧
             pk 0 rest = pk 0 rest ∧
              Ent.mk (Loc.blk b6) (SObj.cells [SV.int IntKind.i64 x.1, SV.int IntKind.i64 x.2, SV.str x.3, SV.str x.4] (32 : TypeId)) =
               Ent.mk (Loc.blk b6) (SObj.cells [SV.int IntKind.i64 x.1, SV.int IntKind.i64 x.2, SV.str x.3, SV.str x.4] (32 : TypeId)) ∧
               True) ∧
        match (↑(List.length s.5) : Int) != (↑(List.length r.7) : Int) with
        | true =>
         (Ent.mk (Loc.sl ao cap) (SObj.roL 4 encStepP bs (StepP.mk (0 : Int) (0 : Int) (ByteArray.mk #[]) (ByteArray.mk #[]))) =
          Ent.mk (Loc.sl ao cap) (SObj.roL 4 encStepP bs (StepP.mk (0 : Int) (0 : Int) (ByteArray.mk #[]) (ByteArray.mk #[]))) ∧
          pkA bt psE s = pkA bt psE s ∧
           Ent.mk (Loc.blk br) (SObj.cells [SV.vec 3 r.aoL (List.length r.3) r.2, SV.int IntKind.i64 r.4, SV.vec 5 r.aoD (List.length r.7) r.6] (30 : TypeId)) =
            Ent.mk (Loc.blk br) (SObj.cells [SV.vec 3 r.aoL (List.length r.3) r.2, SV.int IntKind.i64 r.4, SV.vec 5 r.aoD (List.length r.7) r.6] (30 : TypeId)) ∧
            Ent.mk (Loc.sl r.aoL r.2) (SObj.vecL (62 : TypeId) 2 encRpt r.3 (RPt.mk (ByteArray.mk #[]) (@none Addr) 0 [])) =
             Ent.mk (Loc.sl r.aoL r.2) (SObj.vecL (62 : TypeId) 2 encRpt r.3 (RPt.mk (ByteArray.mk #[]) (@none Addr) 0 [])) ∧
             Ent.mk (Loc.sl g.ao g.3) (SObj.vecL (41 : TypeId) 2 encCN g.4 (CN.mk (0 : Int) (ByteArray.mk #[]))) =
              Ent.mk (Loc.sl g.ao g.3) (SObj.vecL (41 : TypeId) 2 encCN g.4 (CN.mk (0 : Int) (ByteArray.mk #[]))) ∧
              Ent.mk (Loc.sl r.aoD r.6) (SObj.vecL (49 : TypeId) 2 encDN r.7 (DN.mk (0 : Int) (ByteArray.mk #[]))) =
               Ent.mk (Loc.sl r.aoD r.6) (SObj.vecL (49 : TypeId) 2 encDN r.7 (DN.mk (0 : Int) (ByteArray.mk #[]))) ∧
               pk 0 rest = pk 0 rest ∧
                Ent.mk (Loc.blk b6) (SObj.cells [SV.int IntKind.i64 x.1, SV.int IntKind.i64 x.2, SV.str x.3, SV.str x.4] (32 : TypeId)) =
                 Ent.mk (Loc.blk b6) (SObj.cells [SV.int IntKind.i64 x.1, SV.int IntKind.i64 x.2, SV.str x.3, SV.str x.4] (32 : TypeId)) ∧
                 True) ∧
          (Ent.mk (Loc.sl ao cap) (SObj.roL 4 encStepP bs (StepP.mk (0 : Int) (0 : Int) (ByteArray.mk #[]) (ByteArray.mk #[]))) =
           Ent.mk (Loc.sl ao cap) (SObj.roL 4 encStepP bs (StepP.mk (0 : Int) (0 : Int) (ByteArray.mk #[]) (ByteArray.mk #[]))) ∧
           pkA bt psE s = pkA bt psE s ∧
            Ent.mk (Loc.blk br) (SObj.cells [SV.vec 3 r.aoL (List.length r.3) r.2, SV.int IntKind.i64 r.4, SV.vec 5 r.aoD (List.length r.7) r.6] (30 : TypeId)) =
             Ent.mk (Loc.blk br) (SObj.cells [SV.vec 3 r.aoL (List.length r.3) r.2, SV.int IntKind.i64 r.4, SV.vec 5 r.aoD (List.length r.7) r.6] (30 : TypeId)) ∧
             Ent.mk (Loc.sl r.aoL r.2) (SObj.vecL (62 : TypeId) 2 encRpt r.3 (RPt.mk (ByteArray.mk #[]) (@none Addr) 0 [])) =
              Ent.mk (Loc.sl r.aoL r.2) (SObj.vecL (62 : TypeId) 2 encRpt r.3 (RPt.mk (ByteArray.mk #[]) (@none Addr) 0 [])) ∧
              Ent.mk (Loc.sl g.ao g.3) (SObj.vecL (41 : TypeId) 2 encCN g.4 (CN.mk (0 : Int) (ByteArray.mk #[]))) =
               Ent.mk (Loc.sl g.ao g.3) (SObj.vecL (41 : TypeId) 2 encCN g.4 (CN.mk (0 : Int) (ByteArray.mk #[]))) ∧
               Ent.mk (Loc.sl r.aoD r.6) (SObj.vecL (49 : TypeId) 2 encDN r.7 (DN.mk (0 : Int) (ByteArray.mk #[]))) =
                Ent.mk (Loc.sl r.aoD r.6) (SObj.vecL (49 : TypeId) 2 encDN r.7 (DN.mk (0 : Int) (ByteArray.mk #[]))) ∧
                pk 0 rest = pk 0 rest ∧
                 Ent.mk (Loc.blk b6) (SObj.cells [SV.int IntKind.i64 x.1, SV.int IntKind.i64 x.2, SV.str x.3, SV.str x.4] (32 : TypeId)) =
                  Ent.mk (Loc.blk b6) (SObj.cells [SV.int IntKind.i64 x.1, SV.int IntKind.i64 x.2, SV.str x.3, SV.str x.4] (32 : TypeId)) ∧
                  True) ∧
           (Ent.mk (Loc.sl ao cap) (SObj.roL 4 encStepP bs (StepP.mk (0 : Int) (0 : Int) (ByteArray.mk #[]) (ByteArray.mk #[]))) =
            Ent.mk (Loc.sl ao cap) (SObj.roL 4 encStepP bs (StepP.mk (0 : Int) (0 : Int) (ByteArray.mk #[]) (ByteArray.mk #[]))) ∧
            pkA bt psE s = pkA bt psE s ∧
             Ent.mk (Loc.blk br) (SObj.cells [SV.vec 3 r.aoL (List.length r.3) r.2, SV.int IntKind.i64 r.4, SV.vec 5 r.aoD (List.length r.7) r.6] (30 : TypeId)) =
              Ent.mk (Loc.blk br) (SObj.cells [SV.vec 3 r.aoL (List.length r.3) r.2, SV.int IntKind.i64 r.4, SV.vec 5 r.aoD (List.length r.7) r.6] (30 : TypeId)) ∧
              Ent.mk (Loc.sl r.aoL r.2) (SObj.vecL (62 : TypeId) 2 encRpt r.3 (RPt.mk (ByteArray.mk #[]) (@none Addr) 0 [])) =
               Ent.mk (Loc.sl r.aoL r.2) (SObj.vecL (62 : TypeId) 2 encRpt r.3 (RPt.mk (ByteArray.mk #[]) (@none Addr) 0 [])) ∧
               Ent.mk (Loc.sl g.ao g.3) (SObj.vecL (41 : TypeId) 2 encCN g.4 (CN.mk (0 : Int) (ByteArray.mk #[]))) =
                Ent.mk (Loc.sl g.ao g.3) (SObj.vecL (41 : TypeId) 2 encCN g.4 (CN.mk (0 : Int) (ByteArray.mk #[]))) ∧
                Ent.mk (Loc.sl r.aoD r.6) (SObj.vecL (49 : TypeId) 2 encDN r.7 (DN.mk (0 : Int) (ByteArray.mk #[]))) =
                 Ent.mk (Loc.sl r.aoD r.6) (SObj.vecL (49 : TypeId) 2 encDN r.7 (DN.mk (0 : Int) (ByteArray.mk #[]))) ∧
                 pk 0 rest = pk 0 rest ∧
                  Ent.mk (Loc.blk b6) (SObj.cells [SV.int IntKind.i64 x.1, SV.int IntKind.i64 x.2, SV.str x.3, SV.str x.4] (32 : TypeId)) =
                   Ent.mk (Loc.blk b6) (SObj.cells [SV.int IntKind.i64 x.1, SV.int IntKind.i64 x.2, SV.str x.3, SV.str x.4] (32 : TypeId)) ∧
                   True) ∧
            N
             [Ent.mk (Loc.sl ao cap) (SObj.roL 4 encStepP bs (StepP.mk (0 : Int) (0 : Int) (ByteArray.mk #[]) (ByteArray.mk #[]))), pkA bt psE s,
              Ent.mk (Loc.blk br) (SObj.cells [SV.vec 3 r.aoL (List.length r.3) r.2, SV.int IntKind.i64 r.4, SV.vec 5 r.aoD (List.length r.7) r.6] (30 : TypeId)),
              Ent.mk (Loc.sl r.aoL r.2) (SObj.vecL (62 : TypeId) 2 encRpt r.3 (RPt.mk (ByteArray.mk #[]) (@none Addr) 0 [])),
              Ent.mk (Loc.sl g.ao g.3) (SObj.vecL (41 : TypeId) 2 encCN g.4 (CN.mk (0 : Int) (ByteArray.mk #[]))),
              Ent.mk (Loc.sl r.aoD r.6) (SObj.vecL (49 : TypeId) 2 encDN r.7 (DN.mk (0 : Int) (ByteArray.mk #[]))), pk 0 rest,
              Ent.mk (Loc.blk b6) (SObj.cells [SV.int IntKind.i64 x.1, SV.int IntKind.i64 x.2, SV.str x.3, SV.str x.4] (32 : TypeId))]
             (SV.bool false)
        | false =>
         b6 = b6 ∧
          b6 = b6 ∧
           true = true ∧
            bt = bt ∧
             ∃ (h : PS = PS),
              AdtIs (fun (s : PS) (b : Nat) ↦ packs (psE s b)) psE ∧
               psOk (cast h s) ∧
                ∀ (ao_1 : Option Addr) (cap_1 : Nat),
                 (Ent.mk (Loc.sl ao cap) (SObj.roL 4 encStepP bs (StepP.mk (0 : Int) (0 : Int) (ByteArray.mk #[]) (ByteArray.mk #[]))) =
                  Ent.mk (Loc.sl ao cap) (SObj.roL 4 encStepP bs (StepP.mk (0 : Int) (0 : Int) (ByteArray.mk #[]) (ByteArray.mk #[]))) ∧
                  pkA bt psE s = pkA bt psE s ∧
                   Ent.mk (Loc.blk br)
                    (SObj.cells [SV.vec 3 r.aoL (List.length r.3) r.2, SV.int IntKind.i64 r.4, SV.vec 5 r.aoD (List.length r.7) r.6] (30 : TypeId)) =
                    Ent.mk (Loc.blk br)
                     (SObj.cells [SV.vec 3 r.aoL (List.length r.3) r.2, SV.int IntKind.i64 r.4, SV.vec 5 r.aoD (List.length r.7) r.6] (30 : TypeId)) ∧
                    Ent.mk (Loc.sl r.aoL r.2) (SObj.vecL (62 : TypeId) 2 encRpt r.3 (RPt.mk (ByteArray.mk #[]) (@none Addr) 0 [])) =
                     Ent.mk (Loc.sl r.aoL r.2) (SObj.vecL (62 : TypeId) 2 encRpt r.3 (RPt.mk (ByteArray.mk #[]) (@none Addr) 0 [])) ∧
                     Ent.mk (Loc.sl g.ao g.3) (SObj.vecL (41 : TypeId) 2 encCN g.4 (CN.mk (0 : Int) (ByteArray.mk #[]))) =
                      Ent.mk (Loc.sl g.ao g.3) (SObj.vecL (41 : TypeId) 2 encCN g.4 (CN.mk (0 : Int) (ByteArray.mk #[]))) ∧
                      Ent.mk (Loc.sl r.aoD r.6) (SObj.vecL (49 : TypeId) 2 encDN r.7 (DN.mk (0 : Int) (ByteArray.mk #[]))) =
                       Ent.mk (Loc.sl r.aoD r.6) (SObj.vecL (49 : TypeId) 2 encDN r.7 (DN.mk (0 : Int) (ByteArray.mk #[]))) ∧
                       pk 0 rest = pk 0 rest ∧
                        Ent.mk (Loc.blk b6) (SObj.cells [SV.int IntKind.i64 x.1, SV.int IntKind.i64 x.2, SV.str x.3, SV.str x.4] (32 : TypeId)) =
                         Ent.mk (Loc.blk b6) (SObj.cells [SV.int IntKind.i64 x.1, SV.int IntKind.i64 x.2, SV.str x.3, SV.str x.4] (32 : TypeId)) ∧
                         True) ∧
                  true = true ∧
                   true = true ∧
                    (br = br ∧ (30 : TypeId) = (30 : TypeId) ∧ false = false) ∧
                     ∃ (L : List RPt),
                      some (Ent.mk (Loc.sl r.aoL r.2) (SObj.vecL (62 : TypeId) 2 encRpt r.3 (RPt.mk (ByteArray.mk #[]) (@none Addr) 0 []))) =
                       some (Ent.mk (Loc.sl r.aoL r.2) (SObj.vecL (62 : TypeId) 2 encRpt L (RPt.mk (ByteArray.mk #[]) (@none Addr) 0 []))) ∧
                       (List.length r.3 = List.length L ∧ List.length L ≤ 1000) ∧
                        match !nHas RPt.name (RPt.mk (ByteArray.mk #[]) (@none Addr) 0 []) L x.3 with
                        | true =>
                         (Ent.mk (Loc.sl ao cap) (SObj.roL 4 encStepP bs (StepP.mk (0 : Int) (0 : Int) (ByteArray.mk #[]) (ByteArray.mk #[]))) =
                          Ent.mk (Loc.sl ao cap) (SObj.roL 4 encStepP bs (StepP.mk (0 : Int) (0 : Int) (ByteArray.mk #[]) (ByteArray.mk #[]))) ∧
                          pkA bt psE s = pkA bt psE s ∧
                           Ent.mk (Loc.blk br)
                            (SObj.cells [SV.vec 3 r.aoL (List.length r.3) r.2, SV.int IntKind.i64 r.4, SV.vec 5 r.aoD (List.length r.7) r.6]
                             (30 : TypeId)) =
                            Ent.mk (Loc.blk br)
                             (SObj.cells [SV.vec 3 r.aoL (List.length r.3) r.2, SV.int IntKind.i64 r.4, SV.vec 5 r.aoD (List.length r.7) r.6]
                              (30 : TypeId)) ∧
                            Ent.mk (Loc.sl r.aoL r.2) (SObj.vecL (62 : TypeId) 2 encRpt r.3 (RPt.mk (ByteArray.mk #[]) (@none Addr) 0 [])) =
                             Ent.mk (Loc.sl r.aoL r.2) (SObj.vecL (62 : TypeId) 2 encRpt r.3 (RPt.mk (ByteArray.mk #[]) (@none Addr) 0 [])) ∧
                             Ent.mk (Loc.sl g.ao g.3) (SObj.vecL (41 : TypeId) 2 encCN g.4 (CN.mk (0 : Int) (ByteArray.mk #[]))) =
                              Ent.mk (Loc.sl g.ao g.3) (SObj.vecL (41 : TypeId) 2 encCN g.4 (CN.mk (0 : Int) (ByteArray.mk #[]))) ∧
                              Ent.mk (Loc.sl r.aoD r.6) (SObj.vecL (49 : TypeId) 2 encDN r.7 (DN.mk (0 : Int) (ByteArray.mk #[]))) =
                               Ent.mk (Loc.sl r.aoD r.6) (SObj.vecL (49 : TypeId) 2 encDN r.7 (DN.mk (0 : Int) (ByteArray.mk #[]))) ∧
                               pk 0 rest = pk 0 rest ∧
                                Ent.mk (Loc.blk b6) (SObj.cells [SV.int IntKind.i64 x.1, SV.int IntKind.i64 x.2, SV.str x.3, SV.str x.4] (32 : TypeId)) =
                                 Ent.mk (Loc.blk b6) (SObj.cells [SV.int IntKind.i64 x.1, SV.int IntKind.i64 x.2, SV.str x.3, SV.str x.4] (32 : TypeId)) ∧
                                 True) ∧
                          true = true ∧
                           List.length (pWait s x.3) = 0 ∧
                            (Ent.mk (Loc.sl ao cap) (SObj.roL 4 encStepP bs (StepP.mk (0 : Int) (0 : Int) (ByteArray.mk #[]) (ByteArray.mk #[]))) =
                             Ent.mk (Loc.sl ao cap) (SObj.roL 4 encStepP bs (StepP.mk (0 : Int) (0 : Int) (ByteArray.mk #[]) (ByteArray.mk #[]))) ∧
                             pkA bt psE s = pkA bt psE s ∧
                              Ent.mk (Loc.blk br)
                               (SObj.cells [SV.vec 3 r.aoL (List.length r.3) r.2, SV.int IntKind.i64 r.4, SV.vec 5 r.aoD (List.length r.7) r.6]
                                (30 : TypeId)) =
                               Ent.mk (Loc.blk br)
                                (SObj.cells [SV.vec 3 r.aoL (List.length r.3) r.2, SV.int IntKind.i64 r.4, SV.vec 5 r.aoD (List.length r.7) r.6]
                                 (30 : TypeId)) ∧
                               Ent.mk (Loc.sl r.aoL r.2) (SObj.vecL (62 : TypeId) 2 encRpt r.3 (RPt.mk (ByteArray.mk #[]) (@none Addr) 0 [])) =
                                Ent.mk (Loc.sl r.aoL r.2) (SObj.vecL (62 : TypeId) 2 encRpt r.3 (RPt.mk (ByteArray.mk #[]) (@none Addr) 0 [])) ∧
                                Ent.mk (Loc.sl g.ao g.3) (SObj.vecL (41 : TypeId) 2 encCN g.4 (CN.mk (0 : Int) (ByteArray.mk #[]))) =
                                 Ent.mk (Loc.sl g.ao g.3) (SObj.vecL (41 : TypeId) 2 encCN g.4 (CN.mk (0 : Int) (ByteArray.mk #[]))) ∧
                                 Ent.mk (Loc.sl r.aoD r.6) (SObj.vecL (49 : TypeId) 2 encDN r.7 (DN.mk (0 : Int) (ByteArray.mk #[]))) =
                                  Ent.mk (Loc.sl r.aoD r.6) (SObj.vecL (49 : TypeId) 2 encDN r.7 (DN.mk (0 : Int) (ByteArray.mk #[]))) ∧
                                  pk 0 rest = pk 0 rest ∧
                                   Ent.mk (Loc.blk b6) (SObj.cells [SV.int IntKind.i64 x.1, SV.int IntKind.i64 x.2, SV.str x.3, SV.str x.4] (32 : TypeId)) =
                                    Ent.mk (Loc.blk b6) (SObj.cells [SV.int IntKind.i64 x.1, SV.int IntKind.i64 x.2, SV.str x.3, SV.str x.4] (32 : TypeId)) ∧
                                    True) ∧
                             K (frmR [J0] (bodyOf Try.f3) 41)
                              (Sy.mk (SV.vec 0 ao (List.length bs) cap :: (SV.raw (u 1) :: (SV.raw (u 2) :: (SV.ptr 1 bt 0 :: (SV.ptr 2 br 0 :: (SV.int IntKind.i64 (↑i : Int) :: (SV.ptr 7 b6 0 :: (SV.int IntKind.i64 e :: (SV.int IntKind.i64 e :: (rawR u 9 (SV.int IntKind.i64 e :: (SV.int IntKind.i64 e :: ((SV.bool (e != e)) :: (SV.bool false :: (SV.ptr 1 bt 0 :: (SV.int IntKind.i64 (↑(List.length s.5) : Int) :: (SV.ptr 2 br 0 :: (SV.ptr 2 br 0 :: (SV.ptr 2 br 2 :: (SV.vec 5 r.aoD (List.length r.7) r.6 :: (SV.int IntKind.i64 (↑(List.length r.7) : Int) :: ((SV.bool ((↑(List.length s.5) : Int) != (↑(List.length r.7) : Int))) :: ((SV.bool ((↑(List.length s.5) : Int) != (↑(List.length r.7) : Int))) :: (SV.bool false :: (SV.ptr 1 bt 0 :: (SV.ptr 7 b6 2 :: (SV.str x.3 :: (SV.vec 8 ao_1 (List.length (pWait s x.3)) cap_1 :: (SV.ptr 2 br 0 :: (SV.ptr 7 b6 2 :: (SV.str x.3 :: (SV.raw (Value.slice (@none Addr) 0 0) :: (SV.bool true :: (SV.bool false :: (SV.bool false :: (rawR u 180 [] 28)))))))))))))))))))))))))) 146))))))))))
                               [Ent.mk (Loc.sl ao cap) (SObj.roL 4 encStepP bs (StepP.mk (0 : Int) (0 : Int) (ByteArray.mk #[]) (ByteArray.mk #[]))),
                                pkA bt psE s,
                                Ent.mk (Loc.blk br)
                                 (SObj.cells [SV.vec 3 r.aoL (List.length r.3) r.2, SV.int IntKind.i64 r.4, SV.vec 5 r.aoD (List.length r.7) r.6]
                                  (30 : TypeId)),
                                Ent.mk (Loc.sl r.aoL r.2) (SObj.vecL (62 : TypeId) 2 encRpt r.3 (RPt.mk (ByteArray.mk #[]) (@none Addr) 0 [])),
                                Ent.mk (Loc.sl g.ao g.3) (SObj.vecL (41 : TypeId) 2 encCN g.4 (CN.mk (0 : Int) (ByteArray.mk #[]))),
                                Ent.mk (Loc.sl r.aoD r.6) (SObj.vecL (49 : TypeId) 2 encDN r.7 (DN.mk (0 : Int) (ByteArray.mk #[]))), pk 0 rest,
                                Ent.mk (Loc.blk b6) (SObj.cells [SV.int IntKind.i64 x.1, SV.int IntKind.i64 x.2, SV.str x.3, SV.str x.4] (32 : TypeId)),
                                Ent.mk (Loc.sl ao_1 cap_1) (SObj.vecL (41 : TypeId) 2 encCN (pWait s x.3) (CN.mk (0 : Int) (ByteArray.mk #[])))])
                        | false =>
                         br = br ∧
                          (r.aoL = r.aoL ∧
                           r.2 = r.2 ∧
                            List.length r.3 = List.length r.3 ∧ (0 : Int) ≤ (↑(nAt RPt.name L x.3) : Int) ∧ (↑(nAt RPt.name L x.3) : Int) < (↑(List.length r.3) : Int)) ∧
                           (Addr.blkD r.aoL = Addr.blkD r.aoL ∧
                            Addr.offD r.aoL = Addr.offD r.aoL ∧ 2 = 2 ∧ Int.toNat (↑(nAt RPt.name L x.3) : Int) < List.length r.3) ∧
                            (Ent.mk (Loc.sl ao cap) (SObj.roL 4 encStepP bs (StepP.mk (0 : Int) (0 : Int) (ByteArray.mk #[]) (ByteArray.mk #[]))) =
                             Ent.mk (Loc.sl ao cap) (SObj.roL 4 encStepP bs (StepP.mk (0 : Int) (0 : Int) (ByteArray.mk #[]) (ByteArray.mk #[]))) ∧
                             pkA bt psE s = pkA bt psE s ∧
                              Ent.mk (Loc.blk br)
                               (SObj.cells [SV.vec 3 r.aoL (List.length r.3) r.2, SV.int IntKind.i64 r.4, SV.vec 5 r.aoD (List.length r.7) r.6]
                                (30 : TypeId)) =
                               Ent.mk (Loc.blk br)
                                (SObj.cells [SV.vec 3 r.aoL (List.length r.3) r.2, SV.int IntKind.i64 r.4, SV.vec 5 r.aoD (List.length r.7) r.6]
                                 (30 : TypeId)) ∧
                               Ent.mk (Loc.sl r.aoL r.2) (SObj.vecL (62 : TypeId) 2 encRpt r.3 (RPt.mk (ByteArray.mk #[]) (@none Addr) 0 [])) =
                                Ent.mk (Loc.sl r.aoL r.2) (SObj.vecL (62 : TypeId) 2 encRpt r.3 (RPt.mk (ByteArray.mk #[]) (@none Addr) 0 [])) ∧
                                Ent.mk (Loc.sl g.ao g.3) (SObj.vecL (41 : TypeId) 2 encCN g.4 (CN.mk (0 : Int) (ByteArray.mk #[]))) =
                                 Ent.mk (Loc.sl g.ao g.3) (SObj.vecL (41 : TypeId) 2 encCN g.4 (CN.mk (0 : Int) (ByteArray.mk #[]))) ∧
                                 Ent.mk (Loc.sl r.aoD r.6) (SObj.vecL (49 : TypeId) 2 encDN r.7 (DN.mk (0 : Int) (ByteArray.mk #[]))) =
                                  Ent.mk (Loc.sl r.aoD r.6) (SObj.vecL (49 : TypeId) 2 encDN r.7 (DN.mk (0 : Int) (ByteArray.mk #[]))) ∧
                                  pk 0 rest = pk 0 rest ∧
                                   Ent.mk (Loc.blk b6) (SObj.cells [SV.int IntKind.i64 x.1, SV.int IntKind.i64 x.2, SV.str x.3, SV.str x.4] (32 : TypeId)) =
                                    Ent.mk (Loc.blk b6) (SObj.cells [SV.int IntKind.i64 x.1, SV.int IntKind.i64 x.2, SV.str x.3, SV.str x.4] (32 : TypeId)) ∧
                                    True) ∧
                             true = true ∧
                              ∃ (xs : List CN),
                               some (Ent.mk (Loc.sl ao_1 cap_1) (SObj.vecL (41 : TypeId) 2 encCN (pWait s x.3) (CN.mk (0 : Int) (ByteArray.mk #[])))) =
                                some (Ent.mk (Loc.sl ao_1 cap_1) (SObj.vecL (41 : TypeId) 2 encCN xs (CN.mk (0 : Int) (ByteArray.mk #[])))) ∧
                                some (Ent.mk (Loc.sl g.ao g.3) (SObj.vecL (41 : TypeId) 2 encCN g.4 (CN.mk (0 : Int) (ByteArray.mk #[])))) =
                                 some
                                  (Ent.mk
                                   (Loc.sl (List.getD r.3 (Int.toNat (↑(nAt RPt.name L x.3) : Int)) (RPt.mk (ByteArray.mk #[]) (@none Addr) 0 [])).ao
                                    (List.getD r.3 (Int.toNat (↑(nAt RPt.name L x.3) : Int)) (RPt.mk (ByteArray.mk #[]) (@none Addr) 0 [])).3)
                                   (SObj.vecL (41 : TypeId) 2 encCN xs (CN.mk (0 : Int) (ByteArray.mk #[])))) ∧
                                 (false = false ∧
                                  List.length (pWait s x.3) = List.length xs ∧
                                   List.length (List.getD r.3 (Int.toNat (↑(nAt RPt.name L x.3) : Int)) (RPt.mk (ByteArray.mk #[]) (@none Addr) 0 [])).4 =
                                    List.length xs ∧
                                    List.length xs ≤ 1000000) ∧
                                  (Ent.mk (Loc.sl ao cap) (SObj.roL 4 encStepP bs (StepP.mk (0 : Int) (0 : Int) (ByteArray.mk #[]) (ByteArray.mk #[]))) =
                                   Ent.mk (Loc.sl ao cap) (SObj.roL 4 encStepP bs (StepP.mk (0 : Int) (0 : Int) (ByteArray.mk #[]) (ByteArray.mk #[]))) ∧
                                   pkA bt psE s = pkA bt psE s ∧
                                    Ent.mk (Loc.blk br)
                                     (SObj.cells
                                      [SV.vec 3 r.aoL (List.length r.3) r.2, SV.int IntKind.i64 r.4, SV.vec 5 r.aoD (List.length r.7) r.6]
                                      (30 : TypeId)) =
                                     Ent.mk (Loc.blk br)
                                      (SObj.cells
                                       [SV.vec 3 r.aoL (List.length r.3) r.2, SV.int IntKind.i64 r.4, SV.vec 5 r.aoD (List.length r.7) r.6]
                                       (30 : TypeId)) ∧
                                     Ent.mk (Loc.sl r.aoL r.2)
                                      (SObj.vecL (62 : TypeId) 2 encRpt r.3 (RPt.mk (ByteArray.mk #[]) (@none Addr) 0 [])) =
                                      Ent.mk (Loc.sl r.aoL r.2)
                                       (SObj.vecL (62 : TypeId) 2 encRpt r.3 (RPt.mk (ByteArray.mk #[]) (@none Addr) 0 [])) ∧
                                      Ent.mk (Loc.sl g.ao g.3) (SObj.vecL (41 : TypeId) 2 encCN g.4 (CN.mk (0 : Int) (ByteArray.mk #[]))) =
                                       Ent.mk (Loc.sl g.ao g.3) (SObj.vecL (41 : TypeId) 2 encCN g.4 (CN.mk (0 : Int) (ByteArray.mk #[]))) ∧
                                       Ent.mk (Loc.sl r.aoD r.6) (SObj.vecL (49 : TypeId) 2 encDN r.7 (DN.mk (0 : Int) (ByteArray.mk #[]))) =
                                        Ent.mk (Loc.sl r.aoD r.6) (SObj.vecL (49 : TypeId) 2 encDN r.7 (DN.mk (0 : Int) (ByteArray.mk #[]))) ∧
                                        pk 0 rest = pk 0 rest ∧
                                         Ent.mk (Loc.blk b6)
                                          (SObj.cells [SV.int IntKind.i64 x.1, SV.int IntKind.i64 x.2, SV.str x.3, SV.str x.4] (32 : TypeId)) =
                                          Ent.mk (Loc.blk b6)
                                           (SObj.cells [SV.int IntKind.i64 x.1, SV.int IntKind.i64 x.2, SV.str x.3, SV.str x.4] (32 : TypeId)) ∧
                                          True) ∧
                                   K (frmR [J0] (bodyOf Try.f3) 41)
                                    (Sy.mk (SV.vec 0 ao (List.length bs) cap :: (SV.raw (u 1) :: (SV.raw (u 2) :: (SV.ptr 1 bt 0 :: (SV.ptr 2 br 0 :: (SV.int IntKind.i64 (↑i : Int) :: (SV.ptr 7 b6 0 :: (SV.int IntKind.i64 e :: (SV.int IntKind.i64 e :: (rawR u 9 (SV.int IntKind.i64 e :: (SV.int IntKind.i64 e :: ((SV.bool (e != e)) :: (SV.bool false :: (SV.ptr 1 bt 0 :: (SV.int IntKind.i64 (↑(List.length s.5) : Int) :: (SV.ptr 2 br 0 :: (SV.ptr 2 br 0 :: (SV.ptr 2 br 2 :: (SV.vec 5 r.aoD (List.length r.7) r.6 :: (SV.int IntKind.i64 (↑(List.length r.7) : Int) :: ((SV.bool ((↑(List.length s.5) : Int) != (↑(List.length r.7) : Int))) :: ((SV.bool ((↑(List.length s.5) : Int) != (↑(List.length r.7) : Int))) :: (SV.bool false :: (SV.ptr 1 bt 0 :: (SV.ptr 7 b6 2 :: (SV.str x.3 :: (SV.vec 8 ao_1 (List.length (pWait s x.3)) cap_1 :: (SV.ptr 2 br 0 :: (SV.ptr 7 b6 2 :: (SV.str x.3 :: (SV.vec 4 (List.getD r.3 (Int.toNat (↑(nAt RPt.name L x.3) : Int)) (RPt.mk (ByteArray.mk #[]) (@none Addr) 0 [])).ao (List.length (List.getD r.3 (Int.toNat (↑(nAt RPt.name L x.3) : Int)) (RPt.mk (ByteArray.mk #[]) (@none Addr) 0 [])).4) (List.getD r.3 (Int.toNat (↑(nAt RPt.name L x.3) : Int)) (RPt.mk (ByteArray.mk #[]) (@none Addr) 0 [])).3 :: (SV.bool true :: (SV.bool false :: (SV.bool false :: (rawR u 180 [] 28)))))))))))))))))))))))))) 146))))))))))
                                     [Ent.mk (Loc.sl ao cap) (SObj.roL 4 encStepP bs (StepP.mk (0 : Int) (0 : Int) (ByteArray.mk #[]) (ByteArray.mk #[]))),
                                      pkA bt psE s,
                                      Ent.mk (Loc.blk br)
                                       (SObj.cells
                                        [SV.vec 3 r.aoL (List.length r.3) r.2, SV.int IntKind.i64 r.4, SV.vec 5 r.aoD (List.length r.7) r.6]
                                        (30 : TypeId)),
                                      Ent.mk (Loc.sl r.aoL r.2)
                                       (SObj.vecL (62 : TypeId) 2 encRpt r.3 (RPt.mk (ByteArray.mk #[]) (@none Addr) 0 [])),
                                      Ent.mk (Loc.sl g.ao g.3) (SObj.vecL (41 : TypeId) 2 encCN g.4 (CN.mk (0 : Int) (ByteArray.mk #[]))),
                                      Ent.mk (Loc.sl r.aoD r.6) (SObj.vecL (49 : TypeId) 2 encDN r.7 (DN.mk (0 : Int) (ByteArray.mk #[]))),
                                      pk 0 rest,
                                      Ent.mk (Loc.blk b6) (SObj.cells [SV.int IntKind.i64 x.1, SV.int IntKind.i64 x.2, SV.str x.3, SV.str x.4] (32 : TypeId)),
                                      Ent.mk (Loc.sl ao_1 cap_1) (SObj.vecL (41 : TypeId) 2 encCN (pWait s x.3) (CN.mk (0 : Int) (ByteArray.mk #[])))])) := by kernel_rfl


theorem pt_41 (K : List Frm → Sy → Prop) (N : List Ent → SV → Prop) (J0 : Act → World → Prop) (ao : Option Addr) (cap : Nat) (bs : List StepP) (bt br : Nat) (s : PS) (r : RPs) (i : Nat) (x : StepP) (b6 : Nat) (u : Nat → Value) : (run Try.prog plT false [] K (retP Try.prog Try.f3.results.toList N) 900 (frmR [J0] (bodyOf Try.f3) 41) ⟨mkT u 208 0 [(0, .vec 0 ao bs.length cap), (3, .ptr 1 bt 0), (4, .ptr 2 br 0), (5, .int .i64 (i : Int)), (6, .ptr 6 b6 0)], [⟨.sl ao cap, .roL 4 encStepP bs StepP.zero⟩, pkA bt psE s, ⟨.blk br, .cells [.vec 3 r.aoL r.L.length r.capL, .int .i64 r.nx, .vec 4 r.aoD r.ds.length r.capD] 30⟩, ⟨.sl r.aoL r.capL, .vecL 62 2 encRpt r.L zP⟩, ⟨.sl r.aoD r.capD, .vecL 49 2 encDN r.ds DN.zero⟩, pk 0 (r.L.map cnE), ⟨.blk b6, .cells (encStepP x) 32⟩]⟩) = (
∀ (b : Nat),
 true = true ∧
  true = true ∧
   ∀ (b_1 : Nat),
    true = true ∧
     29 = (29 : FuncId) ∧
      ∃ (s_1 : PS),
       ∃ (r_1 : RPs),
        ∃ (k : Nat),
         ∃ (lp : Nat),
          ∃ (bp : Nat),
           some (Ent.mk (Loc.blk b) (SObj.cells [SV.raw (Value.slice (@none Addr) 0 0)] 56)) =
            some (Ent.mk (Loc.blk b) (SObj.cells [SV.raw (Value.slice (@none Addr) 0 0)] (56 : TypeId))) ∧
            some (Ent.mk (Loc.blk b_1) (SObj.cells [SV.ptr 1 bt 0] 24)) = some (Ent.mk (Loc.blk b_1) (SObj.cells [SV.ptr lp bp 0] (24 : TypeId))) ∧
             nth
              [Ent.mk (Loc.sl ao cap) (SObj.roL 4 encStepP bs (StepP.mk (0 : Int) (0 : Int) (ByteArray.mk #[]) (ByteArray.mk #[]))), pkA bt psE s,
               Ent.mk (Loc.blk br) (SObj.cells [SV.vec 3 r.aoL (List.length r.3) r.2, SV.int IntKind.i64 r.4, SV.vec 4 r.aoD (List.length r.7) r.6] (30 : TypeId)),
               Ent.mk (Loc.sl r.aoL r.2) (SObj.vecL (62 : TypeId) 2 encRpt r.3 (RPt.mk (ByteArray.mk #[]) (@none Addr) 0 [])),
               Ent.mk (Loc.sl r.aoD r.6) (SObj.vecL (49 : TypeId) 2 encDN r.7 (DN.mk (0 : Int) (ByteArray.mk #[]))), pk 0 (List.map cnE r.3),
               Ent.mk (Loc.blk b6) (SObj.cells [SV.int IntKind.i64 x.1, SV.int IntKind.i64 x.2, SV.str x.3, SV.str x.4] (32 : TypeId)),
               Ent.mk (Loc.blk b) (SObj.cells [SV.raw (Value.slice (@none Addr) 0 0)] 56),
               Ent.mk (Loc.blk b_1) (SObj.cells [SV.ptr 1 bt 0] 24)]
              lp =
              some (pkA bp psE s_1) ∧
              distinct [lp, 8, 7] = true ∧
               (PL s_1 r_1 k ∧ k ≤ 150) ∧
                ∀ (ao_1 : Option Addr) (cap_1 : Nat),
                 K
                  (frm [J0] (bodyOf Try.f3)
                   [1, 1, 1, 1, 0, 1, 0, 0, 1, 0, 0, 1, 1, 1,
                    1, 1, 1, 1, 0, 1, 0]
                   [])
                  (Sy.mk (SV.vec 0 ao (List.length bs) cap :: (SV.raw (u 1) :: (SV.raw (u 2) :: (SV.ptr 1 bt 0 :: (SV.ptr 2 br 0 :: (SV.int IntKind.i64 (↑i : Int) :: (SV.ptr 6 b6 0 :: (rawR u 7 (SV.ptr 7 b 0 :: (SV.raw (Value.slice (@none Addr) 0 0) :: (SV.int IntKind.i64 (0 : Int) :: (rawR u 24 (SV.ptr 1 bt 0 :: (SV.func (Fn.func 76) [] [SV.ptr 8 b_1 0] :: (SV.func (Fn.func 29) [] [SV.ptr 7 b 0] :: (SV.tuple [] :: (rawR u 184 [] 24))))) 156)))) 14))))))))
                   [Ent.mk (Loc.sl ao cap) (SObj.roL 4 encStepP bs (StepP.mk (0 : Int) (0 : Int) (ByteArray.mk #[]) (ByteArray.mk #[]))), pkA bt psE s,
                    Ent.mk (Loc.blk br)
                     (SObj.cells [SV.vec 3 r.aoL (List.length r.3) r.2, SV.int IntKind.i64 r.4, SV.vec 4 r.aoD (List.length r.7) r.6] (30 : TypeId)),
                    Ent.mk (Loc.sl r.aoL r.2) (SObj.vecL (62 : TypeId) 2 encRpt r.3 (RPt.mk (ByteArray.mk #[]) (@none Addr) 0 [])),
                    Ent.mk (Loc.sl r.aoD r.6) (SObj.vecL (49 : TypeId) 2 encDN r.7 (DN.mk (0 : Int) (ByteArray.mk #[]))), pk 0 (List.map cnE r.3),
                    Ent.mk (Loc.blk b6) (SObj.cells [SV.int IntKind.i64 x.1, SV.int IntKind.i64 x.2, SV.str x.3, SV.str x.4] (32 : TypeId)),
                    Ent.mk (Loc.blk b) (SObj.cells [SV.vec 9 ao_1 (List.length r_1.3) cap_1] (56 : TypeId)),
                    Ent.mk (Loc.blk b_1) (SObj.cells [SV.ptr 1 bt 0] 24),
                    Ent.mk (Loc.sl ao_1 cap_1) (SObj.vecL (9 : TypeId) 1 encS (List.map RPt.name r_1.3) ByteArray.empty)])) := by kernel_rfl
end Go.Proofs.Ytkcmgcoppecfpaa

namespace Go.Proofs.Ytkcmgcoppecfpaa
open Go Go.RowKit

theorem pt_l2 (K : List Frm → Sy → Prop) (N : List Ent → SV → Prop) (J0 J1 : Act → World → Prop) (ao : Option Addr) (cap : Nat) (bs : List StepP) (bt br : Nat) (s : PS) (r : RPs) (i : Nat) (x : StepP) (b6 : Nat) (b21 : Nat) (aa : Option Addr) (ca : Nat) (ab : Option Addr) (cb : Nat) (got : List ByteArray) (k : Nat) (u : Nat → Value) : (run Try.prog plT false [] K (retP Try.prog Try.f3.results.toList N) 2000 (frm [J0, J1] (bodyOf Try.f3) [1, 1, 1, 1, 0, 1, 0, 0, 1, 0, 0, 1, 1, 1, 1, 1, 1, 1, 0, 1, 0, 0] []) ⟨mkT u 208 0 [(0, .vec 0 ao bs.length cap), (3, .ptr 1 bt 0), (4, .ptr 2 br 0), (5, .int .i64 (i : Int)), (21, .ptr 7 b21 0), (22, .vec 9 ab got.length cb), (23, .int .i64 (k : Int))], [⟨.sl ao cap, .roL 4 encStepP bs StepP.zero⟩, pkA bt psE s, ⟨.blk br, .cells [.vec 3 r.aoL r.L.length r.capL, .int .i64 r.nx, .vec 4 r.aoD r.ds.length r.capD] 30⟩, ⟨.sl r.aoL r.capL, .vecL 62 2 encRpt r.L zP⟩, ⟨.sl r.aoD r.capD, .vecL 49 2 encDN r.ds DN.zero⟩, pk 0 (r.L.map cnE), ⟨.blk b6, .cells (encStepP x) 32⟩, ⟨.blk b21, .cells [.vec 8 aa r.L.length ca] 56⟩, ⟨.sl aa ca, .vecL 9 1 encS (r.L.map RPt.name) ByteArray.empty⟩, ⟨.sl ab cb, .vecL 9 1 encS got ByteArray.empty⟩]⟩) = (
br = br ∧
 match decide ((↑k : Int) < (↑(List.length r.3) : Int)) with
 | true =>
  br = br ∧
   (r.aoL = r.aoL ∧ r.2 = r.2 ∧ List.length r.3 = List.length r.3 ∧ (0 : Int) ≤ (↑k : Int) ∧ (↑k : Int) < (↑(List.length r.3) : Int)) ∧
    (Addr.blkD r.aoL = Addr.blkD r.aoL ∧ Addr.offD r.aoL = Addr.offD r.aoL ∧ 2 = 2 ∧ Int.toNat (↑k : Int) < List.length r.3) ∧
     (true = true ∧ 1 = 1 ∧ 0 < 1 ∧ 1 ≤ 16777216) ∧
      ∀ (b : Nat),
       (ab = ab ∧
        cb = cb ∧
         List.length got = List.length got ∧
          some (Addr.mk b 0 (@none Nat)) = some (Addr.mk b 0 (@none Nat)) ∧
           (9 : TypeId) = 9 ∧
            1 = 1 ∧
             1 = 1 ∧
              0 < 1 ∧ true = true ∧ (List.length got + 1) * 16 ≤ 140737488355328 ∧ List.length got + 1 ≤ 9223372036854775807) ∧
        ∃ (es : List ByteArray),
         List.length es = 1 ∧
          denL (List.flatMap encS es) = denL [SV.str (List.getD r.3 (Int.toNat (↑k : Int)) (RPt.mk (ByteArray.mk #[]) (@none Addr) 0 [])).1] ∧
           ∀ (ao2 : Option Addr) (cap2 : Nat),
            List.length got + 1 ≤ cap2 →
             K
              (Frm.loop J1 ::
               Frm.blk 3 ::
                frm [J0] (bodyOf Try.f3)
                 [1, 1, 1, 1, 0, 1, 0, 0, 1, 0, 0, 1, 1, 1, 1,
                  1, 1, 1, 1]
                 [])
              (Sy.mk (SV.vec 0 ao (List.length bs) cap :: (SV.raw (u 1) :: (SV.raw (u 2) :: (SV.ptr 1 bt 0 :: (SV.ptr 2 br 0 :: (SV.int IntKind.i64 (↑i : Int) :: (rawR u 6 (SV.ptr 7 b21 0 :: (SV.vec 9 ao2 (List.length got + 1) cap2 :: (SV.int IntKind.i64 (IntKind.wrap IntKind.i64 ((↑k : Int) + (1 : Int))) :: (rawR u 24 (SV.int IntKind.i64 (↑k : Int) :: (SV.ptr 2 br 0 :: (SV.ptr 2 br 0 :: (SV.ptr 2 br 0 :: (SV.vec 3 r.aoL (List.length r.3) r.2 :: (SV.int IntKind.i64 (↑(List.length r.3) : Int) :: (SV.bool true :: (SV.int IntKind.i64 (↑k : Int) :: (SV.int IntKind.i64 (IntKind.wrap IntKind.i64 ((↑k : Int) + (1 : Int))) :: (SV.vec 9 ab (List.length got) cb :: (SV.ptr 2 br 0 :: (SV.ptr 2 br 0 :: (SV.ptr 2 br 0 :: (SV.vec 3 r.aoL (List.length r.3) r.2 :: (SV.int IntKind.i64 (↑k : Int) :: (SV.eptr 3 (Addr.blkD r.aoL) (Addr.offD r.aoL) 2 (Int.toNat (↑k : Int)) 0 :: (SV.eptr 3 (Addr.blkD r.aoL) (Addr.offD r.aoL) 2 (Int.toNat (↑k : Int)) 0 :: (SV.str (List.getD r.3 (Int.toNat (↑k : Int)) (RPt.mk (ByteArray.mk #[]) (@none Addr) 0 [])).1 :: (SV.vec 10 (some (Addr.mk b 0 (@none Nat))) 1 1 :: (SV.vec 9 ao2 (List.length got + 1) cap2 :: (rawR u 204 [] 4))))))))))))))))))))) 160)))) 15)))))))
               [Ent.mk (Loc.sl ao cap) (SObj.roL 4 encStepP bs (StepP.mk (0 : Int) (0 : Int) (ByteArray.mk #[]) (ByteArray.mk #[]))), pkA bt psE s,
                Ent.mk (Loc.blk br) (SObj.cells [SV.vec 3 r.aoL (List.length r.3) r.2, SV.int IntKind.i64 r.4, SV.vec 4 r.aoD (List.length r.7) r.6] (30 : TypeId)),
                Ent.mk (Loc.sl r.aoL r.2) (SObj.vecL (62 : TypeId) 2 encRpt r.3 (RPt.mk (ByteArray.mk #[]) (@none Addr) 0 [])),
                Ent.mk (Loc.sl r.aoD r.6) (SObj.vecL (49 : TypeId) 2 encDN r.7 (DN.mk (0 : Int) (ByteArray.mk #[]))), pk 0 (List.map cnE r.3),
                Ent.mk (Loc.blk b6) (SObj.cells [SV.int IntKind.i64 x.1, SV.int IntKind.i64 x.2, SV.str x.3, SV.str x.4] (32 : TypeId)),
                Ent.mk (Loc.blk b21) (SObj.cells [SV.vec 8 aa (List.length r.3) ca] (56 : TypeId)),
                Ent.mk (Loc.sl aa ca) (SObj.vecL (9 : TypeId) 1 encS (List.map RPt.name r.3) ByteArray.empty),
                Ent.mk (Loc.sl ao2 cap2) (SObj.vecL (9 : TypeId) 1 encS (got ++ es) ByteArray.empty),
                Ent.mk (Loc.blk b) (SObj.cells [SV.str (List.getD r.3 (Int.toNat (↑k : Int)) (RPt.mk (ByteArray.mk #[]) (@none Addr) 0 [])).1] 9)])
 | false =>
  b21 = b21 ∧
   true = true ∧
    ∃ (xs : List ByteArray),
     some (Ent.mk (Loc.sl aa ca) (SObj.vecL (9 : TypeId) 1 encS (List.map RPt.name r.3) ByteArray.empty)) =
      some (Ent.mk (Loc.sl aa ca) (SObj.vecL (9 : TypeId) 1 encS xs ByteArray.empty)) ∧
      some (Ent.mk (Loc.sl ab cb) (SObj.vecL (9 : TypeId) 1 encS got ByteArray.empty)) = some (Ent.mk (Loc.sl ab cb) (SObj.vecL (9 : TypeId) 1 encS xs ByteArray.empty)) ∧
       (false = false ∧ List.length r.3 = List.length xs ∧ List.length got = List.length xs ∧ List.length xs ≤ 1000000) ∧
        K (Frm.loop J0 :: Frm.blk 0 :: frm [] (bodyOf Try.f3) [1, 1, 1, 1, 1] [])
         (Sy.mk (SV.vec 0 ao (List.length bs) cap :: (SV.raw (u 1) :: (SV.raw (u 2) :: (SV.ptr 1 bt 0 :: (SV.ptr 2 br 0 :: (SV.int IntKind.i64 (IntKind.wrap IntKind.i64 ((↑i : Int) + (1 : Int))) :: (rawR u 6 (SV.ptr 7 b21 0 :: (SV.vec 9 ab (List.length got) cb :: (SV.int IntKind.i64 (↑k : Int) :: (rawR u 24 (SV.int IntKind.i64 (↑i : Int) :: (SV.int IntKind.i64 (IntKind.wrap IntKind.i64 ((↑i : Int) + (1 : Int))) :: (rawR u 38 (SV.int IntKind.i64 (↑k : Int) :: (SV.ptr 2 br 0 :: (SV.ptr 2 br 0 :: (SV.ptr 2 br 0 :: (SV.vec 3 r.aoL (List.length r.3) r.2 :: (SV.int IntKind.i64 (↑(List.length r.3) : Int) :: (SV.bool false :: (rawR u 191 (SV.vec 8 aa (List.length r.3) ca :: (SV.vec 9 ab (List.length got) cb :: (SV.bool true :: (SV.bool false :: [])))) 13)))))))) 146))) 12)))) 15)))))))
          [Ent.mk (Loc.sl ao cap) (SObj.roL 4 encStepP bs (StepP.mk (0 : Int) (0 : Int) (ByteArray.mk #[]) (ByteArray.mk #[]))), pkA bt psE s,
           Ent.mk (Loc.blk br) (SObj.cells [SV.vec 3 r.aoL (List.length r.3) r.2, SV.int IntKind.i64 r.4, SV.vec 4 r.aoD (List.length r.7) r.6] (30 : TypeId)),
           Ent.mk (Loc.sl r.aoL r.2) (SObj.vecL (62 : TypeId) 2 encRpt r.3 (RPt.mk (ByteArray.mk #[]) (@none Addr) 0 [])),
           Ent.mk (Loc.sl r.aoD r.6) (SObj.vecL (49 : TypeId) 2 encDN r.7 (DN.mk (0 : Int) (ByteArray.mk #[]))), pk 0 (List.map cnE r.3),
           Ent.mk (Loc.blk b6) (SObj.cells [SV.int IntKind.i64 x.1, SV.int IntKind.i64 x.2, SV.str x.3, SV.str x.4] (32 : TypeId)),
           Ent.mk (Loc.blk b21) (SObj.cells [SV.vec 8 aa (List.length r.3) ca] (56 : TypeId)),
           Ent.mk (Loc.sl aa ca) (SObj.vecL (9 : TypeId) 1 encS (List.map RPt.name r.3) ByteArray.empty),
           Ent.mk (Loc.sl ab cb) (SObj.vecL (9 : TypeId) 1 encS got ByteArray.empty)])) := by kernel_rfl
end Go.Proofs.Ytkcmgcoppecfpaa

namespace Go.Proofs.Ytkcmgcoppecfpaa
open Go Go.RowKit

theorem pp1_run (K : List Frm → Sy → Prop) (N : List Ent → SV → Prop) (ba : Nat) (xs : List ByteArray) (ao : Option Addr) (cap : Nat) (n : ByteArray) : (run Try.prog [] true [] K (retP Try.prog Try.f29.results.toList N) 600 [.code (bodyOf Try.f29)] ⟨padTo 11 [.str n, .ptr 0 ba 0], [⟨.blk ba, .cells [.vec 1 ao xs.length cap] 56⟩, ⟨.sl ao cap, .vecL 9 1 encS xs ByteArray.empty⟩]⟩) = (
ba = ba ∧
 (true = true ∧ 1 = 1 ∧ 0 < 1 ∧ 1 ≤ 16777216) ∧
  ∀ (b : Nat),
   (ao = ao ∧
    cap = cap ∧
     List.length xs = List.length xs ∧
      some (Addr.mk b 0 (@none Nat)) = some (Addr.mk b 0 (@none Nat)) ∧
       (9 : TypeId) = 9 ∧
        1 = 1 ∧
         1 = 1 ∧
          0 < 1 ∧ true = true ∧ (List.length xs + 1) * 16 ≤ 140737488355328 ∧ List.length xs + 1 ≤ 9223372036854775807) ∧
    ∃ (es : List ByteArray),
     List.length es = 1 ∧
      denL (List.flatMap encS es) = denL [SV.str n] ∧
       ∀ (ao2 : Option Addr) (cap2 : Nat),
        List.length xs + 1 ≤ cap2 →
         (ba = ba ∧ true = true ∧ 1 = 1 ∧ 1 ≤ 1) ∧
          ba = ba ∧
           N
            [Ent.mk (Loc.blk ba) (SObj.cells [SV.vec 1 ao2 (List.length xs + 1) cap2] (56 : TypeId)),
             Ent.mk (Loc.sl ao2 cap2) (SObj.vecL (9 : TypeId) 1 encS (xs ++ es) ByteArray.empty), Ent.mk (Loc.blk b) (SObj.cells [SV.str n] 9)]
            (SV.bool (decide ((↑(List.length xs + 1) : Int) < (200 : Int))))) := by kernel_rfl


theorem conns_run (K : List Frm → Sy → Prop) (N : List Ent → SV → Prop) (xs : List CN) (ao ao' : Option Addr) (cap cap' : Nat) : (run Try.prog [] false [] K (retP Try.prog Try.f25.results.toList N) 600 [.code (bodyOf Try.f25)] ⟨padTo 26 [.vec 0 ao xs.length cap, .vec 1 ao' xs.length cap'], [⟨.sl ao cap, .vecL 41 2 encCN xs CN.zero⟩, ⟨.sl ao' cap', .vecL 41 2 encCN xs CN.zero⟩]⟩) = (
match (↑(List.length xs) : Int) != (↑(List.length xs) : Int) with
| true =>
 N
  [Ent.mk (Loc.sl ao cap) (SObj.vecL (41 : TypeId) 2 encCN xs (CN.mk (0 : Int) (ByteArray.mk #[]))),
   Ent.mk (Loc.sl ao' cap') (SObj.vecL (41 : TypeId) 2 encCN xs (CN.mk (0 : Int) (ByteArray.mk #[])))]
  (SV.bool false)
| false =>
 K (frm [] (bodyOf Try.f25) [1, 1, 0, 1, 0] [])
  (Sy.mk (SV.vec 0 ao (List.length xs) cap :: (SV.vec 1 ao' (List.length xs) cap' :: (SV.raw (Value.tuple #[]) :: (SV.raw (Value.tuple #[]) :: (SV.bool false :: (SV.int IntKind.i64 (0 : Int) :: (SV.vec 0 ao (List.length xs) cap :: (SV.int IntKind.i64 (↑(List.length xs) : Int) :: (SV.vec 1 ao' (List.length xs) cap' :: (SV.int IntKind.i64 (↑(List.length xs) : Int) :: (SV.bool false :: (rawE [] 15))))))))))))
   [Ent.mk (Loc.sl ao cap) (SObj.vecL (41 : TypeId) 2 encCN xs (CN.mk (0 : Int) (ByteArray.mk #[]))),
    Ent.mk (Loc.sl ao' cap') (SObj.vecL (41 : TypeId) 2 encCN xs (CN.mk (0 : Int) (ByteArray.mk #[])))])) := by kernel_rfl


theorem conns_body (K : List Frm → Sy → Prop) (N : List Ent → SV → Prop) (J : Act → World → Prop) (xs : List CN) (ao ao' : Option Addr) (cap cap' : Nat) (i : Nat) (u : Nat → Value) : (run Try.prog [] false [] K (retP Try.prog Try.f25.results.toList N) 900 (frm [J] (bodyOf Try.f25) [1, 1, 0, 1, 0, 0] []) ⟨mkT u 26 0 [(0, .vec 0 ao xs.length cap), (1, .vec 1 ao' xs.length cap'), (5, .int .i64 (i : Int))], [⟨.sl ao cap, .vecL 41 2 encCN xs CN.zero⟩, ⟨.sl ao' cap', .vecL 41 2 encCN xs CN.zero⟩]⟩) = (
match decide ((↑i : Int) < (↑(List.length xs) : Int)) with
| true =>
 (ao = ao ∧ cap = cap ∧ List.length xs = List.length xs ∧ (0 : Int) ≤ (↑i : Int) ∧ (↑i : Int) < (↑(List.length xs) : Int)) ∧
  (Addr.blkD ao = Addr.blkD ao ∧ Addr.offD ao = Addr.offD ao ∧ 2 = 2 ∧ Int.toNat (↑i : Int) < List.length xs ∧ 2 = 2) ∧
   (ao' = ao' ∧ cap' = cap' ∧ List.length xs = List.length xs ∧ (0 : Int) ≤ (↑i : Int) ∧ (↑i : Int) < (↑(List.length xs) : Int)) ∧
    (Addr.blkD ao' = Addr.blkD ao' ∧ Addr.offD ao' = Addr.offD ao' ∧ 2 = 2 ∧ Int.toNat (↑i : Int) < List.length xs ∧ 2 = 2) ∧
     match
      !((List.getD xs (Int.toNat (↑i : Int)) (CN.mk (0 : Int) (ByteArray.mk #[]))).1 == (List.getD xs (Int.toNat (↑i : Int)) (CN.mk (0 : Int) (ByteArray.mk #[]))).1 &&
       (sEq (List.getD xs (Int.toNat (↑i : Int)) (CN.mk (0 : Int) (ByteArray.mk #[]))).2 (List.getD xs (Int.toNat (↑i : Int)) (CN.mk (0 : Int) (ByteArray.mk #[]))).2 && true)) with
     | true =>
      N
       [Ent.mk (Loc.sl ao cap) (SObj.vecL (41 : TypeId) 2 encCN xs (CN.mk (0 : Int) (ByteArray.mk #[]))),
        Ent.mk (Loc.sl ao' cap') (SObj.vecL (41 : TypeId) 2 encCN xs (CN.mk (0 : Int) (ByteArray.mk #[])))]
       (SV.bool false)
     | false =>
      K (Frm.loop J :: Frm.blk 0 :: frm [] (bodyOf Try.f25) [1, 1, 1] [])
       (Sy.mk (SV.vec 0 ao (List.length xs) cap :: (SV.vec 1 ao' (List.length xs) cap' :: (rawR u 2 (SV.int IntKind.i64 (IntKind.wrap IntKind.i64 ((↑i : Int) + (1 : Int))) :: (rawR u 6 (SV.int IntKind.i64 (↑i : Int) :: (SV.vec 0 ao (List.length xs) cap :: (SV.int IntKind.i64 (↑(List.length xs) : Int) :: (SV.bool true :: (SV.int IntKind.i64 (↑i : Int) :: (SV.int IntKind.i64 (IntKind.wrap IntKind.i64 ((↑i : Int) + (1 : Int))) :: (SV.vec 0 ao (List.length xs) cap :: (SV.int IntKind.i64 (↑i : Int) :: (SV.eptr 0 (Addr.blkD ao) (Addr.offD ao) 2 (Int.toNat (↑i : Int)) 0 :: (SV.agg [SV.int IntKind.i64 (List.getD xs (Int.toNat (↑i : Int)) (CN.mk (0 : Int) (ByteArray.mk #[]))).1, SV.str (List.getD xs (Int.toNat (↑i : Int)) (CN.mk (0 : Int) (ByteArray.mk #[]))).2] :: (SV.vec 1 ao' (List.length xs) cap' :: (SV.int IntKind.i64 (↑i : Int) :: (SV.eptr 1 (Addr.blkD ao') (Addr.offD ao') 2 (Int.toNat (↑i : Int)) 0 :: (SV.agg [SV.int IntKind.i64 (List.getD xs (Int.toNat (↑i : Int)) (CN.mk (0 : Int) (ByteArray.mk #[]))).1, SV.str (List.getD xs (Int.toNat (↑i : Int)) (CN.mk (0 : Int) (ByteArray.mk #[]))).2] :: (SV.bool false :: []))))))))))))))) 5)) 3)))
        [Ent.mk (Loc.sl ao cap) (SObj.vecL (41 : TypeId) 2 encCN xs (CN.mk (0 : Int) (ByteArray.mk #[]))),
         Ent.mk (Loc.sl ao' cap') (SObj.vecL (41 : TypeId) 2 encCN xs (CN.mk (0 : Int) (ByteArray.mk #[])))])
| false =>
 N
  [Ent.mk (Loc.sl ao cap) (SObj.vecL (41 : TypeId) 2 encCN xs (CN.mk (0 : Int) (ByteArray.mk #[]))),
   Ent.mk (Loc.sl ao' cap') (SObj.vecL (41 : TypeId) 2 encCN xs (CN.mk (0 : Int) (ByteArray.mk #[])))]
  (SV.bool true)) := by kernel_rfl


theorem texts_run (K : List Frm → Sy → Prop) (N : List Ent → SV → Prop) (xs : List ByteArray) (ao ao' : Option Addr) (cap cap' : Nat) : (run Try.prog [] false [] K (retP Try.prog Try.f30.results.toList N) 600 [.code (bodyOf Try.f30)] ⟨padTo 26 [.vec 0 ao xs.length cap, .vec 1 ao' xs.length cap'], [⟨.sl ao cap, .vecL 9 1 encS xs ByteArray.empty⟩, ⟨.sl ao' cap', .vecL 9 1 encS xs ByteArray.empty⟩]⟩) = (
match (↑(List.length xs) : Int) != (↑(List.length xs) : Int) with
| true => N [Ent.mk (Loc.sl ao cap) (SObj.vecL (9 : TypeId) 1 encS xs ByteArray.empty), Ent.mk (Loc.sl ao' cap') (SObj.vecL (9 : TypeId) 1 encS xs ByteArray.empty)] (SV.bool false)
| false =>
 K (frm [] (bodyOf Try.f30) [1, 1, 0, 1, 0] [])
  (Sy.mk (SV.vec 0 ao (List.length xs) cap :: (SV.vec 1 ao' (List.length xs) cap' :: (SV.raw (Value.tuple #[]) :: (SV.raw (Value.tuple #[]) :: (SV.bool false :: (SV.int IntKind.i64 (0 : Int) :: (SV.vec 0 ao (List.length xs) cap :: (SV.int IntKind.i64 (↑(List.length xs) : Int) :: (SV.vec 1 ao' (List.length xs) cap' :: (SV.int IntKind.i64 (↑(List.length xs) : Int) :: (SV.bool false :: (rawE [] 15))))))))))))
   [Ent.mk (Loc.sl ao cap) (SObj.vecL (9 : TypeId) 1 encS xs ByteArray.empty), Ent.mk (Loc.sl ao' cap') (SObj.vecL (9 : TypeId) 1 encS xs ByteArray.empty)])) := by kernel_rfl


theorem texts_body (K : List Frm → Sy → Prop) (N : List Ent → SV → Prop) (J : Act → World → Prop) (xs : List ByteArray) (ao ao' : Option Addr) (cap cap' : Nat) (i : Nat) (u : Nat → Value) : (run Try.prog [] false [] K (retP Try.prog Try.f30.results.toList N) 900 (frm [J] (bodyOf Try.f30) [1, 1, 0, 1, 0, 0] []) ⟨mkT u 26 0 [(0, .vec 0 ao xs.length cap), (1, .vec 1 ao' xs.length cap'), (5, .int .i64 (i : Int))], [⟨.sl ao cap, .vecL 9 1 encS xs ByteArray.empty⟩, ⟨.sl ao' cap', .vecL 9 1 encS xs ByteArray.empty⟩]⟩) = (
match decide ((↑i : Int) < (↑(List.length xs) : Int)) with
| true =>
 (ao = ao ∧ cap = cap ∧ List.length xs = List.length xs ∧ (0 : Int) ≤ (↑i : Int) ∧ (↑i : Int) < (↑(List.length xs) : Int)) ∧
  (Addr.blkD ao = Addr.blkD ao ∧ Addr.offD ao = Addr.offD ao ∧ 1 = 1 ∧ Int.toNat (↑i : Int) < List.length xs) ∧
   (ao' = ao' ∧ cap' = cap' ∧ List.length xs = List.length xs ∧ (0 : Int) ≤ (↑i : Int) ∧ (↑i : Int) < (↑(List.length xs) : Int)) ∧
    (Addr.blkD ao' = Addr.blkD ao' ∧ Addr.offD ao' = Addr.offD ao' ∧ 1 = 1 ∧ Int.toNat (↑i : Int) < List.length xs) ∧
     match !sEq (List.getD xs (Int.toNat (↑i : Int)) ByteArray.empty) (List.getD xs (Int.toNat (↑i : Int)) ByteArray.empty) with
     | true =>
      N [Ent.mk (Loc.sl ao cap) (SObj.vecL (9 : TypeId) 1 encS xs ByteArray.empty), Ent.mk (Loc.sl ao' cap') (SObj.vecL (9 : TypeId) 1 encS xs ByteArray.empty)] (SV.bool false)
     | false =>
      K (Frm.loop J :: Frm.blk 0 :: frm [] (bodyOf Try.f30) [1, 1, 1] [])
       (Sy.mk (SV.vec 0 ao (List.length xs) cap :: (SV.vec 1 ao' (List.length xs) cap' :: (rawR u 2 (SV.int IntKind.i64 (IntKind.wrap IntKind.i64 ((↑i : Int) + (1 : Int))) :: (rawR u 6 (SV.int IntKind.i64 (↑i : Int) :: (SV.vec 0 ao (List.length xs) cap :: (SV.int IntKind.i64 (↑(List.length xs) : Int) :: (SV.bool true :: (SV.int IntKind.i64 (↑i : Int) :: (SV.int IntKind.i64 (IntKind.wrap IntKind.i64 ((↑i : Int) + (1 : Int))) :: (SV.vec 0 ao (List.length xs) cap :: (SV.int IntKind.i64 (↑i : Int) :: (SV.eptr 0 (Addr.blkD ao) (Addr.offD ao) 1 (Int.toNat (↑i : Int)) 0 :: (SV.str (List.getD xs (Int.toNat (↑i : Int)) ByteArray.empty) :: (SV.vec 1 ao' (List.length xs) cap' :: (SV.int IntKind.i64 (↑i : Int) :: (SV.eptr 1 (Addr.blkD ao') (Addr.offD ao') 1 (Int.toNat (↑i : Int)) 0 :: (SV.str (List.getD xs (Int.toNat (↑i : Int)) ByteArray.empty) :: (SV.bool false :: []))))))))))))))) 5)) 3)))
        [Ent.mk (Loc.sl ao cap) (SObj.vecL (9 : TypeId) 1 encS xs ByteArray.empty), Ent.mk (Loc.sl ao' cap') (SObj.vecL (9 : TypeId) 1 encS xs ByteArray.empty)])
| false => N [Ent.mk (Loc.sl ao cap) (SObj.vecL (9 : TypeId) 1 encS xs ByteArray.empty), Ent.mk (Loc.sl ao' cap') (SObj.vecL (9 : TypeId) 1 encS xs ByteArray.empty)] (SV.bool true)) := by kernel_rfl


theorem conns_nilr (K : List Frm → Sy → Prop) (N : List Ent → SV → Prop) (ao : Option Addr) (cap : Nat) : (run Try.prog [] false [] K (retP Try.prog Try.f25.results.toList N) 600 [.code (bodyOf Try.f25)] ⟨padTo 26 [.vec 0 ao 0 cap, .raw (.slice none 0 0)], []⟩) = (
K (frm [] (bodyOf Try.f25) [1, 1, 0, 1, 0] [])
 (Sy.mk (SV.vec 0 ao 0 cap :: (SV.raw (Value.slice (@none Addr) 0 0) :: (SV.raw (Value.tuple #[]) :: (SV.raw (Value.tuple #[]) :: (SV.bool false :: (SV.int IntKind.i64 (0 : Int) :: (SV.vec 0 ao 0 cap :: (SV.int IntKind.i64 (0 : Int) :: (SV.raw (Value.slice (@none Addr) 0 0) :: (SV.int IntKind.i64 (0 : Int) :: (SV.bool false :: (rawE [] 15))))))))))))
  [])) := by kernel_rfl


theorem conns_nilb (K : List Frm → Sy → Prop) (N : List Ent → SV → Prop) (J : Act → World → Prop) (ao : Option Addr) (cap : Nat) (u : Nat → Value) : (run Try.prog [] false [] K (retP Try.prog Try.f25.results.toList N) 900 (frm [J] (bodyOf Try.f25) [1, 1, 0, 1, 0, 0] []) ⟨mkT u 26 0 [(0, .vec 0 ao 0 cap), (1, .raw (.slice none 0 0)), (5, .int .i64 0)], []⟩) = (
N [] (SV.bool true)) := by kernel_rfl


theorem pnew_run (K : List Frm → Sy → Prop) (N : List Ent → SV → Prop) : (run Try.prog [] false [] K (retP Try.prog Try.f11.results.toList N) 600 [.code (bodyOf Try.f11)] ⟨padTo 4 [], []⟩) = (
∀ (b : Nat),
 (true = true ∧ true = true) ∧
  true = true ∧
   ∀ (b_1 : Nat),
    N
     [Ent.mk (Loc.blk b) (SObj.mapV (@none IntKind) []),
      Ent.mk (Loc.blk b_1) (SObj.cells [SV.map 0 b, SV.raw (Value.slice (@none Addr) 0 0), SV.int IntKind.i64 (0 : Int)] 131)]
     (SV.ptr 1 b_1 0)) := by kernel_rfl
end Go.Proofs.Ytkcmgcoppecfpaa

/- port: its functions in line; the law's loop. -/
namespace Go.Proofs.Ytkcmgcoppecfpaa
open Go Go.RowKit
def encByte (x : Int) : List SV := [.int .u8 x]
def encInt (x : Int) : List SV := [.int .i64 x]
def encDg (x : Int × ByteArray) : List SV := [.int .i64 x.1, .str x.2]
def port1 : Tbl := [(73, inl Try.prog [] false Try.f73 600), (74, inl Try.prog [] false Try.f74 600), (71, inl Try.prog [] false Try.f71 600), (72, inl Try.prog [] false Try.f72 600)]
def port2 : Tbl := (11, inl Try.prog [] false Try.f11 600) :: (20, inl Try.prog port1 false Try.f20 600) :: (22, inl Try.prog port1 false Try.f22 600) :: (24, inl Try.prog port1 false Try.f24 600) :: (12, inl Try.prog port1 false Try.f12 600) :: (16, inl Try.prog port1 false Try.f16 600) :: (18, inl Try.prog port1 false Try.f18 600) :: port1
def trueC : Ctr := fun args hs N => match args with
  | [] => N hs (.bool true)
  | _ => False
def port3 : Tbl := (10, trueC) :: port2
end Go.Proofs.Ytkcmgcoppecfpaa

namespace Go.Proofs.Ytkcmgcoppecfpaa
open Go Go.RowKit

theorem known10_run (K : List Frm → Sy → Prop) (N : List Ent → SV → Prop) : (run Try.prog port2 false [] K (retP Try.prog Try.f10.results.toList N) 600 [.code (bodyOf Try.f10)] ⟨padTo 55 [], []⟩) = (
true = true ∧
 ∀ (b : Nat),
  (true = true ∧ true = true) ∧
   true = true ∧
    ∀ (b_1 : Nat),
     true = true ∧
      b_1 = b_1 ∧
       (b = b ∧ @none IntKind = @none IntKind ∧ @none IntKind = @none IntKind) ∧
        b_1 = b_1 ∧
         (true = true ∧ true = true) ∧
          true = true ∧
           ∀ (b_2 : Nat),
            (b = b ∧ @none IntKind = @none IntKind ∧ @none IntKind = @none IntKind) ∧
             true = true ∧
              b_1 = b_1 ∧
               (b = b ∧ @none IntKind = @none IntKind ∧ @none IntKind = @none IntKind) ∧
                b_1 = b_1 ∧
                 (true = true ∧ true = true) ∧
                  true = true ∧
                   true = true ∧
                    ∀ (b_3 : Nat),
                     b_2 = b_2 ∧
                      b_2 = b_2 ∧
                       (b_3 = b_3 ∧ 2 = 2) ∧
                        (true = true ∧ 2 = 2 ∧ 0 < 2 ∧ 2 ≤ 16777216) ∧
                         ∀ (b_4 : Nat),
                          (Ent.mk (Loc.blk b) (SObj.mapV (@none IntKind) [(Key.s (ByteArray.mk #[(97 : UInt8)]), SV.ptr 2 b_2 0)]) =
                           Ent.mk (Loc.blk b) (SObj.mapV (@none IntKind) [(Key.s (ByteArray.mk #[(97 : UInt8)]), SV.ptr 2 b_2 0)]) ∧
                           Ent.mk (Loc.blk b_1)
                            (SObj.cells [SV.map 0 b, SV.raw (Value.slice (@none Addr) 0 0), SV.int IntKind.i64 (0 : Int)] 131) =
                            Ent.mk (Loc.blk b_1)
                             (SObj.cells [SV.map 0 b, SV.raw (Value.slice (@none Addr) 0 0), SV.int IntKind.i64 (0 : Int)] 131) ∧
                            Ent.mk (Loc.blk b_2) (SObj.cells [SV.raw (Value.slice (@none Addr) 0 0)] 135) =
                             Ent.mk (Loc.blk b_2) (SObj.cells [SV.raw (Value.slice (@none Addr) 0 0)] 135) ∧
                             Ent.mk (Loc.blk b_3) (SObj.cells [SV.int IntKind.i64 (1 : Int), SV.str (ByteArray.mk #[(120 : UInt8)])] 41) =
                              Ent.mk (Loc.blk b_3) (SObj.cells [SV.int IntKind.i64 (1 : Int), SV.str (ByteArray.mk #[(120 : UInt8)])] 41) ∧
                              True) ∧
                           (some (Addr.mk b_4 0 (@none Nat)) = some (Addr.mk b_4 0 (@none Nat)) ∧
                            2 = 2 ∧
                             0 < 1 ∧ true = true ∧ 24 ≤ 140737488355328 ∧ 1 ≤ 9223372036854775807) ∧
                            ∀ (ao2 : Option Addr) (cap2 : Nat),
                             1 ≤ cap2 →
                              (b_2 = b_2 ∧ true = true ∧ 1 = 1 ∧ 1 ≤ 1) ∧
                               b_1 = b_1 ∧
                                (b_1 = b_1 ∧ true = true ∧ 1 = 1 ∧ 3 ≤ 3) ∧
                                 b_1 = b_1 ∧
                                  true = true ∧
                                   ∀ (b_5 : Nat),
                                    b_1 = b_1 ∧
                                     (b = b ∧ @none IntKind = @none IntKind ∧ @none IntKind = @none IntKind) ∧
                                      true = true ∧
                                       ∀ (b_6 b_7 : Nat),
                                        b_2 = b_2 ∧
                                         b_2 = b_2 ∧
                                          (ao2 = ao2 ∧ cap2 = cap2 ∧ 1 = 1 ∧ (0 : Int) ≤ (0 : Int) ∧ (0 : Int) < (↑1 : Int)) ∧
                                           (Addr.blkD ao2 = Addr.blkD ao2 ∧ Addr.offD ao2 = Addr.offD ao2 ∧ 2 = 2 ∧ 2 = 2) ∧
                                            (b_2 = b_2 ∧
                                             ((0 : Int) ≤ (1 : Int) ∧ (1 : Int) ≤ (↑1 : Int) ∧ 1 ≤ cap2) ∧
                                              (b_7 = b_7 ∧ true = true ∧ 2 = 2 ∧ 2 ≤ 2) ∧
                                               (b_2 = b_2 ∧ true = true ∧ 1 = 1 ∧ 1 ≤ 1) ∧
                                                (b_7 = b_7 ∧ 2 = 2) ∧
                                                 (b_6 = b_6 ∧ true = true ∧ 2 = 2 ∧ 2 ≤ 2) ∧
                                                  (b_6 = b_6 ∧ 2 = 2) ∧
                                                   ∀ (b_8 : Nat),
                                                    (b_8 = b_8 ∧ true = true ∧ 2 = 2 ∧ 2 ≤ 2) ∧
                                                     (b_8 = b_8 ∧ 2 = 2) ∧
                                                      (b_5 = b_5 ∧ true = true ∧ 2 = 2 ∧ 2 ≤ 2) ∧
                                                       (b_5 = b_5 ∧ 2 = 2) ∧
                                                        ∀ (b_9 : Nat),
                                                         (b_9 = b_9 ∧ true = true ∧ 2 = 2 ∧ 2 ≤ 2) ∧
                                                          true = true ∧
                                                           ∀ (b_10 : Nat),
                                                            b_1 = b_1 ∧
                                                             (b = b ∧ @none IntKind = @none IntKind ∧ @none IntKind = @none IntKind) ∧
                                                              true = true ∧
                                                               ∀ (b_11 b_12 : Nat),
                                                                b_2 = b_2 ∧
                                                                 (b_12 = b_12 ∧ 2 = 2) ∧
                                                                  (b_11 = b_11 ∧
                                                                   true = true ∧ 2 = 2 ∧ 2 ≤ 2) ∧
                                                                   (b_11 = b_11 ∧ 2 = 2) ∧
                                                                    ∀ (b_13 : Nat),
                                                                     (b_13 = b_13 ∧
                                                                      true = true ∧
                                                                       2 = 2 ∧ 2 ≤ 2) ∧
                                                                      (true = true ∧ true = true) ∧
                                                                       (b_10 = b_10 ∧
                                                                        true = true ∧
                                                                         2 = 2 ∧ 2 ≤ 2) ∧
                                                                        (b_10 = b_10 ∧ 2 = 2) ∧
                                                                         ∀ (b_14 : Nat),
                                                                          (b_14 = b_14 ∧
                                                                           true = true ∧
                                                                            2 = 2 ∧
                                                                             2 ≤ 2) ∧
                                                                           (b_9 = b_9 ∧ 2 = 2) ∧
                                                                            (true = true ∧ true = true) ∧
                                                                             true = true ∧
                                                                              b_1 = b_1 ∧
                                                                               (b = b ∧
                                                                                @none IntKind = @none IntKind ∧
                                                                                 @none IntKind = @none IntKind) ∧
                                                                                N
                                                                                 [Ent.mk (Loc.blk b)
                                                                                  (SObj.mapV (@none IntKind)
                                                                                   [(Key.s
                                                                                    (ByteArray.mk
                                                                                     #[(97 : UInt8)]),
                                                                                    SV.ptr 2 b_2
                                                                                     0)]),
                                                                                  Ent.mk (Loc.blk b_1)
                                                                                   (SObj.cells
                                                                                    [SV.map 0 b,
                                                                                     SV.raw
                                                                                      (Value.slice (@none Addr)
                                                                                       0 0),
                                                                                     SV.int IntKind.i64
                                                                                      (1 : Int)]
                                                                                    131),
                                                                                  Ent.mk (Loc.blk b_2)
                                                                                   (SObj.cells
                                                                                    [SV.sub 5 ao2 cap2
                                                                                     2 1
                                                                                     1]
                                                                                    135),
                                                                                  Ent.mk (Loc.blk b_3)
                                                                                   (SObj.cells
                                                                                    [SV.int IntKind.i64 (1 : Int),
                                                                                     SV.str
                                                                                      (ByteArray.mk
                                                                                       #[(120 : UInt8)])]
                                                                                    41),
                                                                                  Ent.mk (Loc.blk b_4)
                                                                                   (SObj.cells
                                                                                    [SV.int IntKind.i64 (1 : Int),
                                                                                     SV.str
                                                                                      (ByteArray.mk
                                                                                       #[(120 : UInt8)])]
                                                                                    41),
                                                                                  Ent.mk (Loc.sl ao2 cap2)
                                                                                   (SObj.vecV 41 2
                                                                                    1
                                                                                    [SV.int IntKind.i64 (1 : Int),
                                                                                     SV.str
                                                                                      (ByteArray.mk
                                                                                       #[(120 : UInt8)])]),
                                                                                  Ent.mk (Loc.blk b_5)
                                                                                   (SObj.cells
                                                                                    [SV.int IntKind.i64 (1 : Int),
                                                                                     SV.str
                                                                                      (ByteArray.mk
                                                                                       #[(120 : UInt8)])]
                                                                                    41),
                                                                                  Ent.mk (Loc.blk b_6)
                                                                                   (SObj.cells
                                                                                    [SV.int IntKind.i64 (1 : Int),
                                                                                     SV.str
                                                                                      (ByteArray.mk
                                                                                       #[(120 : UInt8)])]
                                                                                    41),
                                                                                  Ent.mk (Loc.blk b_7)
                                                                                   (SObj.cells
                                                                                    [SV.int IntKind.i64 (1 : Int),
                                                                                     SV.str
                                                                                      (ByteArray.mk
                                                                                       #[(120 : UInt8)])]
                                                                                    41),
                                                                                  Ent.mk (Loc.blk b_8)
                                                                                   (SObj.cells
                                                                                    [SV.int IntKind.i64 (1 : Int),
                                                                                     SV.str
                                                                                      (ByteArray.mk
                                                                                       #[(120 : UInt8)])]
                                                                                    41),
                                                                                  Ent.mk (Loc.blk b_9)
                                                                                   (SObj.cells
                                                                                    [SV.int IntKind.i64 (1 : Int),
                                                                                     SV.str
                                                                                      (ByteArray.mk
                                                                                       #[(120 : UInt8)])]
                                                                                    41),
                                                                                  Ent.mk (Loc.blk b_10)
                                                                                   (SObj.cells
                                                                                    [SV.int IntKind.i64 (0 : Int),
                                                                                     SV.str (ByteArray.mk #[])]
                                                                                    41),
                                                                                  Ent.mk (Loc.blk b_11)
                                                                                   (SObj.cells
                                                                                    [SV.int IntKind.i64 (0 : Int),
                                                                                     SV.str (ByteArray.mk #[])]
                                                                                    41),
                                                                                  Ent.mk (Loc.blk b_12)
                                                                                   (SObj.cells
                                                                                    [SV.int IntKind.i64 (0 : Int),
                                                                                     SV.str (ByteArray.mk #[])]
                                                                                    41),
                                                                                  Ent.mk (Loc.blk b_13)
                                                                                   (SObj.cells
                                                                                    [SV.int IntKind.i64 (0 : Int),
                                                                                     SV.str (ByteArray.mk #[])]
                                                                                    41),
                                                                                  Ent.mk (Loc.blk b_14)
                                                                                   (SObj.cells
                                                                                    [SV.int IntKind.i64 (0 : Int),
                                                                                     SV.str (ByteArray.mk #[])]
                                                                                    41)]
                                                                                 (SV.bool true)) ∧
                                             (b_7 = b_7 ∧ true = true ∧ 2 = 2 ∧ 2 ≤ 2) ∧
                                              b_2 = b_2 ∧
                                               ((0 : Int) ≤ (1 : Int) ∧ (1 : Int) ≤ (↑1 : Int) ∧ 1 ≤ cap2) ∧
                                                (b_2 = b_2 ∧ true = true ∧ 1 = 1 ∧ 1 ≤ 1) ∧
                                                 (b_7 = b_7 ∧ 2 = 2) ∧
                                                  (b_6 = b_6 ∧ true = true ∧ 2 = 2 ∧ 2 ≤ 2) ∧
                                                   (b_6 = b_6 ∧ 2 = 2) ∧
                                                    ∀ (b_8 : Nat),
                                                     (b_8 = b_8 ∧ true = true ∧ 2 = 2 ∧ 2 ≤ 2) ∧
                                                      (b_8 = b_8 ∧ 2 = 2) ∧
                                                       (b_5 = b_5 ∧ true = true ∧ 2 = 2 ∧ 2 ≤ 2) ∧
                                                        (b_5 = b_5 ∧ 2 = 2) ∧
                                                         ∀ (b_9 : Nat),
                                                          (b_9 = b_9 ∧ true = true ∧ 2 = 2 ∧ 2 ≤ 2) ∧
                                                           true = true ∧
                                                            ∀ (b_10 : Nat),
                                                             b_1 = b_1 ∧
                                                              (b = b ∧ @none IntKind = @none IntKind ∧ @none IntKind = @none IntKind) ∧
                                                               true = true ∧
                                                                ∀ (b_11 b_12 : Nat),
                                                                 b_2 = b_2 ∧
                                                                  (b_12 = b_12 ∧ 2 = 2) ∧
                                                                   (b_11 = b_11 ∧
                                                                    true = true ∧ 2 = 2 ∧ 2 ≤ 2) ∧
                                                                    (b_11 = b_11 ∧ 2 = 2) ∧
                                                                     ∀ (b_13 : Nat),
                                                                      (b_13 = b_13 ∧
                                                                       true = true ∧
                                                                        2 = 2 ∧ 2 ≤ 2) ∧
                                                                       (true = true ∧ true = true) ∧
                                                                        (b_10 = b_10 ∧
                                                                         true = true ∧
                                                                          2 = 2 ∧ 2 ≤ 2) ∧
                                                                         (b_10 = b_10 ∧ 2 = 2) ∧
                                                                          ∀ (b_14 : Nat),
                                                                           (b_14 = b_14 ∧
                                                                            true = true ∧
                                                                             2 = 2 ∧
                                                                              2 ≤ 2) ∧
                                                                            (b_9 = b_9 ∧ 2 = 2) ∧
                                                                             (true = true ∧ true = true) ∧
                                                                              true = true ∧
                                                                               b_1 = b_1 ∧
                                                                                (b = b ∧
                                                                                 @none IntKind = @none IntKind ∧
                                                                                  @none IntKind = @none IntKind) ∧
                                                                                 N
                                                                                  [Ent.mk (Loc.blk b)
                                                                                   (SObj.mapV (@none IntKind)
                                                                                    [(Key.s
                                                                                     (ByteArray.mk
                                                                                      #[(97 : UInt8)]),
                                                                                     SV.ptr 2 b_2
                                                                                      0)]),
                                                                                   Ent.mk (Loc.blk b_1)
                                                                                    (SObj.cells
                                                                                     [SV.map 0 b,
                                                                                      SV.raw
                                                                                       (Value.slice (@none Addr)
                                                                                        0 0),
                                                                                      SV.int IntKind.i64
                                                                                       (1 : Int)]
                                                                                     131),
                                                                                   Ent.mk (Loc.blk b_2)
                                                                                    (SObj.cells
                                                                                     [SV.sub 5 ao2 cap2
                                                                                      2 1
                                                                                      1]
                                                                                     135),
                                                                                   Ent.mk (Loc.blk b_3)
                                                                                    (SObj.cells
                                                                                     [SV.int IntKind.i64 (1 : Int),
                                                                                      SV.str
                                                                                       (ByteArray.mk
                                                                                        #[(120 : UInt8)])]
                                                                                     41),
                                                                                   Ent.mk (Loc.blk b_4)
                                                                                    (SObj.cells
                                                                                     [SV.int IntKind.i64 (1 : Int),
                                                                                      SV.str
                                                                                       (ByteArray.mk
                                                                                        #[(120 : UInt8)])]
                                                                                     41),
                                                                                   Ent.mk (Loc.sl ao2 cap2)
                                                                                    (SObj.vecV 41 2
                                                                                     1
                                                                                     [SV.int IntKind.i64 (1 : Int),
                                                                                      SV.str
                                                                                       (ByteArray.mk
                                                                                        #[(120 : UInt8)])]),
                                                                                   Ent.mk (Loc.blk b_5)
                                                                                    (SObj.cells
                                                                                     [SV.int IntKind.i64 (1 : Int),
                                                                                      SV.str
                                                                                       (ByteArray.mk
                                                                                        #[(120 : UInt8)])]
                                                                                     41),
                                                                                   Ent.mk (Loc.blk b_6)
                                                                                    (SObj.cells
                                                                                     [SV.int IntKind.i64 (1 : Int),
                                                                                      SV.str
                                                                                       (ByteArray.mk
                                                                                        #[(120 : UInt8)])]
                                                                                     41),
                                                                                   Ent.mk (Loc.blk b_7)
                                                                                    (SObj.cells
                                                                                     [SV.int IntKind.i64 (1 : Int),
                                                                                      SV.str
                                                                                       (ByteArray.mk
                                                                                        #[(120 : UInt8)])]
                                                                                     41),
                                                                                   Ent.mk (Loc.blk b_8)
                                                                                    (SObj.cells
                                                                                     [SV.int IntKind.i64 (1 : Int),
                                                                                      SV.str
                                                                                       (ByteArray.mk
                                                                                        #[(120 : UInt8)])]
                                                                                     41),
                                                                                   Ent.mk (Loc.blk b_9)
                                                                                    (SObj.cells
                                                                                     [SV.int IntKind.i64 (1 : Int),
                                                                                      SV.str
                                                                                       (ByteArray.mk
                                                                                        #[(120 : UInt8)])]
                                                                                     41),
                                                                                   Ent.mk (Loc.blk b_10)
                                                                                    (SObj.cells
                                                                                     [SV.int IntKind.i64 (0 : Int),
                                                                                      SV.str (ByteArray.mk #[])]
                                                                                     41),
                                                                                   Ent.mk (Loc.blk b_11)
                                                                                    (SObj.cells
                                                                                     [SV.int IntKind.i64 (0 : Int),
                                                                                      SV.str (ByteArray.mk #[])]
                                                                                     41),
                                                                                   Ent.mk (Loc.blk b_12)
                                                                                    (SObj.cells
                                                                                     [SV.int IntKind.i64 (0 : Int),
                                                                                      SV.str (ByteArray.mk #[])]
                                                                                     41),
                                                                                   Ent.mk (Loc.blk b_13)
                                                                                    (SObj.cells
                                                                                     [SV.int IntKind.i64 (0 : Int),
                                                                                      SV.str (ByteArray.mk #[])]
                                                                                     41),
                                                                                   Ent.mk (Loc.blk b_14)
                                                                                    (SObj.cells
                                                                                     [SV.int IntKind.i64 (0 : Int),
                                                                                      SV.str (ByteArray.mk #[])]
                                                                                     41)]
                                                                                  (SV.bool true)) := by kernel_rfl
end Go.Proofs.Ytkcmgcoppecfpaa

