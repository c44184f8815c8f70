import Derived.Test.YtjnkfgigpapeaaaDoorMgCivilTells4
set_option linter.unusedVariables false
set_option linter.unusedSimpArgs false
set_option linter.unnecessarySimpa false
set_option maxHeartbeats 0
set_option maxRecDepth 100000
namespace Go.Proofs.YtjnkfgigpapeaaaDoor
open Go Go.RowKit

theorem tl_start (K : List Frm → Sy → Prop) (N : List Ent → SV → Prop) (y0 m0 d0 n : Int) (y m d h mi s t : Int) : (run Tryd.prog tellsT true [5] K (retP Tryd.prog Tryd.f4.results.toList N) 3000 [.code (bodyOf Tryd.f4)] ⟨padTo 114 [.agg [.int .i64 y0, .int .i64 m0, .int .i64 d0], .int .i64 n, .agg [.int .i64 y, .int .i64 m, .int .i64 d, .int .i64 h, .int .i64 mi, .int .i64 s], .int .i64 t], [itoaE]⟩) = (
true = true ∧
 ∀ (b : Nat),
  true = true ∧
   ∀ (b_1 : Nat),
    true = true ∧
     (b = b ∧ 3 = 3) ∧
      true = true ∧
       match isB y0 m0 d0 with
       | true =>
        (b = b ∧ 3 = 3) ∧
         true = true ∧
          match isB y0 m0 d0 with
          | true =>
           K (frmR [] (bodyOf Tryd.f4) 5)
            (Sy.mk (SV.agg [SV.int IntKind.i64 y0, SV.int IntKind.i64 m0, SV.int IntKind.i64 d0] :: (SV.int IntKind.i64 n :: (SV.agg [SV.int IntKind.i64 y, SV.int IntKind.i64 m, SV.int IntKind.i64 d, SV.int IntKind.i64 h, SV.int IntKind.i64 mi, SV.int IntKind.i64 s] :: (SV.int IntKind.i64 t :: (SV.ptr 1 b 0 :: (SV.raw (Value.tuple #[]) :: (SV.ptr 2 b_1 0 :: (SV.raw (Value.tuple #[]) :: (SV.bool false :: (SV.int IntKind.i64 (daysI y0 m0 d0) :: (SV.int IntKind.i64 (0 : Int) :: (SV.int IntKind.i64 (daysI y0 m0 d0) :: (SV.int IntKind.i64 (0 : Int) :: (rawE (SV.bool true :: (SV.bool false :: (SV.tuple [SV.int IntKind.i64 (daysI y0 m0 d0), SV.int IntKind.i64 (0 : Int)] :: (SV.agg [SV.int IntKind.i64 y0, SV.int IntKind.i64 m0, SV.int IntKind.i64 d0] :: (SV.tuple [SV.int IntKind.i64 (daysI y0 m0 d0), SV.int IntKind.i64 (0 : Int)] :: (SV.int IntKind.i64 (daysI y0 m0 d0) :: (SV.int IntKind.i64 (0 : Int) :: (SV.tuple [SV.int IntKind.i64 (daysI y0 m0 d0), SV.int IntKind.i64 (0 : Int)] :: (SV.agg [SV.int IntKind.i64 y0, SV.int IntKind.i64 m0, SV.int IntKind.i64 d0] :: (SV.tuple [SV.int IntKind.i64 (daysI y0 m0 d0), SV.int IntKind.i64 (0 : Int)] :: (SV.int IntKind.i64 (daysI y0 m0 d0) :: (SV.int IntKind.i64 (0 : Int) :: (rawE [] 83))))))))))))) 6))))))))))))))
             [Ent.mk (Loc.blk 0) (SObj.pred fun (W : World) (c : Ch) ↦ c = [] ∧ Lib.TabIs Tryd.prog W "internal/strconv.uint64pow10" IntKind.u64 Lib.pow10Tab),
              Ent.mk (Loc.blk b) (SObj.cells [SV.int IntKind.i64 y0, SV.int IntKind.i64 m0, SV.int IntKind.i64 d0] 23),
              Ent.mk (Loc.blk b_1)
               (SObj.cells [SV.int IntKind.i64 y, SV.int IntKind.i64 m, SV.int IntKind.i64 d, SV.int IntKind.i64 h, SV.int IntKind.i64 mi, SV.int IntKind.i64 s] 25)])
          | false =>
           K (frmR [] (bodyOf Tryd.f4) 5)
            (Sy.mk (SV.agg [SV.int IntKind.i64 y0, SV.int IntKind.i64 m0, SV.int IntKind.i64 d0] :: (SV.int IntKind.i64 n :: (SV.agg [SV.int IntKind.i64 y, SV.int IntKind.i64 m, SV.int IntKind.i64 d, SV.int IntKind.i64 h, SV.int IntKind.i64 mi, SV.int IntKind.i64 s] :: (SV.int IntKind.i64 t :: (SV.ptr 1 b 0 :: (SV.raw (Value.tuple #[]) :: (SV.ptr 2 b_1 0 :: (SV.raw (Value.tuple #[]) :: (SV.bool false :: (SV.int IntKind.i64 (daysI y0 m0 d0) :: (SV.int IntKind.i64 (0 : Int) :: (SV.int IntKind.i64 (0 : Int) :: (SV.int IntKind.i64 (20 : Int) :: (rawE (SV.bool true :: (SV.bool false :: (SV.tuple [SV.int IntKind.i64 (daysI y0 m0 d0), SV.int IntKind.i64 (0 : Int)] :: (SV.agg [SV.int IntKind.i64 y0, SV.int IntKind.i64 m0, SV.int IntKind.i64 d0] :: (SV.tuple [SV.int IntKind.i64 (daysI y0 m0 d0), SV.int IntKind.i64 (0 : Int)] :: (SV.int IntKind.i64 (daysI y0 m0 d0) :: (SV.int IntKind.i64 (0 : Int) :: (SV.tuple [SV.int IntKind.i64 (0 : Int), SV.int IntKind.i64 (20 : Int)] :: (SV.agg [SV.int IntKind.i64 y0, SV.int IntKind.i64 m0, SV.int IntKind.i64 d0] :: (SV.tuple [SV.int IntKind.i64 (0 : Int), SV.int IntKind.i64 (20 : Int)] :: (SV.int IntKind.i64 (0 : Int) :: (SV.int IntKind.i64 (20 : Int) :: (rawE [] 83))))))))))))) 6))))))))))))))
             [Ent.mk (Loc.blk 0) (SObj.pred fun (W : World) (c : Ch) ↦ c = [] ∧ Lib.TabIs Tryd.prog W "internal/strconv.uint64pow10" IntKind.u64 Lib.pow10Tab),
              Ent.mk (Loc.blk b) (SObj.cells [SV.int IntKind.i64 y0, SV.int IntKind.i64 m0, SV.int IntKind.i64 d0] 23),
              Ent.mk (Loc.blk b_1)
               (SObj.cells [SV.int IntKind.i64 y, SV.int IntKind.i64 m, SV.int IntKind.i64 d, SV.int IntKind.i64 h, SV.int IntKind.i64 mi, SV.int IntKind.i64 s] 25)])
       | false =>
        (b = b ∧ 3 = 3) ∧
         true = true ∧
          match isB y0 m0 d0 with
          | true =>
           K (frmR [] (bodyOf Tryd.f4) 5)
            (Sy.mk (SV.agg [SV.int IntKind.i64 y0, SV.int IntKind.i64 m0, SV.int IntKind.i64 d0] :: (SV.int IntKind.i64 n :: (SV.agg [SV.int IntKind.i64 y, SV.int IntKind.i64 m, SV.int IntKind.i64 d, SV.int IntKind.i64 h, SV.int IntKind.i64 mi, SV.int IntKind.i64 s] :: (SV.int IntKind.i64 t :: (SV.ptr 1 b 0 :: (SV.raw (Value.tuple #[]) :: (SV.ptr 2 b_1 0 :: (SV.raw (Value.tuple #[]) :: (SV.bool false :: (SV.int IntKind.i64 (0 : Int) :: (SV.int IntKind.i64 (20 : Int) :: (SV.int IntKind.i64 (daysI y0 m0 d0) :: (SV.int IntKind.i64 (0 : Int) :: (rawE (SV.bool true :: (SV.bool false :: (SV.tuple [SV.int IntKind.i64 (0 : Int), SV.int IntKind.i64 (20 : Int)] :: (SV.agg [SV.int IntKind.i64 y0, SV.int IntKind.i64 m0, SV.int IntKind.i64 d0] :: (SV.tuple [SV.int IntKind.i64 (0 : Int), SV.int IntKind.i64 (20 : Int)] :: (SV.int IntKind.i64 (0 : Int) :: (SV.int IntKind.i64 (20 : Int) :: (SV.tuple [SV.int IntKind.i64 (daysI y0 m0 d0), SV.int IntKind.i64 (0 : Int)] :: (SV.agg [SV.int IntKind.i64 y0, SV.int IntKind.i64 m0, SV.int IntKind.i64 d0] :: (SV.tuple [SV.int IntKind.i64 (daysI y0 m0 d0), SV.int IntKind.i64 (0 : Int)] :: (SV.int IntKind.i64 (daysI y0 m0 d0) :: (SV.int IntKind.i64 (0 : Int) :: (rawE [] 83))))))))))))) 6))))))))))))))
             [Ent.mk (Loc.blk 0) (SObj.pred fun (W : World) (c : Ch) ↦ c = [] ∧ Lib.TabIs Tryd.prog W "internal/strconv.uint64pow10" IntKind.u64 Lib.pow10Tab),
              Ent.mk (Loc.blk b) (SObj.cells [SV.int IntKind.i64 y0, SV.int IntKind.i64 m0, SV.int IntKind.i64 d0] 23),
              Ent.mk (Loc.blk b_1)
               (SObj.cells [SV.int IntKind.i64 y, SV.int IntKind.i64 m, SV.int IntKind.i64 d, SV.int IntKind.i64 h, SV.int IntKind.i64 mi, SV.int IntKind.i64 s] 25)])
          | false =>
           K (frmR [] (bodyOf Tryd.f4) 5)
            (Sy.mk (SV.agg [SV.int IntKind.i64 y0, SV.int IntKind.i64 m0, SV.int IntKind.i64 d0] :: (SV.int IntKind.i64 n :: (SV.agg [SV.int IntKind.i64 y, SV.int IntKind.i64 m, SV.int IntKind.i64 d, SV.int IntKind.i64 h, SV.int IntKind.i64 mi, SV.int IntKind.i64 s] :: (SV.int IntKind.i64 t :: (SV.ptr 1 b 0 :: (SV.raw (Value.tuple #[]) :: (SV.ptr 2 b_1 0 :: (SV.raw (Value.tuple #[]) :: (SV.bool false :: (SV.int IntKind.i64 (0 : Int) :: (SV.int IntKind.i64 (20 : Int) :: (SV.int IntKind.i64 (0 : Int) :: (SV.int IntKind.i64 (20 : Int) :: (rawE (SV.bool true :: (SV.bool false :: (SV.tuple [SV.int IntKind.i64 (0 : Int), SV.int IntKind.i64 (20 : Int)] :: (SV.agg [SV.int IntKind.i64 y0, SV.int IntKind.i64 m0, SV.int IntKind.i64 d0] :: (SV.tuple [SV.int IntKind.i64 (0 : Int), SV.int IntKind.i64 (20 : Int)] :: (SV.int IntKind.i64 (0 : Int) :: (SV.int IntKind.i64 (20 : Int) :: (SV.tuple [SV.int IntKind.i64 (0 : Int), SV.int IntKind.i64 (20 : Int)] :: (SV.agg [SV.int IntKind.i64 y0, SV.int IntKind.i64 m0, SV.int IntKind.i64 d0] :: (SV.tuple [SV.int IntKind.i64 (0 : Int), SV.int IntKind.i64 (20 : Int)] :: (SV.int IntKind.i64 (0 : Int) :: (SV.int IntKind.i64 (20 : Int) :: (rawE [] 83))))))))))))) 6))))))))))))))
             [Ent.mk (Loc.blk 0) (SObj.pred fun (W : World) (c : Ch) ↦ c = [] ∧ Lib.TabIs Tryd.prog W "internal/strconv.uint64pow10" IntKind.u64 Lib.pow10Tab),
              Ent.mk (Loc.blk b) (SObj.cells [SV.int IntKind.i64 y0, SV.int IntKind.i64 m0, SV.int IntKind.i64 d0] 23),
              Ent.mk (Loc.blk b_1)
               (SObj.cells [SV.int IntKind.i64 y, SV.int IntKind.i64 m, SV.int IntKind.i64 d, SV.int IntKind.i64 h, SV.int IntKind.i64 mi, SV.int IntKind.i64 s] 25)])) := by kernel_rfl


theorem tl_5 (K : List Frm → Sy → Prop) (N : List Ent → SV → Prop) (b0 b1 : Nat) (y0 m0 d0 n : Int) (y m d h mi s t : Int) (a e : Int) (u : Nat → Value) : (run Tryd.prog tellsT true [7] K (retP Tryd.prog Tryd.f4.results.toList N) 2000 (frmR [] (bodyOf Tryd.f4) 5) ⟨mkT u 114 0 [(1, .int .i64 n), (3, .int .i64 t), (4, .ptr 1 b0 0), (6, .ptr 2 b1 0), (9, .int .i64 a), (10, .int .i64 e), (11, .int .i64 a), (12, .int .i64 e)], [itoaE, ⟨.blk b0, .cells [.int .i64 y0, .int .i64 m0, .int .i64 d0] 23⟩, ⟨.blk b1, .cells [.int .i64 y, .int .i64 m, .int .i64 d, .int .i64 h, .int .i64 mi, .int .i64 s] 25⟩]⟩) = (
(b0 = b0 ∧ 3 = 3) ∧
 (b0 = b0 ∧ 3 = 3) ∧
  true = true ∧
   (Ent.mk (Loc.blk 0) (SObj.pred fun (W : World) (c : Ch) ↦ c = [] ∧ Lib.TabIs Tryd.prog W "internal/strconv.uint64pow10" IntKind.u64 Lib.pow10Tab) =
    Ent.mk (Loc.blk 0) (SObj.pred fun (W : World) (c : Ch) ↦ c = [] ∧ Lib.TabIs Tryd.prog W "internal/strconv.uint64pow10" IntKind.u64 Lib.pow10Tab) ∧
    Ent.mk (Loc.blk b0) (SObj.cells [SV.int IntKind.i64 y0, SV.int IntKind.i64 m0, SV.int IntKind.i64 d0] (23 : TypeId)) =
     Ent.mk (Loc.blk b0) (SObj.cells [SV.int IntKind.i64 y0, SV.int IntKind.i64 m0, SV.int IntKind.i64 d0] (23 : TypeId)) ∧
     Ent.mk (Loc.blk b1) (SObj.cells [SV.int IntKind.i64 y, SV.int IntKind.i64 m, SV.int IntKind.i64 d, SV.int IntKind.i64 h, SV.int IntKind.i64 mi, SV.int IntKind.i64 s] (25 : TypeId)) =
      Ent.mk (Loc.blk b1) (SObj.cells [SV.int IntKind.i64 y, SV.int IntKind.i64 m, SV.int IntKind.i64 d, SV.int IntKind.i64 h, SV.int IntKind.i64 mi, SV.int IntKind.i64 s] (25 : TypeId)) ∧
      True) ∧
    true = true ∧
     (Ent.mk (Loc.blk 0) (SObj.pred fun (W : World) (c : Ch) ↦ c = [] ∧ Lib.TabIs Tryd.prog W "internal/strconv.uint64pow10" IntKind.u64 Lib.pow10Tab) =
      Ent.mk (Loc.blk 0) (SObj.pred fun (W : World) (c : Ch) ↦ c = [] ∧ Lib.TabIs Tryd.prog W "internal/strconv.uint64pow10" IntKind.u64 Lib.pow10Tab) ∧
      Ent.mk (Loc.blk b0) (SObj.cells [SV.int IntKind.i64 y0, SV.int IntKind.i64 m0, SV.int IntKind.i64 d0] (23 : TypeId)) =
       Ent.mk (Loc.blk b0) (SObj.cells [SV.int IntKind.i64 y0, SV.int IntKind.i64 m0, SV.int IntKind.i64 d0] (23 : TypeId)) ∧
       Ent.mk (Loc.blk b1) (SObj.cells [SV.int IntKind.i64 y, SV.int IntKind.i64 m, SV.int IntKind.i64 d, SV.int IntKind.i64 h, SV.int IntKind.i64 mi, SV.int IntKind.i64 s] (25 : TypeId)) =
        Ent.mk (Loc.blk b1)
         (SObj.cells [SV.int IntKind.i64 y, SV.int IntKind.i64 m, SV.int IntKind.i64 d, SV.int IntKind.i64 h, SV.int IntKind.i64 mi, SV.int IntKind.i64 s] (25 : TypeId)) ∧
        True) ∧
      match !isB y0 m0 d0 == isB y0 m0 d0 with
      | true =>
       (Ent.mk (Loc.blk 0) (SObj.pred fun (W : World) (c : Ch) ↦ c = [] ∧ Lib.TabIs Tryd.prog W "internal/strconv.uint64pow10" IntKind.u64 Lib.pow10Tab) =
        Ent.mk (Loc.blk 0) (SObj.pred fun (W : World) (c : Ch) ↦ c = [] ∧ Lib.TabIs Tryd.prog W "internal/strconv.uint64pow10" IntKind.u64 Lib.pow10Tab) ∧
        Ent.mk (Loc.blk b0) (SObj.cells [SV.int IntKind.i64 y0, SV.int IntKind.i64 m0, SV.int IntKind.i64 d0] (23 : TypeId)) =
         Ent.mk (Loc.blk b0) (SObj.cells [SV.int IntKind.i64 y0, SV.int IntKind.i64 m0, SV.int IntKind.i64 d0] (23 : TypeId)) ∧
         Ent.mk (Loc.blk b1)
          (SObj.cells [SV.int IntKind.i64 y, SV.int IntKind.i64 m, SV.int IntKind.i64 d, SV.int IntKind.i64 h, SV.int IntKind.i64 mi, SV.int IntKind.i64 s] (25 : TypeId)) =
          Ent.mk (Loc.blk b1)
           (SObj.cells [SV.int IntKind.i64 y, SV.int IntKind.i64 m, SV.int IntKind.i64 d, SV.int IntKind.i64 h, SV.int IntKind.i64 mi, SV.int IntKind.i64 s] (25 : TypeId)) ∧
          True) ∧
        (Ent.mk (Loc.blk 0) (SObj.pred fun (W : World) (c : Ch) ↦ c = [] ∧ Lib.TabIs Tryd.prog W "internal/strconv.uint64pow10" IntKind.u64 Lib.pow10Tab) =
         Ent.mk (Loc.blk 0) (SObj.pred fun (W : World) (c : Ch) ↦ c = [] ∧ Lib.TabIs Tryd.prog W "internal/strconv.uint64pow10" IntKind.u64 Lib.pow10Tab) ∧
         Ent.mk (Loc.blk b0) (SObj.cells [SV.int IntKind.i64 y0, SV.int IntKind.i64 m0, SV.int IntKind.i64 d0] (23 : TypeId)) =
          Ent.mk (Loc.blk b0) (SObj.cells [SV.int IntKind.i64 y0, SV.int IntKind.i64 m0, SV.int IntKind.i64 d0] (23 : TypeId)) ∧
          Ent.mk (Loc.blk b1)
           (SObj.cells [SV.int IntKind.i64 y, SV.int IntKind.i64 m, SV.int IntKind.i64 d, SV.int IntKind.i64 h, SV.int IntKind.i64 mi, SV.int IntKind.i64 s] (25 : TypeId)) =
           Ent.mk (Loc.blk b1)
            (SObj.cells [SV.int IntKind.i64 y, SV.int IntKind.i64 m, SV.int IntKind.i64 d, SV.int IntKind.i64 h, SV.int IntKind.i64 mi, SV.int IntKind.i64 s] (25 : TypeId)) ∧
           True) ∧
         (Ent.mk (Loc.blk 0) (SObj.pred fun (W : World) (c : Ch) ↦ c = [] ∧ Lib.TabIs Tryd.prog W "internal/strconv.uint64pow10" IntKind.u64 Lib.pow10Tab) =
          Ent.mk (Loc.blk 0) (SObj.pred fun (W : World) (c : Ch) ↦ c = [] ∧ Lib.TabIs Tryd.prog W "internal/strconv.uint64pow10" IntKind.u64 Lib.pow10Tab) ∧
          Ent.mk (Loc.blk b0) (SObj.cells [SV.int IntKind.i64 y0, SV.int IntKind.i64 m0, SV.int IntKind.i64 d0] (23 : TypeId)) =
           Ent.mk (Loc.blk b0) (SObj.cells [SV.int IntKind.i64 y0, SV.int IntKind.i64 m0, SV.int IntKind.i64 d0] (23 : TypeId)) ∧
           Ent.mk (Loc.blk b1)
            (SObj.cells [SV.int IntKind.i64 y, SV.int IntKind.i64 m, SV.int IntKind.i64 d, SV.int IntKind.i64 h, SV.int IntKind.i64 mi, SV.int IntKind.i64 s] (25 : TypeId)) =
            Ent.mk (Loc.blk b1)
             (SObj.cells [SV.int IntKind.i64 y, SV.int IntKind.i64 m, SV.int IntKind.i64 d, SV.int IntKind.i64 h, SV.int IntKind.i64 mi, SV.int IntKind.i64 s] (25 : TypeId)) ∧
            True) ∧
          (Ent.mk (Loc.blk 0) (SObj.pred fun (W : World) (c : Ch) ↦ c = [] ∧ Lib.TabIs Tryd.prog W "internal/strconv.uint64pow10" IntKind.u64 Lib.pow10Tab) =
           Ent.mk (Loc.blk 0) (SObj.pred fun (W : World) (c : Ch) ↦ c = [] ∧ Lib.TabIs Tryd.prog W "internal/strconv.uint64pow10" IntKind.u64 Lib.pow10Tab) ∧
           Ent.mk (Loc.blk b0) (SObj.cells [SV.int IntKind.i64 y0, SV.int IntKind.i64 m0, SV.int IntKind.i64 d0] (23 : TypeId)) =
            Ent.mk (Loc.blk b0) (SObj.cells [SV.int IntKind.i64 y0, SV.int IntKind.i64 m0, SV.int IntKind.i64 d0] (23 : TypeId)) ∧
            Ent.mk (Loc.blk b1)
             (SObj.cells [SV.int IntKind.i64 y, SV.int IntKind.i64 m, SV.int IntKind.i64 d, SV.int IntKind.i64 h, SV.int IntKind.i64 mi, SV.int IntKind.i64 s] (25 : TypeId)) =
             Ent.mk (Loc.blk b1)
              (SObj.cells [SV.int IntKind.i64 y, SV.int IntKind.i64 m, SV.int IntKind.i64 d, SV.int IntKind.i64 h, SV.int IntKind.i64 mi, SV.int IntKind.i64 s] (25 : TypeId)) ∧
             True) ∧
           N
            [Ent.mk (Loc.blk 0) (SObj.pred fun (W : World) (c : Ch) ↦ c = [] ∧ Lib.TabIs Tryd.prog W "internal/strconv.uint64pow10" IntKind.u64 Lib.pow10Tab),
             Ent.mk (Loc.blk b0) (SObj.cells [SV.int IntKind.i64 y0, SV.int IntKind.i64 m0, SV.int IntKind.i64 d0] (23 : TypeId)),
             Ent.mk (Loc.blk b1)
              (SObj.cells [SV.int IntKind.i64 y, SV.int IntKind.i64 m, SV.int IntKind.i64 d, SV.int IntKind.i64 h, SV.int IntKind.i64 mi, SV.int IntKind.i64 s] (25 : TypeId))]
            (SV.bool false)
      | false =>
       match a != a with
       | true =>
        (Ent.mk (Loc.blk 0) (SObj.pred fun (W : World) (c : Ch) ↦ c = [] ∧ Lib.TabIs Tryd.prog W "internal/strconv.uint64pow10" IntKind.u64 Lib.pow10Tab) =
         Ent.mk (Loc.blk 0) (SObj.pred fun (W : World) (c : Ch) ↦ c = [] ∧ Lib.TabIs Tryd.prog W "internal/strconv.uint64pow10" IntKind.u64 Lib.pow10Tab) ∧
         Ent.mk (Loc.blk b0) (SObj.cells [SV.int IntKind.i64 y0, SV.int IntKind.i64 m0, SV.int IntKind.i64 d0] (23 : TypeId)) =
          Ent.mk (Loc.blk b0) (SObj.cells [SV.int IntKind.i64 y0, SV.int IntKind.i64 m0, SV.int IntKind.i64 d0] (23 : TypeId)) ∧
          Ent.mk (Loc.blk b1)
           (SObj.cells [SV.int IntKind.i64 y, SV.int IntKind.i64 m, SV.int IntKind.i64 d, SV.int IntKind.i64 h, SV.int IntKind.i64 mi, SV.int IntKind.i64 s] (25 : TypeId)) =
           Ent.mk (Loc.blk b1)
            (SObj.cells [SV.int IntKind.i64 y, SV.int IntKind.i64 m, SV.int IntKind.i64 d, SV.int IntKind.i64 h, SV.int IntKind.i64 mi, SV.int IntKind.i64 s] (25 : TypeId)) ∧
           True) ∧
         (Ent.mk (Loc.blk 0) (SObj.pred fun (W : World) (c : Ch) ↦ c = [] ∧ Lib.TabIs Tryd.prog W "internal/strconv.uint64pow10" IntKind.u64 Lib.pow10Tab) =
          Ent.mk (Loc.blk 0) (SObj.pred fun (W : World) (c : Ch) ↦ c = [] ∧ Lib.TabIs Tryd.prog W "internal/strconv.uint64pow10" IntKind.u64 Lib.pow10Tab) ∧
          Ent.mk (Loc.blk b0) (SObj.cells [SV.int IntKind.i64 y0, SV.int IntKind.i64 m0, SV.int IntKind.i64 d0] (23 : TypeId)) =
           Ent.mk (Loc.blk b0) (SObj.cells [SV.int IntKind.i64 y0, SV.int IntKind.i64 m0, SV.int IntKind.i64 d0] (23 : TypeId)) ∧
           Ent.mk (Loc.blk b1)
            (SObj.cells [SV.int IntKind.i64 y, SV.int IntKind.i64 m, SV.int IntKind.i64 d, SV.int IntKind.i64 h, SV.int IntKind.i64 mi, SV.int IntKind.i64 s] (25 : TypeId)) =
            Ent.mk (Loc.blk b1)
             (SObj.cells [SV.int IntKind.i64 y, SV.int IntKind.i64 m, SV.int IntKind.i64 d, SV.int IntKind.i64 h, SV.int IntKind.i64 mi, SV.int IntKind.i64 s] (25 : TypeId)) ∧
            True) ∧
          (Ent.mk (Loc.blk 0) (SObj.pred fun (W : World) (c : Ch) ↦ c = [] ∧ Lib.TabIs Tryd.prog W "internal/strconv.uint64pow10" IntKind.u64 Lib.pow10Tab) =
           Ent.mk (Loc.blk 0) (SObj.pred fun (W : World) (c : Ch) ↦ c = [] ∧ Lib.TabIs Tryd.prog W "internal/strconv.uint64pow10" IntKind.u64 Lib.pow10Tab) ∧
           Ent.mk (Loc.blk b0) (SObj.cells [SV.int IntKind.i64 y0, SV.int IntKind.i64 m0, SV.int IntKind.i64 d0] (23 : TypeId)) =
            Ent.mk (Loc.blk b0) (SObj.cells [SV.int IntKind.i64 y0, SV.int IntKind.i64 m0, SV.int IntKind.i64 d0] (23 : TypeId)) ∧
            Ent.mk (Loc.blk b1)
             (SObj.cells [SV.int IntKind.i64 y, SV.int IntKind.i64 m, SV.int IntKind.i64 d, SV.int IntKind.i64 h, SV.int IntKind.i64 mi, SV.int IntKind.i64 s] (25 : TypeId)) =
             Ent.mk (Loc.blk b1)
              (SObj.cells [SV.int IntKind.i64 y, SV.int IntKind.i64 m, SV.int IntKind.i64 d, SV.int IntKind.i64 h, SV.int IntKind.i64 mi, SV.int IntKind.i64 s] (25 : TypeId)) ∧
             True) ∧
           (Ent.mk (Loc.blk 0) (SObj.pred fun (W : World) (c : Ch) ↦ c = [] ∧ Lib.TabIs Tryd.prog W "internal/strconv.uint64pow10" IntKind.u64 Lib.pow10Tab) =
            Ent.mk (Loc.blk 0) (SObj.pred fun (W : World) (c : Ch) ↦ c = [] ∧ Lib.TabIs Tryd.prog W "internal/strconv.uint64pow10" IntKind.u64 Lib.pow10Tab) ∧
            Ent.mk (Loc.blk b0) (SObj.cells [SV.int IntKind.i64 y0, SV.int IntKind.i64 m0, SV.int IntKind.i64 d0] (23 : TypeId)) =
             Ent.mk (Loc.blk b0) (SObj.cells [SV.int IntKind.i64 y0, SV.int IntKind.i64 m0, SV.int IntKind.i64 d0] (23 : TypeId)) ∧
             Ent.mk (Loc.blk b1)
              (SObj.cells [SV.int IntKind.i64 y, SV.int IntKind.i64 m, SV.int IntKind.i64 d, SV.int IntKind.i64 h, SV.int IntKind.i64 mi, SV.int IntKind.i64 s] (25 : TypeId)) =
              Ent.mk (Loc.blk b1)
               (SObj.cells [SV.int IntKind.i64 y, SV.int IntKind.i64 m, SV.int IntKind.i64 d, SV.int IntKind.i64 h, SV.int IntKind.i64 mi, SV.int IntKind.i64 s] (25 : TypeId)) ∧
              True) ∧
            N
             [Ent.mk (Loc.blk 0) (SObj.pred fun (W : World) (c : Ch) ↦ c = [] ∧ Lib.TabIs Tryd.prog W "internal/strconv.uint64pow10" IntKind.u64 Lib.pow10Tab),
              Ent.mk (Loc.blk b0) (SObj.cells [SV.int IntKind.i64 y0, SV.int IntKind.i64 m0, SV.int IntKind.i64 d0] (23 : TypeId)),
              Ent.mk (Loc.blk b1)
               (SObj.cells [SV.int IntKind.i64 y, SV.int IntKind.i64 m, SV.int IntKind.i64 d, SV.int IntKind.i64 h, SV.int IntKind.i64 mi, SV.int IntKind.i64 s] (25 : TypeId))]
             (SV.bool false)
       | false =>
        match e != e with
        | true =>
         (Ent.mk (Loc.blk 0) (SObj.pred fun (W : World) (c : Ch) ↦ c = [] ∧ Lib.TabIs Tryd.prog W "internal/strconv.uint64pow10" IntKind.u64 Lib.pow10Tab) =
          Ent.mk (Loc.blk 0) (SObj.pred fun (W : World) (c : Ch) ↦ c = [] ∧ Lib.TabIs Tryd.prog W "internal/strconv.uint64pow10" IntKind.u64 Lib.pow10Tab) ∧
          Ent.mk (Loc.blk b0) (SObj.cells [SV.int IntKind.i64 y0, SV.int IntKind.i64 m0, SV.int IntKind.i64 d0] (23 : TypeId)) =
           Ent.mk (Loc.blk b0) (SObj.cells [SV.int IntKind.i64 y0, SV.int IntKind.i64 m0, SV.int IntKind.i64 d0] (23 : TypeId)) ∧
           Ent.mk (Loc.blk b1)
            (SObj.cells [SV.int IntKind.i64 y, SV.int IntKind.i64 m, SV.int IntKind.i64 d, SV.int IntKind.i64 h, SV.int IntKind.i64 mi, SV.int IntKind.i64 s] (25 : TypeId)) =
            Ent.mk (Loc.blk b1)
             (SObj.cells [SV.int IntKind.i64 y, SV.int IntKind.i64 m, SV.int IntKind.i64 d, SV.int IntKind.i64 h, SV.int IntKind.i64 mi, SV.int IntKind.i64 s] (25 : TypeId)) ∧
            True) ∧
          (Ent.mk (Loc.blk 0) (SObj.pred fun (W : World) (c : Ch) ↦ c = [] ∧ Lib.TabIs Tryd.prog W "internal/strconv.uint64pow10" IntKind.u64 Lib.pow10Tab) =
           Ent.mk (Loc.blk 0) (SObj.pred fun (W : World) (c : Ch) ↦ c = [] ∧ Lib.TabIs Tryd.prog W "internal/strconv.uint64pow10" IntKind.u64 Lib.pow10Tab) ∧
           Ent.mk (Loc.blk b0) (SObj.cells [SV.int IntKind.i64 y0, SV.int IntKind.i64 m0, SV.int IntKind.i64 d0] (23 : TypeId)) =
            Ent.mk (Loc.blk b0) (SObj.cells [SV.int IntKind.i64 y0, SV.int IntKind.i64 m0, SV.int IntKind.i64 d0] (23 : TypeId)) ∧
            Ent.mk (Loc.blk b1)
             (SObj.cells [SV.int IntKind.i64 y, SV.int IntKind.i64 m, SV.int IntKind.i64 d, SV.int IntKind.i64 h, SV.int IntKind.i64 mi, SV.int IntKind.i64 s] (25 : TypeId)) =
             Ent.mk (Loc.blk b1)
              (SObj.cells [SV.int IntKind.i64 y, SV.int IntKind.i64 m, SV.int IntKind.i64 d, SV.int IntKind.i64 h, SV.int IntKind.i64 mi, SV.int IntKind.i64 s] (25 : TypeId)) ∧
             True) ∧
           (Ent.mk (Loc.blk 0) (SObj.pred fun (W : World) (c : Ch) ↦ c = [] ∧ Lib.TabIs Tryd.prog W "internal/strconv.uint64pow10" IntKind.u64 Lib.pow10Tab) =
            Ent.mk (Loc.blk 0) (SObj.pred fun (W : World) (c : Ch) ↦ c = [] ∧ Lib.TabIs Tryd.prog W "internal/strconv.uint64pow10" IntKind.u64 Lib.pow10Tab) ∧
            Ent.mk (Loc.blk b0) (SObj.cells [SV.int IntKind.i64 y0, SV.int IntKind.i64 m0, SV.int IntKind.i64 d0] (23 : TypeId)) =
             Ent.mk (Loc.blk b0) (SObj.cells [SV.int IntKind.i64 y0, SV.int IntKind.i64 m0, SV.int IntKind.i64 d0] (23 : TypeId)) ∧
             Ent.mk (Loc.blk b1)
              (SObj.cells [SV.int IntKind.i64 y, SV.int IntKind.i64 m, SV.int IntKind.i64 d, SV.int IntKind.i64 h, SV.int IntKind.i64 mi, SV.int IntKind.i64 s] (25 : TypeId)) =
              Ent.mk (Loc.blk b1)
               (SObj.cells [SV.int IntKind.i64 y, SV.int IntKind.i64 m, SV.int IntKind.i64 d, SV.int IntKind.i64 h, SV.int IntKind.i64 mi, SV.int IntKind.i64 s] (25 : TypeId)) ∧
              True) ∧
            (Ent.mk (Loc.blk 0) (SObj.pred fun (W : World) (c : Ch) ↦ c = [] ∧ Lib.TabIs Tryd.prog W "internal/strconv.uint64pow10" IntKind.u64 Lib.pow10Tab) =
             Ent.mk (Loc.blk 0) (SObj.pred fun (W : World) (c : Ch) ↦ c = [] ∧ Lib.TabIs Tryd.prog W "internal/strconv.uint64pow10" IntKind.u64 Lib.pow10Tab) ∧
             Ent.mk (Loc.blk b0) (SObj.cells [SV.int IntKind.i64 y0, SV.int IntKind.i64 m0, SV.int IntKind.i64 d0] (23 : TypeId)) =
              Ent.mk (Loc.blk b0) (SObj.cells [SV.int IntKind.i64 y0, SV.int IntKind.i64 m0, SV.int IntKind.i64 d0] (23 : TypeId)) ∧
              Ent.mk (Loc.blk b1)
               (SObj.cells [SV.int IntKind.i64 y, SV.int IntKind.i64 m, SV.int IntKind.i64 d, SV.int IntKind.i64 h, SV.int IntKind.i64 mi, SV.int IntKind.i64 s] (25 : TypeId)) =
               Ent.mk (Loc.blk b1)
                (SObj.cells [SV.int IntKind.i64 y, SV.int IntKind.i64 m, SV.int IntKind.i64 d, SV.int IntKind.i64 h, SV.int IntKind.i64 mi, SV.int IntKind.i64 s] (25 : TypeId)) ∧
               True) ∧
             N
              [Ent.mk (Loc.blk 0) (SObj.pred fun (W : World) (c : Ch) ↦ c = [] ∧ Lib.TabIs Tryd.prog W "internal/strconv.uint64pow10" IntKind.u64 Lib.pow10Tab),
               Ent.mk (Loc.blk b0) (SObj.cells [SV.int IntKind.i64 y0, SV.int IntKind.i64 m0, SV.int IntKind.i64 d0] (23 : TypeId)),
               Ent.mk (Loc.blk b1)
                (SObj.cells [SV.int IntKind.i64 y, SV.int IntKind.i64 m, SV.int IntKind.i64 d, SV.int IntKind.i64 h, SV.int IntKind.i64 mi, SV.int IntKind.i64 s] (25 : TypeId))]
              (SV.bool false)
        | false =>
         true = true ∧
          ((-9223372036854775808 : Int) ≤ n ∧ n ≤ (9223372036854775807 : Int)) ∧
           (Ent.mk (Loc.blk 0) (SObj.pred fun (W : World) (c : Ch) ↦ c = [] ∧ Lib.TabIs Tryd.prog W "internal/strconv.uint64pow10" IntKind.u64 Lib.pow10Tab) =
            Ent.mk (Loc.blk 0) (SObj.pred fun (W : World) (c : Ch) ↦ c = [] ∧ Lib.TabIs Tryd.prog W "internal/strconv.uint64pow10" IntKind.u64 Lib.pow10Tab) ∧
            Ent.mk (Loc.blk b0) (SObj.cells [SV.int IntKind.i64 y0, SV.int IntKind.i64 m0, SV.int IntKind.i64 d0] (23 : TypeId)) =
             Ent.mk (Loc.blk b0) (SObj.cells [SV.int IntKind.i64 y0, SV.int IntKind.i64 m0, SV.int IntKind.i64 d0] (23 : TypeId)) ∧
             Ent.mk (Loc.blk b1)
              (SObj.cells [SV.int IntKind.i64 y, SV.int IntKind.i64 m, SV.int IntKind.i64 d, SV.int IntKind.i64 h, SV.int IntKind.i64 mi, SV.int IntKind.i64 s] (25 : TypeId)) =
              Ent.mk (Loc.blk b1)
               (SObj.cells [SV.int IntKind.i64 y, SV.int IntKind.i64 m, SV.int IntKind.i64 d, SV.int IntKind.i64 h, SV.int IntKind.i64 mi, SV.int IntKind.i64 s] (25 : TypeId)) ∧
              True) ∧
            true = true ∧
             ((-9223372036854775808 : Int) ≤ n ∧ n ≤ (9223372036854775807 : Int)) ∧
              (Ent.mk (Loc.blk 0) (SObj.pred fun (W : World) (c : Ch) ↦ c = [] ∧ Lib.TabIs Tryd.prog W "internal/strconv.uint64pow10" IntKind.u64 Lib.pow10Tab) =
               Ent.mk (Loc.blk 0) (SObj.pred fun (W : World) (c : Ch) ↦ c = [] ∧ Lib.TabIs Tryd.prog W "internal/strconv.uint64pow10" IntKind.u64 Lib.pow10Tab) ∧
               Ent.mk (Loc.blk b0) (SObj.cells [SV.int IntKind.i64 y0, SV.int IntKind.i64 m0, SV.int IntKind.i64 d0] (23 : TypeId)) =
                Ent.mk (Loc.blk b0) (SObj.cells [SV.int IntKind.i64 y0, SV.int IntKind.i64 m0, SV.int IntKind.i64 d0] (23 : TypeId)) ∧
                Ent.mk (Loc.blk b1)
                 (SObj.cells [SV.int IntKind.i64 y, SV.int IntKind.i64 m, SV.int IntKind.i64 d, SV.int IntKind.i64 h, SV.int IntKind.i64 mi, SV.int IntKind.i64 s]
                  (25 : TypeId)) =
                 Ent.mk (Loc.blk b1)
                  (SObj.cells [SV.int IntKind.i64 y, SV.int IntKind.i64 m, SV.int IntKind.i64 d, SV.int IntKind.i64 h, SV.int IntKind.i64 mi, SV.int IntKind.i64 s]
                   (25 : TypeId)) ∧
                 True) ∧
               match (n + (3 : Int)) % (7 : Int) != (n + (3 : Int)) % (7 : Int) with
               | true =>
                (Ent.mk (Loc.blk 0) (SObj.pred fun (W : World) (c : Ch) ↦ c = [] ∧ Lib.TabIs Tryd.prog W "internal/strconv.uint64pow10" IntKind.u64 Lib.pow10Tab) =
                 Ent.mk (Loc.blk 0) (SObj.pred fun (W : World) (c : Ch) ↦ c = [] ∧ Lib.TabIs Tryd.prog W "internal/strconv.uint64pow10" IntKind.u64 Lib.pow10Tab) ∧
                 Ent.mk (Loc.blk b0) (SObj.cells [SV.int IntKind.i64 y0, SV.int IntKind.i64 m0, SV.int IntKind.i64 d0] (23 : TypeId)) =
                  Ent.mk (Loc.blk b0) (SObj.cells [SV.int IntKind.i64 y0, SV.int IntKind.i64 m0, SV.int IntKind.i64 d0] (23 : TypeId)) ∧
                  Ent.mk (Loc.blk b1)
                   (SObj.cells [SV.int IntKind.i64 y, SV.int IntKind.i64 m, SV.int IntKind.i64 d, SV.int IntKind.i64 h, SV.int IntKind.i64 mi, SV.int IntKind.i64 s]
                    (25 : TypeId)) =
                   Ent.mk (Loc.blk b1)
                    (SObj.cells [SV.int IntKind.i64 y, SV.int IntKind.i64 m, SV.int IntKind.i64 d, SV.int IntKind.i64 h, SV.int IntKind.i64 mi, SV.int IntKind.i64 s]
                     (25 : TypeId)) ∧
                   True) ∧
                 (Ent.mk (Loc.blk 0) (SObj.pred fun (W : World) (c : Ch) ↦ c = [] ∧ Lib.TabIs Tryd.prog W "internal/strconv.uint64pow10" IntKind.u64 Lib.pow10Tab) =
                  Ent.mk (Loc.blk 0) (SObj.pred fun (W : World) (c : Ch) ↦ c = [] ∧ Lib.TabIs Tryd.prog W "internal/strconv.uint64pow10" IntKind.u64 Lib.pow10Tab) ∧
                  Ent.mk (Loc.blk b0) (SObj.cells [SV.int IntKind.i64 y0, SV.int IntKind.i64 m0, SV.int IntKind.i64 d0] (23 : TypeId)) =
                   Ent.mk (Loc.blk b0) (SObj.cells [SV.int IntKind.i64 y0, SV.int IntKind.i64 m0, SV.int IntKind.i64 d0] (23 : TypeId)) ∧
                   Ent.mk (Loc.blk b1)
                    (SObj.cells [SV.int IntKind.i64 y, SV.int IntKind.i64 m, SV.int IntKind.i64 d, SV.int IntKind.i64 h, SV.int IntKind.i64 mi, SV.int IntKind.i64 s]
                     (25 : TypeId)) =
                    Ent.mk (Loc.blk b1)
                     (SObj.cells [SV.int IntKind.i64 y, SV.int IntKind.i64 m, SV.int IntKind.i64 d, SV.int IntKind.i64 h, SV.int IntKind.i64 mi, SV.int IntKind.i64 s]
                      (25 : TypeId)) ∧
                    True) ∧
                  N
                   [Ent.mk (Loc.blk 0) (SObj.pred fun (W : World) (c : Ch) ↦ c = [] ∧ Lib.TabIs Tryd.prog W "internal/strconv.uint64pow10" IntKind.u64 Lib.pow10Tab),
                    Ent.mk (Loc.blk b0) (SObj.cells [SV.int IntKind.i64 y0, SV.int IntKind.i64 m0, SV.int IntKind.i64 d0] (23 : TypeId)),
                    Ent.mk (Loc.blk b1)
                     (SObj.cells [SV.int IntKind.i64 y, SV.int IntKind.i64 m, SV.int IntKind.i64 d, SV.int IntKind.i64 h, SV.int IntKind.i64 mi, SV.int IntKind.i64 s]
                      (25 : TypeId))]
                   (SV.bool false)
               | false =>
                (b1 = b1 ∧ 6 = 6) ∧
                 (b1 = b1 ∧ 6 = 6) ∧
                  true = true ∧
                   some (Ent.mk (Loc.blk 0) (SObj.pred fun (W : World) (c : Ch) ↦ c = [] ∧ Lib.TabIs Tryd.prog W "internal/strconv.uint64pow10" IntKind.u64 Lib.pow10Tab)) =
                    some
                     (Ent.mk (Loc.blk 0) (SObj.pred fun (W : World) (c : Ch) ↦ c = [] ∧ Lib.TabIs Tryd.prog W "internal/strconv.uint64pow10" IntKind.u64 Lib.pow10Tab)) ∧
                    match isMomB y m d h mi s with
                    | true =>
                     (Ent.mk (Loc.blk 0) (SObj.pred fun (W : World) (c : Ch) ↦ c = [] ∧ Lib.TabIs Tryd.prog W "internal/strconv.uint64pow10" IntKind.u64 Lib.pow10Tab) =
                      Ent.mk (Loc.blk 0)
                       (SObj.pred fun (W : World) (c : Ch) ↦ c = [] ∧ Lib.TabIs Tryd.prog W "internal/strconv.uint64pow10" IntKind.u64 Lib.pow10Tab) ∧
                      Ent.mk (Loc.blk b0) (SObj.cells [SV.int IntKind.i64 y0, SV.int IntKind.i64 m0, SV.int IntKind.i64 d0] (23 : TypeId)) =
                       Ent.mk (Loc.blk b0) (SObj.cells [SV.int IntKind.i64 y0, SV.int IntKind.i64 m0, SV.int IntKind.i64 d0] (23 : TypeId)) ∧
                       Ent.mk (Loc.blk b1)
                        (SObj.cells [SV.int IntKind.i64 y, SV.int IntKind.i64 m, SV.int IntKind.i64 d, SV.int IntKind.i64 h, SV.int IntKind.i64 mi, SV.int IntKind.i64 s]
                         (25 : TypeId)) =
                        Ent.mk (Loc.blk b1)
                         (SObj.cells [SV.int IntKind.i64 y, SV.int IntKind.i64 m, SV.int IntKind.i64 d, SV.int IntKind.i64 h, SV.int IntKind.i64 mi, SV.int IntKind.i64 s]
                          (25 : TypeId)) ∧
                        True) ∧
                      true = true ∧
                       match isMomB y m d h mi s with
                       | true =>
                        (Ent.mk (Loc.blk 0)
                         (SObj.pred fun (W : World) (c : Ch) ↦ c = [] ∧ Lib.TabIs Tryd.prog W "internal/strconv.uint64pow10" IntKind.u64 Lib.pow10Tab) =
                         Ent.mk (Loc.blk 0)
                          (SObj.pred fun (W : World) (c : Ch) ↦ c = [] ∧ Lib.TabIs Tryd.prog W "internal/strconv.uint64pow10" IntKind.u64 Lib.pow10Tab) ∧
                         Ent.mk (Loc.blk b0) (SObj.cells [SV.int IntKind.i64 y0, SV.int IntKind.i64 m0, SV.int IntKind.i64 d0] (23 : TypeId)) =
                          Ent.mk (Loc.blk b0) (SObj.cells [SV.int IntKind.i64 y0, SV.int IntKind.i64 m0, SV.int IntKind.i64 d0] (23 : TypeId)) ∧
                          Ent.mk (Loc.blk b1)
                           (SObj.cells
                            [SV.int IntKind.i64 y, SV.int IntKind.i64 m, SV.int IntKind.i64 d, SV.int IntKind.i64 h, SV.int IntKind.i64 mi, SV.int IntKind.i64 s]
                            (25 : TypeId)) =
                           Ent.mk (Loc.blk b1)
                            (SObj.cells
                             [SV.int IntKind.i64 y, SV.int IntKind.i64 m, SV.int IntKind.i64 d, SV.int IntKind.i64 h, SV.int IntKind.i64 mi, SV.int IntKind.i64 s]
                             (25 : TypeId)) ∧
                           True) ∧
                         match !sEq (printB y m d h mi s) (print2B y m d h mi s) with
                         | true =>
                          N
                           [Ent.mk (Loc.blk 0)
                            (SObj.pred fun (W : World) (c : Ch) ↦ c = [] ∧ Lib.TabIs Tryd.prog W "internal/strconv.uint64pow10" IntKind.u64 Lib.pow10Tab),
                            Ent.mk (Loc.blk b0) (SObj.cells [SV.int IntKind.i64 y0, SV.int IntKind.i64 m0, SV.int IntKind.i64 d0] (23 : TypeId)),
                            Ent.mk (Loc.blk b1)
                             (SObj.cells
                              [SV.int IntKind.i64 y, SV.int IntKind.i64 m, SV.int IntKind.i64 d, SV.int IntKind.i64 h, SV.int IntKind.i64 mi, SV.int IntKind.i64 s]
                              (25 : TypeId))]
                           (SV.bool false)
                         | false =>
                          K (frmR [] (bodyOf Tryd.f4) 7)
                           (Sy.mk (SV.raw (u 0) :: (SV.int IntKind.i64 n :: (SV.raw (u 2) :: (SV.int IntKind.i64 t :: (SV.ptr 1 b0 0 :: (SV.raw (u 5) :: (SV.ptr 2 b1 0 :: (SV.raw (u 7) :: (SV.raw (u 8) :: (SV.int IntKind.i64 a :: (SV.int IntKind.i64 e :: (SV.int IntKind.i64 a :: (SV.int IntKind.i64 e :: (rawR u 13 (SV.agg [SV.int IntKind.i64 y0, SV.int IntKind.i64 m0, SV.int IntKind.i64 d0] :: (SV.bool (isB y0 m0 d0) :: (SV.agg [SV.int IntKind.i64 y0, SV.int IntKind.i64 m0, SV.int IntKind.i64 d0] :: (SV.bool (isB y0 m0 d0) :: ((SV.bool !isB y0 m0 d0 == isB y0 m0 d0) :: (SV.bool false :: (SV.int IntKind.i64 a :: (SV.int IntKind.i64 a :: ((SV.bool (a != a)) :: ((SV.bool (a != a)) :: (SV.bool false :: (SV.int IntKind.i64 e :: (SV.int IntKind.i64 e :: ((SV.bool (e != e)) :: ((SV.bool (e != e)) :: (SV.bool false :: (SV.int IntKind.i64 n :: (SV.int IntKind.i64 ((n + (3 : Int)) % (7 : Int)) :: (SV.int IntKind.i64 n :: (SV.int IntKind.i64 ((n + (3 : Int)) % (7 : Int)) :: ((SV.bool ((n + (3 : Int)) % (7 : Int) != (n + (3 : Int)) % (7 : Int))) :: ((SV.bool ((n + (3 : Int)) % (7 : Int) != (n + (3 : Int)) % (7 : Int))) :: (SV.bool false :: (SV.agg [SV.int IntKind.i64 y, SV.int IntKind.i64 m, SV.int IntKind.i64 d, SV.int IntKind.i64 h, SV.int IntKind.i64 mi, SV.int IntKind.i64 s] :: (SV.str (printB y m d h mi s) :: (SV.agg [SV.int IntKind.i64 y, SV.int IntKind.i64 m, SV.int IntKind.i64 d, SV.int IntKind.i64 h, SV.int IntKind.i64 mi, SV.int IntKind.i64 s] :: (SV.str (print2B y m d h mi s) :: ((SV.bool !sEq (printB y m d h mi s) (print2B y m d h mi s)) :: (SV.bool false :: (rawR u 60 [] 54)))))))))))))))))))))))))))))) 18))))))))))))))
                            [Ent.mk (Loc.blk 0)
                             (SObj.pred fun (W : World) (c : Ch) ↦ c = [] ∧ Lib.TabIs Tryd.prog W "internal/strconv.uint64pow10" IntKind.u64 Lib.pow10Tab),
                             Ent.mk (Loc.blk b0) (SObj.cells [SV.int IntKind.i64 y0, SV.int IntKind.i64 m0, SV.int IntKind.i64 d0] (23 : TypeId)),
                             Ent.mk (Loc.blk b1)
                              (SObj.cells
                               [SV.int IntKind.i64 y, SV.int IntKind.i64 m, SV.int IntKind.i64 d, SV.int IntKind.i64 h, SV.int IntKind.i64 mi, SV.int IntKind.i64 s]
                               (25 : TypeId))])
                       | false =>
                        (Ent.mk (Loc.blk 0)
                         (SObj.pred fun (W : World) (c : Ch) ↦ c = [] ∧ Lib.TabIs Tryd.prog W "internal/strconv.uint64pow10" IntKind.u64 Lib.pow10Tab) =
                         Ent.mk (Loc.blk 0)
                          (SObj.pred fun (W : World) (c : Ch) ↦ c = [] ∧ Lib.TabIs Tryd.prog W "internal/strconv.uint64pow10" IntKind.u64 Lib.pow10Tab) ∧
                         Ent.mk (Loc.blk b0) (SObj.cells [SV.int IntKind.i64 y0, SV.int IntKind.i64 m0, SV.int IntKind.i64 d0] (23 : TypeId)) =
                          Ent.mk (Loc.blk b0) (SObj.cells [SV.int IntKind.i64 y0, SV.int IntKind.i64 m0, SV.int IntKind.i64 d0] (23 : TypeId)) ∧
                          Ent.mk (Loc.blk b1)
                           (SObj.cells
                            [SV.int IntKind.i64 y, SV.int IntKind.i64 m, SV.int IntKind.i64 d, SV.int IntKind.i64 h, SV.int IntKind.i64 mi, SV.int IntKind.i64 s]
                            (25 : TypeId)) =
                           Ent.mk (Loc.blk b1)
                            (SObj.cells
                             [SV.int IntKind.i64 y, SV.int IntKind.i64 m, SV.int IntKind.i64 d, SV.int IntKind.i64 h, SV.int IntKind.i64 mi, SV.int IntKind.i64 s]
                             (25 : TypeId)) ∧
                           True) ∧
                         match !sEq (printB y m d h mi s) (ByteArray.mk #[]) with
                         | true =>
                          N
                           [Ent.mk (Loc.blk 0)
                            (SObj.pred fun (W : World) (c : Ch) ↦ c = [] ∧ Lib.TabIs Tryd.prog W "internal/strconv.uint64pow10" IntKind.u64 Lib.pow10Tab),
                            Ent.mk (Loc.blk b0) (SObj.cells [SV.int IntKind.i64 y0, SV.int IntKind.i64 m0, SV.int IntKind.i64 d0] (23 : TypeId)),
                            Ent.mk (Loc.blk b1)
                             (SObj.cells
                              [SV.int IntKind.i64 y, SV.int IntKind.i64 m, SV.int IntKind.i64 d, SV.int IntKind.i64 h, SV.int IntKind.i64 mi, SV.int IntKind.i64 s]
                              (25 : TypeId))]
                           (SV.bool false)
                         | false =>
                          K (frmR [] (bodyOf Tryd.f4) 7)
                           (Sy.mk (SV.raw (u 0) :: (SV.int IntKind.i64 n :: (SV.raw (u 2) :: (SV.int IntKind.i64 t :: (SV.ptr 1 b0 0 :: (SV.raw (u 5) :: (SV.ptr 2 b1 0 :: (SV.raw (u 7) :: (SV.raw (u 8) :: (SV.int IntKind.i64 a :: (SV.int IntKind.i64 e :: (SV.int IntKind.i64 a :: (SV.int IntKind.i64 e :: (rawR u 13 (SV.agg [SV.int IntKind.i64 y0, SV.int IntKind.i64 m0, SV.int IntKind.i64 d0] :: (SV.bool (isB y0 m0 d0) :: (SV.agg [SV.int IntKind.i64 y0, SV.int IntKind.i64 m0, SV.int IntKind.i64 d0] :: (SV.bool (isB y0 m0 d0) :: ((SV.bool !isB y0 m0 d0 == isB y0 m0 d0) :: (SV.bool false :: (SV.int IntKind.i64 a :: (SV.int IntKind.i64 a :: ((SV.bool (a != a)) :: ((SV.bool (a != a)) :: (SV.bool false :: (SV.int IntKind.i64 e :: (SV.int IntKind.i64 e :: ((SV.bool (e != e)) :: ((SV.bool (e != e)) :: (SV.bool false :: (SV.int IntKind.i64 n :: (SV.int IntKind.i64 ((n + (3 : Int)) % (7 : Int)) :: (SV.int IntKind.i64 n :: (SV.int IntKind.i64 ((n + (3 : Int)) % (7 : Int)) :: ((SV.bool ((n + (3 : Int)) % (7 : Int) != (n + (3 : Int)) % (7 : Int))) :: ((SV.bool ((n + (3 : Int)) % (7 : Int) != (n + (3 : Int)) % (7 : Int))) :: (SV.bool false :: (SV.agg [SV.int IntKind.i64 y, SV.int IntKind.i64 m, SV.int IntKind.i64 d, SV.int IntKind.i64 h, SV.int IntKind.i64 mi, SV.int IntKind.i64 s] :: (SV.str (printB y m d h mi s) :: (SV.agg [SV.int IntKind.i64 y, SV.int IntKind.i64 m, SV.int IntKind.i64 d, SV.int IntKind.i64 h, SV.int IntKind.i64 mi, SV.int IntKind.i64 s] :: (SV.str (ByteArray.mk #[]) :: ((SV.bool !sEq (printB y m d h mi s) (ByteArray.mk #[])) :: (SV.bool false :: (rawR u 60 [] 54)))))))))))))))))))))))))))))) 18))))))))))))))
                            [Ent.mk (Loc.blk 0)
                             (SObj.pred fun (W : World) (c : Ch) ↦ c = [] ∧ Lib.TabIs Tryd.prog W "internal/strconv.uint64pow10" IntKind.u64 Lib.pow10Tab),
                             Ent.mk (Loc.blk b0) (SObj.cells [SV.int IntKind.i64 y0, SV.int IntKind.i64 m0, SV.int IntKind.i64 d0] (23 : TypeId)),
                             Ent.mk (Loc.blk b1)
                              (SObj.cells
                               [SV.int IntKind.i64 y, SV.int IntKind.i64 m, SV.int IntKind.i64 d, SV.int IntKind.i64 h, SV.int IntKind.i64 mi, SV.int IntKind.i64 s]
                               (25 : TypeId))])
                    | false =>
                     (Ent.mk (Loc.blk 0) (SObj.pred fun (W : World) (c : Ch) ↦ c = [] ∧ Lib.TabIs Tryd.prog W "internal/strconv.uint64pow10" IntKind.u64 Lib.pow10Tab) =
                      Ent.mk (Loc.blk 0)
                       (SObj.pred fun (W : World) (c : Ch) ↦ c = [] ∧ Lib.TabIs Tryd.prog W "internal/strconv.uint64pow10" IntKind.u64 Lib.pow10Tab) ∧
                      Ent.mk (Loc.blk b0) (SObj.cells [SV.int IntKind.i64 y0, SV.int IntKind.i64 m0, SV.int IntKind.i64 d0] (23 : TypeId)) =
                       Ent.mk (Loc.blk b0) (SObj.cells [SV.int IntKind.i64 y0, SV.int IntKind.i64 m0, SV.int IntKind.i64 d0] (23 : TypeId)) ∧
                       Ent.mk (Loc.blk b1)
                        (SObj.cells [SV.int IntKind.i64 y, SV.int IntKind.i64 m, SV.int IntKind.i64 d, SV.int IntKind.i64 h, SV.int IntKind.i64 mi, SV.int IntKind.i64 s]
                         (25 : TypeId)) =
                        Ent.mk (Loc.blk b1)
                         (SObj.cells [SV.int IntKind.i64 y, SV.int IntKind.i64 m, SV.int IntKind.i64 d, SV.int IntKind.i64 h, SV.int IntKind.i64 mi, SV.int IntKind.i64 s]
                          (25 : TypeId)) ∧
                        True) ∧
                      true = true ∧
                       match isMomB y m d h mi s with
                       | true =>
                        (Ent.mk (Loc.blk 0)
                         (SObj.pred fun (W : World) (c : Ch) ↦ c = [] ∧ Lib.TabIs Tryd.prog W "internal/strconv.uint64pow10" IntKind.u64 Lib.pow10Tab) =
                         Ent.mk (Loc.blk 0)
                          (SObj.pred fun (W : World) (c : Ch) ↦ c = [] ∧ Lib.TabIs Tryd.prog W "internal/strconv.uint64pow10" IntKind.u64 Lib.pow10Tab) ∧
                         Ent.mk (Loc.blk b0) (SObj.cells [SV.int IntKind.i64 y0, SV.int IntKind.i64 m0, SV.int IntKind.i64 d0] (23 : TypeId)) =
                          Ent.mk (Loc.blk b0) (SObj.cells [SV.int IntKind.i64 y0, SV.int IntKind.i64 m0, SV.int IntKind.i64 d0] (23 : TypeId)) ∧
                          Ent.mk (Loc.blk b1)
                           (SObj.cells
                            [SV.int IntKind.i64 y, SV.int IntKind.i64 m, SV.int IntKind.i64 d, SV.int IntKind.i64 h, SV.int IntKind.i64 mi, SV.int IntKind.i64 s]
                            (25 : TypeId)) =
                           Ent.mk (Loc.blk b1)
                            (SObj.cells
                             [SV.int IntKind.i64 y, SV.int IntKind.i64 m, SV.int IntKind.i64 d, SV.int IntKind.i64 h, SV.int IntKind.i64 mi, SV.int IntKind.i64 s]
                             (25 : TypeId)) ∧
                           True) ∧
                         match !sEq (ByteArray.mk #[]) (print2B y m d h mi s) with
                         | true =>
                          N
                           [Ent.mk (Loc.blk 0)
                            (SObj.pred fun (W : World) (c : Ch) ↦ c = [] ∧ Lib.TabIs Tryd.prog W "internal/strconv.uint64pow10" IntKind.u64 Lib.pow10Tab),
                            Ent.mk (Loc.blk b0) (SObj.cells [SV.int IntKind.i64 y0, SV.int IntKind.i64 m0, SV.int IntKind.i64 d0] (23 : TypeId)),
                            Ent.mk (Loc.blk b1)
                             (SObj.cells
                              [SV.int IntKind.i64 y, SV.int IntKind.i64 m, SV.int IntKind.i64 d, SV.int IntKind.i64 h, SV.int IntKind.i64 mi, SV.int IntKind.i64 s]
                              (25 : TypeId))]
                           (SV.bool false)
                         | false =>
                          K (frmR [] (bodyOf Tryd.f4) 7)
                           (Sy.mk (SV.raw (u 0) :: (SV.int IntKind.i64 n :: (SV.raw (u 2) :: (SV.int IntKind.i64 t :: (SV.ptr 1 b0 0 :: (SV.raw (u 5) :: (SV.ptr 2 b1 0 :: (SV.raw (u 7) :: (SV.raw (u 8) :: (SV.int IntKind.i64 a :: (SV.int IntKind.i64 e :: (SV.int IntKind.i64 a :: (SV.int IntKind.i64 e :: (rawR u 13 (SV.agg [SV.int IntKind.i64 y0, SV.int IntKind.i64 m0, SV.int IntKind.i64 d0] :: (SV.bool (isB y0 m0 d0) :: (SV.agg [SV.int IntKind.i64 y0, SV.int IntKind.i64 m0, SV.int IntKind.i64 d0] :: (SV.bool (isB y0 m0 d0) :: ((SV.bool !isB y0 m0 d0 == isB y0 m0 d0) :: (SV.bool false :: (SV.int IntKind.i64 a :: (SV.int IntKind.i64 a :: ((SV.bool (a != a)) :: ((SV.bool (a != a)) :: (SV.bool false :: (SV.int IntKind.i64 e :: (SV.int IntKind.i64 e :: ((SV.bool (e != e)) :: ((SV.bool (e != e)) :: (SV.bool false :: (SV.int IntKind.i64 n :: (SV.int IntKind.i64 ((n + (3 : Int)) % (7 : Int)) :: (SV.int IntKind.i64 n :: (SV.int IntKind.i64 ((n + (3 : Int)) % (7 : Int)) :: ((SV.bool ((n + (3 : Int)) % (7 : Int) != (n + (3 : Int)) % (7 : Int))) :: ((SV.bool ((n + (3 : Int)) % (7 : Int) != (n + (3 : Int)) % (7 : Int))) :: (SV.bool false :: (SV.agg [SV.int IntKind.i64 y, SV.int IntKind.i64 m, SV.int IntKind.i64 d, SV.int IntKind.i64 h, SV.int IntKind.i64 mi, SV.int IntKind.i64 s] :: (SV.str (ByteArray.mk #[]) :: (SV.agg [SV.int IntKind.i64 y, SV.int IntKind.i64 m, SV.int IntKind.i64 d, SV.int IntKind.i64 h, SV.int IntKind.i64 mi, SV.int IntKind.i64 s] :: (SV.str (print2B y m d h mi s) :: ((SV.bool !sEq (ByteArray.mk #[]) (print2B y m d h mi s)) :: (SV.bool false :: (rawR u 60 [] 54)))))))))))))))))))))))))))))) 18))))))))))))))
                            [Ent.mk (Loc.blk 0)
                             (SObj.pred fun (W : World) (c : Ch) ↦ c = [] ∧ Lib.TabIs Tryd.prog W "internal/strconv.uint64pow10" IntKind.u64 Lib.pow10Tab),
                             Ent.mk (Loc.blk b0) (SObj.cells [SV.int IntKind.i64 y0, SV.int IntKind.i64 m0, SV.int IntKind.i64 d0] (23 : TypeId)),
                             Ent.mk (Loc.blk b1)
                              (SObj.cells
                               [SV.int IntKind.i64 y, SV.int IntKind.i64 m, SV.int IntKind.i64 d, SV.int IntKind.i64 h, SV.int IntKind.i64 mi, SV.int IntKind.i64 s]
                               (25 : TypeId))])
                       | false =>
                        (Ent.mk (Loc.blk 0)
                         (SObj.pred fun (W : World) (c : Ch) ↦ c = [] ∧ Lib.TabIs Tryd.prog W "internal/strconv.uint64pow10" IntKind.u64 Lib.pow10Tab) =
                         Ent.mk (Loc.blk 0)
                          (SObj.pred fun (W : World) (c : Ch) ↦ c = [] ∧ Lib.TabIs Tryd.prog W "internal/strconv.uint64pow10" IntKind.u64 Lib.pow10Tab) ∧
                         Ent.mk (Loc.blk b0) (SObj.cells [SV.int IntKind.i64 y0, SV.int IntKind.i64 m0, SV.int IntKind.i64 d0] (23 : TypeId)) =
                          Ent.mk (Loc.blk b0) (SObj.cells [SV.int IntKind.i64 y0, SV.int IntKind.i64 m0, SV.int IntKind.i64 d0] (23 : TypeId)) ∧
                          Ent.mk (Loc.blk b1)
                           (SObj.cells
                            [SV.int IntKind.i64 y, SV.int IntKind.i64 m, SV.int IntKind.i64 d, SV.int IntKind.i64 h, SV.int IntKind.i64 mi, SV.int IntKind.i64 s]
                            (25 : TypeId)) =
                           Ent.mk (Loc.blk b1)
                            (SObj.cells
                             [SV.int IntKind.i64 y, SV.int IntKind.i64 m, SV.int IntKind.i64 d, SV.int IntKind.i64 h, SV.int IntKind.i64 mi, SV.int IntKind.i64 s]
                             (25 : TypeId)) ∧
                           True) ∧
                         K (frmR [] (bodyOf Tryd.f4) 7)
                          (Sy.mk (SV.raw (u 0) :: (SV.int IntKind.i64 n :: (SV.raw (u 2) :: (SV.int IntKind.i64 t :: (SV.ptr 1 b0 0 :: (SV.raw (u 5) :: (SV.ptr 2 b1 0 :: (SV.raw (u 7) :: (SV.raw (u 8) :: (SV.int IntKind.i64 a :: (SV.int IntKind.i64 e :: (SV.int IntKind.i64 a :: (SV.int IntKind.i64 e :: (rawR u 13 (SV.agg [SV.int IntKind.i64 y0, SV.int IntKind.i64 m0, SV.int IntKind.i64 d0] :: (SV.bool (isB y0 m0 d0) :: (SV.agg [SV.int IntKind.i64 y0, SV.int IntKind.i64 m0, SV.int IntKind.i64 d0] :: (SV.bool (isB y0 m0 d0) :: ((SV.bool !isB y0 m0 d0 == isB y0 m0 d0) :: (SV.bool false :: (SV.int IntKind.i64 a :: (SV.int IntKind.i64 a :: ((SV.bool (a != a)) :: ((SV.bool (a != a)) :: (SV.bool false :: (SV.int IntKind.i64 e :: (SV.int IntKind.i64 e :: ((SV.bool (e != e)) :: ((SV.bool (e != e)) :: (SV.bool false :: (SV.int IntKind.i64 n :: (SV.int IntKind.i64 ((n + (3 : Int)) % (7 : Int)) :: (SV.int IntKind.i64 n :: (SV.int IntKind.i64 ((n + (3 : Int)) % (7 : Int)) :: ((SV.bool ((n + (3 : Int)) % (7 : Int) != (n + (3 : Int)) % (7 : Int))) :: ((SV.bool ((n + (3 : Int)) % (7 : Int) != (n + (3 : Int)) % (7 : Int))) :: (SV.bool false :: (SV.agg [SV.int IntKind.i64 y, SV.int IntKind.i64 m, SV.int IntKind.i64 d, SV.int IntKind.i64 h, SV.int IntKind.i64 mi, SV.int IntKind.i64 s] :: (SV.str (ByteArray.mk #[]) :: (SV.agg [SV.int IntKind.i64 y, SV.int IntKind.i64 m, SV.int IntKind.i64 d, SV.int IntKind.i64 h, SV.int IntKind.i64 mi, SV.int IntKind.i64 s] :: (SV.str (ByteArray.mk #[]) :: (SV.bool false :: (SV.bool false :: (rawR u 60 [] 54)))))))))))))))))))))))))))))) 18))))))))))))))
                           [Ent.mk (Loc.blk 0)
                            (SObj.pred fun (W : World) (c : Ch) ↦ c = [] ∧ Lib.TabIs Tryd.prog W "internal/strconv.uint64pow10" IntKind.u64 Lib.pow10Tab),
                            Ent.mk (Loc.blk b0) (SObj.cells [SV.int IntKind.i64 y0, SV.int IntKind.i64 m0, SV.int IntKind.i64 d0] (23 : TypeId)),
                            Ent.mk (Loc.blk b1)
                             (SObj.cells
                              [SV.int IntKind.i64 y, SV.int IntKind.i64 m, SV.int IntKind.i64 d, SV.int IntKind.i64 h, SV.int IntKind.i64 mi, SV.int IntKind.i64 s]
                              (25 : TypeId))])) := by kernel_rfl


theorem tl_7 (K : List Frm → Sy → Prop) (N : List Ent → SV → Prop) (b0 b1 : Nat) (y0 m0 d0 n : Int) (y m d h mi s t : Int) (u : Nat → Value) : (run Tryd.prog tellsT true [11] K (retP Tryd.prog Tryd.f4.results.toList N) 2000 (frmR [] (bodyOf Tryd.f4) 7) ⟨mkT u 114 0 [(1, .int .i64 n), (3, .int .i64 t), (4, .ptr 1 b0 0), (6, .ptr 2 b1 0)], [itoaE, ⟨.blk b0, .cells [.int .i64 y0, .int .i64 m0, .int .i64 d0] 23⟩, ⟨.blk b1, .cells [.int .i64 y, .int .i64 m, .int .i64 d, .int .i64 h, .int .i64 mi, .int .i64 s] 25⟩]⟩) = (
true = true ∧
 match decide ((0 : Int) ≤ n) && decide (n < (84371 : Int)) with
 | true =>
  ∀ (y_1 m_1 d_1 : Int),
   dateP n y_1 m_1 d_1 →
    ∀ (b : Nat),
     (b = b ∧ true = true ∧ 3 = 3 ∧ 3 ≤ 3) ∧
      true = true ∧
       n ≤ (9223372036854775807 : Int) ∧
        match decide ((0 : Int) ≤ n) && decide (n < (84371 : Int)) with
        | true =>
         ∀ (y_2 m_2 d_2 : Int),
          dateP n y_2 m_2 d_2 →
           ∀ (b_1 : Nat),
            (b_1 = b_1 ∧ true = true ∧ 3 = 3 ∧ 3 ≤ 3) ∧
             (b = b ∧ 3 = 3) ∧
              (b_1 = b_1 ∧ 3 = 3) ∧
               match !(y_1 == y_2 && (m_1 == m_2 && (d_1 == d_2 && true))) with
               | true =>
                N
                 [Ent.mk (Loc.blk 0) (SObj.pred fun (W : World) (c : Ch) ↦ c = [] ∧ Lib.TabIs Tryd.prog W "internal/strconv.uint64pow10" IntKind.u64 Lib.pow10Tab),
                  Ent.mk (Loc.blk b0) (SObj.cells [SV.int IntKind.i64 y0, SV.int IntKind.i64 m0, SV.int IntKind.i64 d0] (23 : TypeId)),
                  Ent.mk (Loc.blk b1)
                   (SObj.cells [SV.int IntKind.i64 y, SV.int IntKind.i64 m, SV.int IntKind.i64 d, SV.int IntKind.i64 h, SV.int IntKind.i64 mi, SV.int IntKind.i64 s] (25 : TypeId)),
                  Ent.mk (Loc.blk b) (SObj.cells [SV.int IntKind.i64 y_1, SV.int IntKind.i64 m_1, SV.int IntKind.i64 d_1] 23),
                  Ent.mk (Loc.blk b_1) (SObj.cells [SV.int IntKind.i64 y_2, SV.int IntKind.i64 m_2, SV.int IntKind.i64 d_2] 23)]
                 (SV.bool false)
               | false =>
                K (frmR [] (bodyOf Tryd.f4) 11)
                 (Sy.mk (SV.raw (u 0) :: (SV.int IntKind.i64 n :: (SV.raw (u 2) :: (SV.int IntKind.i64 t :: (SV.ptr 1 b0 0 :: (SV.raw (u 5) :: (SV.ptr 2 b1 0 :: (rawR u 7 (SV.int IntKind.i64 (0 : Int) :: (SV.raw (u 11) :: (SV.int IntKind.i64 (0 : Int) :: (SV.ptr 3 b 0 :: (SV.ptr 4 b_1 0 :: (rawR u 15 (SV.tuple [SV.agg [SV.int IntKind.i64 y_1, SV.int IntKind.i64 m_1, SV.int IntKind.i64 d_1], SV.int IntKind.i64 (0 : Int)] :: (SV.int IntKind.i64 n :: (SV.tuple [SV.agg [SV.int IntKind.i64 y_1, SV.int IntKind.i64 m_1, SV.int IntKind.i64 d_1], SV.int IntKind.i64 (0 : Int)] :: (SV.agg [SV.int IntKind.i64 y_1, SV.int IntKind.i64 m_1, SV.int IntKind.i64 d_1] :: (SV.int IntKind.i64 (0 : Int) :: (SV.tuple [SV.agg [SV.int IntKind.i64 y_2, SV.int IntKind.i64 m_2, SV.int IntKind.i64 d_2], SV.int IntKind.i64 (0 : Int)] :: (SV.int IntKind.i64 n :: (SV.tuple [SV.agg [SV.int IntKind.i64 y_2, SV.int IntKind.i64 m_2, SV.int IntKind.i64 d_2], SV.int IntKind.i64 (0 : Int)] :: (SV.agg [SV.int IntKind.i64 y_2, SV.int IntKind.i64 m_2, SV.int IntKind.i64 d_2] :: (SV.int IntKind.i64 (0 : Int) :: (SV.agg [SV.int IntKind.i64 y_1, SV.int IntKind.i64 m_1, SV.int IntKind.i64 d_1] :: (SV.agg [SV.int IntKind.i64 y_2, SV.int IntKind.i64 m_2, SV.int IntKind.i64 d_2] :: ((SV.bool !(y_1 == y_2 && (m_1 == m_2 && (d_1 == d_2 && true)))) :: (SV.bool false :: (SV.int IntKind.i64 (0 : Int) :: (SV.int IntKind.i64 (0 : Int) :: (SV.bool false :: (SV.bool false :: (rawR u 78 [] 36))))))))))))))))))) 45)))))) 3))))))))
                  [Ent.mk (Loc.blk 0) (SObj.pred fun (W : World) (c : Ch) ↦ c = [] ∧ Lib.TabIs Tryd.prog W "internal/strconv.uint64pow10" IntKind.u64 Lib.pow10Tab),
                   Ent.mk (Loc.blk b0) (SObj.cells [SV.int IntKind.i64 y0, SV.int IntKind.i64 m0, SV.int IntKind.i64 d0] (23 : TypeId)),
                   Ent.mk (Loc.blk b1)
                    (SObj.cells [SV.int IntKind.i64 y, SV.int IntKind.i64 m, SV.int IntKind.i64 d, SV.int IntKind.i64 h, SV.int IntKind.i64 mi, SV.int IntKind.i64 s]
                     (25 : TypeId)),
                   Ent.mk (Loc.blk b) (SObj.cells [SV.int IntKind.i64 y_1, SV.int IntKind.i64 m_1, SV.int IntKind.i64 d_1] 23),
                   Ent.mk (Loc.blk b_1) (SObj.cells [SV.int IntKind.i64 y_2, SV.int IntKind.i64 m_2, SV.int IntKind.i64 d_2] 23)])
        | false =>
         ∀ (b_1 : Nat),
          (b_1 = b_1 ∧ true = true ∧ 3 = 3 ∧ 3 ≤ 3) ∧
           (b = b ∧ 3 = 3) ∧
            (b_1 = b_1 ∧ 3 = 3) ∧
             match !(y_1 == (0 : Int) && (m_1 == (0 : Int) && (d_1 == (0 : Int) && true))) with
             | true =>
              N
               [Ent.mk (Loc.blk 0) (SObj.pred fun (W : World) (c : Ch) ↦ c = [] ∧ Lib.TabIs Tryd.prog W "internal/strconv.uint64pow10" IntKind.u64 Lib.pow10Tab),
                Ent.mk (Loc.blk b0) (SObj.cells [SV.int IntKind.i64 y0, SV.int IntKind.i64 m0, SV.int IntKind.i64 d0] (23 : TypeId)),
                Ent.mk (Loc.blk b1)
                 (SObj.cells [SV.int IntKind.i64 y, SV.int IntKind.i64 m, SV.int IntKind.i64 d, SV.int IntKind.i64 h, SV.int IntKind.i64 mi, SV.int IntKind.i64 s] (25 : TypeId)),
                Ent.mk (Loc.blk b) (SObj.cells [SV.int IntKind.i64 y_1, SV.int IntKind.i64 m_1, SV.int IntKind.i64 d_1] 23),
                Ent.mk (Loc.blk b_1) (SObj.cells [SV.int IntKind.i64 (0 : Int), SV.int IntKind.i64 (0 : Int), SV.int IntKind.i64 (0 : Int)] 23)]
               (SV.bool false)
             | false =>
              N
               [Ent.mk (Loc.blk 0) (SObj.pred fun (W : World) (c : Ch) ↦ c = [] ∧ Lib.TabIs Tryd.prog W "internal/strconv.uint64pow10" IntKind.u64 Lib.pow10Tab),
                Ent.mk (Loc.blk b0) (SObj.cells [SV.int IntKind.i64 y0, SV.int IntKind.i64 m0, SV.int IntKind.i64 d0] (23 : TypeId)),
                Ent.mk (Loc.blk b1)
                 (SObj.cells [SV.int IntKind.i64 y, SV.int IntKind.i64 m, SV.int IntKind.i64 d, SV.int IntKind.i64 h, SV.int IntKind.i64 mi, SV.int IntKind.i64 s] (25 : TypeId)),
                Ent.mk (Loc.blk b) (SObj.cells [SV.int IntKind.i64 y_1, SV.int IntKind.i64 m_1, SV.int IntKind.i64 d_1] 23),
                Ent.mk (Loc.blk b_1) (SObj.cells [SV.int IntKind.i64 (0 : Int), SV.int IntKind.i64 (0 : Int), SV.int IntKind.i64 (0 : Int)] 23)]
               (SV.bool false)
 | false =>
  ∀ (b : Nat),
   (b = b ∧ true = true ∧ 3 = 3 ∧ 3 ≤ 3) ∧
    true = true ∧
     n ≤ (9223372036854775807 : Int) ∧
      match decide ((0 : Int) ≤ n) && decide (n < (84371 : Int)) with
      | true =>
       ∀ (y_1 m_1 d_1 : Int),
        dateP n y_1 m_1 d_1 →
         ∀ (b_1 : Nat),
          (b_1 = b_1 ∧ true = true ∧ 3 = 3 ∧ 3 ≤ 3) ∧
           (b = b ∧ 3 = 3) ∧
            (b_1 = b_1 ∧ 3 = 3) ∧
             match !((0 : Int) == y_1 && ((0 : Int) == m_1 && ((0 : Int) == d_1 && true))) with
             | true =>
              N
               [Ent.mk (Loc.blk 0) (SObj.pred fun (W : World) (c : Ch) ↦ c = [] ∧ Lib.TabIs Tryd.prog W "internal/strconv.uint64pow10" IntKind.u64 Lib.pow10Tab),
                Ent.mk (Loc.blk b0) (SObj.cells [SV.int IntKind.i64 y0, SV.int IntKind.i64 m0, SV.int IntKind.i64 d0] (23 : TypeId)),
                Ent.mk (Loc.blk b1)
                 (SObj.cells [SV.int IntKind.i64 y, SV.int IntKind.i64 m, SV.int IntKind.i64 d, SV.int IntKind.i64 h, SV.int IntKind.i64 mi, SV.int IntKind.i64 s] (25 : TypeId)),
                Ent.mk (Loc.blk b) (SObj.cells [SV.int IntKind.i64 (0 : Int), SV.int IntKind.i64 (0 : Int), SV.int IntKind.i64 (0 : Int)] 23),
                Ent.mk (Loc.blk b_1) (SObj.cells [SV.int IntKind.i64 y_1, SV.int IntKind.i64 m_1, SV.int IntKind.i64 d_1] 23)]
               (SV.bool false)
             | false =>
              N
               [Ent.mk (Loc.blk 0) (SObj.pred fun (W : World) (c : Ch) ↦ c = [] ∧ Lib.TabIs Tryd.prog W "internal/strconv.uint64pow10" IntKind.u64 Lib.pow10Tab),
                Ent.mk (Loc.blk b0) (SObj.cells [SV.int IntKind.i64 y0, SV.int IntKind.i64 m0, SV.int IntKind.i64 d0] (23 : TypeId)),
                Ent.mk (Loc.blk b1)
                 (SObj.cells [SV.int IntKind.i64 y, SV.int IntKind.i64 m, SV.int IntKind.i64 d, SV.int IntKind.i64 h, SV.int IntKind.i64 mi, SV.int IntKind.i64 s] (25 : TypeId)),
                Ent.mk (Loc.blk b) (SObj.cells [SV.int IntKind.i64 (0 : Int), SV.int IntKind.i64 (0 : Int), SV.int IntKind.i64 (0 : Int)] 23),
                Ent.mk (Loc.blk b_1) (SObj.cells [SV.int IntKind.i64 y_1, SV.int IntKind.i64 m_1, SV.int IntKind.i64 d_1] 23)]
               (SV.bool false)
      | false =>
       ∀ (b_1 : Nat),
        (b_1 = b_1 ∧ true = true ∧ 3 = 3 ∧ 3 ≤ 3) ∧
         (b = b ∧ 3 = 3) ∧
          (b_1 = b_1 ∧ 3 = 3) ∧
           K (frmR [] (bodyOf Tryd.f4) 11)
            (Sy.mk (SV.raw (u 0) :: (SV.int IntKind.i64 n :: (SV.raw (u 2) :: (SV.int IntKind.i64 t :: (SV.ptr 1 b0 0 :: (SV.raw (u 5) :: (SV.ptr 2 b1 0 :: (rawR u 7 (SV.int IntKind.i64 (20 : Int) :: (SV.raw (u 11) :: (SV.int IntKind.i64 (20 : Int) :: (SV.ptr 3 b 0 :: (SV.ptr 4 b_1 0 :: (rawR u 15 (SV.tuple [SV.agg [SV.int IntKind.i64 (0 : Int), SV.int IntKind.i64 (0 : Int), SV.int IntKind.i64 (0 : Int)], SV.int IntKind.i64 (20 : Int)] :: (SV.int IntKind.i64 n :: (SV.tuple [SV.agg [SV.int IntKind.i64 (0 : Int), SV.int IntKind.i64 (0 : Int), SV.int IntKind.i64 (0 : Int)], SV.int IntKind.i64 (20 : Int)] :: (SV.agg [SV.int IntKind.i64 (0 : Int), SV.int IntKind.i64 (0 : Int), SV.int IntKind.i64 (0 : Int)] :: (SV.int IntKind.i64 (20 : Int) :: (SV.tuple [SV.agg [SV.int IntKind.i64 (0 : Int), SV.int IntKind.i64 (0 : Int), SV.int IntKind.i64 (0 : Int)], SV.int IntKind.i64 (20 : Int)] :: (SV.int IntKind.i64 n :: (SV.tuple [SV.agg [SV.int IntKind.i64 (0 : Int), SV.int IntKind.i64 (0 : Int), SV.int IntKind.i64 (0 : Int)], SV.int IntKind.i64 (20 : Int)] :: (SV.agg [SV.int IntKind.i64 (0 : Int), SV.int IntKind.i64 (0 : Int), SV.int IntKind.i64 (0 : Int)] :: (SV.int IntKind.i64 (20 : Int) :: (SV.agg [SV.int IntKind.i64 (0 : Int), SV.int IntKind.i64 (0 : Int), SV.int IntKind.i64 (0 : Int)] :: (SV.agg [SV.int IntKind.i64 (0 : Int), SV.int IntKind.i64 (0 : Int), SV.int IntKind.i64 (0 : Int)] :: (SV.bool false :: (SV.bool false :: (SV.int IntKind.i64 (20 : Int) :: (SV.int IntKind.i64 (20 : Int) :: (SV.bool false :: (SV.bool false :: (rawR u 78 [] 36))))))))))))))))))) 45)))))) 3))))))))
             [Ent.mk (Loc.blk 0) (SObj.pred fun (W : World) (c : Ch) ↦ c = [] ∧ Lib.TabIs Tryd.prog W "internal/strconv.uint64pow10" IntKind.u64 Lib.pow10Tab),
              Ent.mk (Loc.blk b0) (SObj.cells [SV.int IntKind.i64 y0, SV.int IntKind.i64 m0, SV.int IntKind.i64 d0] (23 : TypeId)),
              Ent.mk (Loc.blk b1)
               (SObj.cells [SV.int IntKind.i64 y, SV.int IntKind.i64 m, SV.int IntKind.i64 d, SV.int IntKind.i64 h, SV.int IntKind.i64 mi, SV.int IntKind.i64 s] (25 : TypeId)),
              Ent.mk (Loc.blk b) (SObj.cells [SV.int IntKind.i64 (0 : Int), SV.int IntKind.i64 (0 : Int), SV.int IntKind.i64 (0 : Int)] 23),
              Ent.mk (Loc.blk b_1) (SObj.cells [SV.int IntKind.i64 (0 : Int), SV.int IntKind.i64 (0 : Int), SV.int IntKind.i64 (0 : Int)] 23)])) := by kernel_rfl


theorem tl_11 (K : List Frm → Sy → Prop) (N : List Ent → SV → Prop) (b0 b1 : Nat) (y0 m0 d0 n : Int) (y m d h mi s t : Int) (u : Nat → Value) : (run Tryd.prog tellsT true [15] K (retP Tryd.prog Tryd.f4.results.toList N) 2000 (frmR [] (bodyOf Tryd.f4) 11) ⟨mkT u 114 0 [(1, .int .i64 n), (3, .int .i64 t), (4, .ptr 1 b0 0), (6, .ptr 2 b1 0)], [itoaE, ⟨.blk b0, .cells [.int .i64 y0, .int .i64 m0, .int .i64 d0] 23⟩, ⟨.blk b1, .cells [.int .i64 y, .int .i64 m, .int .i64 d, .int .i64 h, .int .i64 mi, .int .i64 s] 25⟩]⟩) = (
(b1 = b1 ∧ 6 = 6) ∧
 true = true ∧
  match isB y m d && (inB h (24 : Int) && (inB mi (60 : Int) && inB s (60 : Int))) with
  | true =>
   (b1 = b1 ∧ 6 = 6) ∧
    true = true ∧
     match isB y m d && (inB h (24 : Int) && (inB mi (60 : Int) && inB s (60 : Int))) with
     | true =>
      match daysI y m d * (86400 : Int) + ((h * (60 : Int) + mi) * (60 : Int) + s) != daysI y m d * (86400 : Int) + ((h * (60 : Int) + mi) * (60 : Int) + s) with
      | true =>
       N
        [Ent.mk (Loc.blk 0) (SObj.pred fun (W : World) (c : Ch) ↦ c = [] ∧ Lib.TabIs Tryd.prog W "internal/strconv.uint64pow10" IntKind.u64 Lib.pow10Tab),
         Ent.mk (Loc.blk b0) (SObj.cells [SV.int IntKind.i64 y0, SV.int IntKind.i64 m0, SV.int IntKind.i64 d0] (23 : TypeId)),
         Ent.mk (Loc.blk b1) (SObj.cells [SV.int IntKind.i64 y, SV.int IntKind.i64 m, SV.int IntKind.i64 d, SV.int IntKind.i64 h, SV.int IntKind.i64 mi, SV.int IntKind.i64 s] (25 : TypeId))]
        (SV.bool false)
      | false =>
       K (frmR [] (bodyOf Tryd.f4) 15)
        (Sy.mk (SV.raw (u 0) :: (SV.int IntKind.i64 n :: (SV.raw (u 2) :: (SV.int IntKind.i64 t :: (SV.ptr 1 b0 0 :: (SV.raw (u 5) :: (SV.ptr 2 b1 0 :: (rawR u 7 (SV.int IntKind.i64 (0 : Int) :: (SV.raw (u 11) :: (SV.int IntKind.i64 (0 : Int) :: (SV.raw (u 13) :: (SV.raw (u 14) :: (SV.int IntKind.i64 (daysI y m d * (86400 : Int) + ((h * (60 : Int) + mi) * (60 : Int) + s)) :: (SV.int IntKind.i64 (daysI y m d * (86400 : Int) + ((h * (60 : Int) + mi) * (60 : Int) + s)) :: (rawR u 17 (SV.tuple [SV.int IntKind.i64 (daysI y m d * (86400 : Int) + ((h * (60 : Int) + mi) * (60 : Int) + s)), SV.int IntKind.i64 (0 : Int)] :: (SV.agg [SV.int IntKind.i64 y, SV.int IntKind.i64 m, SV.int IntKind.i64 d, SV.int IntKind.i64 h, SV.int IntKind.i64 mi, SV.int IntKind.i64 s] :: (SV.tuple [SV.int IntKind.i64 (daysI y m d * (86400 : Int) + ((h * (60 : Int) + mi) * (60 : Int) + s)), SV.int IntKind.i64 (0 : Int)] :: (SV.int IntKind.i64 (daysI y m d * (86400 : Int) + ((h * (60 : Int) + mi) * (60 : Int) + s)) :: (SV.int IntKind.i64 (0 : Int) :: (SV.tuple [SV.int IntKind.i64 (daysI y m d * (86400 : Int) + ((h * (60 : Int) + mi) * (60 : Int) + s)), SV.int IntKind.i64 (0 : Int)] :: (SV.agg [SV.int IntKind.i64 y, SV.int IntKind.i64 m, SV.int IntKind.i64 d, SV.int IntKind.i64 h, SV.int IntKind.i64 mi, SV.int IntKind.i64 s] :: (SV.tuple [SV.int IntKind.i64 (daysI y m d * (86400 : Int) + ((h * (60 : Int) + mi) * (60 : Int) + s)), SV.int IntKind.i64 (0 : Int)] :: (SV.int IntKind.i64 (daysI y m d * (86400 : Int) + ((h * (60 : Int) + mi) * (60 : Int) + s)) :: (SV.int IntKind.i64 (0 : Int) :: (SV.int IntKind.i64 (daysI y m d * (86400 : Int) + ((h * (60 : Int) + mi) * (60 : Int) + s)) :: (SV.int IntKind.i64 (daysI y m d * (86400 : Int) + ((h * (60 : Int) + mi) * (60 : Int) + s)) :: ((SV.bool (daysI y m d * (86400 : Int) + ((h * (60 : Int) + mi) * (60 : Int) + s) != daysI y m d * (86400 : Int) + ((h * (60 : Int) + mi) * (60 : Int) + s))) :: (SV.bool false :: (SV.int IntKind.i64 (0 : Int) :: (SV.int IntKind.i64 (0 : Int) :: (SV.bool false :: (SV.bool false :: (rawR u 96 [] 18))))))))))))))))))) 61)))))))) 3))))))))
         [Ent.mk (Loc.blk 0) (SObj.pred fun (W : World) (c : Ch) ↦ c = [] ∧ Lib.TabIs Tryd.prog W "internal/strconv.uint64pow10" IntKind.u64 Lib.pow10Tab),
          Ent.mk (Loc.blk b0) (SObj.cells [SV.int IntKind.i64 y0, SV.int IntKind.i64 m0, SV.int IntKind.i64 d0] (23 : TypeId)),
          Ent.mk (Loc.blk b1)
           (SObj.cells [SV.int IntKind.i64 y, SV.int IntKind.i64 m, SV.int IntKind.i64 d, SV.int IntKind.i64 h, SV.int IntKind.i64 mi, SV.int IntKind.i64 s] (25 : TypeId))])
     | false =>
      match daysI y m d * (86400 : Int) + ((h * (60 : Int) + mi) * (60 : Int) + s) != (0 : Int) with
      | true =>
       N
        [Ent.mk (Loc.blk 0) (SObj.pred fun (W : World) (c : Ch) ↦ c = [] ∧ Lib.TabIs Tryd.prog W "internal/strconv.uint64pow10" IntKind.u64 Lib.pow10Tab),
         Ent.mk (Loc.blk b0) (SObj.cells [SV.int IntKind.i64 y0, SV.int IntKind.i64 m0, SV.int IntKind.i64 d0] (23 : TypeId)),
         Ent.mk (Loc.blk b1) (SObj.cells [SV.int IntKind.i64 y, SV.int IntKind.i64 m, SV.int IntKind.i64 d, SV.int IntKind.i64 h, SV.int IntKind.i64 mi, SV.int IntKind.i64 s] (25 : TypeId))]
        (SV.bool false)
      | false =>
       N
        [Ent.mk (Loc.blk 0) (SObj.pred fun (W : World) (c : Ch) ↦ c = [] ∧ Lib.TabIs Tryd.prog W "internal/strconv.uint64pow10" IntKind.u64 Lib.pow10Tab),
         Ent.mk (Loc.blk b0) (SObj.cells [SV.int IntKind.i64 y0, SV.int IntKind.i64 m0, SV.int IntKind.i64 d0] (23 : TypeId)),
         Ent.mk (Loc.blk b1) (SObj.cells [SV.int IntKind.i64 y, SV.int IntKind.i64 m, SV.int IntKind.i64 d, SV.int IntKind.i64 h, SV.int IntKind.i64 mi, SV.int IntKind.i64 s] (25 : TypeId))]
        (SV.bool false)
  | false =>
   (b1 = b1 ∧ 6 = 6) ∧
    true = true ∧
     match isB y m d && (inB h (24 : Int) && (inB mi (60 : Int) && inB s (60 : Int))) with
     | true =>
      match (0 : Int) != daysI y m d * (86400 : Int) + ((h * (60 : Int) + mi) * (60 : Int) + s) with
      | true =>
       N
        [Ent.mk (Loc.blk 0) (SObj.pred fun (W : World) (c : Ch) ↦ c = [] ∧ Lib.TabIs Tryd.prog W "internal/strconv.uint64pow10" IntKind.u64 Lib.pow10Tab),
         Ent.mk (Loc.blk b0) (SObj.cells [SV.int IntKind.i64 y0, SV.int IntKind.i64 m0, SV.int IntKind.i64 d0] (23 : TypeId)),
         Ent.mk (Loc.blk b1) (SObj.cells [SV.int IntKind.i64 y, SV.int IntKind.i64 m, SV.int IntKind.i64 d, SV.int IntKind.i64 h, SV.int IntKind.i64 mi, SV.int IntKind.i64 s] (25 : TypeId))]
        (SV.bool false)
      | false =>
       N
        [Ent.mk (Loc.blk 0) (SObj.pred fun (W : World) (c : Ch) ↦ c = [] ∧ Lib.TabIs Tryd.prog W "internal/strconv.uint64pow10" IntKind.u64 Lib.pow10Tab),
         Ent.mk (Loc.blk b0) (SObj.cells [SV.int IntKind.i64 y0, SV.int IntKind.i64 m0, SV.int IntKind.i64 d0] (23 : TypeId)),
         Ent.mk (Loc.blk b1) (SObj.cells [SV.int IntKind.i64 y, SV.int IntKind.i64 m, SV.int IntKind.i64 d, SV.int IntKind.i64 h, SV.int IntKind.i64 mi, SV.int IntKind.i64 s] (25 : TypeId))]
        (SV.bool false)
     | false =>
      K (frmR [] (bodyOf Tryd.f4) 15)
       (Sy.mk (SV.raw (u 0) :: (SV.int IntKind.i64 n :: (SV.raw (u 2) :: (SV.int IntKind.i64 t :: (SV.ptr 1 b0 0 :: (SV.raw (u 5) :: (SV.ptr 2 b1 0 :: (rawR u 7 (SV.int IntKind.i64 (20 : Int) :: (SV.raw (u 11) :: (SV.int IntKind.i64 (20 : Int) :: (SV.raw (u 13) :: (SV.raw (u 14) :: (SV.int IntKind.i64 (0 : Int) :: (SV.int IntKind.i64 (0 : Int) :: (rawR u 17 (SV.tuple [SV.int IntKind.i64 (0 : Int), SV.int IntKind.i64 (20 : Int)] :: (SV.agg [SV.int IntKind.i64 y, SV.int IntKind.i64 m, SV.int IntKind.i64 d, SV.int IntKind.i64 h, SV.int IntKind.i64 mi, SV.int IntKind.i64 s] :: (SV.tuple [SV.int IntKind.i64 (0 : Int), SV.int IntKind.i64 (20 : Int)] :: (SV.int IntKind.i64 (0 : Int) :: (SV.int IntKind.i64 (20 : Int) :: (SV.tuple [SV.int IntKind.i64 (0 : Int), SV.int IntKind.i64 (20 : Int)] :: (SV.agg [SV.int IntKind.i64 y, SV.int IntKind.i64 m, SV.int IntKind.i64 d, SV.int IntKind.i64 h, SV.int IntKind.i64 mi, SV.int IntKind.i64 s] :: (SV.tuple [SV.int IntKind.i64 (0 : Int), SV.int IntKind.i64 (20 : Int)] :: (SV.int IntKind.i64 (0 : Int) :: (SV.int IntKind.i64 (20 : Int) :: (SV.int IntKind.i64 (0 : Int) :: (SV.int IntKind.i64 (0 : Int) :: (SV.bool false :: (SV.bool false :: (SV.int IntKind.i64 (20 : Int) :: (SV.int IntKind.i64 (20 : Int) :: (SV.bool false :: (SV.bool false :: (rawR u 96 [] 18))))))))))))))))))) 61)))))))) 3))))))))
        [Ent.mk (Loc.blk 0) (SObj.pred fun (W : World) (c : Ch) ↦ c = [] ∧ Lib.TabIs Tryd.prog W "internal/strconv.uint64pow10" IntKind.u64 Lib.pow10Tab),
         Ent.mk (Loc.blk b0) (SObj.cells [SV.int IntKind.i64 y0, SV.int IntKind.i64 m0, SV.int IntKind.i64 d0] (23 : TypeId)),
         Ent.mk (Loc.blk b1) (SObj.cells [SV.int IntKind.i64 y, SV.int IntKind.i64 m, SV.int IntKind.i64 d, SV.int IntKind.i64 h, SV.int IntKind.i64 mi, SV.int IntKind.i64 s] (25 : TypeId))])) := by kernel_rfl


theorem tl_15 (K : List Frm → Sy → Prop) (N : List Ent → SV → Prop) (b0 b1 : Nat) (y0 m0 d0 n : Int) (y m d h mi s t : Int) (u : Nat → Value) : (run Tryd.prog tellsT true [] K (retP Tryd.prog Tryd.f4.results.toList N) 2000 (frmR [] (bodyOf Tryd.f4) 15) ⟨mkT u 114 0 [(1, .int .i64 n), (3, .int .i64 t), (4, .ptr 1 b0 0), (6, .ptr 2 b1 0)], [itoaE, ⟨.blk b0, .cells [.int .i64 y0, .int .i64 m0, .int .i64 d0] 23⟩, ⟨.blk b1, .cells [.int .i64 y, .int .i64 m, .int .i64 d, .int .i64 h, .int .i64 mi, .int .i64 s] 25⟩]⟩) = (
true = true ∧
 t ≤ (9223372036854775807 : Int) ∧
  match decide ((0 : Int) ≤ t) && decide (t < (7289654400 : Int)) with
  | true =>
   ∀ (y_1 m_1 d_1 : Int),
    dateP (t / (86400 : Int)) y_1 m_1 d_1 →
     ∀ (b : Nat),
      (b = b ∧ true = true ∧ 6 = 6 ∧ 6 ≤ 6) ∧
       true = true ∧
        t ≤ (9223372036854775807 : Int) ∧
         match decide ((0 : Int) ≤ t) && decide (t < (7289654400 : Int)) with
         | true =>
          ∀ (y_2 m_2 d_2 : Int),
           dateP (t / (86400 : Int)) y_2 m_2 d_2 →
            ∀ (b_1 : Nat),
             (b_1 = b_1 ∧ true = true ∧ 6 = 6 ∧ 6 ≤ 6) ∧
              (b = b ∧ 6 = 6) ∧
               (b_1 = b_1 ∧ 6 = 6) ∧
                match
                 y_1 == y_2 && (m_1 == m_2 && (d_1 == d_2 && true)) &&
                  (t % (86400 : Int) / (3600 : Int) == t % (86400 : Int) / (3600 : Int) &&
                   (t % (86400 : Int) / (60 : Int) % (60 : Int) == t % (86400 : Int) / (60 : Int) % (60 : Int) &&
                    (t % (86400 : Int) % (60 : Int) == t % (86400 : Int) % (60 : Int) && true))) with
                | true =>
                 N
                  [Ent.mk (Loc.blk 0) (SObj.pred fun (W : World) (c : Ch) ↦ c = [] ∧ Lib.TabIs Tryd.prog W "internal/strconv.uint64pow10" IntKind.u64 Lib.pow10Tab),
                   Ent.mk (Loc.blk b0) (SObj.cells [SV.int IntKind.i64 y0, SV.int IntKind.i64 m0, SV.int IntKind.i64 d0] (23 : TypeId)),
                   Ent.mk (Loc.blk b1)
                    (SObj.cells [SV.int IntKind.i64 y, SV.int IntKind.i64 m, SV.int IntKind.i64 d, SV.int IntKind.i64 h, SV.int IntKind.i64 mi, SV.int IntKind.i64 s]
                     (25 : TypeId)),
                   Ent.mk (Loc.blk b)
                    (SObj.cells
                     [SV.int IntKind.i64 y_1, SV.int IntKind.i64 m_1, SV.int IntKind.i64 d_1, SV.int IntKind.i64 (t % (86400 : Int) / (3600 : Int)),
                      SV.int IntKind.i64 (t % (86400 : Int) / (60 : Int) % (60 : Int)), SV.int IntKind.i64 (t % (86400 : Int) % (60 : Int))]
                     25),
                   Ent.mk (Loc.blk b_1)
                    (SObj.cells
                     [SV.int IntKind.i64 y_2, SV.int IntKind.i64 m_2, SV.int IntKind.i64 d_2, SV.int IntKind.i64 (t % (86400 : Int) / (3600 : Int)),
                      SV.int IntKind.i64 (t % (86400 : Int) / (60 : Int) % (60 : Int)), SV.int IntKind.i64 (t % (86400 : Int) % (60 : Int))]
                     25)]
                  (SV.bool true)
                | false =>
                 N
                  [Ent.mk (Loc.blk 0) (SObj.pred fun (W : World) (c : Ch) ↦ c = [] ∧ Lib.TabIs Tryd.prog W "internal/strconv.uint64pow10" IntKind.u64 Lib.pow10Tab),
                   Ent.mk (Loc.blk b0) (SObj.cells [SV.int IntKind.i64 y0, SV.int IntKind.i64 m0, SV.int IntKind.i64 d0] (23 : TypeId)),
                   Ent.mk (Loc.blk b1)
                    (SObj.cells [SV.int IntKind.i64 y, SV.int IntKind.i64 m, SV.int IntKind.i64 d, SV.int IntKind.i64 h, SV.int IntKind.i64 mi, SV.int IntKind.i64 s]
                     (25 : TypeId)),
                   Ent.mk (Loc.blk b)
                    (SObj.cells
                     [SV.int IntKind.i64 y_1, SV.int IntKind.i64 m_1, SV.int IntKind.i64 d_1, SV.int IntKind.i64 (t % (86400 : Int) / (3600 : Int)),
                      SV.int IntKind.i64 (t % (86400 : Int) / (60 : Int) % (60 : Int)), SV.int IntKind.i64 (t % (86400 : Int) % (60 : Int))]
                     25),
                   Ent.mk (Loc.blk b_1)
                    (SObj.cells
                     [SV.int IntKind.i64 y_2, SV.int IntKind.i64 m_2, SV.int IntKind.i64 d_2, SV.int IntKind.i64 (t % (86400 : Int) / (3600 : Int)),
                      SV.int IntKind.i64 (t % (86400 : Int) / (60 : Int) % (60 : Int)), SV.int IntKind.i64 (t % (86400 : Int) % (60 : Int))]
                     25)]
                  (SV.bool false)
         | false =>
          ∀ (b_1 : Nat),
           (b_1 = b_1 ∧ true = true ∧ 6 = 6 ∧ 6 ≤ 6) ∧
            (b = b ∧ 6 = 6) ∧
             (b_1 = b_1 ∧ 6 = 6) ∧
              match
               y_1 == (0 : Int) && (m_1 == (0 : Int) && (d_1 == (0 : Int) && true)) &&
                (t % (86400 : Int) / (3600 : Int) == (0 : Int) &&
                 (t % (86400 : Int) / (60 : Int) % (60 : Int) == (0 : Int) && (t % (86400 : Int) % (60 : Int) == (0 : Int) && true))) with
              | true =>
               N
                [Ent.mk (Loc.blk 0) (SObj.pred fun (W : World) (c : Ch) ↦ c = [] ∧ Lib.TabIs Tryd.prog W "internal/strconv.uint64pow10" IntKind.u64 Lib.pow10Tab),
                 Ent.mk (Loc.blk b0) (SObj.cells [SV.int IntKind.i64 y0, SV.int IntKind.i64 m0, SV.int IntKind.i64 d0] (23 : TypeId)),
                 Ent.mk (Loc.blk b1)
                  (SObj.cells [SV.int IntKind.i64 y, SV.int IntKind.i64 m, SV.int IntKind.i64 d, SV.int IntKind.i64 h, SV.int IntKind.i64 mi, SV.int IntKind.i64 s] (25 : TypeId)),
                 Ent.mk (Loc.blk b)
                  (SObj.cells
                   [SV.int IntKind.i64 y_1, SV.int IntKind.i64 m_1, SV.int IntKind.i64 d_1, SV.int IntKind.i64 (t % (86400 : Int) / (3600 : Int)),
                    SV.int IntKind.i64 (t % (86400 : Int) / (60 : Int) % (60 : Int)), SV.int IntKind.i64 (t % (86400 : Int) % (60 : Int))]
                   25),
                 Ent.mk (Loc.blk b_1)
                  (SObj.cells
                   [SV.int IntKind.i64 (0 : Int), SV.int IntKind.i64 (0 : Int), SV.int IntKind.i64 (0 : Int), SV.int IntKind.i64 (0 : Int), SV.int IntKind.i64 (0 : Int),
                    SV.int IntKind.i64 (0 : Int)]
                   25)]
                (SV.bool false)
              | false =>
               N
                [Ent.mk (Loc.blk 0) (SObj.pred fun (W : World) (c : Ch) ↦ c = [] ∧ Lib.TabIs Tryd.prog W "internal/strconv.uint64pow10" IntKind.u64 Lib.pow10Tab),
                 Ent.mk (Loc.blk b0) (SObj.cells [SV.int IntKind.i64 y0, SV.int IntKind.i64 m0, SV.int IntKind.i64 d0] (23 : TypeId)),
                 Ent.mk (Loc.blk b1)
                  (SObj.cells [SV.int IntKind.i64 y, SV.int IntKind.i64 m, SV.int IntKind.i64 d, SV.int IntKind.i64 h, SV.int IntKind.i64 mi, SV.int IntKind.i64 s] (25 : TypeId)),
                 Ent.mk (Loc.blk b)
                  (SObj.cells
                   [SV.int IntKind.i64 y_1, SV.int IntKind.i64 m_1, SV.int IntKind.i64 d_1, SV.int IntKind.i64 (t % (86400 : Int) / (3600 : Int)),
                    SV.int IntKind.i64 (t % (86400 : Int) / (60 : Int) % (60 : Int)), SV.int IntKind.i64 (t % (86400 : Int) % (60 : Int))]
                   25),
                 Ent.mk (Loc.blk b_1)
                  (SObj.cells
                   [SV.int IntKind.i64 (0 : Int), SV.int IntKind.i64 (0 : Int), SV.int IntKind.i64 (0 : Int), SV.int IntKind.i64 (0 : Int), SV.int IntKind.i64 (0 : Int),
                    SV.int IntKind.i64 (0 : Int)]
                   25)]
                (SV.bool false)
  | false =>
   ∀ (b : Nat),
    (b = b ∧ true = true ∧ 6 = 6 ∧ 6 ≤ 6) ∧
     true = true ∧
      t ≤ (9223372036854775807 : Int) ∧
       match decide ((0 : Int) ≤ t) && decide (t < (7289654400 : Int)) with
       | true =>
        ∀ (y_1 m_1 d_1 : Int),
         dateP (t / (86400 : Int)) y_1 m_1 d_1 →
          ∀ (b_1 : Nat),
           (b_1 = b_1 ∧ true = true ∧ 6 = 6 ∧ 6 ≤ 6) ∧
            (b = b ∧ 6 = 6) ∧
             (b_1 = b_1 ∧ 6 = 6) ∧
              match
               (0 : Int) == y_1 && ((0 : Int) == m_1 && ((0 : Int) == d_1 && true)) &&
                ((0 : Int) == t % (86400 : Int) / (3600 : Int) &&
                 ((0 : Int) == t % (86400 : Int) / (60 : Int) % (60 : Int) && ((0 : Int) == t % (86400 : Int) % (60 : Int) && true))) with
              | true =>
               N
                [Ent.mk (Loc.blk 0) (SObj.pred fun (W : World) (c : Ch) ↦ c = [] ∧ Lib.TabIs Tryd.prog W "internal/strconv.uint64pow10" IntKind.u64 Lib.pow10Tab),
                 Ent.mk (Loc.blk b0) (SObj.cells [SV.int IntKind.i64 y0, SV.int IntKind.i64 m0, SV.int IntKind.i64 d0] (23 : TypeId)),
                 Ent.mk (Loc.blk b1)
                  (SObj.cells [SV.int IntKind.i64 y, SV.int IntKind.i64 m, SV.int IntKind.i64 d, SV.int IntKind.i64 h, SV.int IntKind.i64 mi, SV.int IntKind.i64 s] (25 : TypeId)),
                 Ent.mk (Loc.blk b)
                  (SObj.cells
                   [SV.int IntKind.i64 (0 : Int), SV.int IntKind.i64 (0 : Int), SV.int IntKind.i64 (0 : Int), SV.int IntKind.i64 (0 : Int), SV.int IntKind.i64 (0 : Int),
                    SV.int IntKind.i64 (0 : Int)]
                   25),
                 Ent.mk (Loc.blk b_1)
                  (SObj.cells
                   [SV.int IntKind.i64 y_1, SV.int IntKind.i64 m_1, SV.int IntKind.i64 d_1, SV.int IntKind.i64 (t % (86400 : Int) / (3600 : Int)),
                    SV.int IntKind.i64 (t % (86400 : Int) / (60 : Int) % (60 : Int)), SV.int IntKind.i64 (t % (86400 : Int) % (60 : Int))]
                   25)]
                (SV.bool false)
              | false =>
               N
                [Ent.mk (Loc.blk 0) (SObj.pred fun (W : World) (c : Ch) ↦ c = [] ∧ Lib.TabIs Tryd.prog W "internal/strconv.uint64pow10" IntKind.u64 Lib.pow10Tab),
                 Ent.mk (Loc.blk b0) (SObj.cells [SV.int IntKind.i64 y0, SV.int IntKind.i64 m0, SV.int IntKind.i64 d0] (23 : TypeId)),
                 Ent.mk (Loc.blk b1)
                  (SObj.cells [SV.int IntKind.i64 y, SV.int IntKind.i64 m, SV.int IntKind.i64 d, SV.int IntKind.i64 h, SV.int IntKind.i64 mi, SV.int IntKind.i64 s] (25 : TypeId)),
                 Ent.mk (Loc.blk b)
                  (SObj.cells
                   [SV.int IntKind.i64 (0 : Int), SV.int IntKind.i64 (0 : Int), SV.int IntKind.i64 (0 : Int), SV.int IntKind.i64 (0 : Int), SV.int IntKind.i64 (0 : Int),
                    SV.int IntKind.i64 (0 : Int)]
                   25),
                 Ent.mk (Loc.blk b_1)
                  (SObj.cells
                   [SV.int IntKind.i64 y_1, SV.int IntKind.i64 m_1, SV.int IntKind.i64 d_1, SV.int IntKind.i64 (t % (86400 : Int) / (3600 : Int)),
                    SV.int IntKind.i64 (t % (86400 : Int) / (60 : Int) % (60 : Int)), SV.int IntKind.i64 (t % (86400 : Int) % (60 : Int))]
                   25)]
                (SV.bool false)
       | false =>
        ∀ (b_1 : Nat),
         (b_1 = b_1 ∧ true = true ∧ 6 = 6 ∧ 6 ≤ 6) ∧
          (b = b ∧ 6 = 6) ∧
           (b_1 = b_1 ∧ 6 = 6) ∧
            N
             [Ent.mk (Loc.blk 0) (SObj.pred fun (W : World) (c : Ch) ↦ c = [] ∧ Lib.TabIs Tryd.prog W "internal/strconv.uint64pow10" IntKind.u64 Lib.pow10Tab),
              Ent.mk (Loc.blk b0) (SObj.cells [SV.int IntKind.i64 y0, SV.int IntKind.i64 m0, SV.int IntKind.i64 d0] (23 : TypeId)),
              Ent.mk (Loc.blk b1)
               (SObj.cells [SV.int IntKind.i64 y, SV.int IntKind.i64 m, SV.int IntKind.i64 d, SV.int IntKind.i64 h, SV.int IntKind.i64 mi, SV.int IntKind.i64 s] (25 : TypeId)),
              Ent.mk (Loc.blk b)
               (SObj.cells
                [SV.int IntKind.i64 (0 : Int), SV.int IntKind.i64 (0 : Int), SV.int IntKind.i64 (0 : Int), SV.int IntKind.i64 (0 : Int), SV.int IntKind.i64 (0 : Int),
                 SV.int IntKind.i64 (0 : Int)]
                25),
              Ent.mk (Loc.blk b_1)
               (SObj.cells
                [SV.int IntKind.i64 (0 : Int), SV.int IntKind.i64 (0 : Int), SV.int IntKind.i64 (0 : Int), SV.int IntKind.i64 (0 : Int), SV.int IntKind.i64 (0 : Int),
                 SV.int IntKind.i64 (0 : Int)]
                25)]
             (SV.bool true)) := by kernel_rfl
end Go.Proofs.YtjnkfgigpapeaaaDoor

