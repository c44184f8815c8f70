import Derived.Test.YtihajdkipkfiiaaPrcT
import Derived.Test.YtihajdkipkfiiaaTab
namespace Go.Proofs.Ytihajdkipkfiiaa
set_option linter.unusedVariables false
open Go Go.RowKit
set_option maxHeartbeats 0
set_option maxRecDepth 100000
set_option allowUnsafeReducibility true
set_option maxRecDepth 100000

theorem known8 (K : List Frm → Sy → Prop) (N : List Ent → SV → Prop) : (run Try.prog ptT false [] K (retP Try.prog Try.f20.results.toList N) 3000 [.code (bodyOf Try.f20)] ⟨padTo 82 [], []⟩) = (
true = true ∧
 ∀ (b bm bp : Nat),
  true = true ∧
   b = b ∧
    ∃ (h : PT = PT),
     AdtIs (fun (s : PT) (b : Nat) ↦ packs (ptE s b)) ptE ∧
      pOk (PT.mk bm [(bp, PR.mk (1 : Int) (0 : Int) (ByteArray.mk #[]) false (0 : Int) (ByteArray.mk #[]) false false)] (10 : Int) (1 : Int)) ∧
       ∀ (nb : Nat),
        true = true ∧
         b = b ∧
          ∃ (h : PT = PT),
           AdtIs (fun (s : PT) (b : Nat) ↦ packs (ptE s b)) ptE ∧
            pOk
             (PT.mk bm
              ([(bp, PR.mk (1 : Int) (0 : Int) (ByteArray.mk #[]) false (0 : Int) (ByteArray.mk #[]) false false)] ++
               [(nb, PR.mk ((1 : Int) + (1 : Int)) (1 : Int) (ByteArray.mk #[(103 : UInt8)]) false (0 : Int) (ByteArray.mk #[(99 : UInt8)]) false false)])
              (10 : Int) ((1 : Int) + (1 : Int))) ∧
             ∀ (nb_1 : Nat),
              true = true ∧
               b = b ∧
                ∃ (h : PT = PT),
                 AdtIs (fun (s : PT) (b : Nat) ↦ packs (ptE s b)) ptE ∧
                  pOk
                   (PT.mk bm
                    ([(bp, PR.mk (1 : Int) (0 : Int) (ByteArray.mk #[]) false (0 : Int) (ByteArray.mk #[]) false false)] ++
                     [(nb, PR.mk ((1 : Int) + (1 : Int)) (1 : Int) (ByteArray.mk #[(103 : UInt8)]) false (0 : Int) (ByteArray.mk #[(99 : UInt8)]) false false)] ++
                     [(nb_1, PR.mk ((1 : Int) + (1 : Int) + (1 : Int)) (2 : Int) (ByteArray.mk #[(103 : UInt8)]) false (0 : Int) (ByteArray.mk #[(99 : UInt8)]) false false)])
                    (10 : Int) ((1 : Int) + (1 : Int) + (1 : Int))) ∧
                   true = true ∧
                    b = b ∧
                     ∃ (h : PT = PT),
                      AdtIs (fun (s : PT) (b : Nat) ↦ packs (ptE s b)) ptE ∧
                       pOk
                        (PT.mk bm
                         [(bp, PR.mk (1 : Int) (0 : Int) (ByteArray.mk #[]) false (0 : Int) (ByteArray.mk #[]) false false),
                          (nb, PR.mk (2 : Int) (1 : Int) (ByteArray.mk #[(103 : UInt8)]) true (0 : Int) (ByteArray.mk #[(99 : UInt8)]) false false),
                          (nb_1,
                           PR.mk (3 : Int) (1 : Int)
                            (PR.mk ((1 : Int) + (1 : Int) + (1 : Int)) (2 : Int) (ByteArray.mk #[(103 : UInt8)]) false (0 : Int) (ByteArray.mk #[(99 : UInt8)]) false
                             false).group
                            false (0 : Int)
                            (PR.mk ((1 : Int) + (1 : Int) + (1 : Int)) (2 : Int) (ByteArray.mk #[(103 : UInt8)]) false (0 : Int) (ByteArray.mk #[(99 : UInt8)]) false
                             false).cmd
                            false false)]
                         (10 : Int) ((1 : Int) + (1 : Int) + (1 : Int))) ∧
                        ∀ (b_1 : Nat),
                         (b_1 = b_1 ∧ true = true ∧ 6 = 6 ∧ 6 ≤ 6) ∧
                          true = true ∧
                           b = b ∧
                            ∃ (h : PT = PT),
                             AdtIs (fun (s : PT) (b : Nat) ↦ packs (ptE s b)) ptE ∧
                              pOk
                               (PT.mk bm
                                [(bp, PR.mk (1 : Int) (0 : Int) (ByteArray.mk #[]) false (0 : Int) (ByteArray.mk #[]) false false),
                                 (nb, PR.mk (2 : Int) (1 : Int) (ByteArray.mk #[(103 : UInt8)]) true (0 : Int) (ByteArray.mk #[(99 : UInt8)]) false false),
                                 (nb_1,
                                  PR.mk (3 : Int) (1 : Int)
                                   (PR.mk ((1 : Int) + (1 : Int) + (1 : Int)) (2 : Int) (ByteArray.mk #[(103 : UInt8)]) false (0 : Int)
                                    (ByteArray.mk #[(99 : UInt8)]) false false).group
                                   false (0 : Int)
                                   (PR.mk ((1 : Int) + (1 : Int) + (1 : Int)) (2 : Int) (ByteArray.mk #[(103 : UInt8)]) false (0 : Int)
                                    (ByteArray.mk #[(99 : UInt8)]) false false).cmd
                                   false false)]
                                (10 : Int) ((1 : Int) + (1 : Int) + (1 : Int))) ∧
                               ∀ (b_2 : Nat),
                                (b_2 = b_2 ∧ true = true ∧ 6 = 6 ∧ 6 ≤ 6) ∧
                                 b_1 = b_1 ∧
                                  b_2 = b_2 ∧
                                   b_2 = b_2 ∧
                                    true = true ∧
                                     b = b ∧
                                      ∃ (h : PT = PT),
                                       AdtIs (fun (s : PT) (b : Nat) ↦ packs (ptE s b)) ptE ∧
                                        pOk
                                         (PT.mk bm
                                          (List.filter
                                           (fun (y : Nat × PR) ↦
                                            !y.snd.pid ==
                                             (nb,
                                              PR.mk (2 : Int) (1 : Int) (ByteArray.mk #[(103 : UInt8)]) true (0 : Int)
                                               (ByteArray.mk #[(99 : UInt8)]) false false).snd.pid)
                                           [(bp, PR.mk (1 : Int) (0 : Int) (ByteArray.mk #[]) false (0 : Int) (ByteArray.mk #[]) false false),
                                            (nb,
                                             PR.mk (2 : Int) (1 : Int) (ByteArray.mk #[(103 : UInt8)]) true (0 : Int) (ByteArray.mk #[(99 : UInt8)])
                                              false false),
                                            (nb_1,
                                             PR.mk (3 : Int) (1 : Int)
                                              (PR.mk ((1 : Int) + (1 : Int) + (1 : Int)) (2 : Int) (ByteArray.mk #[(103 : UInt8)]) false (0 : Int)
                                               (ByteArray.mk #[(99 : UInt8)]) false false).group
                                              false (0 : Int)
                                              (PR.mk ((1 : Int) + (1 : Int) + (1 : Int)) (2 : Int) (ByteArray.mk #[(103 : UInt8)]) false (0 : Int)
                                               (ByteArray.mk #[(99 : UInt8)]) false false).cmd
                                              false false)])
                                          (10 : Int) ((1 : Int) + (1 : Int) + (1 : Int))) ∧
                                         true = true ∧
                                          b = b ∧
                                           ∃ (h : PT = PT),
                                            AdtIs (fun (s : PT) (b : Nat) ↦ packs (ptE s b)) ptE ∧
                                             pOk
                                              (PT.mk bm
                                               (List.filter
                                                (fun (y : Nat × PR) ↦
                                                 !y.snd.pid ==
                                                  (nb,
                                                   PR.mk (2 : Int) (1 : Int) (ByteArray.mk #[(103 : UInt8)]) true (0 : Int)
                                                    (ByteArray.mk #[(99 : UInt8)]) false false).snd.pid)
                                                [(bp, PR.mk (1 : Int) (0 : Int) (ByteArray.mk #[]) false (0 : Int) (ByteArray.mk #[]) false false),
                                                 (nb,
                                                  PR.mk (2 : Int) (1 : Int) (ByteArray.mk #[(103 : UInt8)]) true (0 : Int)
                                                   (ByteArray.mk #[(99 : UInt8)]) false false),
                                                 (nb_1,
                                                  PR.mk (3 : Int) (1 : Int)
                                                   (PR.mk ((1 : Int) + (1 : Int) + (1 : Int)) (2 : Int) (ByteArray.mk #[(103 : UInt8)]) false
                                                    (0 : Int) (ByteArray.mk #[(99 : UInt8)]) false false).group
                                                   false (0 : Int)
                                                   (PR.mk ((1 : Int) + (1 : Int) + (1 : Int)) (2 : Int) (ByteArray.mk #[(103 : UInt8)]) false
                                                    (0 : Int) (ByteArray.mk #[(99 : UInt8)]) false false).cmd
                                                   false false)])
                                               (10 : Int) ((1 : Int) + (1 : Int) + (1 : Int))) ∧
                                              N
                                               [pkA b ptE
                                                (PT.mk bm
                                                 (List.filter
                                                  (fun (y : Nat × PR) ↦
                                                   !y.snd.pid ==
                                                    (nb,
                                                     PR.mk (2 : Int) (1 : Int) (ByteArray.mk #[(103 : UInt8)]) true (0 : Int)
                                                      (ByteArray.mk #[(99 : UInt8)]) false false).snd.pid)
                                                  [(bp,
                                                   PR.mk (1 : Int) (0 : Int) (ByteArray.mk #[]) false (0 : Int) (ByteArray.mk #[]) false false),
                                                   (nb,
                                                    PR.mk (2 : Int) (1 : Int) (ByteArray.mk #[(103 : UInt8)]) true (0 : Int)
                                                     (ByteArray.mk #[(99 : UInt8)]) false false),
                                                   (nb_1,
                                                    PR.mk (3 : Int) (1 : Int)
                                                     (PR.mk ((1 : Int) + (1 : Int) + (1 : Int)) (2 : Int) (ByteArray.mk #[(103 : UInt8)]) false
                                                      (0 : Int) (ByteArray.mk #[(99 : UInt8)]) false false).group
                                                     false (0 : Int)
                                                     (PR.mk ((1 : Int) + (1 : Int) + (1 : Int)) (2 : Int) (ByteArray.mk #[(103 : UInt8)]) false
                                                      (0 : Int) (ByteArray.mk #[(99 : UInt8)]) false false).cmd
                                                     false false)])
                                                 (10 : Int) ((1 : Int) + (1 : Int) + (1 : Int))),
                                                Ent.mk (Loc.blk b_1)
                                                 (SObj.cells
                                                  [SV.int IntKind.i64 (3 : Int), SV.int IntKind.i64 (1 : Int),
                                                   SV.str
                                                    (PR.mk (3 : Int) (1 : Int) (ByteArray.mk #[(103 : UInt8)]) false (0 : Int)
                                                     (ByteArray.mk #[(99 : UInt8)]) false false).group,
                                                   SV.bool false, SV.int IntKind.i64 (0 : Int),
                                                   SV.str
                                                    (PR.mk (3 : Int) (1 : Int) (ByteArray.mk #[(103 : UInt8)]) false (0 : Int)
                                                     (ByteArray.mk #[(99 : UInt8)]) false false).cmd]
                                                  45),
                                                Ent.mk (Loc.blk b_2)
                                                 (SObj.cells
                                                  [SV.int IntKind.i64 (2 : Int), SV.int IntKind.i64 (1 : Int),
                                                   SV.str
                                                    (PR.mk (2 : Int) (1 : Int) (ByteArray.mk #[(103 : UInt8)]) true (0 : Int)
                                                     (ByteArray.mk #[(99 : UInt8)]) false false).group,
                                                   SV.bool true, SV.int IntKind.i64 (0 : Int),
                                                   SV.str
                                                    (PR.mk (2 : Int) (1 : Int) (ByteArray.mk #[(103 : UInt8)]) true (0 : Int)
                                                     (ByteArray.mk #[(99 : UInt8)]) false false).cmd]
                                                  45)]
                                               (SV.bool true)) := by kernel_rfl


theorem ps_run (K : List Frm → Sy → Prop) (N : List Ent → SV → Prop) (term kill : Bool) (sig : Int) : (run Try.prog ptTk false [] K (retP Try.prog Try.f9.results.toList N) 3000 [.code (bodyOf Try.f9)] ⟨padTo 111 [.bool term, .bool kill, .int .i64 sig], []⟩) = (
true = true ∧
 true = true ∧
  ∀ (b bm bp : Nat),
   true = true ∧
    b = b ∧
     ∃ (h : PT = PT),
      AdtIs (fun (s : PT) (b : Nat) ↦ packs (ptE s b)) ptE ∧
       pOk (PT.mk bm [(bp, PR.mk (1 : Int) (0 : Int) (ByteArray.mk #[]) false (0 : Int) (ByteArray.mk #[]) false false)] (10 : Int) (1 : Int)) ∧
        ∀ (nb : Nat),
         match term with
         | true =>
          true = true ∧
           b = b ∧
            ∃ (h : PT = PT),
             AdtIs (fun (s : PT) (b : Nat) ↦ packs (ptE s b)) ptE ∧
              pOk
               (PT.mk bm
                ([(bp, PR.mk (1 : Int) (0 : Int) (ByteArray.mk #[]) false (0 : Int) (ByteArray.mk #[]) false false)] ++
                 [(nb, PR.mk ((1 : Int) + (1 : Int)) (1 : Int) (ByteArray.mk #[(103 : UInt8)]) false (0 : Int) (ByteArray.mk #[(99 : UInt8)]) false false)])
                (10 : Int) ((1 : Int) + (1 : Int))) ∧
               match kill with
               | true =>
                true = true ∧
                 b = b ∧
                  ∃ (h : PT = PT),
                   AdtIs (fun (s : PT) (b : Nat) ↦ packs (ptE s b)) ptE ∧
                    pOk
                     (PT.mk bm
                      [(bp, PR.mk (1 : Int) (0 : Int) (ByteArray.mk #[]) false (0 : Int) (ByteArray.mk #[]) false false),
                       (nb, PR.mk ((1 : Int) + (1 : Int)) (1 : Int) (ByteArray.mk #[(103 : UInt8)]) false (0 : Int) (ByteArray.mk #[(99 : UInt8)]) true false)]
                      (10 : Int) ((1 : Int) + (1 : Int))) ∧
                     match sig != (15 : Int) with
                     | true =>
                      match sig != (9 : Int) with
                      | true =>
                       true = true ∧
                        b = b ∧
                         ∃ (h : PT = PT),
                          AdtIs (fun (s : PT) (b : Nat) ↦ packs (ptE s b)) ptE ∧
                           pOk
                            (PT.mk bm
                             [(bp, PR.mk (1 : Int) (0 : Int) (ByteArray.mk #[]) false (0 : Int) (ByteArray.mk #[]) false false),
                              (nb, PR.mk ((1 : Int) + (1 : Int)) (1 : Int) (ByteArray.mk #[(103 : UInt8)]) false (0 : Int) (ByteArray.mk #[(99 : UInt8)]) true true)]
                             (10 : Int) ((1 : Int) + (1 : Int))) ∧
                            match sig == (15 : Int) with
                            | true =>
                             N
                              [pkA b ptE
                               (PT.mk bm
                                [(bp, PR.mk (1 : Int) (0 : Int) (ByteArray.mk #[]) false (0 : Int) (ByteArray.mk #[]) false false),
                                 (nb,
                                  PR.mk ((1 : Int) + (1 : Int)) (1 : Int) (ByteArray.mk #[(103 : UInt8)]) false (0 : Int) (ByteArray.mk #[(99 : UInt8)]) true true)]
                                (10 : Int) ((1 : Int) + (1 : Int)))]
                              (SV.bool false)
                            | false =>
                             match sig == (9 : Int) with
                             | true =>
                              N
                               [pkA b ptE
                                (PT.mk bm
                                 [(bp, PR.mk (1 : Int) (0 : Int) (ByteArray.mk #[]) false (0 : Int) (ByteArray.mk #[]) false false),
                                  (nb,
                                   PR.mk ((1 : Int) + (1 : Int)) (1 : Int) (ByteArray.mk #[(103 : UInt8)]) false (0 : Int) (ByteArray.mk #[(99 : UInt8)]) true
                                    true)]
                                 (10 : Int) ((1 : Int) + (1 : Int)))]
                               (SV.bool false)
                             | false =>
                              true = true ∧
                               b = b ∧
                                ∃ (h : PT = PT),
                                 AdtIs (fun (s : PT) (b : Nat) ↦ packs (ptE s b)) ptE ∧
                                  pOk
                                   (PT.mk bm
                                    [(bp, PR.mk (1 : Int) (0 : Int) (ByteArray.mk #[]) false (0 : Int) (ByteArray.mk #[]) false false),
                                     (nb,
                                      PR.mk ((1 : Int) + (1 : Int)) (1 : Int) (ByteArray.mk #[(103 : UInt8)]) false (0 : Int) (ByteArray.mk #[(99 : UInt8)])
                                       true true)]
                                    (10 : Int) ((1 : Int) + (1 : Int))) ∧
                                   true = true ∧
                                    b = b ∧
                                     ∃ (h : PT = PT),
                                      AdtIs (fun (s : PT) (b : Nat) ↦ packs (ptE s b)) ptE ∧
                                       pOk
                                        (PT.mk bm
                                         [(bp, PR.mk (1 : Int) (0 : Int) (ByteArray.mk #[]) false (0 : Int) (ByteArray.mk #[]) false false),
                                          (nb,
                                           PR.mk ((1 : Int) + (1 : Int)) (1 : Int) (ByteArray.mk #[(103 : UInt8)]) false (0 : Int)
                                            (ByteArray.mk #[(99 : UInt8)]) true true)]
                                         (10 : Int) ((1 : Int) + (1 : Int))) ∧
                                        ∀ (nb_1 : Nat),
                                         true = true ∧
                                          b = b ∧
                                           ∃ (h : PT = PT),
                                            AdtIs (fun (s : PT) (b : Nat) ↦ packs (ptE s b)) ptE ∧
                                             pOk
                                              (PT.mk bm
                                               [(bp, PR.mk (1 : Int) (0 : Int) (ByteArray.mk #[]) false (0 : Int) (ByteArray.mk #[]) false false),
                                                (nb,
                                                 PR.mk ((1 : Int) + (1 : Int)) (1 : Int) (ByteArray.mk #[(103 : UInt8)]) false (0 : Int)
                                                  (ByteArray.mk #[(99 : UInt8)]) true true)]
                                               (10 : Int) ((1 : Int) + (1 : Int))) ∧
                                              ∀ (b_1 : Nat),
                                               (b_1 = b_1 ∧ true = true ∧ 6 = 6 ∧ 6 ≤ 6) ∧
                                                match true == term with
                                                | true =>
                                                 match true == kill with
                                                 | true =>
                                                  match false == !kill with
                                                  | true =>
                                                   b_1 = b_1 ∧
                                                    true = true ∧
                                                     b = b ∧
                                                      ∃ (h : PT = PT),
                                                       AdtIs (fun (s : PT) (b : Nat) ↦ packs (ptE s b)) ptE ∧
                                                        pOk
                                                         (PT.mk bm
                                                          [(bp,
                                                           PR.mk (1 : Int) (0 : Int) (ByteArray.mk #[]) false (0 : Int)
                                                            (ByteArray.mk #[]) false false),
                                                           (nb,
                                                            PR.mk ((1 : Int) + (1 : Int)) (1 : Int) (ByteArray.mk #[(103 : UInt8)]) false
                                                             (0 : Int) (ByteArray.mk #[(99 : UInt8)]) true true)]
                                                          (10 : Int) ((1 : Int) + (1 : Int))) ∧
                                                         true = true ∧
                                                          b = b ∧
                                                           ∃ (h : PT = PT),
                                                            AdtIs (fun (s : PT) (b : Nat) ↦ packs (ptE s b)) ptE ∧
                                                             pOk
                                                              (PT.mk bm
                                                               [(bp,
                                                                PR.mk (1 : Int) (0 : Int) (ByteArray.mk #[]) false (0 : Int)
                                                                 (ByteArray.mk #[]) false false),
                                                                (nb,
                                                                 PR.mk ((1 : Int) + (1 : Int)) (1 : Int)
                                                                  (ByteArray.mk #[(103 : UInt8)]) false (0 : Int)
                                                                  (ByteArray.mk #[(99 : UInt8)]) true true)]
                                                               (10 : Int) ((1 : Int) + (1 : Int))) ∧
                                                              true = true ∧
                                                               b = b ∧
                                                                ∃ (h : PT = PT),
                                                                 AdtIs (fun (s : PT) (b : Nat) ↦ packs (ptE s b)) ptE ∧
                                                                  pOk
                                                                   (PT.mk bm
                                                                    [(bp,
                                                                     PR.mk (1 : Int) (0 : Int) (ByteArray.mk #[]) false
                                                                      (0 : Int) (ByteArray.mk #[]) false false),
                                                                     (nb,
                                                                      PR.mk (2 : Int) (1 : Int) (ByteArray.mk #[(103 : UInt8)])
                                                                       true (-9 : Int) (ByteArray.mk #[(99 : UInt8)]) true
                                                                       true)]
                                                                    (10 : Int) ((1 : Int) + (1 : Int))) ∧
                                                                   N
                                                                    [pkA b ptE
                                                                     (PT.mk bm
                                                                      [(bp,
                                                                       PR.mk (1 : Int) (0 : Int) (ByteArray.mk #[]) false
                                                                        (0 : Int) (ByteArray.mk #[]) false false),
                                                                       (nb,
                                                                        PR.mk (2 : Int) (1 : Int)
                                                                         (ByteArray.mk #[(103 : UInt8)]) true (-9 : Int)
                                                                         (ByteArray.mk #[(99 : UInt8)]) true true)]
                                                                      (10 : Int) ((1 : Int) + (1 : Int))),
                                                                     Ent.mk (Loc.blk b_1)
                                                                      (SObj.cells
                                                                       [SV.int IntKind.i64 (2 : Int),
                                                                        SV.int IntKind.i64 (1 : Int),
                                                                        SV.str
                                                                         (PR.mk (2 : Int) (1 : Int)
                                                                          (ByteArray.mk #[(103 : UInt8)]) false (0 : Int)
                                                                          (ByteArray.mk #[(99 : UInt8)]) true true).group,
                                                                        SV.bool false, SV.int IntKind.i64 (0 : Int),
                                                                        SV.str
                                                                         (PR.mk (2 : Int) (1 : Int)
                                                                          (ByteArray.mk #[(103 : UInt8)]) false (0 : Int)
                                                                          (ByteArray.mk #[(99 : UInt8)]) true true).cmd]
                                                                       45)]
                                                                    (SV.bool true)
                                                  | false =>
                                                   N
                                                    [pkA b ptE
                                                     (PT.mk bm
                                                      [(bp,
                                                       PR.mk (1 : Int) (0 : Int) (ByteArray.mk #[]) false (0 : Int) (ByteArray.mk #[]) false
                                                        false),
                                                       (nb,
                                                        PR.mk ((1 : Int) + (1 : Int)) (1 : Int) (ByteArray.mk #[(103 : UInt8)]) false
                                                         (0 : Int) (ByteArray.mk #[(99 : UInt8)]) true true)]
                                                      (10 : Int) ((1 : Int) + (1 : Int))),
                                                     Ent.mk (Loc.blk b_1)
                                                      (SObj.cells
                                                       [SV.int IntKind.i64 (2 : Int), SV.int IntKind.i64 (1 : Int),
                                                        SV.str
                                                         (PR.mk (2 : Int) (1 : Int) (ByteArray.mk #[(103 : UInt8)]) false (0 : Int)
                                                          (ByteArray.mk #[(99 : UInt8)]) true true).group,
                                                        SV.bool false, SV.int IntKind.i64 (0 : Int),
                                                        SV.str
                                                         (PR.mk (2 : Int) (1 : Int) (ByteArray.mk #[(103 : UInt8)]) false (0 : Int)
                                                          (ByteArray.mk #[(99 : UInt8)]) true true).cmd]
                                                       45)]
                                                    (SV.bool false)
                                                 | false =>
                                                  N
                                                   [pkA b ptE
                                                    (PT.mk bm
                                                     [(bp,
                                                      PR.mk (1 : Int) (0 : Int) (ByteArray.mk #[]) false (0 : Int) (ByteArray.mk #[]) false
                                                       false),
                                                      (nb,
                                                       PR.mk ((1 : Int) + (1 : Int)) (1 : Int) (ByteArray.mk #[(103 : UInt8)]) false (0 : Int)
                                                        (ByteArray.mk #[(99 : UInt8)]) true true)]
                                                     (10 : Int) ((1 : Int) + (1 : Int))),
                                                    Ent.mk (Loc.blk b_1)
                                                     (SObj.cells
                                                      [SV.int IntKind.i64 (2 : Int), SV.int IntKind.i64 (1 : Int),
                                                       SV.str
                                                        (PR.mk (2 : Int) (1 : Int) (ByteArray.mk #[(103 : UInt8)]) false (0 : Int)
                                                         (ByteArray.mk #[(99 : UInt8)]) true true).group,
                                                       SV.bool false, SV.int IntKind.i64 (0 : Int),
                                                       SV.str
                                                        (PR.mk (2 : Int) (1 : Int) (ByteArray.mk #[(103 : UInt8)]) false (0 : Int)
                                                         (ByteArray.mk #[(99 : UInt8)]) true true).cmd]
                                                      45)]
                                                   (SV.bool false)
                                                | false =>
                                                 N
                                                  [pkA b ptE
                                                   (PT.mk bm
                                                    [(bp,
                                                     PR.mk (1 : Int) (0 : Int) (ByteArray.mk #[]) false (0 : Int) (ByteArray.mk #[]) false
                                                      false),
                                                     (nb,
                                                      PR.mk ((1 : Int) + (1 : Int)) (1 : Int) (ByteArray.mk #[(103 : UInt8)]) false (0 : Int)
                                                       (ByteArray.mk #[(99 : UInt8)]) true true)]
                                                    (10 : Int) ((1 : Int) + (1 : Int))),
                                                   Ent.mk (Loc.blk b_1)
                                                    (SObj.cells
                                                     [SV.int IntKind.i64 (2 : Int), SV.int IntKind.i64 (1 : Int),
                                                      SV.str
                                                       (PR.mk (2 : Int) (1 : Int) (ByteArray.mk #[(103 : UInt8)]) false (0 : Int)
                                                        (ByteArray.mk #[(99 : UInt8)]) true true).group,
                                                      SV.bool false, SV.int IntKind.i64 (0 : Int),
                                                      SV.str
                                                       (PR.mk (2 : Int) (1 : Int) (ByteArray.mk #[(103 : UInt8)]) false (0 : Int)
                                                        (ByteArray.mk #[(99 : UInt8)]) true true).cmd]
                                                     45)]
                                                  (SV.bool false)
                      | false =>
                       true = true ∧
                        b = b ∧
                         ∃ (h : PT = PT),
                          AdtIs (fun (s : PT) (b : Nat) ↦ packs (ptE s b)) ptE ∧
                           pOk
                            (PT.mk bm
                             [(bp, PR.mk (1 : Int) (0 : Int) (ByteArray.mk #[]) false (0 : Int) (ByteArray.mk #[]) false false),
                              (nb, PR.mk ((1 : Int) + (1 : Int)) (1 : Int) (ByteArray.mk #[(103 : UInt8)]) false (0 : Int) (ByteArray.mk #[(99 : UInt8)]) true true)]
                             (10 : Int) ((1 : Int) + (1 : Int))) ∧
                            true = true ∧
                             b = b ∧
                              ∃ (h : PT = PT),
                               AdtIs (fun (s : PT) (b : Nat) ↦ packs (ptE s b)) ptE ∧
                                pOk
                                 (PT.mk bm
                                  [(bp, PR.mk (1 : Int) (0 : Int) (ByteArray.mk #[]) false (0 : Int) (ByteArray.mk #[]) false false),
                                   (nb,
                                    PR.mk ((1 : Int) + (1 : Int)) (1 : Int) (ByteArray.mk #[(103 : UInt8)]) false (0 : Int) (ByteArray.mk #[(99 : UInt8)]) true
                                     true)]
                                  (10 : Int) ((1 : Int) + (1 : Int))) ∧
                                 ∀ (nb_1 : Nat),
                                  true = true ∧
                                   b = b ∧
                                    ∃ (h : PT = PT),
                                     AdtIs (fun (s : PT) (b : Nat) ↦ packs (ptE s b)) ptE ∧
                                      pOk
                                       (PT.mk bm
                                        [(bp, PR.mk (1 : Int) (0 : Int) (ByteArray.mk #[]) false (0 : Int) (ByteArray.mk #[]) false false),
                                         (nb,
                                          PR.mk ((1 : Int) + (1 : Int)) (1 : Int) (ByteArray.mk #[(103 : UInt8)]) false (0 : Int)
                                           (ByteArray.mk #[(99 : UInt8)]) true true)]
                                        (10 : Int) ((1 : Int) + (1 : Int))) ∧
                                       ∀ (b_1 : Nat),
                                        (b_1 = b_1 ∧ true = true ∧ 6 = 6 ∧ 6 ≤ 6) ∧
                                         match true == term with
                                         | true =>
                                          match true == kill with
                                          | true =>
                                           match false == !kill with
                                           | true =>
                                            b_1 = b_1 ∧
                                             true = true ∧
                                              b = b ∧
                                               ∃ (h : PT = PT),
                                                AdtIs (fun (s : PT) (b : Nat) ↦ packs (ptE s b)) ptE ∧
                                                 pOk
                                                  (PT.mk bm
                                                   [(bp,
                                                    PR.mk (1 : Int) (0 : Int) (ByteArray.mk #[]) false (0 : Int) (ByteArray.mk #[]) false
                                                     false),
                                                    (nb,
                                                     PR.mk ((1 : Int) + (1 : Int)) (1 : Int) (ByteArray.mk #[(103 : UInt8)]) false (0 : Int)
                                                      (ByteArray.mk #[(99 : UInt8)]) true true)]
                                                   (10 : Int) ((1 : Int) + (1 : Int))) ∧
                                                  true = true ∧
                                                   b = b ∧
                                                    ∃ (h : PT = PT),
                                                     AdtIs (fun (s : PT) (b : Nat) ↦ packs (ptE s b)) ptE ∧
                                                      pOk
                                                       (PT.mk bm
                                                        [(bp,
                                                         PR.mk (1 : Int) (0 : Int) (ByteArray.mk #[]) false (0 : Int) (ByteArray.mk #[])
                                                          false false),
                                                         (nb,
                                                          PR.mk ((1 : Int) + (1 : Int)) (1 : Int) (ByteArray.mk #[(103 : UInt8)]) false
                                                           (0 : Int) (ByteArray.mk #[(99 : UInt8)]) true true)]
                                                        (10 : Int) ((1 : Int) + (1 : Int))) ∧
                                                       true = true ∧
                                                        b = b ∧
                                                         ∃ (h : PT = PT),
                                                          AdtIs (fun (s : PT) (b : Nat) ↦ packs (ptE s b)) ptE ∧
                                                           pOk
                                                            (PT.mk bm
                                                             [(bp,
                                                              PR.mk (1 : Int) (0 : Int) (ByteArray.mk #[]) false (0 : Int)
                                                               (ByteArray.mk #[]) false false),
                                                              (nb,
                                                               PR.mk (2 : Int) (1 : Int) (ByteArray.mk #[(103 : UInt8)]) true
                                                                (-9 : Int) (ByteArray.mk #[(99 : UInt8)]) true true)]
                                                             (10 : Int) ((1 : Int) + (1 : Int))) ∧
                                                            N
                                                             [pkA b ptE
                                                              (PT.mk bm
                                                               [(bp,
                                                                PR.mk (1 : Int) (0 : Int) (ByteArray.mk #[]) false (0 : Int)
                                                                 (ByteArray.mk #[]) false false),
                                                                (nb,
                                                                 PR.mk (2 : Int) (1 : Int) (ByteArray.mk #[(103 : UInt8)]) true
                                                                  (-9 : Int) (ByteArray.mk #[(99 : UInt8)]) true true)]
                                                               (10 : Int) ((1 : Int) + (1 : Int))),
                                                              Ent.mk (Loc.blk b_1)
                                                               (SObj.cells
                                                                [SV.int IntKind.i64 (2 : Int), SV.int IntKind.i64 (1 : Int),
                                                                 SV.str
                                                                  (PR.mk (2 : Int) (1 : Int) (ByteArray.mk #[(103 : UInt8)]) false
                                                                   (0 : Int) (ByteArray.mk #[(99 : UInt8)]) true true).group,
                                                                 SV.bool false, SV.int IntKind.i64 (0 : Int),
                                                                 SV.str
                                                                  (PR.mk (2 : Int) (1 : Int) (ByteArray.mk #[(103 : UInt8)]) false
                                                                   (0 : Int) (ByteArray.mk #[(99 : UInt8)]) true true).cmd]
                                                                45)]
                                                             (SV.bool true)
                                           | false =>
                                            N
                                             [pkA b ptE
                                              (PT.mk bm
                                               [(bp, PR.mk (1 : Int) (0 : Int) (ByteArray.mk #[]) false (0 : Int) (ByteArray.mk #[]) false false),
                                                (nb,
                                                 PR.mk ((1 : Int) + (1 : Int)) (1 : Int) (ByteArray.mk #[(103 : UInt8)]) false (0 : Int)
                                                  (ByteArray.mk #[(99 : UInt8)]) true true)]
                                               (10 : Int) ((1 : Int) + (1 : Int))),
                                              Ent.mk (Loc.blk b_1)
                                               (SObj.cells
                                                [SV.int IntKind.i64 (2 : Int), SV.int IntKind.i64 (1 : Int),
                                                 SV.str
                                                  (PR.mk (2 : Int) (1 : Int) (ByteArray.mk #[(103 : UInt8)]) false (0 : Int)
                                                   (ByteArray.mk #[(99 : UInt8)]) true true).group,
                                                 SV.bool false, SV.int IntKind.i64 (0 : Int),
                                                 SV.str
                                                  (PR.mk (2 : Int) (1 : Int) (ByteArray.mk #[(103 : UInt8)]) false (0 : Int)
                                                   (ByteArray.mk #[(99 : UInt8)]) true true).cmd]
                                                45)]
                                             (SV.bool false)
                                          | false =>
                                           N
                                            [pkA b ptE
                                             (PT.mk bm
                                              [(bp, PR.mk (1 : Int) (0 : Int) (ByteArray.mk #[]) false (0 : Int) (ByteArray.mk #[]) false false),
                                               (nb,
                                                PR.mk ((1 : Int) + (1 : Int)) (1 : Int) (ByteArray.mk #[(103 : UInt8)]) false (0 : Int)
                                                 (ByteArray.mk #[(99 : UInt8)]) true true)]
                                              (10 : Int) ((1 : Int) + (1 : Int))),
                                             Ent.mk (Loc.blk b_1)
                                              (SObj.cells
                                               [SV.int IntKind.i64 (2 : Int), SV.int IntKind.i64 (1 : Int),
                                                SV.str
                                                 (PR.mk (2 : Int) (1 : Int) (ByteArray.mk #[(103 : UInt8)]) false (0 : Int)
                                                  (ByteArray.mk #[(99 : UInt8)]) true true).group,
                                                SV.bool false, SV.int IntKind.i64 (0 : Int),
                                                SV.str
                                                 (PR.mk (2 : Int) (1 : Int) (ByteArray.mk #[(103 : UInt8)]) false (0 : Int)
                                                  (ByteArray.mk #[(99 : UInt8)]) true true).cmd]
                                               45)]
                                            (SV.bool false)
                                         | false =>
                                          N
                                           [pkA b ptE
                                            (PT.mk bm
                                             [(bp, PR.mk (1 : Int) (0 : Int) (ByteArray.mk #[]) false (0 : Int) (ByteArray.mk #[]) false false),
                                              (nb,
                                               PR.mk ((1 : Int) + (1 : Int)) (1 : Int) (ByteArray.mk #[(103 : UInt8)]) false (0 : Int)
                                                (ByteArray.mk #[(99 : UInt8)]) true true)]
                                             (10 : Int) ((1 : Int) + (1 : Int))),
                                            Ent.mk (Loc.blk b_1)
                                             (SObj.cells
                                              [SV.int IntKind.i64 (2 : Int), SV.int IntKind.i64 (1 : Int),
                                               SV.str
                                                (PR.mk (2 : Int) (1 : Int) (ByteArray.mk #[(103 : UInt8)]) false (0 : Int)
                                                 (ByteArray.mk #[(99 : UInt8)]) true true).group,
                                               SV.bool false, SV.int IntKind.i64 (0 : Int),
                                               SV.str
                                                (PR.mk (2 : Int) (1 : Int) (ByteArray.mk #[(103 : UInt8)]) false (0 : Int)
                                                 (ByteArray.mk #[(99 : UInt8)]) true true).cmd]
                                              45)]
                                           (SV.bool false)
                     | false =>
                      true = true ∧
                       b = b ∧
                        ∃ (h : PT = PT),
                         AdtIs (fun (s : PT) (b : Nat) ↦ packs (ptE s b)) ptE ∧
                          pOk
                           (PT.mk bm
                            [(bp, PR.mk (1 : Int) (0 : Int) (ByteArray.mk #[]) false (0 : Int) (ByteArray.mk #[]) false false),
                             (nb, PR.mk ((1 : Int) + (1 : Int)) (1 : Int) (ByteArray.mk #[(103 : UInt8)]) false (0 : Int) (ByteArray.mk #[(99 : UInt8)]) true true)]
                            (10 : Int) ((1 : Int) + (1 : Int))) ∧
                           true = true ∧
                            b = b ∧
                             ∃ (h : PT = PT),
                              AdtIs (fun (s : PT) (b : Nat) ↦ packs (ptE s b)) ptE ∧
                               pOk
                                (PT.mk bm
                                 [(bp, PR.mk (1 : Int) (0 : Int) (ByteArray.mk #[]) false (0 : Int) (ByteArray.mk #[]) false false),
                                  (nb,
                                   PR.mk ((1 : Int) + (1 : Int)) (1 : Int) (ByteArray.mk #[(103 : UInt8)]) false (0 : Int) (ByteArray.mk #[(99 : UInt8)]) true
                                    true)]
                                 (10 : Int) ((1 : Int) + (1 : Int))) ∧
                                ∀ (nb_1 : Nat),
                                 true = true ∧
                                  b = b ∧
                                   ∃ (h : PT = PT),
                                    AdtIs (fun (s : PT) (b : Nat) ↦ packs (ptE s b)) ptE ∧
                                     pOk
                                      (PT.mk bm
                                       [(bp, PR.mk (1 : Int) (0 : Int) (ByteArray.mk #[]) false (0 : Int) (ByteArray.mk #[]) false false),
                                        (nb,
                                         PR.mk ((1 : Int) + (1 : Int)) (1 : Int) (ByteArray.mk #[(103 : UInt8)]) false (0 : Int)
                                          (ByteArray.mk #[(99 : UInt8)]) true true)]
                                       (10 : Int) ((1 : Int) + (1 : Int))) ∧
                                      ∀ (b_1 : Nat),
                                       (b_1 = b_1 ∧ true = true ∧ 6 = 6 ∧ 6 ≤ 6) ∧
                                        match true == term with
                                        | true =>
                                         match true == kill with
                                         | true =>
                                          match false == !kill with
                                          | true =>
                                           b_1 = b_1 ∧
                                            true = true ∧
                                             b = b ∧
                                              ∃ (h : PT = PT),
                                               AdtIs (fun (s : PT) (b : Nat) ↦ packs (ptE s b)) ptE ∧
                                                pOk
                                                 (PT.mk bm
                                                  [(bp,
                                                   PR.mk (1 : Int) (0 : Int) (ByteArray.mk #[]) false (0 : Int) (ByteArray.mk #[]) false false),
                                                   (nb,
                                                    PR.mk ((1 : Int) + (1 : Int)) (1 : Int) (ByteArray.mk #[(103 : UInt8)]) false (0 : Int)
                                                     (ByteArray.mk #[(99 : UInt8)]) true true)]
                                                  (10 : Int) ((1 : Int) + (1 : Int))) ∧
                                                 true = true ∧
                                                  b = b ∧
                                                   ∃ (h : PT = PT),
                                                    AdtIs (fun (s : PT) (b : Nat) ↦ packs (ptE s b)) ptE ∧
                                                     pOk
                                                      (PT.mk bm
                                                       [(bp,
                                                        PR.mk (1 : Int) (0 : Int) (ByteArray.mk #[]) false (0 : Int) (ByteArray.mk #[])
                                                         false false),
                                                        (nb,
                                                         PR.mk ((1 : Int) + (1 : Int)) (1 : Int) (ByteArray.mk #[(103 : UInt8)]) false
                                                          (0 : Int) (ByteArray.mk #[(99 : UInt8)]) true true)]
                                                       (10 : Int) ((1 : Int) + (1 : Int))) ∧
                                                      true = true ∧
                                                       b = b ∧
                                                        ∃ (h : PT = PT),
                                                         AdtIs (fun (s : PT) (b : Nat) ↦ packs (ptE s b)) ptE ∧
                                                          pOk
                                                           (PT.mk bm
                                                            [(bp,
                                                             PR.mk (1 : Int) (0 : Int) (ByteArray.mk #[]) false (0 : Int)
                                                              (ByteArray.mk #[]) false false),
                                                             (nb,
                                                              PR.mk (2 : Int) (1 : Int) (ByteArray.mk #[(103 : UInt8)]) true (-9 : Int)
                                                               (ByteArray.mk #[(99 : UInt8)]) true true)]
                                                            (10 : Int) ((1 : Int) + (1 : Int))) ∧
                                                           N
                                                            [pkA b ptE
                                                             (PT.mk bm
                                                              [(bp,
                                                               PR.mk (1 : Int) (0 : Int) (ByteArray.mk #[]) false (0 : Int)
                                                                (ByteArray.mk #[]) false false),
                                                               (nb,
                                                                PR.mk (2 : Int) (1 : Int) (ByteArray.mk #[(103 : UInt8)]) true
                                                                 (-9 : Int) (ByteArray.mk #[(99 : UInt8)]) true true)]
                                                              (10 : Int) ((1 : Int) + (1 : Int))),
                                                             Ent.mk (Loc.blk b_1)
                                                              (SObj.cells
                                                               [SV.int IntKind.i64 (2 : Int), SV.int IntKind.i64 (1 : Int),
                                                                SV.str
                                                                 (PR.mk (2 : Int) (1 : Int) (ByteArray.mk #[(103 : UInt8)]) false
                                                                  (0 : Int) (ByteArray.mk #[(99 : UInt8)]) true true).group,
                                                                SV.bool false, SV.int IntKind.i64 (0 : Int),
                                                                SV.str
                                                                 (PR.mk (2 : Int) (1 : Int) (ByteArray.mk #[(103 : UInt8)]) false
                                                                  (0 : Int) (ByteArray.mk #[(99 : UInt8)]) true true).cmd]
                                                               45)]
                                                            (SV.bool true)
                                          | false =>
                                           N
                                            [pkA b ptE
                                             (PT.mk bm
                                              [(bp, PR.mk (1 : Int) (0 : Int) (ByteArray.mk #[]) false (0 : Int) (ByteArray.mk #[]) false false),
                                               (nb,
                                                PR.mk ((1 : Int) + (1 : Int)) (1 : Int) (ByteArray.mk #[(103 : UInt8)]) false (0 : Int)
                                                 (ByteArray.mk #[(99 : UInt8)]) true true)]
                                              (10 : Int) ((1 : Int) + (1 : Int))),
                                             Ent.mk (Loc.blk b_1)
                                              (SObj.cells
                                               [SV.int IntKind.i64 (2 : Int), SV.int IntKind.i64 (1 : Int),
                                                SV.str
                                                 (PR.mk (2 : Int) (1 : Int) (ByteArray.mk #[(103 : UInt8)]) false (0 : Int)
                                                  (ByteArray.mk #[(99 : UInt8)]) true true).group,
                                                SV.bool false, SV.int IntKind.i64 (0 : Int),
                                                SV.str
                                                 (PR.mk (2 : Int) (1 : Int) (ByteArray.mk #[(103 : UInt8)]) false (0 : Int)
                                                  (ByteArray.mk #[(99 : UInt8)]) true true).cmd]
                                               45)]
                                            (SV.bool false)
                                         | false =>
                                          N
                                           [pkA b ptE
                                            (PT.mk bm
                                             [(bp, PR.mk (1 : Int) (0 : Int) (ByteArray.mk #[]) false (0 : Int) (ByteArray.mk #[]) false false),
                                              (nb,
                                               PR.mk ((1 : Int) + (1 : Int)) (1 : Int) (ByteArray.mk #[(103 : UInt8)]) false (0 : Int)
                                                (ByteArray.mk #[(99 : UInt8)]) true true)]
                                             (10 : Int) ((1 : Int) + (1 : Int))),
                                            Ent.mk (Loc.blk b_1)
                                             (SObj.cells
                                              [SV.int IntKind.i64 (2 : Int), SV.int IntKind.i64 (1 : Int),
                                               SV.str
                                                (PR.mk (2 : Int) (1 : Int) (ByteArray.mk #[(103 : UInt8)]) false (0 : Int)
                                                 (ByteArray.mk #[(99 : UInt8)]) true true).group,
                                               SV.bool false, SV.int IntKind.i64 (0 : Int),
                                               SV.str
                                                (PR.mk (2 : Int) (1 : Int) (ByteArray.mk #[(103 : UInt8)]) false (0 : Int)
                                                 (ByteArray.mk #[(99 : UInt8)]) true true).cmd]
                                              45)]
                                           (SV.bool false)
                                        | false =>
                                         N
                                          [pkA b ptE
                                           (PT.mk bm
                                            [(bp, PR.mk (1 : Int) (0 : Int) (ByteArray.mk #[]) false (0 : Int) (ByteArray.mk #[]) false false),
                                             (nb,
                                              PR.mk ((1 : Int) + (1 : Int)) (1 : Int) (ByteArray.mk #[(103 : UInt8)]) false (0 : Int)
                                               (ByteArray.mk #[(99 : UInt8)]) true true)]
                                            (10 : Int) ((1 : Int) + (1 : Int))),
                                           Ent.mk (Loc.blk b_1)
                                            (SObj.cells
                                             [SV.int IntKind.i64 (2 : Int), SV.int IntKind.i64 (1 : Int),
                                              SV.str
                                               (PR.mk (2 : Int) (1 : Int) (ByteArray.mk #[(103 : UInt8)]) false (0 : Int) (ByteArray.mk #[(99 : UInt8)])
                                                true true).group,
                                              SV.bool false, SV.int IntKind.i64 (0 : Int),
                                              SV.str
                                               (PR.mk (2 : Int) (1 : Int) (ByteArray.mk #[(103 : UInt8)]) false (0 : Int) (ByteArray.mk #[(99 : UInt8)])
                                                true true).cmd]
                                             45)]
                                          (SV.bool false)
               | false =>
                match sig != (15 : Int) with
                | true =>
                 match sig != (9 : Int) with
                 | true =>
                  true = true ∧
                   b = b ∧
                    ∃ (h : PT = PT),
                     AdtIs (fun (s : PT) (b : Nat) ↦ packs (ptE s b)) ptE ∧
                      pOk
                       (PT.mk bm
                        [(bp, PR.mk (1 : Int) (0 : Int) (ByteArray.mk #[]) false (0 : Int) (ByteArray.mk #[]) false false),
                         (nb, PR.mk ((1 : Int) + (1 : Int)) (1 : Int) (ByteArray.mk #[(103 : UInt8)]) false (0 : Int) (ByteArray.mk #[(99 : UInt8)]) true false)]
                        (10 : Int) ((1 : Int) + (1 : Int))) ∧
                       match sig == (15 : Int) with
                       | true =>
                        N
                         [pkA b ptE
                          (PT.mk bm
                           [(bp, PR.mk (1 : Int) (0 : Int) (ByteArray.mk #[]) false (0 : Int) (ByteArray.mk #[]) false false),
                            (nb, PR.mk ((1 : Int) + (1 : Int)) (1 : Int) (ByteArray.mk #[(103 : UInt8)]) false (0 : Int) (ByteArray.mk #[(99 : UInt8)]) true false)]
                           (10 : Int) ((1 : Int) + (1 : Int)))]
                         (SV.bool false)
                       | false =>
                        match sig == (9 : Int) with
                        | true =>
                         N
                          [pkA b ptE
                           (PT.mk bm
                            [(bp, PR.mk (1 : Int) (0 : Int) (ByteArray.mk #[]) false (0 : Int) (ByteArray.mk #[]) false false),
                             (nb, PR.mk ((1 : Int) + (1 : Int)) (1 : Int) (ByteArray.mk #[(103 : UInt8)]) false (0 : Int) (ByteArray.mk #[(99 : UInt8)]) true true)]
                            (10 : Int) ((1 : Int) + (1 : Int)))]
                          (SV.bool false)
                        | false =>
                         true = true ∧
                          b = b ∧
                           ∃ (h : PT = PT),
                            AdtIs (fun (s : PT) (b : Nat) ↦ packs (ptE s b)) ptE ∧
                             pOk
                              (PT.mk bm
                               [(bp, PR.mk (1 : Int) (0 : Int) (ByteArray.mk #[]) false (0 : Int) (ByteArray.mk #[]) false false),
                                (nb,
                                 PR.mk ((1 : Int) + (1 : Int)) (1 : Int) (ByteArray.mk #[(103 : UInt8)]) false (0 : Int) (ByteArray.mk #[(99 : UInt8)]) true false)]
                               (10 : Int) ((1 : Int) + (1 : Int))) ∧
                              true = true ∧
                               b = b ∧
                                ∃ (h : PT = PT),
                                 AdtIs (fun (s : PT) (b : Nat) ↦ packs (ptE s b)) ptE ∧
                                  pOk
                                   (PT.mk bm
                                    [(bp, PR.mk (1 : Int) (0 : Int) (ByteArray.mk #[]) false (0 : Int) (ByteArray.mk #[]) false false),
                                     (nb,
                                      PR.mk ((1 : Int) + (1 : Int)) (1 : Int) (ByteArray.mk #[(103 : UInt8)]) false (0 : Int) (ByteArray.mk #[(99 : UInt8)])
                                       true false)]
                                    (10 : Int) ((1 : Int) + (1 : Int))) ∧
                                   ∀ (nb_1 : Nat),
                                    true = true ∧
                                     b = b ∧
                                      ∃ (h : PT = PT),
                                       AdtIs (fun (s : PT) (b : Nat) ↦ packs (ptE s b)) ptE ∧
                                        pOk
                                         (PT.mk bm
                                          ([(bp, PR.mk (1 : Int) (0 : Int) (ByteArray.mk #[]) false (0 : Int) (ByteArray.mk #[]) false false),
                                           (nb,
                                            PR.mk ((1 : Int) + (1 : Int)) (1 : Int) (ByteArray.mk #[(103 : UInt8)]) false (0 : Int)
                                             (ByteArray.mk #[(99 : UInt8)]) true false)] ++
                                           [(nb_1,
                                            PR.mk ((1 : Int) + (1 : Int) + (1 : Int)) (2 : Int) (ByteArray.mk #[(103 : UInt8)]) false (0 : Int)
                                             (ByteArray.mk #[(99 : UInt8)]) false false)])
                                          (10 : Int) ((1 : Int) + (1 : Int) + (1 : Int))) ∧
                                         ∀ (b_1 : Nat),
                                          (b_1 = b_1 ∧ true = true ∧ 6 = 6 ∧ 6 ≤ 6) ∧
                                           match true == term with
                                           | true =>
                                            match false == kill with
                                            | true =>
                                             match true == !kill with
                                             | true =>
                                              b_1 = b_1 ∧
                                               true = true ∧
                                                b = b ∧
                                                 ∃ (h : PT = PT),
                                                  AdtIs (fun (s : PT) (b : Nat) ↦ packs (ptE s b)) ptE ∧
                                                   pOk
                                                    (PT.mk bm
                                                     ([(bp,
                                                      PR.mk (1 : Int) (0 : Int) (ByteArray.mk #[]) false (0 : Int) (ByteArray.mk #[]) false
                                                       false),
                                                      (nb,
                                                       PR.mk ((1 : Int) + (1 : Int)) (1 : Int) (ByteArray.mk #[(103 : UInt8)]) false
                                                        (0 : Int) (ByteArray.mk #[(99 : UInt8)]) true false)] ++
                                                      [(nb_1,
                                                       PR.mk ((1 : Int) + (1 : Int) + (1 : Int)) (2 : Int) (ByteArray.mk #[(103 : UInt8)])
                                                        false (0 : Int) (ByteArray.mk #[(99 : UInt8)]) false false)])
                                                     (10 : Int) ((1 : Int) + (1 : Int) + (1 : Int))) ∧
                                                    true = true ∧
                                                     b = b ∧
                                                      ∃ (h : PT = PT),
                                                       AdtIs (fun (s : PT) (b : Nat) ↦ packs (ptE s b)) ptE ∧
                                                        pOk
                                                         (PT.mk bm
                                                          ([(bp,
                                                           PR.mk (1 : Int) (0 : Int) (ByteArray.mk #[]) false (0 : Int)
                                                            (ByteArray.mk #[]) false false),
                                                           (nb,
                                                            PR.mk ((1 : Int) + (1 : Int)) (1 : Int) (ByteArray.mk #[(103 : UInt8)])
                                                             false (0 : Int) (ByteArray.mk #[(99 : UInt8)]) true false)] ++
                                                           [(nb_1,
                                                            PR.mk ((1 : Int) + (1 : Int) + (1 : Int)) (2 : Int)
                                                             (ByteArray.mk #[(103 : UInt8)]) false (0 : Int)
                                                             (ByteArray.mk #[(99 : UInt8)]) false false)])
                                                          (10 : Int) ((1 : Int) + (1 : Int) + (1 : Int))) ∧
                                                         true = true ∧
                                                          b = b ∧
                                                           ∃ (h : PT = PT),
                                                            AdtIs (fun (s : PT) (b : Nat) ↦ packs (ptE s b)) ptE ∧
                                                             pOk
                                                              (PT.mk bm
                                                               [(bp,
                                                                PR.mk (1 : Int) (0 : Int) (ByteArray.mk #[]) false (0 : Int)
                                                                 (ByteArray.mk #[]) false false),
                                                                (nb,
                                                                 PR.mk (2 : Int) (1 : Int) (ByteArray.mk #[(103 : UInt8)]) true
                                                                  (-9 : Int) (ByteArray.mk #[(99 : UInt8)]) true false),
                                                                (nb_1,
                                                                 PR.mk (3 : Int) (1 : Int)
                                                                  (PR.mk ((1 : Int) + (1 : Int) + (1 : Int)) (2 : Int)
                                                                   (ByteArray.mk #[(103 : UInt8)]) false (0 : Int)
                                                                   (ByteArray.mk #[(99 : UInt8)]) false false).group
                                                                  false (0 : Int)
                                                                  (PR.mk ((1 : Int) + (1 : Int) + (1 : Int)) (2 : Int)
                                                                   (ByteArray.mk #[(103 : UInt8)]) false (0 : Int)
                                                                   (ByteArray.mk #[(99 : UInt8)]) false false).cmd
                                                                  false false)]
                                                               (10 : Int) ((1 : Int) + (1 : Int) + (1 : Int))) ∧
                                                              N
                                                               [pkA b ptE
                                                                (PT.mk bm
                                                                 [(bp,
                                                                  PR.mk (1 : Int) (0 : Int) (ByteArray.mk #[]) false (0 : Int)
                                                                   (ByteArray.mk #[]) false false),
                                                                  (nb,
                                                                   PR.mk (2 : Int) (1 : Int) (ByteArray.mk #[(103 : UInt8)]) true
                                                                    (-9 : Int) (ByteArray.mk #[(99 : UInt8)]) true false),
                                                                  (nb_1,
                                                                   PR.mk (3 : Int) (1 : Int)
                                                                    (PR.mk ((1 : Int) + (1 : Int) + (1 : Int)) (2 : Int)
                                                                     (ByteArray.mk #[(103 : UInt8)]) false (0 : Int)
                                                                     (ByteArray.mk #[(99 : UInt8)]) false false).group
                                                                    false (0 : Int)
                                                                    (PR.mk ((1 : Int) + (1 : Int) + (1 : Int)) (2 : Int)
                                                                     (ByteArray.mk #[(103 : UInt8)]) false (0 : Int)
                                                                     (ByteArray.mk #[(99 : UInt8)]) false false).cmd
                                                                    false false)]
                                                                 (10 : Int) ((1 : Int) + (1 : Int) + (1 : Int))),
                                                                Ent.mk (Loc.blk b_1)
                                                                 (SObj.cells
                                                                  [SV.int IntKind.i64 (2 : Int), SV.int IntKind.i64 (1 : Int),
                                                                   SV.str
                                                                    (PR.mk (2 : Int) (1 : Int) (ByteArray.mk #[(103 : UInt8)]) false
                                                                     (0 : Int) (ByteArray.mk #[(99 : UInt8)]) true false).group,
                                                                   SV.bool false, SV.int IntKind.i64 (0 : Int),
                                                                   SV.str
                                                                    (PR.mk (2 : Int) (1 : Int) (ByteArray.mk #[(103 : UInt8)]) false
                                                                     (0 : Int) (ByteArray.mk #[(99 : UInt8)]) true false).cmd]
                                                                  45)]
                                                               (SV.bool true)
                                             | false =>
                                              N
                                               [pkA b ptE
                                                (PT.mk bm
                                                 ([(bp, PR.mk (1 : Int) (0 : Int) (ByteArray.mk #[]) false (0 : Int) (ByteArray.mk #[]) false false),
                                                  (nb,
                                                   PR.mk ((1 : Int) + (1 : Int)) (1 : Int) (ByteArray.mk #[(103 : UInt8)]) false (0 : Int)
                                                    (ByteArray.mk #[(99 : UInt8)]) true false)] ++
                                                  [(nb_1,
                                                   PR.mk ((1 : Int) + (1 : Int) + (1 : Int)) (2 : Int) (ByteArray.mk #[(103 : UInt8)]) false
                                                    (0 : Int) (ByteArray.mk #[(99 : UInt8)]) false false)])
                                                 (10 : Int) ((1 : Int) + (1 : Int) + (1 : Int))),
                                                Ent.mk (Loc.blk b_1)
                                                 (SObj.cells
                                                  [SV.int IntKind.i64 (2 : Int), SV.int IntKind.i64 (1 : Int),
                                                   SV.str
                                                    (PR.mk (2 : Int) (1 : Int) (ByteArray.mk #[(103 : UInt8)]) false (0 : Int)
                                                     (ByteArray.mk #[(99 : UInt8)]) true false).group,
                                                   SV.bool false, SV.int IntKind.i64 (0 : Int),
                                                   SV.str
                                                    (PR.mk (2 : Int) (1 : Int) (ByteArray.mk #[(103 : UInt8)]) false (0 : Int)
                                                     (ByteArray.mk #[(99 : UInt8)]) true false).cmd]
                                                  45)]
                                               (SV.bool false)
                                            | false =>
                                             N
                                              [pkA b ptE
                                               (PT.mk bm
                                                ([(bp, PR.mk (1 : Int) (0 : Int) (ByteArray.mk #[]) false (0 : Int) (ByteArray.mk #[]) false false),
                                                 (nb,
                                                  PR.mk ((1 : Int) + (1 : Int)) (1 : Int) (ByteArray.mk #[(103 : UInt8)]) false (0 : Int)
                                                   (ByteArray.mk #[(99 : UInt8)]) true false)] ++
                                                 [(nb_1,
                                                  PR.mk ((1 : Int) + (1 : Int) + (1 : Int)) (2 : Int) (ByteArray.mk #[(103 : UInt8)]) false
                                                   (0 : Int) (ByteArray.mk #[(99 : UInt8)]) false false)])
                                                (10 : Int) ((1 : Int) + (1 : Int) + (1 : Int))),
                                               Ent.mk (Loc.blk b_1)
                                                (SObj.cells
                                                 [SV.int IntKind.i64 (2 : Int), SV.int IntKind.i64 (1 : Int),
                                                  SV.str
                                                   (PR.mk (2 : Int) (1 : Int) (ByteArray.mk #[(103 : UInt8)]) false (0 : Int)
                                                    (ByteArray.mk #[(99 : UInt8)]) true false).group,
                                                  SV.bool false, SV.int IntKind.i64 (0 : Int),
                                                  SV.str
                                                   (PR.mk (2 : Int) (1 : Int) (ByteArray.mk #[(103 : UInt8)]) false (0 : Int)
                                                    (ByteArray.mk #[(99 : UInt8)]) true false).cmd]
                                                 45)]
                                              (SV.bool false)
                                           | false =>
                                            N
                                             [pkA b ptE
                                              (PT.mk bm
                                               ([(bp, PR.mk (1 : Int) (0 : Int) (ByteArray.mk #[]) false (0 : Int) (ByteArray.mk #[]) false false),
                                                (nb,
                                                 PR.mk ((1 : Int) + (1 : Int)) (1 : Int) (ByteArray.mk #[(103 : UInt8)]) false (0 : Int)
                                                  (ByteArray.mk #[(99 : UInt8)]) true false)] ++
                                                [(nb_1,
                                                 PR.mk ((1 : Int) + (1 : Int) + (1 : Int)) (2 : Int) (ByteArray.mk #[(103 : UInt8)]) false
                                                  (0 : Int) (ByteArray.mk #[(99 : UInt8)]) false false)])
                                               (10 : Int) ((1 : Int) + (1 : Int) + (1 : Int))),
                                              Ent.mk (Loc.blk b_1)
                                               (SObj.cells
                                                [SV.int IntKind.i64 (2 : Int), SV.int IntKind.i64 (1 : Int),
                                                 SV.str
                                                  (PR.mk (2 : Int) (1 : Int) (ByteArray.mk #[(103 : UInt8)]) false (0 : Int)
                                                   (ByteArray.mk #[(99 : UInt8)]) true false).group,
                                                 SV.bool false, SV.int IntKind.i64 (0 : Int),
                                                 SV.str
                                                  (PR.mk (2 : Int) (1 : Int) (ByteArray.mk #[(103 : UInt8)]) false (0 : Int)
                                                   (ByteArray.mk #[(99 : UInt8)]) true false).cmd]
                                                45)]
                                             (SV.bool false)
                 | false =>
                  true = true ∧
                   b = b ∧
                    ∃ (h : PT = PT),
                     AdtIs (fun (s : PT) (b : Nat) ↦ packs (ptE s b)) ptE ∧
                      pOk
                       (PT.mk bm
                        [(bp, PR.mk (1 : Int) (0 : Int) (ByteArray.mk #[]) false (0 : Int) (ByteArray.mk #[]) false false),
                         (nb, PR.mk ((1 : Int) + (1 : Int)) (1 : Int) (ByteArray.mk #[(103 : UInt8)]) false (0 : Int) (ByteArray.mk #[(99 : UInt8)]) true false)]
                        (10 : Int) ((1 : Int) + (1 : Int))) ∧
                       true = true ∧
                        b = b ∧
                         ∃ (h : PT = PT),
                          AdtIs (fun (s : PT) (b : Nat) ↦ packs (ptE s b)) ptE ∧
                           pOk
                            (PT.mk bm
                             [(bp, PR.mk (1 : Int) (0 : Int) (ByteArray.mk #[]) false (0 : Int) (ByteArray.mk #[]) false false),
                              (nb, PR.mk ((1 : Int) + (1 : Int)) (1 : Int) (ByteArray.mk #[(103 : UInt8)]) false (0 : Int) (ByteArray.mk #[(99 : UInt8)]) true false)]
                             (10 : Int) ((1 : Int) + (1 : Int))) ∧
                            ∀ (nb_1 : Nat),
                             true = true ∧
                              b = b ∧
                               ∃ (h : PT = PT),
                                AdtIs (fun (s : PT) (b : Nat) ↦ packs (ptE s b)) ptE ∧
                                 pOk
                                  (PT.mk bm
                                   ([(bp, PR.mk (1 : Int) (0 : Int) (ByteArray.mk #[]) false (0 : Int) (ByteArray.mk #[]) false false),
                                    (nb,
                                     PR.mk ((1 : Int) + (1 : Int)) (1 : Int) (ByteArray.mk #[(103 : UInt8)]) false (0 : Int) (ByteArray.mk #[(99 : UInt8)])
                                      true false)] ++
                                    [(nb_1,
                                     PR.mk ((1 : Int) + (1 : Int) + (1 : Int)) (2 : Int) (ByteArray.mk #[(103 : UInt8)]) false (0 : Int)
                                      (ByteArray.mk #[(99 : UInt8)]) false false)])
                                   (10 : Int) ((1 : Int) + (1 : Int) + (1 : Int))) ∧
                                  ∀ (b_1 : Nat),
                                   (b_1 = b_1 ∧ true = true ∧ 6 = 6 ∧ 6 ≤ 6) ∧
                                    match true == term with
                                    | true =>
                                     match false == kill with
                                     | true =>
                                      match true == !kill with
                                      | true =>
                                       b_1 = b_1 ∧
                                        true = true ∧
                                         b = b ∧
                                          ∃ (h : PT = PT),
                                           AdtIs (fun (s : PT) (b : Nat) ↦ packs (ptE s b)) ptE ∧
                                            pOk
                                             (PT.mk bm
                                              ([(bp, PR.mk (1 : Int) (0 : Int) (ByteArray.mk #[]) false (0 : Int) (ByteArray.mk #[]) false false),
                                               (nb,
                                                PR.mk ((1 : Int) + (1 : Int)) (1 : Int) (ByteArray.mk #[(103 : UInt8)]) false (0 : Int)
                                                 (ByteArray.mk #[(99 : UInt8)]) true false)] ++
                                               [(nb_1,
                                                PR.mk ((1 : Int) + (1 : Int) + (1 : Int)) (2 : Int) (ByteArray.mk #[(103 : UInt8)]) false (0 : Int)
                                                 (ByteArray.mk #[(99 : UInt8)]) false false)])
                                              (10 : Int) ((1 : Int) + (1 : Int) + (1 : Int))) ∧
                                             true = true ∧
                                              b = b ∧
                                               ∃ (h : PT = PT),
                                                AdtIs (fun (s : PT) (b : Nat) ↦ packs (ptE s b)) ptE ∧
                                                 pOk
                                                  (PT.mk bm
                                                   ([(bp,
                                                    PR.mk (1 : Int) (0 : Int) (ByteArray.mk #[]) false (0 : Int) (ByteArray.mk #[]) false
                                                     false),
                                                    (nb,
                                                     PR.mk ((1 : Int) + (1 : Int)) (1 : Int) (ByteArray.mk #[(103 : UInt8)]) false (0 : Int)
                                                      (ByteArray.mk #[(99 : UInt8)]) true false)] ++
                                                    [(nb_1,
                                                     PR.mk ((1 : Int) + (1 : Int) + (1 : Int)) (2 : Int) (ByteArray.mk #[(103 : UInt8)]) false
                                                      (0 : Int) (ByteArray.mk #[(99 : UInt8)]) false false)])
                                                   (10 : Int) ((1 : Int) + (1 : Int) + (1 : Int))) ∧
                                                  true = true ∧
                                                   b = b ∧
                                                    ∃ (h : PT = PT),
                                                     AdtIs (fun (s : PT) (b : Nat) ↦ packs (ptE s b)) ptE ∧
                                                      pOk
                                                       (PT.mk bm
                                                        [(bp,
                                                         PR.mk (1 : Int) (0 : Int) (ByteArray.mk #[]) false (0 : Int) (ByteArray.mk #[])
                                                          false false),
                                                         (nb,
                                                          PR.mk (2 : Int) (1 : Int) (ByteArray.mk #[(103 : UInt8)]) true (-9 : Int)
                                                           (ByteArray.mk #[(99 : UInt8)]) true false),
                                                         (nb_1,
                                                          PR.mk (3 : Int) (1 : Int)
                                                           (PR.mk ((1 : Int) + (1 : Int) + (1 : Int)) (2 : Int)
                                                            (ByteArray.mk #[(103 : UInt8)]) false (0 : Int)
                                                            (ByteArray.mk #[(99 : UInt8)]) false false).group
                                                           false (0 : Int)
                                                           (PR.mk ((1 : Int) + (1 : Int) + (1 : Int)) (2 : Int)
                                                            (ByteArray.mk #[(103 : UInt8)]) false (0 : Int)
                                                            (ByteArray.mk #[(99 : UInt8)]) false false).cmd
                                                           false false)]
                                                        (10 : Int) ((1 : Int) + (1 : Int) + (1 : Int))) ∧
                                                       N
                                                        [pkA b ptE
                                                         (PT.mk bm
                                                          [(bp,
                                                           PR.mk (1 : Int) (0 : Int) (ByteArray.mk #[]) false (0 : Int)
                                                            (ByteArray.mk #[]) false false),
                                                           (nb,
                                                            PR.mk (2 : Int) (1 : Int) (ByteArray.mk #[(103 : UInt8)]) true (-9 : Int)
                                                             (ByteArray.mk #[(99 : UInt8)]) true false),
                                                           (nb_1,
                                                            PR.mk (3 : Int) (1 : Int)
                                                             (PR.mk ((1 : Int) + (1 : Int) + (1 : Int)) (2 : Int)
                                                              (ByteArray.mk #[(103 : UInt8)]) false (0 : Int)
                                                              (ByteArray.mk #[(99 : UInt8)]) false false).group
                                                             false (0 : Int)
                                                             (PR.mk ((1 : Int) + (1 : Int) + (1 : Int)) (2 : Int)
                                                              (ByteArray.mk #[(103 : UInt8)]) false (0 : Int)
                                                              (ByteArray.mk #[(99 : UInt8)]) false false).cmd
                                                             false false)]
                                                          (10 : Int) ((1 : Int) + (1 : Int) + (1 : Int))),
                                                         Ent.mk (Loc.blk b_1)
                                                          (SObj.cells
                                                           [SV.int IntKind.i64 (2 : Int), SV.int IntKind.i64 (1 : Int),
                                                            SV.str
                                                             (PR.mk (2 : Int) (1 : Int) (ByteArray.mk #[(103 : UInt8)]) false (0 : Int)
                                                              (ByteArray.mk #[(99 : UInt8)]) true false).group,
                                                            SV.bool false, SV.int IntKind.i64 (0 : Int),
                                                            SV.str
                                                             (PR.mk (2 : Int) (1 : Int) (ByteArray.mk #[(103 : UInt8)]) false (0 : Int)
                                                              (ByteArray.mk #[(99 : UInt8)]) true false).cmd]
                                                           45)]
                                                        (SV.bool true)
                                      | false =>
                                       N
                                        [pkA b ptE
                                         (PT.mk bm
                                          ([(bp, PR.mk (1 : Int) (0 : Int) (ByteArray.mk #[]) false (0 : Int) (ByteArray.mk #[]) false false),
                                           (nb,
                                            PR.mk ((1 : Int) + (1 : Int)) (1 : Int) (ByteArray.mk #[(103 : UInt8)]) false (0 : Int)
                                             (ByteArray.mk #[(99 : UInt8)]) true false)] ++
                                           [(nb_1,
                                            PR.mk ((1 : Int) + (1 : Int) + (1 : Int)) (2 : Int) (ByteArray.mk #[(103 : UInt8)]) false (0 : Int)
                                             (ByteArray.mk #[(99 : UInt8)]) false false)])
                                          (10 : Int) ((1 : Int) + (1 : Int) + (1 : Int))),
                                         Ent.mk (Loc.blk b_1)
                                          (SObj.cells
                                           [SV.int IntKind.i64 (2 : Int), SV.int IntKind.i64 (1 : Int),
                                            SV.str
                                             (PR.mk (2 : Int) (1 : Int) (ByteArray.mk #[(103 : UInt8)]) false (0 : Int) (ByteArray.mk #[(99 : UInt8)]) true
                                              false).group,
                                            SV.bool false, SV.int IntKind.i64 (0 : Int),
                                            SV.str
                                             (PR.mk (2 : Int) (1 : Int) (ByteArray.mk #[(103 : UInt8)]) false (0 : Int) (ByteArray.mk #[(99 : UInt8)]) true
                                              false).cmd]
                                           45)]
                                        (SV.bool false)
                                     | false =>
                                      N
                                       [pkA b ptE
                                        (PT.mk bm
                                         ([(bp, PR.mk (1 : Int) (0 : Int) (ByteArray.mk #[]) false (0 : Int) (ByteArray.mk #[]) false false),
                                          (nb,
                                           PR.mk ((1 : Int) + (1 : Int)) (1 : Int) (ByteArray.mk #[(103 : UInt8)]) false (0 : Int)
                                            (ByteArray.mk #[(99 : UInt8)]) true false)] ++
                                          [(nb_1,
                                           PR.mk ((1 : Int) + (1 : Int) + (1 : Int)) (2 : Int) (ByteArray.mk #[(103 : UInt8)]) false (0 : Int)
                                            (ByteArray.mk #[(99 : UInt8)]) false false)])
                                         (10 : Int) ((1 : Int) + (1 : Int) + (1 : Int))),
                                        Ent.mk (Loc.blk b_1)
                                         (SObj.cells
                                          [SV.int IntKind.i64 (2 : Int), SV.int IntKind.i64 (1 : Int),
                                           SV.str
                                            (PR.mk (2 : Int) (1 : Int) (ByteArray.mk #[(103 : UInt8)]) false (0 : Int) (ByteArray.mk #[(99 : UInt8)]) true
                                             false).group,
                                           SV.bool false, SV.int IntKind.i64 (0 : Int),
                                           SV.str
                                            (PR.mk (2 : Int) (1 : Int) (ByteArray.mk #[(103 : UInt8)]) false (0 : Int) (ByteArray.mk #[(99 : UInt8)]) true
                                             false).cmd]
                                          45)]
                                       (SV.bool false)
                                    | false =>
                                     N
                                      [pkA b ptE
                                       (PT.mk bm
                                        ([(bp, PR.mk (1 : Int) (0 : Int) (ByteArray.mk #[]) false (0 : Int) (ByteArray.mk #[]) false false),
                                         (nb,
                                          PR.mk ((1 : Int) + (1 : Int)) (1 : Int) (ByteArray.mk #[(103 : UInt8)]) false (0 : Int)
                                           (ByteArray.mk #[(99 : UInt8)]) true false)] ++
                                         [(nb_1,
                                          PR.mk ((1 : Int) + (1 : Int) + (1 : Int)) (2 : Int) (ByteArray.mk #[(103 : UInt8)]) false (0 : Int)
                                           (ByteArray.mk #[(99 : UInt8)]) false false)])
                                        (10 : Int) ((1 : Int) + (1 : Int) + (1 : Int))),
                                       Ent.mk (Loc.blk b_1)
                                        (SObj.cells
                                         [SV.int IntKind.i64 (2 : Int), SV.int IntKind.i64 (1 : Int),
                                          SV.str
                                           (PR.mk (2 : Int) (1 : Int) (ByteArray.mk #[(103 : UInt8)]) false (0 : Int) (ByteArray.mk #[(99 : UInt8)]) true
                                            false).group,
                                          SV.bool false, SV.int IntKind.i64 (0 : Int),
                                          SV.str
                                           (PR.mk (2 : Int) (1 : Int) (ByteArray.mk #[(103 : UInt8)]) false (0 : Int) (ByteArray.mk #[(99 : UInt8)]) true
                                            false).cmd]
                                         45)]
                                      (SV.bool false)
                | false =>
                 true = true ∧
                  b = b ∧
                   ∃ (h : PT = PT),
                    AdtIs (fun (s : PT) (b : Nat) ↦ packs (ptE s b)) ptE ∧
                     pOk
                      (PT.mk bm
                       [(bp, PR.mk (1 : Int) (0 : Int) (ByteArray.mk #[]) false (0 : Int) (ByteArray.mk #[]) false false),
                        (nb, PR.mk ((1 : Int) + (1 : Int)) (1 : Int) (ByteArray.mk #[(103 : UInt8)]) false (0 : Int) (ByteArray.mk #[(99 : UInt8)]) true false)]
                       (10 : Int) ((1 : Int) + (1 : Int))) ∧
                      true = true ∧
                       b = b ∧
                        ∃ (h : PT = PT),
                         AdtIs (fun (s : PT) (b : Nat) ↦ packs (ptE s b)) ptE ∧
                          pOk
                           (PT.mk bm
                            [(bp, PR.mk (1 : Int) (0 : Int) (ByteArray.mk #[]) false (0 : Int) (ByteArray.mk #[]) false false),
                             (nb, PR.mk ((1 : Int) + (1 : Int)) (1 : Int) (ByteArray.mk #[(103 : UInt8)]) false (0 : Int) (ByteArray.mk #[(99 : UInt8)]) true false)]
                            (10 : Int) ((1 : Int) + (1 : Int))) ∧
                           ∀ (nb_1 : Nat),
                            true = true ∧
                             b = b ∧
                              ∃ (h : PT = PT),
                               AdtIs (fun (s : PT) (b : Nat) ↦ packs (ptE s b)) ptE ∧
                                pOk
                                 (PT.mk bm
                                  ([(bp, PR.mk (1 : Int) (0 : Int) (ByteArray.mk #[]) false (0 : Int) (ByteArray.mk #[]) false false),
                                   (nb,
                                    PR.mk ((1 : Int) + (1 : Int)) (1 : Int) (ByteArray.mk #[(103 : UInt8)]) false (0 : Int) (ByteArray.mk #[(99 : UInt8)]) true
                                     false)] ++
                                   [(nb_1,
                                    PR.mk ((1 : Int) + (1 : Int) + (1 : Int)) (2 : Int) (ByteArray.mk #[(103 : UInt8)]) false (0 : Int)
                                     (ByteArray.mk #[(99 : UInt8)]) false false)])
                                  (10 : Int) ((1 : Int) + (1 : Int) + (1 : Int))) ∧
                                 ∀ (b_1 : Nat),
                                  (b_1 = b_1 ∧ true = true ∧ 6 = 6 ∧ 6 ≤ 6) ∧
                                   match true == term with
                                   | true =>
                                    match false == kill with
                                    | true =>
                                     match true == !kill with
                                     | true =>
                                      b_1 = b_1 ∧
                                       true = true ∧
                                        b = b ∧
                                         ∃ (h : PT = PT),
                                          AdtIs (fun (s : PT) (b : Nat) ↦ packs (ptE s b)) ptE ∧
                                           pOk
                                            (PT.mk bm
                                             ([(bp, PR.mk (1 : Int) (0 : Int) (ByteArray.mk #[]) false (0 : Int) (ByteArray.mk #[]) false false),
                                              (nb,
                                               PR.mk ((1 : Int) + (1 : Int)) (1 : Int) (ByteArray.mk #[(103 : UInt8)]) false (0 : Int)
                                                (ByteArray.mk #[(99 : UInt8)]) true false)] ++
                                              [(nb_1,
                                               PR.mk ((1 : Int) + (1 : Int) + (1 : Int)) (2 : Int) (ByteArray.mk #[(103 : UInt8)]) false (0 : Int)
                                                (ByteArray.mk #[(99 : UInt8)]) false false)])
                                             (10 : Int) ((1 : Int) + (1 : Int) + (1 : Int))) ∧
                                            true = true ∧
                                             b = b ∧
                                              ∃ (h : PT = PT),
                                               AdtIs (fun (s : PT) (b : Nat) ↦ packs (ptE s b)) ptE ∧
                                                pOk
                                                 (PT.mk bm
                                                  ([(bp,
                                                   PR.mk (1 : Int) (0 : Int) (ByteArray.mk #[]) false (0 : Int) (ByteArray.mk #[]) false
                                                    false),
                                                   (nb,
                                                    PR.mk ((1 : Int) + (1 : Int)) (1 : Int) (ByteArray.mk #[(103 : UInt8)]) false (0 : Int)
                                                     (ByteArray.mk #[(99 : UInt8)]) true false)] ++
                                                   [(nb_1,
                                                    PR.mk ((1 : Int) + (1 : Int) + (1 : Int)) (2 : Int) (ByteArray.mk #[(103 : UInt8)]) false
                                                     (0 : Int) (ByteArray.mk #[(99 : UInt8)]) false false)])
                                                  (10 : Int) ((1 : Int) + (1 : Int) + (1 : Int))) ∧
                                                 true = true ∧
                                                  b = b ∧
                                                   ∃ (h : PT = PT),
                                                    AdtIs (fun (s : PT) (b : Nat) ↦ packs (ptE s b)) ptE ∧
                                                     pOk
                                                      (PT.mk bm
                                                       [(bp,
                                                        PR.mk (1 : Int) (0 : Int) (ByteArray.mk #[]) false (0 : Int) (ByteArray.mk #[])
                                                         false false),
                                                        (nb,
                                                         PR.mk (2 : Int) (1 : Int) (ByteArray.mk #[(103 : UInt8)]) true (-9 : Int)
                                                          (ByteArray.mk #[(99 : UInt8)]) true false),
                                                        (nb_1,
                                                         PR.mk (3 : Int) (1 : Int)
                                                          (PR.mk ((1 : Int) + (1 : Int) + (1 : Int)) (2 : Int)
                                                           (ByteArray.mk #[(103 : UInt8)]) false (0 : Int) (ByteArray.mk #[(99 : UInt8)])
                                                           false false).group
                                                          false (0 : Int)
                                                          (PR.mk ((1 : Int) + (1 : Int) + (1 : Int)) (2 : Int)
                                                           (ByteArray.mk #[(103 : UInt8)]) false (0 : Int) (ByteArray.mk #[(99 : UInt8)])
                                                           false false).cmd
                                                          false false)]
                                                       (10 : Int) ((1 : Int) + (1 : Int) + (1 : Int))) ∧
                                                      N
                                                       [pkA b ptE
                                                        (PT.mk bm
                                                         [(bp,
                                                          PR.mk (1 : Int) (0 : Int) (ByteArray.mk #[]) false (0 : Int) (ByteArray.mk #[])
                                                           false false),
                                                          (nb,
                                                           PR.mk (2 : Int) (1 : Int) (ByteArray.mk #[(103 : UInt8)]) true (-9 : Int)
                                                            (ByteArray.mk #[(99 : UInt8)]) true false),
                                                          (nb_1,
                                                           PR.mk (3 : Int) (1 : Int)
                                                            (PR.mk ((1 : Int) + (1 : Int) + (1 : Int)) (2 : Int)
                                                             (ByteArray.mk #[(103 : UInt8)]) false (0 : Int)
                                                             (ByteArray.mk #[(99 : UInt8)]) false false).group
                                                            false (0 : Int)
                                                            (PR.mk ((1 : Int) + (1 : Int) + (1 : Int)) (2 : Int)
                                                             (ByteArray.mk #[(103 : UInt8)]) false (0 : Int)
                                                             (ByteArray.mk #[(99 : UInt8)]) false false).cmd
                                                            false false)]
                                                         (10 : Int) ((1 : Int) + (1 : Int) + (1 : Int))),
                                                        Ent.mk (Loc.blk b_1)
                                                         (SObj.cells
                                                          [SV.int IntKind.i64 (2 : Int), SV.int IntKind.i64 (1 : Int),
                                                           SV.str
                                                            (PR.mk (2 : Int) (1 : Int) (ByteArray.mk #[(103 : UInt8)]) false (0 : Int)
                                                             (ByteArray.mk #[(99 : UInt8)]) true false).group,
                                                           SV.bool false, SV.int IntKind.i64 (0 : Int),
                                                           SV.str
                                                            (PR.mk (2 : Int) (1 : Int) (ByteArray.mk #[(103 : UInt8)]) false (0 : Int)
                                                             (ByteArray.mk #[(99 : UInt8)]) true false).cmd]
                                                          45)]
                                                       (SV.bool true)
                                     | false =>
                                      N
                                       [pkA b ptE
                                        (PT.mk bm
                                         ([(bp, PR.mk (1 : Int) (0 : Int) (ByteArray.mk #[]) false (0 : Int) (ByteArray.mk #[]) false false),
                                          (nb,
                                           PR.mk ((1 : Int) + (1 : Int)) (1 : Int) (ByteArray.mk #[(103 : UInt8)]) false (0 : Int)
                                            (ByteArray.mk #[(99 : UInt8)]) true false)] ++
                                          [(nb_1,
                                           PR.mk ((1 : Int) + (1 : Int) + (1 : Int)) (2 : Int) (ByteArray.mk #[(103 : UInt8)]) false (0 : Int)
                                            (ByteArray.mk #[(99 : UInt8)]) false false)])
                                         (10 : Int) ((1 : Int) + (1 : Int) + (1 : Int))),
                                        Ent.mk (Loc.blk b_1)
                                         (SObj.cells
                                          [SV.int IntKind.i64 (2 : Int), SV.int IntKind.i64 (1 : Int),
                                           SV.str
                                            (PR.mk (2 : Int) (1 : Int) (ByteArray.mk #[(103 : UInt8)]) false (0 : Int) (ByteArray.mk #[(99 : UInt8)]) true
                                             false).group,
                                           SV.bool false, SV.int IntKind.i64 (0 : Int),
                                           SV.str
                                            (PR.mk (2 : Int) (1 : Int) (ByteArray.mk #[(103 : UInt8)]) false (0 : Int) (ByteArray.mk #[(99 : UInt8)]) true
                                             false).cmd]
                                          45)]
                                       (SV.bool false)
                                    | false =>
                                     N
                                      [pkA b ptE
                                       (PT.mk bm
                                        ([(bp, PR.mk (1 : Int) (0 : Int) (ByteArray.mk #[]) false (0 : Int) (ByteArray.mk #[]) false false),
                                         (nb,
                                          PR.mk ((1 : Int) + (1 : Int)) (1 : Int) (ByteArray.mk #[(103 : UInt8)]) false (0 : Int)
                                           (ByteArray.mk #[(99 : UInt8)]) true false)] ++
                                         [(nb_1,
                                          PR.mk ((1 : Int) + (1 : Int) + (1 : Int)) (2 : Int) (ByteArray.mk #[(103 : UInt8)]) false (0 : Int)
                                           (ByteArray.mk #[(99 : UInt8)]) false false)])
                                        (10 : Int) ((1 : Int) + (1 : Int) + (1 : Int))),
                                       Ent.mk (Loc.blk b_1)
                                        (SObj.cells
                                         [SV.int IntKind.i64 (2 : Int), SV.int IntKind.i64 (1 : Int),
                                          SV.str
                                           (PR.mk (2 : Int) (1 : Int) (ByteArray.mk #[(103 : UInt8)]) false (0 : Int) (ByteArray.mk #[(99 : UInt8)]) true
                                            false).group,
                                          SV.bool false, SV.int IntKind.i64 (0 : Int),
                                          SV.str
                                           (PR.mk (2 : Int) (1 : Int) (ByteArray.mk #[(103 : UInt8)]) false (0 : Int) (ByteArray.mk #[(99 : UInt8)]) true
                                            false).cmd]
                                         45)]
                                      (SV.bool false)
                                   | false =>
                                    N
                                     [pkA b ptE
                                      (PT.mk bm
                                       ([(bp, PR.mk (1 : Int) (0 : Int) (ByteArray.mk #[]) false (0 : Int) (ByteArray.mk #[]) false false),
                                        (nb,
                                         PR.mk ((1 : Int) + (1 : Int)) (1 : Int) (ByteArray.mk #[(103 : UInt8)]) false (0 : Int)
                                          (ByteArray.mk #[(99 : UInt8)]) true false)] ++
                                        [(nb_1,
                                         PR.mk ((1 : Int) + (1 : Int) + (1 : Int)) (2 : Int) (ByteArray.mk #[(103 : UInt8)]) false (0 : Int)
                                          (ByteArray.mk #[(99 : UInt8)]) false false)])
                                       (10 : Int) ((1 : Int) + (1 : Int) + (1 : Int))),
                                      Ent.mk (Loc.blk b_1)
                                       (SObj.cells
                                        [SV.int IntKind.i64 (2 : Int), SV.int IntKind.i64 (1 : Int),
                                         SV.str
                                          (PR.mk (2 : Int) (1 : Int) (ByteArray.mk #[(103 : UInt8)]) false (0 : Int) (ByteArray.mk #[(99 : UInt8)]) true
                                           false).group,
                                         SV.bool false, SV.int IntKind.i64 (0 : Int),
                                         SV.str
                                          (PR.mk (2 : Int) (1 : Int) (ByteArray.mk #[(103 : UInt8)]) false (0 : Int) (ByteArray.mk #[(99 : UInt8)]) true
                                           false).cmd]
                                        45)]
                                     (SV.bool false)
         | false =>
          match kill with
          | true =>
           true = true ∧
            b = b ∧
             ∃ (h : PT = PT),
              AdtIs (fun (s : PT) (b : Nat) ↦ packs (ptE s b)) ptE ∧
               pOk
                (PT.mk bm
                 ([(bp, PR.mk (1 : Int) (0 : Int) (ByteArray.mk #[]) false (0 : Int) (ByteArray.mk #[]) false false)] ++
                  [(nb, PR.mk ((1 : Int) + (1 : Int)) (1 : Int) (ByteArray.mk #[(103 : UInt8)]) false (0 : Int) (ByteArray.mk #[(99 : UInt8)]) false false)])
                 (10 : Int) ((1 : Int) + (1 : Int))) ∧
                match sig != (15 : Int) with
                | true =>
                 match sig != (9 : Int) with
                 | true =>
                  true = true ∧
                   b = b ∧
                    ∃ (h : PT = PT),
                     AdtIs (fun (s : PT) (b : Nat) ↦ packs (ptE s b)) ptE ∧
                      pOk
                       (PT.mk bm
                        [(bp, PR.mk (1 : Int) (0 : Int) (ByteArray.mk #[]) false (0 : Int) (ByteArray.mk #[]) false false),
                         (nb, PR.mk ((1 : Int) + (1 : Int)) (1 : Int) (ByteArray.mk #[(103 : UInt8)]) false (0 : Int) (ByteArray.mk #[(99 : UInt8)]) false true)]
                        (10 : Int) ((1 : Int) + (1 : Int))) ∧
                       match sig == (15 : Int) with
                       | true =>
                        N
                         [pkA b ptE
                          (PT.mk bm
                           [(bp, PR.mk (1 : Int) (0 : Int) (ByteArray.mk #[]) false (0 : Int) (ByteArray.mk #[]) false false),
                            (nb, PR.mk ((1 : Int) + (1 : Int)) (1 : Int) (ByteArray.mk #[(103 : UInt8)]) false (0 : Int) (ByteArray.mk #[(99 : UInt8)]) true true)]
                           (10 : Int) ((1 : Int) + (1 : Int)))]
                         (SV.bool false)
                       | false =>
                        match sig == (9 : Int) with
                        | true =>
                         N
                          [pkA b ptE
                           (PT.mk bm
                            [(bp, PR.mk (1 : Int) (0 : Int) (ByteArray.mk #[]) false (0 : Int) (ByteArray.mk #[]) false false),
                             (nb, PR.mk ((1 : Int) + (1 : Int)) (1 : Int) (ByteArray.mk #[(103 : UInt8)]) false (0 : Int) (ByteArray.mk #[(99 : UInt8)]) false true)]
                            (10 : Int) ((1 : Int) + (1 : Int)))]
                          (SV.bool false)
                        | false =>
                         true = true ∧
                          b = b ∧
                           ∃ (h : PT = PT),
                            AdtIs (fun (s : PT) (b : Nat) ↦ packs (ptE s b)) ptE ∧
                             pOk
                              (PT.mk bm
                               [(bp, PR.mk (1 : Int) (0 : Int) (ByteArray.mk #[]) false (0 : Int) (ByteArray.mk #[]) false false),
                                (nb,
                                 PR.mk ((1 : Int) + (1 : Int)) (1 : Int) (ByteArray.mk #[(103 : UInt8)]) false (0 : Int) (ByteArray.mk #[(99 : UInt8)]) false true)]
                               (10 : Int) ((1 : Int) + (1 : Int))) ∧
                              true = true ∧
                               b = b ∧
                                ∃ (h : PT = PT),
                                 AdtIs (fun (s : PT) (b : Nat) ↦ packs (ptE s b)) ptE ∧
                                  pOk
                                   (PT.mk bm
                                    [(bp, PR.mk (1 : Int) (0 : Int) (ByteArray.mk #[]) false (0 : Int) (ByteArray.mk #[]) false false),
                                     (nb,
                                      PR.mk ((1 : Int) + (1 : Int)) (1 : Int) (ByteArray.mk #[(103 : UInt8)]) false (0 : Int) (ByteArray.mk #[(99 : UInt8)])
                                       false true)]
                                    (10 : Int) ((1 : Int) + (1 : Int))) ∧
                                   ∀ (nb_1 : Nat),
                                    true = true ∧
                                     b = b ∧
                                      ∃ (h : PT = PT),
                                       AdtIs (fun (s : PT) (b : Nat) ↦ packs (ptE s b)) ptE ∧
                                        pOk
                                         (PT.mk bm
                                          [(bp, PR.mk (1 : Int) (0 : Int) (ByteArray.mk #[]) false (0 : Int) (ByteArray.mk #[]) false false),
                                           (nb,
                                            PR.mk ((1 : Int) + (1 : Int)) (1 : Int) (ByteArray.mk #[(103 : UInt8)]) false (0 : Int)
                                             (ByteArray.mk #[(99 : UInt8)]) false true)]
                                          (10 : Int) ((1 : Int) + (1 : Int))) ∧
                                         ∀ (b_1 : Nat),
                                          (b_1 = b_1 ∧ true = true ∧ 6 = 6 ∧ 6 ≤ 6) ∧
                                           match false == term with
                                           | true =>
                                            match true == kill with
                                            | true =>
                                             match false == !kill with
                                             | true =>
                                              b_1 = b_1 ∧
                                               true = true ∧
                                                b = b ∧
                                                 ∃ (h : PT = PT),
                                                  AdtIs (fun (s : PT) (b : Nat) ↦ packs (ptE s b)) ptE ∧
                                                   pOk
                                                    (PT.mk bm
                                                     [(bp,
                                                      PR.mk (1 : Int) (0 : Int) (ByteArray.mk #[]) false (0 : Int) (ByteArray.mk #[]) false
                                                       false),
                                                      (nb,
                                                       PR.mk ((1 : Int) + (1 : Int)) (1 : Int) (ByteArray.mk #[(103 : UInt8)]) false (0 : Int)
                                                        (ByteArray.mk #[(99 : UInt8)]) false true)]
                                                     (10 : Int) ((1 : Int) + (1 : Int))) ∧
                                                    true = true ∧
                                                     b = b ∧
                                                      ∃ (h : PT = PT),
                                                       AdtIs (fun (s : PT) (b : Nat) ↦ packs (ptE s b)) ptE ∧
                                                        pOk
                                                         (PT.mk bm
                                                          [(bp,
                                                           PR.mk (1 : Int) (0 : Int) (ByteArray.mk #[]) false (0 : Int)
                                                            (ByteArray.mk #[]) false false),
                                                           (nb,
                                                            PR.mk ((1 : Int) + (1 : Int)) (1 : Int) (ByteArray.mk #[(103 : UInt8)]) false
                                                             (0 : Int) (ByteArray.mk #[(99 : UInt8)]) false true)]
                                                          (10 : Int) ((1 : Int) + (1 : Int))) ∧
                                                         true = true ∧
                                                          b = b ∧
                                                           ∃ (h : PT = PT),
                                                            AdtIs (fun (s : PT) (b : Nat) ↦ packs (ptE s b)) ptE ∧
                                                             pOk
                                                              (PT.mk bm
                                                               [(bp,
                                                                PR.mk (1 : Int) (0 : Int) (ByteArray.mk #[]) false (0 : Int)
                                                                 (ByteArray.mk #[]) false false),
                                                                (nb,
                                                                 PR.mk (2 : Int) (1 : Int) (ByteArray.mk #[(103 : UInt8)]) true
                                                                  (-9 : Int) (ByteArray.mk #[(99 : UInt8)]) false true)]
                                                               (10 : Int) ((1 : Int) + (1 : Int))) ∧
                                                              N
                                                               [pkA b ptE
                                                                (PT.mk bm
                                                                 [(bp,
                                                                  PR.mk (1 : Int) (0 : Int) (ByteArray.mk #[]) false (0 : Int)
                                                                   (ByteArray.mk #[]) false false),
                                                                  (nb,
                                                                   PR.mk (2 : Int) (1 : Int) (ByteArray.mk #[(103 : UInt8)]) true
                                                                    (-9 : Int) (ByteArray.mk #[(99 : UInt8)]) false true)]
                                                                 (10 : Int) ((1 : Int) + (1 : Int))),
                                                                Ent.mk (Loc.blk b_1)
                                                                 (SObj.cells
                                                                  [SV.int IntKind.i64 (2 : Int), SV.int IntKind.i64 (1 : Int),
                                                                   SV.str
                                                                    (PR.mk (2 : Int) (1 : Int) (ByteArray.mk #[(103 : UInt8)]) false
                                                                     (0 : Int) (ByteArray.mk #[(99 : UInt8)]) false true).group,
                                                                   SV.bool false, SV.int IntKind.i64 (0 : Int),
                                                                   SV.str
                                                                    (PR.mk (2 : Int) (1 : Int) (ByteArray.mk #[(103 : UInt8)]) false
                                                                     (0 : Int) (ByteArray.mk #[(99 : UInt8)]) false true).cmd]
                                                                  45)]
                                                               (SV.bool true)
                                             | false =>
                                              N
                                               [pkA b ptE
                                                (PT.mk bm
                                                 [(bp, PR.mk (1 : Int) (0 : Int) (ByteArray.mk #[]) false (0 : Int) (ByteArray.mk #[]) false false),
                                                  (nb,
                                                   PR.mk ((1 : Int) + (1 : Int)) (1 : Int) (ByteArray.mk #[(103 : UInt8)]) false (0 : Int)
                                                    (ByteArray.mk #[(99 : UInt8)]) false true)]
                                                 (10 : Int) ((1 : Int) + (1 : Int))),
                                                Ent.mk (Loc.blk b_1)
                                                 (SObj.cells
                                                  [SV.int IntKind.i64 (2 : Int), SV.int IntKind.i64 (1 : Int),
                                                   SV.str
                                                    (PR.mk (2 : Int) (1 : Int) (ByteArray.mk #[(103 : UInt8)]) false (0 : Int)
                                                     (ByteArray.mk #[(99 : UInt8)]) false true).group,
                                                   SV.bool false, SV.int IntKind.i64 (0 : Int),
                                                   SV.str
                                                    (PR.mk (2 : Int) (1 : Int) (ByteArray.mk #[(103 : UInt8)]) false (0 : Int)
                                                     (ByteArray.mk #[(99 : UInt8)]) false true).cmd]
                                                  45)]
                                               (SV.bool false)
                                            | false =>
                                             N
                                              [pkA b ptE
                                               (PT.mk bm
                                                [(bp, PR.mk (1 : Int) (0 : Int) (ByteArray.mk #[]) false (0 : Int) (ByteArray.mk #[]) false false),
                                                 (nb,
                                                  PR.mk ((1 : Int) + (1 : Int)) (1 : Int) (ByteArray.mk #[(103 : UInt8)]) false (0 : Int)
                                                   (ByteArray.mk #[(99 : UInt8)]) false true)]
                                                (10 : Int) ((1 : Int) + (1 : Int))),
                                               Ent.mk (Loc.blk b_1)
                                                (SObj.cells
                                                 [SV.int IntKind.i64 (2 : Int), SV.int IntKind.i64 (1 : Int),
                                                  SV.str
                                                   (PR.mk (2 : Int) (1 : Int) (ByteArray.mk #[(103 : UInt8)]) false (0 : Int)
                                                    (ByteArray.mk #[(99 : UInt8)]) false true).group,
                                                  SV.bool false, SV.int IntKind.i64 (0 : Int),
                                                  SV.str
                                                   (PR.mk (2 : Int) (1 : Int) (ByteArray.mk #[(103 : UInt8)]) false (0 : Int)
                                                    (ByteArray.mk #[(99 : UInt8)]) false true).cmd]
                                                 45)]
                                              (SV.bool false)
                                           | false =>
                                            N
                                             [pkA b ptE
                                              (PT.mk bm
                                               [(bp, PR.mk (1 : Int) (0 : Int) (ByteArray.mk #[]) false (0 : Int) (ByteArray.mk #[]) false false),
                                                (nb,
                                                 PR.mk ((1 : Int) + (1 : Int)) (1 : Int) (ByteArray.mk #[(103 : UInt8)]) false (0 : Int)
                                                  (ByteArray.mk #[(99 : UInt8)]) false true)]
                                               (10 : Int) ((1 : Int) + (1 : Int))),
                                              Ent.mk (Loc.blk b_1)
                                               (SObj.cells
                                                [SV.int IntKind.i64 (2 : Int), SV.int IntKind.i64 (1 : Int),
                                                 SV.str
                                                  (PR.mk (2 : Int) (1 : Int) (ByteArray.mk #[(103 : UInt8)]) false (0 : Int)
                                                   (ByteArray.mk #[(99 : UInt8)]) false true).group,
                                                 SV.bool false, SV.int IntKind.i64 (0 : Int),
                                                 SV.str
                                                  (PR.mk (2 : Int) (1 : Int) (ByteArray.mk #[(103 : UInt8)]) false (0 : Int)
                                                   (ByteArray.mk #[(99 : UInt8)]) false true).cmd]
                                                45)]
                                             (SV.bool false)
                 | false =>
                  true = true ∧
                   b = b ∧
                    ∃ (h : PT = PT),
                     AdtIs (fun (s : PT) (b : Nat) ↦ packs (ptE s b)) ptE ∧
                      pOk
                       (PT.mk bm
                        [(bp, PR.mk (1 : Int) (0 : Int) (ByteArray.mk #[]) false (0 : Int) (ByteArray.mk #[]) false false),
                         (nb, PR.mk ((1 : Int) + (1 : Int)) (1 : Int) (ByteArray.mk #[(103 : UInt8)]) false (0 : Int) (ByteArray.mk #[(99 : UInt8)]) false true)]
                        (10 : Int) ((1 : Int) + (1 : Int))) ∧
                       true = true ∧
                        b = b ∧
                         ∃ (h : PT = PT),
                          AdtIs (fun (s : PT) (b : Nat) ↦ packs (ptE s b)) ptE ∧
                           pOk
                            (PT.mk bm
                             [(bp, PR.mk (1 : Int) (0 : Int) (ByteArray.mk #[]) false (0 : Int) (ByteArray.mk #[]) false false),
                              (nb, PR.mk ((1 : Int) + (1 : Int)) (1 : Int) (ByteArray.mk #[(103 : UInt8)]) false (0 : Int) (ByteArray.mk #[(99 : UInt8)]) false true)]
                             (10 : Int) ((1 : Int) + (1 : Int))) ∧
                            ∀ (nb_1 : Nat),
                             true = true ∧
                              b = b ∧
                               ∃ (h : PT = PT),
                                AdtIs (fun (s : PT) (b : Nat) ↦ packs (ptE s b)) ptE ∧
                                 pOk
                                  (PT.mk bm
                                   [(bp, PR.mk (1 : Int) (0 : Int) (ByteArray.mk #[]) false (0 : Int) (ByteArray.mk #[]) false false),
                                    (nb,
                                     PR.mk ((1 : Int) + (1 : Int)) (1 : Int) (ByteArray.mk #[(103 : UInt8)]) false (0 : Int) (ByteArray.mk #[(99 : UInt8)]) false
                                      true)]
                                   (10 : Int) ((1 : Int) + (1 : Int))) ∧
                                  ∀ (b_1 : Nat),
                                   (b_1 = b_1 ∧ true = true ∧ 6 = 6 ∧ 6 ≤ 6) ∧
                                    match false == term with
                                    | true =>
                                     match true == kill with
                                     | true =>
                                      match false == !kill with
                                      | true =>
                                       b_1 = b_1 ∧
                                        true = true ∧
                                         b = b ∧
                                          ∃ (h : PT = PT),
                                           AdtIs (fun (s : PT) (b : Nat) ↦ packs (ptE s b)) ptE ∧
                                            pOk
                                             (PT.mk bm
                                              [(bp, PR.mk (1 : Int) (0 : Int) (ByteArray.mk #[]) false (0 : Int) (ByteArray.mk #[]) false false),
                                               (nb,
                                                PR.mk ((1 : Int) + (1 : Int)) (1 : Int) (ByteArray.mk #[(103 : UInt8)]) false (0 : Int)
                                                 (ByteArray.mk #[(99 : UInt8)]) false true)]
                                              (10 : Int) ((1 : Int) + (1 : Int))) ∧
                                             true = true ∧
                                              b = b ∧
                                               ∃ (h : PT = PT),
                                                AdtIs (fun (s : PT) (b : Nat) ↦ packs (ptE s b)) ptE ∧
                                                 pOk
                                                  (PT.mk bm
                                                   [(bp,
                                                    PR.mk (1 : Int) (0 : Int) (ByteArray.mk #[]) false (0 : Int) (ByteArray.mk #[]) false
                                                     false),
                                                    (nb,
                                                     PR.mk ((1 : Int) + (1 : Int)) (1 : Int) (ByteArray.mk #[(103 : UInt8)]) false (0 : Int)
                                                      (ByteArray.mk #[(99 : UInt8)]) false true)]
                                                   (10 : Int) ((1 : Int) + (1 : Int))) ∧
                                                  true = true ∧
                                                   b = b ∧
                                                    ∃ (h : PT = PT),
                                                     AdtIs (fun (s : PT) (b : Nat) ↦ packs (ptE s b)) ptE ∧
                                                      pOk
                                                       (PT.mk bm
                                                        [(bp,
                                                         PR.mk (1 : Int) (0 : Int) (ByteArray.mk #[]) false (0 : Int) (ByteArray.mk #[])
                                                          false false),
                                                         (nb,
                                                          PR.mk (2 : Int) (1 : Int) (ByteArray.mk #[(103 : UInt8)]) true (-9 : Int)
                                                           (ByteArray.mk #[(99 : UInt8)]) false true)]
                                                        (10 : Int) ((1 : Int) + (1 : Int))) ∧
                                                       N
                                                        [pkA b ptE
                                                         (PT.mk bm
                                                          [(bp,
                                                           PR.mk (1 : Int) (0 : Int) (ByteArray.mk #[]) false (0 : Int)
                                                            (ByteArray.mk #[]) false false),
                                                           (nb,
                                                            PR.mk (2 : Int) (1 : Int) (ByteArray.mk #[(103 : UInt8)]) true (-9 : Int)
                                                             (ByteArray.mk #[(99 : UInt8)]) false true)]
                                                          (10 : Int) ((1 : Int) + (1 : Int))),
                                                         Ent.mk (Loc.blk b_1)
                                                          (SObj.cells
                                                           [SV.int IntKind.i64 (2 : Int), SV.int IntKind.i64 (1 : Int),
                                                            SV.str
                                                             (PR.mk (2 : Int) (1 : Int) (ByteArray.mk #[(103 : UInt8)]) false (0 : Int)
                                                              (ByteArray.mk #[(99 : UInt8)]) false true).group,
                                                            SV.bool false, SV.int IntKind.i64 (0 : Int),
                                                            SV.str
                                                             (PR.mk (2 : Int) (1 : Int) (ByteArray.mk #[(103 : UInt8)]) false (0 : Int)
                                                              (ByteArray.mk #[(99 : UInt8)]) false true).cmd]
                                                           45)]
                                                        (SV.bool true)
                                      | false =>
                                       N
                                        [pkA b ptE
                                         (PT.mk bm
                                          [(bp, PR.mk (1 : Int) (0 : Int) (ByteArray.mk #[]) false (0 : Int) (ByteArray.mk #[]) false false),
                                           (nb,
                                            PR.mk ((1 : Int) + (1 : Int)) (1 : Int) (ByteArray.mk #[(103 : UInt8)]) false (0 : Int)
                                             (ByteArray.mk #[(99 : UInt8)]) false true)]
                                          (10 : Int) ((1 : Int) + (1 : Int))),
                                         Ent.mk (Loc.blk b_1)
                                          (SObj.cells
                                           [SV.int IntKind.i64 (2 : Int), SV.int IntKind.i64 (1 : Int),
                                            SV.str
                                             (PR.mk (2 : Int) (1 : Int) (ByteArray.mk #[(103 : UInt8)]) false (0 : Int) (ByteArray.mk #[(99 : UInt8)])
                                              false true).group,
                                            SV.bool false, SV.int IntKind.i64 (0 : Int),
                                            SV.str
                                             (PR.mk (2 : Int) (1 : Int) (ByteArray.mk #[(103 : UInt8)]) false (0 : Int) (ByteArray.mk #[(99 : UInt8)])
                                              false true).cmd]
                                           45)]
                                        (SV.bool false)
                                     | false =>
                                      N
                                       [pkA b ptE
                                        (PT.mk bm
                                         [(bp, PR.mk (1 : Int) (0 : Int) (ByteArray.mk #[]) false (0 : Int) (ByteArray.mk #[]) false false),
                                          (nb,
                                           PR.mk ((1 : Int) + (1 : Int)) (1 : Int) (ByteArray.mk #[(103 : UInt8)]) false (0 : Int)
                                            (ByteArray.mk #[(99 : UInt8)]) false true)]
                                         (10 : Int) ((1 : Int) + (1 : Int))),
                                        Ent.mk (Loc.blk b_1)
                                         (SObj.cells
                                          [SV.int IntKind.i64 (2 : Int), SV.int IntKind.i64 (1 : Int),
                                           SV.str
                                            (PR.mk (2 : Int) (1 : Int) (ByteArray.mk #[(103 : UInt8)]) false (0 : Int) (ByteArray.mk #[(99 : UInt8)]) false
                                             true).group,
                                           SV.bool false, SV.int IntKind.i64 (0 : Int),
                                           SV.str
                                            (PR.mk (2 : Int) (1 : Int) (ByteArray.mk #[(103 : UInt8)]) false (0 : Int) (ByteArray.mk #[(99 : UInt8)]) false
                                             true).cmd]
                                          45)]
                                       (SV.bool false)
                                    | false =>
                                     N
                                      [pkA b ptE
                                       (PT.mk bm
                                        [(bp, PR.mk (1 : Int) (0 : Int) (ByteArray.mk #[]) false (0 : Int) (ByteArray.mk #[]) false false),
                                         (nb,
                                          PR.mk ((1 : Int) + (1 : Int)) (1 : Int) (ByteArray.mk #[(103 : UInt8)]) false (0 : Int)
                                           (ByteArray.mk #[(99 : UInt8)]) false true)]
                                        (10 : Int) ((1 : Int) + (1 : Int))),
                                       Ent.mk (Loc.blk b_1)
                                        (SObj.cells
                                         [SV.int IntKind.i64 (2 : Int), SV.int IntKind.i64 (1 : Int),
                                          SV.str
                                           (PR.mk (2 : Int) (1 : Int) (ByteArray.mk #[(103 : UInt8)]) false (0 : Int) (ByteArray.mk #[(99 : UInt8)]) false
                                            true).group,
                                          SV.bool false, SV.int IntKind.i64 (0 : Int),
                                          SV.str
                                           (PR.mk (2 : Int) (1 : Int) (ByteArray.mk #[(103 : UInt8)]) false (0 : Int) (ByteArray.mk #[(99 : UInt8)]) false
                                            true).cmd]
                                         45)]
                                      (SV.bool false)
                | false =>
                 true = true ∧
                  b = b ∧
                   ∃ (h : PT = PT),
                    AdtIs (fun (s : PT) (b : Nat) ↦ packs (ptE s b)) ptE ∧
                     pOk
                      (PT.mk bm
                       [(bp, PR.mk (1 : Int) (0 : Int) (ByteArray.mk #[]) false (0 : Int) (ByteArray.mk #[]) false false),
                        (nb, PR.mk ((1 : Int) + (1 : Int)) (1 : Int) (ByteArray.mk #[(103 : UInt8)]) false (0 : Int) (ByteArray.mk #[(99 : UInt8)]) false true)]
                       (10 : Int) ((1 : Int) + (1 : Int))) ∧
                      true = true ∧
                       b = b ∧
                        ∃ (h : PT = PT),
                         AdtIs (fun (s : PT) (b : Nat) ↦ packs (ptE s b)) ptE ∧
                          pOk
                           (PT.mk bm
                            [(bp, PR.mk (1 : Int) (0 : Int) (ByteArray.mk #[]) false (0 : Int) (ByteArray.mk #[]) false false),
                             (nb, PR.mk ((1 : Int) + (1 : Int)) (1 : Int) (ByteArray.mk #[(103 : UInt8)]) false (0 : Int) (ByteArray.mk #[(99 : UInt8)]) false true)]
                            (10 : Int) ((1 : Int) + (1 : Int))) ∧
                           ∀ (nb_1 : Nat),
                            true = true ∧
                             b = b ∧
                              ∃ (h : PT = PT),
                               AdtIs (fun (s : PT) (b : Nat) ↦ packs (ptE s b)) ptE ∧
                                pOk
                                 (PT.mk bm
                                  [(bp, PR.mk (1 : Int) (0 : Int) (ByteArray.mk #[]) false (0 : Int) (ByteArray.mk #[]) false false),
                                   (nb,
                                    PR.mk ((1 : Int) + (1 : Int)) (1 : Int) (ByteArray.mk #[(103 : UInt8)]) false (0 : Int) (ByteArray.mk #[(99 : UInt8)]) false
                                     true)]
                                  (10 : Int) ((1 : Int) + (1 : Int))) ∧
                                 ∀ (b_1 : Nat),
                                  (b_1 = b_1 ∧ true = true ∧ 6 = 6 ∧ 6 ≤ 6) ∧
                                   match false == term with
                                   | true =>
                                    match true == kill with
                                    | true =>
                                     match false == !kill with
                                     | true =>
                                      b_1 = b_1 ∧
                                       true = true ∧
                                        b = b ∧
                                         ∃ (h : PT = PT),
                                          AdtIs (fun (s : PT) (b : Nat) ↦ packs (ptE s b)) ptE ∧
                                           pOk
                                            (PT.mk bm
                                             [(bp, PR.mk (1 : Int) (0 : Int) (ByteArray.mk #[]) false (0 : Int) (ByteArray.mk #[]) false false),
                                              (nb,
                                               PR.mk ((1 : Int) + (1 : Int)) (1 : Int) (ByteArray.mk #[(103 : UInt8)]) false (0 : Int)
                                                (ByteArray.mk #[(99 : UInt8)]) false true)]
                                             (10 : Int) ((1 : Int) + (1 : Int))) ∧
                                            true = true ∧
                                             b = b ∧
                                              ∃ (h : PT = PT),
                                               AdtIs (fun (s : PT) (b : Nat) ↦ packs (ptE s b)) ptE ∧
                                                pOk
                                                 (PT.mk bm
                                                  [(bp,
                                                   PR.mk (1 : Int) (0 : Int) (ByteArray.mk #[]) false (0 : Int) (ByteArray.mk #[]) false false),
                                                   (nb,
                                                    PR.mk ((1 : Int) + (1 : Int)) (1 : Int) (ByteArray.mk #[(103 : UInt8)]) false (0 : Int)
                                                     (ByteArray.mk #[(99 : UInt8)]) false true)]
                                                  (10 : Int) ((1 : Int) + (1 : Int))) ∧
                                                 true = true ∧
                                                  b = b ∧
                                                   ∃ (h : PT = PT),
                                                    AdtIs (fun (s : PT) (b : Nat) ↦ packs (ptE s b)) ptE ∧
                                                     pOk
                                                      (PT.mk bm
                                                       [(bp,
                                                        PR.mk (1 : Int) (0 : Int) (ByteArray.mk #[]) false (0 : Int) (ByteArray.mk #[])
                                                         false false),
                                                        (nb,
                                                         PR.mk (2 : Int) (1 : Int) (ByteArray.mk #[(103 : UInt8)]) true (-9 : Int)
                                                          (ByteArray.mk #[(99 : UInt8)]) false true)]
                                                       (10 : Int) ((1 : Int) + (1 : Int))) ∧
                                                      N
                                                       [pkA b ptE
                                                        (PT.mk bm
                                                         [(bp,
                                                          PR.mk (1 : Int) (0 : Int) (ByteArray.mk #[]) false (0 : Int) (ByteArray.mk #[])
                                                           false false),
                                                          (nb,
                                                           PR.mk (2 : Int) (1 : Int) (ByteArray.mk #[(103 : UInt8)]) true (-9 : Int)
                                                            (ByteArray.mk #[(99 : UInt8)]) false true)]
                                                         (10 : Int) ((1 : Int) + (1 : Int))),
                                                        Ent.mk (Loc.blk b_1)
                                                         (SObj.cells
                                                          [SV.int IntKind.i64 (2 : Int), SV.int IntKind.i64 (1 : Int),
                                                           SV.str
                                                            (PR.mk (2 : Int) (1 : Int) (ByteArray.mk #[(103 : UInt8)]) false (0 : Int)
                                                             (ByteArray.mk #[(99 : UInt8)]) false true).group,
                                                           SV.bool false, SV.int IntKind.i64 (0 : Int),
                                                           SV.str
                                                            (PR.mk (2 : Int) (1 : Int) (ByteArray.mk #[(103 : UInt8)]) false (0 : Int)
                                                             (ByteArray.mk #[(99 : UInt8)]) false true).cmd]
                                                          45)]
                                                       (SV.bool true)
                                     | false =>
                                      N
                                       [pkA b ptE
                                        (PT.mk bm
                                         [(bp, PR.mk (1 : Int) (0 : Int) (ByteArray.mk #[]) false (0 : Int) (ByteArray.mk #[]) false false),
                                          (nb,
                                           PR.mk ((1 : Int) + (1 : Int)) (1 : Int) (ByteArray.mk #[(103 : UInt8)]) false (0 : Int)
                                            (ByteArray.mk #[(99 : UInt8)]) false true)]
                                         (10 : Int) ((1 : Int) + (1 : Int))),
                                        Ent.mk (Loc.blk b_1)
                                         (SObj.cells
                                          [SV.int IntKind.i64 (2 : Int), SV.int IntKind.i64 (1 : Int),
                                           SV.str
                                            (PR.mk (2 : Int) (1 : Int) (ByteArray.mk #[(103 : UInt8)]) false (0 : Int) (ByteArray.mk #[(99 : UInt8)]) false
                                             true).group,
                                           SV.bool false, SV.int IntKind.i64 (0 : Int),
                                           SV.str
                                            (PR.mk (2 : Int) (1 : Int) (ByteArray.mk #[(103 : UInt8)]) false (0 : Int) (ByteArray.mk #[(99 : UInt8)]) false
                                             true).cmd]
                                          45)]
                                       (SV.bool false)
                                    | false =>
                                     N
                                      [pkA b ptE
                                       (PT.mk bm
                                        [(bp, PR.mk (1 : Int) (0 : Int) (ByteArray.mk #[]) false (0 : Int) (ByteArray.mk #[]) false false),
                                         (nb,
                                          PR.mk ((1 : Int) + (1 : Int)) (1 : Int) (ByteArray.mk #[(103 : UInt8)]) false (0 : Int)
                                           (ByteArray.mk #[(99 : UInt8)]) false true)]
                                        (10 : Int) ((1 : Int) + (1 : Int))),
                                       Ent.mk (Loc.blk b_1)
                                        (SObj.cells
                                         [SV.int IntKind.i64 (2 : Int), SV.int IntKind.i64 (1 : Int),
                                          SV.str
                                           (PR.mk (2 : Int) (1 : Int) (ByteArray.mk #[(103 : UInt8)]) false (0 : Int) (ByteArray.mk #[(99 : UInt8)]) false
                                            true).group,
                                          SV.bool false, SV.int IntKind.i64 (0 : Int),
                                          SV.str
                                           (PR.mk (2 : Int) (1 : Int) (ByteArray.mk #[(103 : UInt8)]) false (0 : Int) (ByteArray.mk #[(99 : UInt8)]) false
                                            true).cmd]
                                         45)]
                                      (SV.bool false)
                                   | false =>
                                    N
                                     [pkA b ptE
                                      (PT.mk bm
                                       [(bp, PR.mk (1 : Int) (0 : Int) (ByteArray.mk #[]) false (0 : Int) (ByteArray.mk #[]) false false),
                                        (nb,
                                         PR.mk ((1 : Int) + (1 : Int)) (1 : Int) (ByteArray.mk #[(103 : UInt8)]) false (0 : Int)
                                          (ByteArray.mk #[(99 : UInt8)]) false true)]
                                       (10 : Int) ((1 : Int) + (1 : Int))),
                                      Ent.mk (Loc.blk b_1)
                                       (SObj.cells
                                        [SV.int IntKind.i64 (2 : Int), SV.int IntKind.i64 (1 : Int),
                                         SV.str
                                          (PR.mk (2 : Int) (1 : Int) (ByteArray.mk #[(103 : UInt8)]) false (0 : Int) (ByteArray.mk #[(99 : UInt8)]) false
                                           true).group,
                                         SV.bool false, SV.int IntKind.i64 (0 : Int),
                                         SV.str
                                          (PR.mk (2 : Int) (1 : Int) (ByteArray.mk #[(103 : UInt8)]) false (0 : Int) (ByteArray.mk #[(99 : UInt8)]) false
                                           true).cmd]
                                        45)]
                                     (SV.bool false)
          | false =>
           match sig != (15 : Int) with
           | true =>
            match sig != (9 : Int) with
            | true =>
             true = true ∧
              b = b ∧
               ∃ (h : PT = PT),
                AdtIs (fun (s : PT) (b : Nat) ↦ packs (ptE s b)) ptE ∧
                 pOk
                  (PT.mk bm
                   ([(bp, PR.mk (1 : Int) (0 : Int) (ByteArray.mk #[]) false (0 : Int) (ByteArray.mk #[]) false false)] ++
                    [(nb, PR.mk ((1 : Int) + (1 : Int)) (1 : Int) (ByteArray.mk #[(103 : UInt8)]) false (0 : Int) (ByteArray.mk #[(99 : UInt8)]) false false)])
                   (10 : Int) ((1 : Int) + (1 : Int))) ∧
                  match sig == (15 : Int) with
                  | true =>
                   N
                    [pkA b ptE
                     (PT.mk bm
                      [(bp, PR.mk (1 : Int) (0 : Int) (ByteArray.mk #[]) false (0 : Int) (ByteArray.mk #[]) false false),
                       (nb, PR.mk ((1 : Int) + (1 : Int)) (1 : Int) (ByteArray.mk #[(103 : UInt8)]) false (0 : Int) (ByteArray.mk #[(99 : UInt8)]) true false)]
                      (10 : Int) ((1 : Int) + (1 : Int)))]
                    (SV.bool false)
                  | false =>
                   match sig == (9 : Int) with
                   | true =>
                    N
                     [pkA b ptE
                      (PT.mk bm
                       [(bp, PR.mk (1 : Int) (0 : Int) (ByteArray.mk #[]) false (0 : Int) (ByteArray.mk #[]) false false),
                        (nb, PR.mk ((1 : Int) + (1 : Int)) (1 : Int) (ByteArray.mk #[(103 : UInt8)]) false (0 : Int) (ByteArray.mk #[(99 : UInt8)]) false true)]
                       (10 : Int) ((1 : Int) + (1 : Int)))]
                     (SV.bool false)
                   | false =>
                    true = true ∧
                     b = b ∧
                      ∃ (h : PT = PT),
                       AdtIs (fun (s : PT) (b : Nat) ↦ packs (ptE s b)) ptE ∧
                        pOk
                         (PT.mk bm
                          ([(bp, PR.mk (1 : Int) (0 : Int) (ByteArray.mk #[]) false (0 : Int) (ByteArray.mk #[]) false false)] ++
                           [(nb, PR.mk ((1 : Int) + (1 : Int)) (1 : Int) (ByteArray.mk #[(103 : UInt8)]) false (0 : Int) (ByteArray.mk #[(99 : UInt8)]) false false)])
                          (10 : Int) ((1 : Int) + (1 : Int))) ∧
                         true = true ∧
                          b = b ∧
                           ∃ (h : PT = PT),
                            AdtIs (fun (s : PT) (b : Nat) ↦ packs (ptE s b)) ptE ∧
                             pOk
                              (PT.mk bm
                               ([(bp, PR.mk (1 : Int) (0 : Int) (ByteArray.mk #[]) false (0 : Int) (ByteArray.mk #[]) false false)] ++
                                [(nb,
                                 PR.mk ((1 : Int) + (1 : Int)) (1 : Int) (ByteArray.mk #[(103 : UInt8)]) false (0 : Int) (ByteArray.mk #[(99 : UInt8)]) false
                                  false)])
                               (10 : Int) ((1 : Int) + (1 : Int))) ∧
                              ∀ (nb_1 : Nat),
                               true = true ∧
                                b = b ∧
                                 ∃ (h : PT = PT),
                                  AdtIs (fun (s : PT) (b : Nat) ↦ packs (ptE s b)) ptE ∧
                                   pOk
                                    (PT.mk bm
                                     ([(bp, PR.mk (1 : Int) (0 : Int) (ByteArray.mk #[]) false (0 : Int) (ByteArray.mk #[]) false false)] ++
                                      [(nb,
                                       PR.mk ((1 : Int) + (1 : Int)) (1 : Int) (ByteArray.mk #[(103 : UInt8)]) false (0 : Int)
                                        (ByteArray.mk #[(99 : UInt8)]) false false)] ++
                                      [(nb_1,
                                       PR.mk ((1 : Int) + (1 : Int) + (1 : Int)) (2 : Int) (ByteArray.mk #[(103 : UInt8)]) false (0 : Int)
                                        (ByteArray.mk #[(99 : UInt8)]) false false)])
                                     (10 : Int) ((1 : Int) + (1 : Int) + (1 : Int))) ∧
                                    ∀ (b_1 : Nat),
                                     (b_1 = b_1 ∧ true = true ∧ 6 = 6 ∧ 6 ≤ 6) ∧
                                      match false == term with
                                      | true =>
                                       match false == kill with
                                       | true =>
                                        match true == !kill with
                                        | true =>
                                         b_1 = b_1 ∧
                                          true = true ∧
                                           b = b ∧
                                            ∃ (h : PT = PT),
                                             AdtIs (fun (s : PT) (b : Nat) ↦ packs (ptE s b)) ptE ∧
                                              pOk
                                               (PT.mk bm
                                                ([(bp,
                                                 PR.mk (1 : Int) (0 : Int) (ByteArray.mk #[]) false (0 : Int) (ByteArray.mk #[]) false
                                                  false)] ++
                                                 [(nb,
                                                  PR.mk ((1 : Int) + (1 : Int)) (1 : Int) (ByteArray.mk #[(103 : UInt8)]) false (0 : Int)
                                                   (ByteArray.mk #[(99 : UInt8)]) false false)] ++
                                                 [(nb_1,
                                                  PR.mk ((1 : Int) + (1 : Int) + (1 : Int)) (2 : Int) (ByteArray.mk #[(103 : UInt8)]) false
                                                   (0 : Int) (ByteArray.mk #[(99 : UInt8)]) false false)])
                                                (10 : Int) ((1 : Int) + (1 : Int) + (1 : Int))) ∧
                                               true = true ∧
                                                b = b ∧
                                                 ∃ (h : PT = PT),
                                                  AdtIs (fun (s : PT) (b : Nat) ↦ packs (ptE s b)) ptE ∧
                                                   pOk
                                                    (PT.mk bm
                                                     ([(bp,
                                                      PR.mk (1 : Int) (0 : Int) (ByteArray.mk #[]) false (0 : Int) (ByteArray.mk #[])
                                                       false false)] ++
                                                      [(nb,
                                                       PR.mk ((1 : Int) + (1 : Int)) (1 : Int) (ByteArray.mk #[(103 : UInt8)]) false
                                                        (0 : Int) (ByteArray.mk #[(99 : UInt8)]) false false)] ++
                                                      [(nb_1,
                                                       PR.mk ((1 : Int) + (1 : Int) + (1 : Int)) (2 : Int) (ByteArray.mk #[(103 : UInt8)])
                                                        false (0 : Int) (ByteArray.mk #[(99 : UInt8)]) false false)])
                                                     (10 : Int) ((1 : Int) + (1 : Int) + (1 : Int))) ∧
                                                    true = true ∧
                                                     b = b ∧
                                                      ∃ (h : PT = PT),
                                                       AdtIs (fun (s : PT) (b : Nat) ↦ packs (ptE s b)) ptE ∧
                                                        pOk
                                                         (PT.mk bm
                                                          [(bp,
                                                           PR.mk (1 : Int) (0 : Int) (ByteArray.mk #[]) false (0 : Int)
                                                            (ByteArray.mk #[]) false false),
                                                           (nb,
                                                            PR.mk (2 : Int) (1 : Int) (ByteArray.mk #[(103 : UInt8)]) true (-9 : Int)
                                                             (ByteArray.mk #[(99 : UInt8)]) false false),
                                                           (nb_1,
                                                            PR.mk (3 : Int) (1 : Int)
                                                             (PR.mk ((1 : Int) + (1 : Int) + (1 : Int)) (2 : Int)
                                                              (ByteArray.mk #[(103 : UInt8)]) false (0 : Int)
                                                              (ByteArray.mk #[(99 : UInt8)]) false false).group
                                                             false (0 : Int)
                                                             (PR.mk ((1 : Int) + (1 : Int) + (1 : Int)) (2 : Int)
                                                              (ByteArray.mk #[(103 : UInt8)]) false (0 : Int)
                                                              (ByteArray.mk #[(99 : UInt8)]) false false).cmd
                                                             false false)]
                                                          (10 : Int) ((1 : Int) + (1 : Int) + (1 : Int))) ∧
                                                         N
                                                          [pkA b ptE
                                                           (PT.mk bm
                                                            [(bp,
                                                             PR.mk (1 : Int) (0 : Int) (ByteArray.mk #[]) false (0 : Int)
                                                              (ByteArray.mk #[]) false false),
                                                             (nb,
                                                              PR.mk (2 : Int) (1 : Int) (ByteArray.mk #[(103 : UInt8)]) true (-9 : Int)
                                                               (ByteArray.mk #[(99 : UInt8)]) false false),
                                                             (nb_1,
                                                              PR.mk (3 : Int) (1 : Int)
                                                               (PR.mk ((1 : Int) + (1 : Int) + (1 : Int)) (2 : Int)
                                                                (ByteArray.mk #[(103 : UInt8)]) false (0 : Int)
                                                                (ByteArray.mk #[(99 : UInt8)]) false false).group
                                                               false (0 : Int)
                                                               (PR.mk ((1 : Int) + (1 : Int) + (1 : Int)) (2 : Int)
                                                                (ByteArray.mk #[(103 : UInt8)]) false (0 : Int)
                                                                (ByteArray.mk #[(99 : UInt8)]) false false).cmd
                                                               false false)]
                                                            (10 : Int) ((1 : Int) + (1 : Int) + (1 : Int))),
                                                           Ent.mk (Loc.blk b_1)
                                                            (SObj.cells
                                                             [SV.int IntKind.i64 (2 : Int), SV.int IntKind.i64 (1 : Int),
                                                              SV.str
                                                               (PR.mk (2 : Int) (1 : Int) (ByteArray.mk #[(103 : UInt8)]) false (0 : Int)
                                                                (ByteArray.mk #[(99 : UInt8)]) false false).group,
                                                              SV.bool false, SV.int IntKind.i64 (0 : Int),
                                                              SV.str
                                                               (PR.mk (2 : Int) (1 : Int) (ByteArray.mk #[(103 : UInt8)]) false (0 : Int)
                                                                (ByteArray.mk #[(99 : UInt8)]) false false).cmd]
                                                             45)]
                                                          (SV.bool true)
                                        | false =>
                                         N
                                          [pkA b ptE
                                           (PT.mk bm
                                            ([(bp, PR.mk (1 : Int) (0 : Int) (ByteArray.mk #[]) false (0 : Int) (ByteArray.mk #[]) false false)] ++
                                             [(nb,
                                              PR.mk ((1 : Int) + (1 : Int)) (1 : Int) (ByteArray.mk #[(103 : UInt8)]) false (0 : Int)
                                               (ByteArray.mk #[(99 : UInt8)]) false false)] ++
                                             [(nb_1,
                                              PR.mk ((1 : Int) + (1 : Int) + (1 : Int)) (2 : Int) (ByteArray.mk #[(103 : UInt8)]) false (0 : Int)
                                               (ByteArray.mk #[(99 : UInt8)]) false false)])
                                            (10 : Int) ((1 : Int) + (1 : Int) + (1 : Int))),
                                           Ent.mk (Loc.blk b_1)
                                            (SObj.cells
                                             [SV.int IntKind.i64 (2 : Int), SV.int IntKind.i64 (1 : Int),
                                              SV.str
                                               (PR.mk (2 : Int) (1 : Int) (ByteArray.mk #[(103 : UInt8)]) false (0 : Int) (ByteArray.mk #[(99 : UInt8)])
                                                false false).group,
                                              SV.bool false, SV.int IntKind.i64 (0 : Int),
                                              SV.str
                                               (PR.mk (2 : Int) (1 : Int) (ByteArray.mk #[(103 : UInt8)]) false (0 : Int) (ByteArray.mk #[(99 : UInt8)])
                                                false false).cmd]
                                             45)]
                                          (SV.bool false)
                                       | false =>
                                        N
                                         [pkA b ptE
                                          (PT.mk bm
                                           ([(bp, PR.mk (1 : Int) (0 : Int) (ByteArray.mk #[]) false (0 : Int) (ByteArray.mk #[]) false false)] ++
                                            [(nb,
                                             PR.mk ((1 : Int) + (1 : Int)) (1 : Int) (ByteArray.mk #[(103 : UInt8)]) false (0 : Int)
                                              (ByteArray.mk #[(99 : UInt8)]) false false)] ++
                                            [(nb_1,
                                             PR.mk ((1 : Int) + (1 : Int) + (1 : Int)) (2 : Int) (ByteArray.mk #[(103 : UInt8)]) false (0 : Int)
                                              (ByteArray.mk #[(99 : UInt8)]) false false)])
                                           (10 : Int) ((1 : Int) + (1 : Int) + (1 : Int))),
                                          Ent.mk (Loc.blk b_1)
                                           (SObj.cells
                                            [SV.int IntKind.i64 (2 : Int), SV.int IntKind.i64 (1 : Int),
                                             SV.str
                                              (PR.mk (2 : Int) (1 : Int) (ByteArray.mk #[(103 : UInt8)]) false (0 : Int) (ByteArray.mk #[(99 : UInt8)])
                                               false false).group,
                                             SV.bool false, SV.int IntKind.i64 (0 : Int),
                                             SV.str
                                              (PR.mk (2 : Int) (1 : Int) (ByteArray.mk #[(103 : UInt8)]) false (0 : Int) (ByteArray.mk #[(99 : UInt8)])
                                               false false).cmd]
                                            45)]
                                         (SV.bool false)
                                      | false =>
                                       N
                                        [pkA b ptE
                                         (PT.mk bm
                                          ([(bp, PR.mk (1 : Int) (0 : Int) (ByteArray.mk #[]) false (0 : Int) (ByteArray.mk #[]) false false)] ++
                                           [(nb,
                                            PR.mk ((1 : Int) + (1 : Int)) (1 : Int) (ByteArray.mk #[(103 : UInt8)]) false (0 : Int)
                                             (ByteArray.mk #[(99 : UInt8)]) false false)] ++
                                           [(nb_1,
                                            PR.mk ((1 : Int) + (1 : Int) + (1 : Int)) (2 : Int) (ByteArray.mk #[(103 : UInt8)]) false (0 : Int)
                                             (ByteArray.mk #[(99 : UInt8)]) false false)])
                                          (10 : Int) ((1 : Int) + (1 : Int) + (1 : Int))),
                                         Ent.mk (Loc.blk b_1)
                                          (SObj.cells
                                           [SV.int IntKind.i64 (2 : Int), SV.int IntKind.i64 (1 : Int),
                                            SV.str
                                             (PR.mk (2 : Int) (1 : Int) (ByteArray.mk #[(103 : UInt8)]) false (0 : Int) (ByteArray.mk #[(99 : UInt8)])
                                              false false).group,
                                            SV.bool false, SV.int IntKind.i64 (0 : Int),
                                            SV.str
                                             (PR.mk (2 : Int) (1 : Int) (ByteArray.mk #[(103 : UInt8)]) false (0 : Int) (ByteArray.mk #[(99 : UInt8)])
                                              false false).cmd]
                                           45)]
                                        (SV.bool false)
            | false =>
             true = true ∧
              b = b ∧
               ∃ (h : PT = PT),
                AdtIs (fun (s : PT) (b : Nat) ↦ packs (ptE s b)) ptE ∧
                 pOk
                  (PT.mk bm
                   ([(bp, PR.mk (1 : Int) (0 : Int) (ByteArray.mk #[]) false (0 : Int) (ByteArray.mk #[]) false false)] ++
                    [(nb, PR.mk ((1 : Int) + (1 : Int)) (1 : Int) (ByteArray.mk #[(103 : UInt8)]) false (0 : Int) (ByteArray.mk #[(99 : UInt8)]) false false)])
                   (10 : Int) ((1 : Int) + (1 : Int))) ∧
                  true = true ∧
                   b = b ∧
                    ∃ (h : PT = PT),
                     AdtIs (fun (s : PT) (b : Nat) ↦ packs (ptE s b)) ptE ∧
                      pOk
                       (PT.mk bm
                        ([(bp, PR.mk (1 : Int) (0 : Int) (ByteArray.mk #[]) false (0 : Int) (ByteArray.mk #[]) false false)] ++
                         [(nb, PR.mk ((1 : Int) + (1 : Int)) (1 : Int) (ByteArray.mk #[(103 : UInt8)]) false (0 : Int) (ByteArray.mk #[(99 : UInt8)]) false false)])
                        (10 : Int) ((1 : Int) + (1 : Int))) ∧
                       ∀ (nb_1 : Nat),
                        true = true ∧
                         b = b ∧
                          ∃ (h : PT = PT),
                           AdtIs (fun (s : PT) (b : Nat) ↦ packs (ptE s b)) ptE ∧
                            pOk
                             (PT.mk bm
                              ([(bp, PR.mk (1 : Int) (0 : Int) (ByteArray.mk #[]) false (0 : Int) (ByteArray.mk #[]) false false)] ++
                               [(nb,
                                PR.mk ((1 : Int) + (1 : Int)) (1 : Int) (ByteArray.mk #[(103 : UInt8)]) false (0 : Int) (ByteArray.mk #[(99 : UInt8)]) false
                                 false)] ++
                               [(nb_1,
                                PR.mk ((1 : Int) + (1 : Int) + (1 : Int)) (2 : Int) (ByteArray.mk #[(103 : UInt8)]) false (0 : Int) (ByteArray.mk #[(99 : UInt8)])
                                 false false)])
                              (10 : Int) ((1 : Int) + (1 : Int) + (1 : Int))) ∧
                             ∀ (b_1 : Nat),
                              (b_1 = b_1 ∧ true = true ∧ 6 = 6 ∧ 6 ≤ 6) ∧
                               match false == term with
                               | true =>
                                match false == kill with
                                | true =>
                                 match true == !kill with
                                 | true =>
                                  b_1 = b_1 ∧
                                   true = true ∧
                                    b = b ∧
                                     ∃ (h : PT = PT),
                                      AdtIs (fun (s : PT) (b : Nat) ↦ packs (ptE s b)) ptE ∧
                                       pOk
                                        (PT.mk bm
                                         ([(bp, PR.mk (1 : Int) (0 : Int) (ByteArray.mk #[]) false (0 : Int) (ByteArray.mk #[]) false false)] ++
                                          [(nb,
                                           PR.mk ((1 : Int) + (1 : Int)) (1 : Int) (ByteArray.mk #[(103 : UInt8)]) false (0 : Int)
                                            (ByteArray.mk #[(99 : UInt8)]) false false)] ++
                                          [(nb_1,
                                           PR.mk ((1 : Int) + (1 : Int) + (1 : Int)) (2 : Int) (ByteArray.mk #[(103 : UInt8)]) false (0 : Int)
                                            (ByteArray.mk #[(99 : UInt8)]) false false)])
                                         (10 : Int) ((1 : Int) + (1 : Int) + (1 : Int))) ∧
                                        true = true ∧
                                         b = b ∧
                                          ∃ (h : PT = PT),
                                           AdtIs (fun (s : PT) (b : Nat) ↦ packs (ptE s b)) ptE ∧
                                            pOk
                                             (PT.mk bm
                                              ([(bp, PR.mk (1 : Int) (0 : Int) (ByteArray.mk #[]) false (0 : Int) (ByteArray.mk #[]) false false)] ++
                                               [(nb,
                                                PR.mk ((1 : Int) + (1 : Int)) (1 : Int) (ByteArray.mk #[(103 : UInt8)]) false (0 : Int)
                                                 (ByteArray.mk #[(99 : UInt8)]) false false)] ++
                                               [(nb_1,
                                                PR.mk ((1 : Int) + (1 : Int) + (1 : Int)) (2 : Int) (ByteArray.mk #[(103 : UInt8)]) false (0 : Int)
                                                 (ByteArray.mk #[(99 : UInt8)]) false false)])
                                              (10 : Int) ((1 : Int) + (1 : Int) + (1 : Int))) ∧
                                             true = true ∧
                                              b = b ∧
                                               ∃ (h : PT = PT),
                                                AdtIs (fun (s : PT) (b : Nat) ↦ packs (ptE s b)) ptE ∧
                                                 pOk
                                                  (PT.mk bm
                                                   [(bp,
                                                    PR.mk (1 : Int) (0 : Int) (ByteArray.mk #[]) false (0 : Int) (ByteArray.mk #[]) false
                                                     false),
                                                    (nb,
                                                     PR.mk (2 : Int) (1 : Int) (ByteArray.mk #[(103 : UInt8)]) true (-9 : Int)
                                                      (ByteArray.mk #[(99 : UInt8)]) false false),
                                                    (nb_1,
                                                     PR.mk (3 : Int) (1 : Int)
                                                      (PR.mk ((1 : Int) + (1 : Int) + (1 : Int)) (2 : Int) (ByteArray.mk #[(103 : UInt8)]) false
                                                       (0 : Int) (ByteArray.mk #[(99 : UInt8)]) false false).group
                                                      false (0 : Int)
                                                      (PR.mk ((1 : Int) + (1 : Int) + (1 : Int)) (2 : Int) (ByteArray.mk #[(103 : UInt8)]) false
                                                       (0 : Int) (ByteArray.mk #[(99 : UInt8)]) false false).cmd
                                                      false false)]
                                                   (10 : Int) ((1 : Int) + (1 : Int) + (1 : Int))) ∧
                                                  N
                                                   [pkA b ptE
                                                    (PT.mk bm
                                                     [(bp,
                                                      PR.mk (1 : Int) (0 : Int) (ByteArray.mk #[]) false (0 : Int) (ByteArray.mk #[]) false
                                                       false),
                                                      (nb,
                                                       PR.mk (2 : Int) (1 : Int) (ByteArray.mk #[(103 : UInt8)]) true (-9 : Int)
                                                        (ByteArray.mk #[(99 : UInt8)]) false false),
                                                      (nb_1,
                                                       PR.mk (3 : Int) (1 : Int)
                                                        (PR.mk ((1 : Int) + (1 : Int) + (1 : Int)) (2 : Int) (ByteArray.mk #[(103 : UInt8)])
                                                         false (0 : Int) (ByteArray.mk #[(99 : UInt8)]) false false).group
                                                        false (0 : Int)
                                                        (PR.mk ((1 : Int) + (1 : Int) + (1 : Int)) (2 : Int) (ByteArray.mk #[(103 : UInt8)])
                                                         false (0 : Int) (ByteArray.mk #[(99 : UInt8)]) false false).cmd
                                                        false false)]
                                                     (10 : Int) ((1 : Int) + (1 : Int) + (1 : Int))),
                                                    Ent.mk (Loc.blk b_1)
                                                     (SObj.cells
                                                      [SV.int IntKind.i64 (2 : Int), SV.int IntKind.i64 (1 : Int),
                                                       SV.str
                                                        (PR.mk (2 : Int) (1 : Int) (ByteArray.mk #[(103 : UInt8)]) false (0 : Int)
                                                         (ByteArray.mk #[(99 : UInt8)]) false false).group,
                                                       SV.bool false, SV.int IntKind.i64 (0 : Int),
                                                       SV.str
                                                        (PR.mk (2 : Int) (1 : Int) (ByteArray.mk #[(103 : UInt8)]) false (0 : Int)
                                                         (ByteArray.mk #[(99 : UInt8)]) false false).cmd]
                                                      45)]
                                                   (SV.bool true)
                                 | false =>
                                  N
                                   [pkA b ptE
                                    (PT.mk bm
                                     ([(bp, PR.mk (1 : Int) (0 : Int) (ByteArray.mk #[]) false (0 : Int) (ByteArray.mk #[]) false false)] ++
                                      [(nb,
                                       PR.mk ((1 : Int) + (1 : Int)) (1 : Int) (ByteArray.mk #[(103 : UInt8)]) false (0 : Int)
                                        (ByteArray.mk #[(99 : UInt8)]) false false)] ++
                                      [(nb_1,
                                       PR.mk ((1 : Int) + (1 : Int) + (1 : Int)) (2 : Int) (ByteArray.mk #[(103 : UInt8)]) false (0 : Int)
                                        (ByteArray.mk #[(99 : UInt8)]) false false)])
                                     (10 : Int) ((1 : Int) + (1 : Int) + (1 : Int))),
                                    Ent.mk (Loc.blk b_1)
                                     (SObj.cells
                                      [SV.int IntKind.i64 (2 : Int), SV.int IntKind.i64 (1 : Int),
                                       SV.str
                                        (PR.mk (2 : Int) (1 : Int) (ByteArray.mk #[(103 : UInt8)]) false (0 : Int) (ByteArray.mk #[(99 : UInt8)]) false
                                         false).group,
                                       SV.bool false, SV.int IntKind.i64 (0 : Int),
                                       SV.str
                                        (PR.mk (2 : Int) (1 : Int) (ByteArray.mk #[(103 : UInt8)]) false (0 : Int) (ByteArray.mk #[(99 : UInt8)]) false
                                         false).cmd]
                                      45)]
                                   (SV.bool false)
                                | false =>
                                 N
                                  [pkA b ptE
                                   (PT.mk bm
                                    ([(bp, PR.mk (1 : Int) (0 : Int) (ByteArray.mk #[]) false (0 : Int) (ByteArray.mk #[]) false false)] ++
                                     [(nb,
                                      PR.mk ((1 : Int) + (1 : Int)) (1 : Int) (ByteArray.mk #[(103 : UInt8)]) false (0 : Int) (ByteArray.mk #[(99 : UInt8)])
                                       false false)] ++
                                     [(nb_1,
                                      PR.mk ((1 : Int) + (1 : Int) + (1 : Int)) (2 : Int) (ByteArray.mk #[(103 : UInt8)]) false (0 : Int)
                                       (ByteArray.mk #[(99 : UInt8)]) false false)])
                                    (10 : Int) ((1 : Int) + (1 : Int) + (1 : Int))),
                                   Ent.mk (Loc.blk b_1)
                                    (SObj.cells
                                     [SV.int IntKind.i64 (2 : Int), SV.int IntKind.i64 (1 : Int),
                                      SV.str
                                       (PR.mk (2 : Int) (1 : Int) (ByteArray.mk #[(103 : UInt8)]) false (0 : Int) (ByteArray.mk #[(99 : UInt8)]) false
                                        false).group,
                                      SV.bool false, SV.int IntKind.i64 (0 : Int),
                                      SV.str
                                       (PR.mk (2 : Int) (1 : Int) (ByteArray.mk #[(103 : UInt8)]) false (0 : Int) (ByteArray.mk #[(99 : UInt8)]) false
                                        false).cmd]
                                     45)]
                                  (SV.bool false)
                               | false =>
                                N
                                 [pkA b ptE
                                  (PT.mk bm
                                   ([(bp, PR.mk (1 : Int) (0 : Int) (ByteArray.mk #[]) false (0 : Int) (ByteArray.mk #[]) false false)] ++
                                    [(nb,
                                     PR.mk ((1 : Int) + (1 : Int)) (1 : Int) (ByteArray.mk #[(103 : UInt8)]) false (0 : Int) (ByteArray.mk #[(99 : UInt8)])
                                      false false)] ++
                                    [(nb_1,
                                     PR.mk ((1 : Int) + (1 : Int) + (1 : Int)) (2 : Int) (ByteArray.mk #[(103 : UInt8)]) false (0 : Int)
                                      (ByteArray.mk #[(99 : UInt8)]) false false)])
                                   (10 : Int) ((1 : Int) + (1 : Int) + (1 : Int))),
                                  Ent.mk (Loc.blk b_1)
                                   (SObj.cells
                                    [SV.int IntKind.i64 (2 : Int), SV.int IntKind.i64 (1 : Int),
                                     SV.str
                                      (PR.mk (2 : Int) (1 : Int) (ByteArray.mk #[(103 : UInt8)]) false (0 : Int) (ByteArray.mk #[(99 : UInt8)]) false
                                       false).group,
                                     SV.bool false, SV.int IntKind.i64 (0 : Int),
                                     SV.str
                                      (PR.mk (2 : Int) (1 : Int) (ByteArray.mk #[(103 : UInt8)]) false (0 : Int) (ByteArray.mk #[(99 : UInt8)]) false false).cmd]
                                    45)]
                                 (SV.bool false)
           | false =>
            true = true ∧
             b = b ∧
              ∃ (h : PT = PT),
               AdtIs (fun (s : PT) (b : Nat) ↦ packs (ptE s b)) ptE ∧
                pOk
                 (PT.mk bm
                  ([(bp, PR.mk (1 : Int) (0 : Int) (ByteArray.mk #[]) false (0 : Int) (ByteArray.mk #[]) false false)] ++
                   [(nb, PR.mk ((1 : Int) + (1 : Int)) (1 : Int) (ByteArray.mk #[(103 : UInt8)]) false (0 : Int) (ByteArray.mk #[(99 : UInt8)]) false false)])
                  (10 : Int) ((1 : Int) + (1 : Int))) ∧
                 true = true ∧
                  b = b ∧
                   ∃ (h : PT = PT),
                    AdtIs (fun (s : PT) (b : Nat) ↦ packs (ptE s b)) ptE ∧
                     pOk
                      (PT.mk bm
                       ([(bp, PR.mk (1 : Int) (0 : Int) (ByteArray.mk #[]) false (0 : Int) (ByteArray.mk #[]) false false)] ++
                        [(nb, PR.mk ((1 : Int) + (1 : Int)) (1 : Int) (ByteArray.mk #[(103 : UInt8)]) false (0 : Int) (ByteArray.mk #[(99 : UInt8)]) false false)])
                       (10 : Int) ((1 : Int) + (1 : Int))) ∧
                      ∀ (nb_1 : Nat),
                       true = true ∧
                        b = b ∧
                         ∃ (h : PT = PT),
                          AdtIs (fun (s : PT) (b : Nat) ↦ packs (ptE s b)) ptE ∧
                           pOk
                            (PT.mk bm
                             ([(bp, PR.mk (1 : Int) (0 : Int) (ByteArray.mk #[]) false (0 : Int) (ByteArray.mk #[]) false false)] ++
                              [(nb,
                               PR.mk ((1 : Int) + (1 : Int)) (1 : Int) (ByteArray.mk #[(103 : UInt8)]) false (0 : Int) (ByteArray.mk #[(99 : UInt8)]) false
                                false)] ++
                              [(nb_1,
                               PR.mk ((1 : Int) + (1 : Int) + (1 : Int)) (2 : Int) (ByteArray.mk #[(103 : UInt8)]) false (0 : Int) (ByteArray.mk #[(99 : UInt8)])
                                false false)])
                             (10 : Int) ((1 : Int) + (1 : Int) + (1 : Int))) ∧
                            ∀ (b_1 : Nat),
                             (b_1 = b_1 ∧ true = true ∧ 6 = 6 ∧ 6 ≤ 6) ∧
                              match false == term with
                              | true =>
                               match false == kill with
                               | true =>
                                match true == !kill with
                                | true =>
                                 b_1 = b_1 ∧
                                  true = true ∧
                                   b = b ∧
                                    ∃ (h : PT = PT),
                                     AdtIs (fun (s : PT) (b : Nat) ↦ packs (ptE s b)) ptE ∧
                                      pOk
                                       (PT.mk bm
                                        ([(bp, PR.mk (1 : Int) (0 : Int) (ByteArray.mk #[]) false (0 : Int) (ByteArray.mk #[]) false false)] ++
                                         [(nb,
                                          PR.mk ((1 : Int) + (1 : Int)) (1 : Int) (ByteArray.mk #[(103 : UInt8)]) false (0 : Int)
                                           (ByteArray.mk #[(99 : UInt8)]) false false)] ++
                                         [(nb_1,
                                          PR.mk ((1 : Int) + (1 : Int) + (1 : Int)) (2 : Int) (ByteArray.mk #[(103 : UInt8)]) false (0 : Int)
                                           (ByteArray.mk #[(99 : UInt8)]) false false)])
                                        (10 : Int) ((1 : Int) + (1 : Int) + (1 : Int))) ∧
                                       true = true ∧
                                        b = b ∧
                                         ∃ (h : PT = PT),
                                          AdtIs (fun (s : PT) (b : Nat) ↦ packs (ptE s b)) ptE ∧
                                           pOk
                                            (PT.mk bm
                                             ([(bp, PR.mk (1 : Int) (0 : Int) (ByteArray.mk #[]) false (0 : Int) (ByteArray.mk #[]) false false)] ++
                                              [(nb,
                                               PR.mk ((1 : Int) + (1 : Int)) (1 : Int) (ByteArray.mk #[(103 : UInt8)]) false (0 : Int)
                                                (ByteArray.mk #[(99 : UInt8)]) false false)] ++
                                              [(nb_1,
                                               PR.mk ((1 : Int) + (1 : Int) + (1 : Int)) (2 : Int) (ByteArray.mk #[(103 : UInt8)]) false (0 : Int)
                                                (ByteArray.mk #[(99 : UInt8)]) false false)])
                                             (10 : Int) ((1 : Int) + (1 : Int) + (1 : Int))) ∧
                                            true = true ∧
                                             b = b ∧
                                              ∃ (h : PT = PT),
                                               AdtIs (fun (s : PT) (b : Nat) ↦ packs (ptE s b)) ptE ∧
                                                pOk
                                                 (PT.mk bm
                                                  [(bp,
                                                   PR.mk (1 : Int) (0 : Int) (ByteArray.mk #[]) false (0 : Int) (ByteArray.mk #[]) false false),
                                                   (nb,
                                                    PR.mk (2 : Int) (1 : Int) (ByteArray.mk #[(103 : UInt8)]) true (-9 : Int)
                                                     (ByteArray.mk #[(99 : UInt8)]) false false),
                                                   (nb_1,
                                                    PR.mk (3 : Int) (1 : Int)
                                                     (PR.mk ((1 : Int) + (1 : Int) + (1 : Int)) (2 : Int) (ByteArray.mk #[(103 : UInt8)]) false
                                                      (0 : Int) (ByteArray.mk #[(99 : UInt8)]) false false).group
                                                     false (0 : Int)
                                                     (PR.mk ((1 : Int) + (1 : Int) + (1 : Int)) (2 : Int) (ByteArray.mk #[(103 : UInt8)]) false
                                                      (0 : Int) (ByteArray.mk #[(99 : UInt8)]) false false).cmd
                                                     false false)]
                                                  (10 : Int) ((1 : Int) + (1 : Int) + (1 : Int))) ∧
                                                 N
                                                  [pkA b ptE
                                                   (PT.mk bm
                                                    [(bp,
                                                     PR.mk (1 : Int) (0 : Int) (ByteArray.mk #[]) false (0 : Int) (ByteArray.mk #[]) false
                                                      false),
                                                     (nb,
                                                      PR.mk (2 : Int) (1 : Int) (ByteArray.mk #[(103 : UInt8)]) true (-9 : Int)
                                                       (ByteArray.mk #[(99 : UInt8)]) false false),
                                                     (nb_1,
                                                      PR.mk (3 : Int) (1 : Int)
                                                       (PR.mk ((1 : Int) + (1 : Int) + (1 : Int)) (2 : Int) (ByteArray.mk #[(103 : UInt8)])
                                                        false (0 : Int) (ByteArray.mk #[(99 : UInt8)]) false false).group
                                                       false (0 : Int)
                                                       (PR.mk ((1 : Int) + (1 : Int) + (1 : Int)) (2 : Int) (ByteArray.mk #[(103 : UInt8)])
                                                        false (0 : Int) (ByteArray.mk #[(99 : UInt8)]) false false).cmd
                                                       false false)]
                                                    (10 : Int) ((1 : Int) + (1 : Int) + (1 : Int))),
                                                   Ent.mk (Loc.blk b_1)
                                                    (SObj.cells
                                                     [SV.int IntKind.i64 (2 : Int), SV.int IntKind.i64 (1 : Int),
                                                      SV.str
                                                       (PR.mk (2 : Int) (1 : Int) (ByteArray.mk #[(103 : UInt8)]) false (0 : Int)
                                                        (ByteArray.mk #[(99 : UInt8)]) false false).group,
                                                      SV.bool false, SV.int IntKind.i64 (0 : Int),
                                                      SV.str
                                                       (PR.mk (2 : Int) (1 : Int) (ByteArray.mk #[(103 : UInt8)]) false (0 : Int)
                                                        (ByteArray.mk #[(99 : UInt8)]) false false).cmd]
                                                     45)]
                                                  (SV.bool true)
                                | false =>
                                 N
                                  [pkA b ptE
                                   (PT.mk bm
                                    ([(bp, PR.mk (1 : Int) (0 : Int) (ByteArray.mk #[]) false (0 : Int) (ByteArray.mk #[]) false false)] ++
                                     [(nb,
                                      PR.mk ((1 : Int) + (1 : Int)) (1 : Int) (ByteArray.mk #[(103 : UInt8)]) false (0 : Int) (ByteArray.mk #[(99 : UInt8)])
                                       false false)] ++
                                     [(nb_1,
                                      PR.mk ((1 : Int) + (1 : Int) + (1 : Int)) (2 : Int) (ByteArray.mk #[(103 : UInt8)]) false (0 : Int)
                                       (ByteArray.mk #[(99 : UInt8)]) false false)])
                                    (10 : Int) ((1 : Int) + (1 : Int) + (1 : Int))),
                                   Ent.mk (Loc.blk b_1)
                                    (SObj.cells
                                     [SV.int IntKind.i64 (2 : Int), SV.int IntKind.i64 (1 : Int),
                                      SV.str
                                       (PR.mk (2 : Int) (1 : Int) (ByteArray.mk #[(103 : UInt8)]) false (0 : Int) (ByteArray.mk #[(99 : UInt8)]) false
                                        false).group,
                                      SV.bool false, SV.int IntKind.i64 (0 : Int),
                                      SV.str
                                       (PR.mk (2 : Int) (1 : Int) (ByteArray.mk #[(103 : UInt8)]) false (0 : Int) (ByteArray.mk #[(99 : UInt8)]) false
                                        false).cmd]
                                     45)]
                                  (SV.bool false)
                               | false =>
                                N
                                 [pkA b ptE
                                  (PT.mk bm
                                   ([(bp, PR.mk (1 : Int) (0 : Int) (ByteArray.mk #[]) false (0 : Int) (ByteArray.mk #[]) false false)] ++
                                    [(nb,
                                     PR.mk ((1 : Int) + (1 : Int)) (1 : Int) (ByteArray.mk #[(103 : UInt8)]) false (0 : Int) (ByteArray.mk #[(99 : UInt8)])
                                      false false)] ++
                                    [(nb_1,
                                     PR.mk ((1 : Int) + (1 : Int) + (1 : Int)) (2 : Int) (ByteArray.mk #[(103 : UInt8)]) false (0 : Int)
                                      (ByteArray.mk #[(99 : UInt8)]) false false)])
                                   (10 : Int) ((1 : Int) + (1 : Int) + (1 : Int))),
                                  Ent.mk (Loc.blk b_1)
                                   (SObj.cells
                                    [SV.int IntKind.i64 (2 : Int), SV.int IntKind.i64 (1 : Int),
                                     SV.str
                                      (PR.mk (2 : Int) (1 : Int) (ByteArray.mk #[(103 : UInt8)]) false (0 : Int) (ByteArray.mk #[(99 : UInt8)]) false
                                       false).group,
                                     SV.bool false, SV.int IntKind.i64 (0 : Int),
                                     SV.str
                                      (PR.mk (2 : Int) (1 : Int) (ByteArray.mk #[(103 : UInt8)]) false (0 : Int) (ByteArray.mk #[(99 : UInt8)]) false false).cmd]
                                    45)]
                                 (SV.bool false)
                              | false =>
                               N
                                [pkA b ptE
                                 (PT.mk bm
                                  ([(bp, PR.mk (1 : Int) (0 : Int) (ByteArray.mk #[]) false (0 : Int) (ByteArray.mk #[]) false false)] ++
                                   [(nb,
                                    PR.mk ((1 : Int) + (1 : Int)) (1 : Int) (ByteArray.mk #[(103 : UInt8)]) false (0 : Int) (ByteArray.mk #[(99 : UInt8)])
                                     false false)] ++
                                   [(nb_1,
                                    PR.mk ((1 : Int) + (1 : Int) + (1 : Int)) (2 : Int) (ByteArray.mk #[(103 : UInt8)]) false (0 : Int)
                                     (ByteArray.mk #[(99 : UInt8)]) false false)])
                                  (10 : Int) ((1 : Int) + (1 : Int) + (1 : Int))),
                                 Ent.mk (Loc.blk b_1)
                                  (SObj.cells
                                   [SV.int IntKind.i64 (2 : Int), SV.int IntKind.i64 (1 : Int),
                                    SV.str
                                     (PR.mk (2 : Int) (1 : Int) (ByteArray.mk #[(103 : UInt8)]) false (0 : Int) (ByteArray.mk #[(99 : UInt8)]) false false).group,
                                    SV.bool false, SV.int IntKind.i64 (0 : Int),
                                    SV.str
                                     (PR.mk (2 : Int) (1 : Int) (ByteArray.mk #[(103 : UInt8)]) false (0 : Int) (ByteArray.mk #[(99 : UInt8)]) false false).cmd]
                                   45)]
                                (SV.bool false)) := by kernel_rfl
end Go.Proofs.Ytihajdkipkfiiaa
