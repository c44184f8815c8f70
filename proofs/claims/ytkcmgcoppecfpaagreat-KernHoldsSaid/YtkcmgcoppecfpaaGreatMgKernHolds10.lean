import Derived.Test.YtkcmgcoppecfpaaGreatMgKernHolds9
import Derived.Test.YtkcmgcoppecfpaaGreatMgKernHolds6
/- YtkcmgcoppecfpaaGreatKl0Run -/
namespace Go.Proofs.YtkcmgcoppecfpaaGreat
set_option linter.unusedVariables false
open Go Go.RowKit
set_option maxHeartbeats 0
set_option maxRecDepth 100000
set_option linter.unusedVariables false
set_option allowUnsafeReducibility true
set_option maxRecDepth 100000

theorem known12 (K : List Frm → Sy → Prop) (N : List Ent → SV → Prop) : (run Tryz.prog knT false [] K (retP Tryz.prog Tryz.f5.results.toList N) 4000 [.code (bodyOf Tryz.f5)] ⟨padTo 83 [], []⟩) = (
true = true ∧
 true = true ∧
  ∀ (b bm bp : Nat),
   true = true ∧
    ∀ (b_1 bg bo : Nat),
     true = true ∧
      ∀ (v : Option Addr),
       true = true ∧
        ∀ (v_1 : Option Addr),
         (true = true ∧ true = true) ∧
          true = true ∧
           ∀ (b_2 : Nat),
            true = true ∧
             b_2 = b_2 ∧
              true = true ∧
               b_1 = b_1 ∧
                ∃ (h : Grp = Grp),
                 AdtIs (fun (s : Grp) (b : Nat) ↦ packs (grpE s b)) grpE ∧
                  ∀ (nb : Nat),
                   true = true ∧
                    true = true ∧
                     (b_2 = b_2 ∧ 96 = (96 : TypeId) ∧ false = false) ∧
                      b_1 = b_1 ∧
                       ∃ (h : Grp = Grp),
                        AdtIs (fun (s : Grp) (b : Nat) ↦ packs (grpE s b)) grpE ∧
                         gsOk (cast h (Grp.mk bg bo (@none Addr) 0 [(Key.s (ByteArray.mk #[(97 : UInt8)]), nb, [])] [] [])) ∧
                          b_2 = b_2 ∧
                           true = true ∧
                            b = b ∧
                             ∃ (h : PT = PT),
                              AdtIs (fun (s : PT) (b : Nat) ↦ packs (ptE s b)) ptE ∧
                               pOk (PT.mk bm [(bp, PR.mk (1 : Int) (0 : Int) (ByteArray.mk #[]) false (0 : Int) (ByteArray.mk #[]) false false)] (10 : Int) (1 : Int)) ∧
                                ∀ (nb_1 : Nat),
                                 true = true ∧
                                  b_2 = b_2 ∧
                                   true = true ∧
                                    b_1 = b_1 ∧
                                     ∃ (h : Grp = Grp),
                                      AdtIs (fun (s : Grp) (b : Nat) ↦ packs (grpE s b)) grpE ∧
                                       (gOk (Grp.mk bg bo (@none Addr) 0 [(Key.s (ByteArray.mk #[(97 : UInt8)]), nb, [])] [] []) (2 : Int) ∧
                                        keysOk (Grp.mk bg bo (@none Addr) 0 [(Key.s (ByteArray.mk #[(97 : UInt8)]), nb, [])] [] []).gs) ∧
                                        ∀ (ao : Option Addr) (cap : Nat),
                                         true = true ∧
                                          b_2 = b_2 ∧
                                           true = true ∧
                                            b_1 = b_1 ∧
                                             ∃ (h : Grp = Grp),
                                              AdtIs (fun (s : Grp) (b : Nat) ↦ packs (grpE s b)) grpE ∧
                                               b_2 = b_2 ∧
                                                true = true ∧
                                                 b = b ∧
                                                  ∃ (h : PT = PT),
                                                   AdtIs (fun (s : PT) (b : Nat) ↦ packs (ptE s b)) ptE ∧
                                                    pOk
                                                     (PT.mk bm
                                                      ([(bp,
                                                       PR.mk (1 : Int) (0 : Int) (ByteArray.mk #[]) false (0 : Int) (ByteArray.mk #[])
                                                        false false)] ++
                                                       [(nb_1,
                                                        PR.mk ((1 : Int) + (1 : Int)) (1 : Int) (ByteArray.mk #[(97 : UInt8)]) false
                                                         (0 : Int) (ByteArray.mk #[(120 : UInt8)]) false false)])
                                                      (10 : Int) ((1 : Int) + (1 : Int))) ∧
                                                     ∀ (nb_2 : Nat),
                                                      true = true ∧
                                                       b_2 = b_2 ∧
                                                        true = true ∧
                                                         b_1 = b_1 ∧
                                                          ∃ (h : Grp = Grp),
                                                           AdtIs (fun (s : Grp) (b : Nat) ↦ packs (grpE s b)) grpE ∧
                                                            (gOk
                                                             (Grp.mk bg bo (@none Addr) 0
                                                              [(Key.s (ByteArray.mk #[(97 : UInt8)]), nb,
                                                               [(Key.i IntKind.i64 (2 : Int), PUnit.unit)])]
                                                              [(Key.i IntKind.i64 (2 : Int), ByteArray.mk #[(97 : UInt8)])] [])
                                                             (3 : Int) ∧
                                                             keysOk
                                                              (Grp.mk bg bo (@none Addr) 0
                                                               [(Key.s (ByteArray.mk #[(97 : UInt8)]), nb,
                                                                [(Key.i IntKind.i64 (2 : Int), PUnit.unit)])]
                                                               [(Key.i IntKind.i64 (2 : Int), ByteArray.mk #[(97 : UInt8)])]
                                                               []).gs) ∧
                                                             ∀ (ao : Option Addr) (cap : Nat),
                                                              true = true ∧
                                                               (b_2 = b_2 ∧ 96 = (96 : TypeId) ∧ true = true) ∧
                                                                (b = b ∧ b_1 = b_1) ∧
                                                                 ∃ (h1 : PT = PT),
                                                                  ∃ (h2 : Grp = Grp),
                                                                   AdtIs (fun (s : PT) (b : Nat) ↦ packs (ptE s b)) ptE ∧
                                                                    AdtIs (fun (s : Grp) (b : Nat) ↦ packs (grpE s b)) grpE ∧
                                                                     (pOk
                                                                      (cast h1
                                                                       (PT.mk bm
                                                                        ([(bp,
                                                                         PR.mk (1 : Int) (0 : Int) (ByteArray.mk #[])
                                                                          false (0 : Int) (ByteArray.mk #[]) false
                                                                          false)] ++
                                                                         [(nb_1,
                                                                          PR.mk ((1 : Int) + (1 : Int)) (1 : Int)
                                                                           (ByteArray.mk #[(97 : UInt8)]) false
                                                                           (0 : Int) (ByteArray.mk #[(120 : UInt8)])
                                                                           false false)] ++
                                                                         [(nb_2,
                                                                          PR.mk ((1 : Int) + (1 : Int) + (1 : Int))
                                                                           (2 : Int) (ByteArray.mk #[(97 : UInt8)])
                                                                           false (0 : Int)
                                                                           (ByteArray.mk #[(120 : UInt8)]) false
                                                                           false)])
                                                                        (10 : Int) ((1 : Int) + (1 : Int) + (1 : Int)))) ∧
                                                                      gsOk
                                                                       (cast h2
                                                                        (Grp.mk bg bo (@none Addr) 0
                                                                         [(Key.s
                                                                          (Option.getD
                                                                           (some (ByteArray.mk #[(97 : UInt8)]))
                                                                           (ByteArray.mk #[])),
                                                                          nb,
                                                                          [(Key.i IntKind.i64 (2 : Int), PUnit.unit),
                                                                           (Key.i IntKind.i64 (3 : Int), PUnit.unit)])]
                                                                         [(Key.i IntKind.i64 (2 : Int),
                                                                          ByteArray.mk #[(97 : UInt8)]),
                                                                          (Key.i IntKind.i64 (3 : Int),
                                                                           Option.getD
                                                                            (some (ByteArray.mk #[(97 : UInt8)]))
                                                                            (ByteArray.mk #[]))]
                                                                         []))) ∧
                                                                      true = true ∧
                                                                       b_2 = b_2 ∧
                                                                        true = true ∧
                                                                         b = b ∧
                                                                          ∃ (h : PT = PT),
                                                                           AdtIs (fun (s : PT) (b : Nat) ↦ packs (ptE s b))
                                                                            ptE ∧
                                                                            pOk
                                                                             (PT.mk bm
                                                                              [(bp,
                                                                               PR.mk (1 : Int) (0 : Int)
                                                                                (ByteArray.mk #[]) false (0 : Int)
                                                                                (ByteArray.mk #[]) false false),
                                                                               (nb_1,
                                                                                PR.mk ((1 : Int) + (1 : Int))
                                                                                 (1 : Int)
                                                                                 (ByteArray.mk #[(97 : UInt8)]) false
                                                                                 (0 : Int)
                                                                                 (ByteArray.mk #[(120 : UInt8)])
                                                                                 false true),
                                                                               (nb_2,
                                                                                PR.mk
                                                                                 ((1 : Int) + (1 : Int) + (1 : Int))
                                                                                 (2 : Int)
                                                                                 (ByteArray.mk #[(97 : UInt8)]) false
                                                                                 (0 : Int)
                                                                                 (ByteArray.mk #[(120 : UInt8)])
                                                                                 false true)]
                                                                              (10 : Int)
                                                                              ((1 : Int) + (1 : Int) + (1 : Int))) ∧
                                                                             true = true ∧
                                                                              b_2 = b_2 ∧
                                                                               true = true ∧
                                                                                b = b ∧
                                                                                 ∃ (h : PT = PT),
                                                                                  AdtIs
                                                                                   (fun (s : PT) (b : Nat) ↦
                                                                                    packs (ptE s b))
                                                                                   ptE ∧
                                                                                   pOk
                                                                                    (PT.mk bm
                                                                                     [(bp,
                                                                                      PR.mk (1 : Int)
                                                                                       (0 : Int)
                                                                                       (ByteArray.mk #[])
                                                                                       false (0 : Int)
                                                                                       (ByteArray.mk #[])
                                                                                       false false),
                                                                                      (nb_1,
                                                                                       PR.mk
                                                                                        ((1 : Int) +
                                                                                         (1 : Int))
                                                                                        (1 : Int)
                                                                                        (ByteArray.mk
                                                                                         #[(97 : UInt8)])
                                                                                        false (0 : Int)
                                                                                        (ByteArray.mk
                                                                                         #[(120 : UInt8)])
                                                                                        false true),
                                                                                      (nb_2,
                                                                                       PR.mk
                                                                                        ((1 : Int) +
                                                                                         (1 : Int) +
                                                                                         (1 : Int))
                                                                                        (2 : Int)
                                                                                        (ByteArray.mk
                                                                                         #[(97 : UInt8)])
                                                                                        false (0 : Int)
                                                                                        (ByteArray.mk
                                                                                         #[(120 : UInt8)])
                                                                                        false true)]
                                                                                     (10 : Int)
                                                                                     ((1 : Int) + (1 : Int) +
                                                                                      (1 : Int))) ∧
                                                                                    b_2 = b_2 ∧
                                                                                     true = true ∧
                                                                                      b_1 = b_1 ∧
                                                                                       ∃ (h : Grp = Grp),
                                                                                        AdtIs
                                                                                         (fun (s : Grp)
                                                                                          (b : Nat) ↦
                                                                                          packs (grpE s b))
                                                                                         grpE ∧
                                                                                         gOk
                                                                                          (Grp.mk bg bo
                                                                                           (@none Addr)
                                                                                           0
                                                                                           [(Key.s
                                                                                            (Option.getD
                                                                                             (some
                                                                                              (ByteArray.mk
                                                                                               #[(97 :
                                                                                                UInt8)]))
                                                                                             (ByteArray.mk
                                                                                              #[])),
                                                                                            nb,
                                                                                            [(Key.i
                                                                                             IntKind.i64
                                                                                             (2 :
                                                                                              Int),
                                                                                             PUnit.unit),
                                                                                             (Key.i
                                                                                              IntKind.i64
                                                                                              (3 :
                                                                                               Int),
                                                                                              PUnit.unit)])]
                                                                                           [(Key.i
                                                                                            IntKind.i64
                                                                                            (2 : Int),
                                                                                            ByteArray.mk
                                                                                             #[(97 :
                                                                                              UInt8)]),
                                                                                            (Key.i
                                                                                             IntKind.i64
                                                                                             (3 : Int),
                                                                                             Option.getD
                                                                                              (some
                                                                                               (ByteArray.mk
                                                                                                #[(97 :
                                                                                                 UInt8)]))
                                                                                              (ByteArray.mk
                                                                                               #[]))]
                                                                                           [])
                                                                                          (2 : Int) ∧
                                                                                          ∀ (ao : Option Addr)
                                                                                           (cap : Nat),
                                                                                           true = true ∧
                                                                                            b_2 = b_2 ∧
                                                                                             true = true ∧
                                                                                              b = b ∧
                                                                                               ∃ (h :
                                                                                                PT =
                                                                                                 PT),
                                                                                                AdtIs
                                                                                                 (fun
                                                                                                  (s :
                                                                                                   PT)
                                                                                                  (b :
                                                                                                   Nat) ↦
                                                                                                  packs
                                                                                                   (ptE
                                                                                                    s
                                                                                                    b))
                                                                                                 ptE ∧
                                                                                                 pOk
                                                                                                  (PT.mk
                                                                                                   bm
                                                                                                   [(bp,
                                                                                                    PR.mk
                                                                                                     (1 :
                                                                                                      Int)
                                                                                                     (0 :
                                                                                                      Int)
                                                                                                     (ByteArray.mk
                                                                                                      #[])
                                                                                                     false
                                                                                                     (0 :
                                                                                                      Int)
                                                                                                     (ByteArray.mk
                                                                                                      #[])
                                                                                                     false
                                                                                                     false),
                                                                                                    (nb_1,
                                                                                                     PR.mk
                                                                                                      (2 :
                                                                                                       Int)
                                                                                                      (1 :
                                                                                                       Int)
                                                                                                      (ByteArray.mk
                                                                                                       #[(97 :
                                                                                                        UInt8)])
                                                                                                      true
                                                                                                      (-9 :
                                                                                                       Int)
                                                                                                      (ByteArray.mk
                                                                                                       #[(120 :
                                                                                                        UInt8)])
                                                                                                      false
                                                                                                      true),
                                                                                                    (nb_2,
                                                                                                     PR.mk
                                                                                                      (3 :
                                                                                                       Int)
                                                                                                      (1 :
                                                                                                       Int)
                                                                                                      (PR.mk
                                                                                                       ((1 :
                                                                                                        Int) +
                                                                                                        (1 :
                                                                                                         Int) +
                                                                                                        (1 :
                                                                                                         Int))
                                                                                                       (2 :
                                                                                                        Int)
                                                                                                       (ByteArray.mk
                                                                                                        #[(97 :
                                                                                                         UInt8)])
                                                                                                       false
                                                                                                       (0 :
                                                                                                        Int)
                                                                                                       (ByteArray.mk
                                                                                                        #[(120 :
                                                                                                         UInt8)])
                                                                                                       false
                                                                                                       true).group
                                                                                                      false
                                                                                                      (0 :
                                                                                                       Int)
                                                                                                      (PR.mk
                                                                                                       ((1 :
                                                                                                        Int) +
                                                                                                        (1 :
                                                                                                         Int) +
                                                                                                        (1 :
                                                                                                         Int))
                                                                                                       (2 :
                                                                                                        Int)
                                                                                                       (ByteArray.mk
                                                                                                        #[(97 :
                                                                                                         UInt8)])
                                                                                                       false
                                                                                                       (0 :
                                                                                                        Int)
                                                                                                       (ByteArray.mk
                                                                                                        #[(120 :
                                                                                                         UInt8)])
                                                                                                       false
                                                                                                       true).cmd
                                                                                                      false
                                                                                                      true)]
                                                                                                   (10 :
                                                                                                    Int)
                                                                                                   ((1 :
                                                                                                    Int) +
                                                                                                    (1 :
                                                                                                     Int) +
                                                                                                    (1 :
                                                                                                     Int))) ∧
                                                                                                  true =
                                                                                                   true ∧
                                                                                                   b_2 =
                                                                                                    b_2 ∧
                                                                                                    true =
                                                                                                     true ∧
                                                                                                     b =
                                                                                                      b ∧
                                                                                                      ∃
                                                                                                       (h
                                                                                                       :
                                                                                                       PT =
                                                                                                        PT),
                                                                                                       AdtIs
                                                                                                        (fun
                                                                                                         (s :
                                                                                                          PT)
                                                                                                         (b :
                                                                                                          Nat) ↦
                                                                                                         packs
                                                                                                          (ptE
                                                                                                           s
                                                                                                           b))
                                                                                                        ptE ∧
                                                                                                        pOk
                                                                                                         (PT.mk
                                                                                                          bm
                                                                                                          [(bp,
                                                                                                           PR.mk
                                                                                                            (1 :
                                                                                                             Int)
                                                                                                            (0 :
                                                                                                             Int)
                                                                                                            (ByteArray.mk
                                                                                                             #[])
                                                                                                            false
                                                                                                            (0 :
                                                                                                             Int)
                                                                                                            (ByteArray.mk
                                                                                                             #[])
                                                                                                            false
                                                                                                            false),
                                                                                                           (nb_1,
                                                                                                            PR.mk
                                                                                                             (2 :
                                                                                                              Int)
                                                                                                             (1 :
                                                                                                              Int)
                                                                                                             (ByteArray.mk
                                                                                                              #[(97 :
                                                                                                               UInt8)])
                                                                                                             true
                                                                                                             (-9 :
                                                                                                              Int)
                                                                                                             (ByteArray.mk
                                                                                                              #[(120 :
                                                                                                               UInt8)])
                                                                                                             false
                                                                                                             true),
                                                                                                           (nb_2,
                                                                                                            PR.mk
                                                                                                             (3 :
                                                                                                              Int)
                                                                                                             (1 :
                                                                                                              Int)
                                                                                                             (PR.mk
                                                                                                              ((1 :
                                                                                                               Int) +
                                                                                                               (1 :
                                                                                                                Int) +
                                                                                                               (1 :
                                                                                                                Int))
                                                                                                              (2 :
                                                                                                               Int)
                                                                                                              (ByteArray.mk
                                                                                                               #[(97 :
                                                                                                                UInt8)])
                                                                                                              false
                                                                                                              (0 :
                                                                                                               Int)
                                                                                                              (ByteArray.mk
                                                                                                               #[(120 :
                                                                                                                UInt8)])
                                                                                                              false
                                                                                                              true).group
                                                                                                             false
                                                                                                             (0 :
                                                                                                              Int)
                                                                                                             (PR.mk
                                                                                                              ((1 :
                                                                                                               Int) +
                                                                                                               (1 :
                                                                                                                Int) +
                                                                                                               (1 :
                                                                                                                Int))
                                                                                                              (2 :
                                                                                                               Int)
                                                                                                              (ByteArray.mk
                                                                                                               #[(97 :
                                                                                                                UInt8)])
                                                                                                              false
                                                                                                              (0 :
                                                                                                               Int)
                                                                                                              (ByteArray.mk
                                                                                                               #[(120 :
                                                                                                                UInt8)])
                                                                                                              false
                                                                                                              true).cmd
                                                                                                             false
                                                                                                             true)]
                                                                                                          (10 :
                                                                                                           Int)
                                                                                                          ((1 :
                                                                                                           Int) +
                                                                                                           (1 :
                                                                                                            Int) +
                                                                                                           (1 :
                                                                                                            Int))) ∧
                                                                                                         b_2 =
                                                                                                          b_2 ∧
                                                                                                          true =
                                                                                                           true ∧
                                                                                                           b_1 =
                                                                                                            b_1 ∧
                                                                                                            ∃
                                                                                                             (h
                                                                                                             :
                                                                                                             Grp =
                                                                                                              Grp),
                                                                                                             AdtIs
                                                                                                              (fun
                                                                                                               (s :
                                                                                                                Grp)
                                                                                                               (b :
                                                                                                                Nat) ↦
                                                                                                               packs
                                                                                                                (grpE
                                                                                                                 s
                                                                                                                 b))
                                                                                                              grpE ∧
                                                                                                              gOk
                                                                                                               (Grp.mk
                                                                                                                bg
                                                                                                                bo
                                                                                                                (@none
                                                                                                                 Addr)
                                                                                                                (0 :
                                                                                                                 Nat)
                                                                                                                [(Key.s
                                                                                                                 (ByteArray.mk
                                                                                                                  #[(97 :
                                                                                                                   UInt8)]),
                                                                                                                 nb,
                                                                                                                 [(Key.i
                                                                                                                  IntKind.i64
                                                                                                                  (3 :
                                                                                                                   Int),
                                                                                                                  PUnit.unit)])]
                                                                                                                [(Key.i
                                                                                                                 IntKind.i64
                                                                                                                 (3 :
                                                                                                                  Int),
                                                                                                                 Option.getD
                                                                                                                  (some
                                                                                                                   (ByteArray.mk
                                                                                                                    #[(97 :
                                                                                                                     UInt8)]))
                                                                                                                  (ByteArray.mk
                                                                                                                   #[]))]
                                                                                                                [])
                                                                                                               (3 :
                                                                                                                Int) ∧
                                                                                                               ∀
                                                                                                                (ao :
                                                                                                                 Option
                                                                                                                  Addr)
                                                                                                                (cap :
                                                                                                                 Nat),
                                                                                                                true =
                                                                                                                 true ∧
                                                                                                                 b_2 =
                                                                                                                  b_2 ∧
                                                                                                                  true =
                                                                                                                   true ∧
                                                                                                                   b_1 =
                                                                                                                    b_1 ∧
                                                                                                                    ∃
                                                                                                                     (h
                                                                                                                     :
                                                                                                                     Grp =
                                                                                                                      Grp),
                                                                                                                     AdtIs
                                                                                                                      (fun
                                                                                                                       (s :
                                                                                                                        Grp)
                                                                                                                       (b :
                                                                                                                        Nat) ↦
                                                                                                                       packs
                                                                                                                        (grpE
                                                                                                                         s
                                                                                                                         b))
                                                                                                                      grpE ∧
                                                                                                                      ∀
                                                                                                                       (ao :
                                                                                                                        Option
                                                                                                                         Addr)
                                                                                                                       (cap :
                                                                                                                        Nat),
                                                                                                                       true =
                                                                                                                        true ∧
                                                                                                                        (b_2 =
                                                                                                                         b_2 ∧
                                                                                                                         (96 :
                                                                                                                          Nat) =
                                                                                                                          (96 :
                                                                                                                           TypeId)) ∧
                                                                                                                         true =
                                                                                                                          true ∧
                                                                                                                          b_2 =
                                                                                                                           b_2 ∧
                                                                                                                           true =
                                                                                                                            true ∧
                                                                                                                            b_2 =
                                                                                                                             b_2 ∧
                                                                                                                             true =
                                                                                                                              true ∧
                                                                                                                              b_2 =
                                                                                                                               b_2 ∧
                                                                                                                               true =
                                                                                                                                true ∧
                                                                                                                                b =
                                                                                                                                 b ∧
                                                                                                                                 ∃
                                                                                                                                  (h
                                                                                                                                  :
                                                                                                                                  PT =
                                                                                                                                   PT),
                                                                                                                                  AdtIs
                                                                                                                                   (fun
                                                                                                                                    (s :
                                                                                                                                     PT)
                                                                                                                                    (b :
                                                                                                                                     Nat) ↦
                                                                                                                                    packs
                                                                                                                                     (ptE
                                                                                                                                      s
                                                                                                                                      b))
                                                                                                                                   ptE ∧
                                                                                                                                   pOk
                                                                                                                                    (PT.mk
                                                                                                                                     bm
                                                                                                                                     [(bp,
                                                                                                                                      PR.mk
                                                                                                                                       (1 :
                                                                                                                                        Int)
                                                                                                                                       (0 :
                                                                                                                                        Int)
                                                                                                                                       (ByteArray.mk
                                                                                                                                        #[])
                                                                                                                                       false
                                                                                                                                       (0 :
                                                                                                                                        Int)
                                                                                                                                       (ByteArray.mk
                                                                                                                                        #[])
                                                                                                                                       false
                                                                                                                                       false),
                                                                                                                                      (nb_1,
                                                                                                                                       PR.mk
                                                                                                                                        (2 :
                                                                                                                                         Int)
                                                                                                                                        (1 :
                                                                                                                                         Int)
                                                                                                                                        (ByteArray.mk
                                                                                                                                         #[(97 :
                                                                                                                                          UInt8)])
                                                                                                                                        true
                                                                                                                                        (-9 :
                                                                                                                                         Int)
                                                                                                                                        (ByteArray.mk
                                                                                                                                         #[(120 :
                                                                                                                                          UInt8)])
                                                                                                                                        false
                                                                                                                                        true),
                                                                                                                                      (nb_2,
                                                                                                                                       PR.mk
                                                                                                                                        (3 :
                                                                                                                                         Int)
                                                                                                                                        (1 :
                                                                                                                                         Int)
                                                                                                                                        (ByteArray.mk
                                                                                                                                         #[(97 :
                                                                                                                                          UInt8)])
                                                                                                                                        true
                                                                                                                                        (-9 :
                                                                                                                                         Int)
                                                                                                                                        (ByteArray.mk
                                                                                                                                         #[(120 :
                                                                                                                                          UInt8)])
                                                                                                                                        false
                                                                                                                                        true)]
                                                                                                                                     (10 :
                                                                                                                                      Int)
                                                                                                                                     ((1 :
                                                                                                                                      Int) +
                                                                                                                                      (1 :
                                                                                                                                       Int) +
                                                                                                                                      (1 :
                                                                                                                                       Int))) ∧
                                                                                                                                    true =
                                                                                                                                     true ∧
                                                                                                                                     b_2 =
                                                                                                                                      b_2 ∧
                                                                                                                                      true =
                                                                                                                                       true ∧
                                                                                                                                       b =
                                                                                                                                        b ∧
                                                                                                                                        ∃
                                                                                                                                         (h
                                                                                                                                         :
                                                                                                                                         PT =
                                                                                                                                          PT),
                                                                                                                                         AdtIs
                                                                                                                                          (fun
                                                                                                                                           (s :
                                                                                                                                            PT)
                                                                                                                                           (b :
                                                                                                                                            Nat) ↦
                                                                                                                                           packs
                                                                                                                                            (ptE
                                                                                                                                             s
                                                                                                                                             b))
                                                                                                                                          ptE ∧
                                                                                                                                          pOk
                                                                                                                                           (PT.mk
                                                                                                                                            bm
                                                                                                                                            [(bp,
                                                                                                                                             PR.mk
                                                                                                                                              (1 :
                                                                                                                                               Int)
                                                                                                                                              (0 :
                                                                                                                                               Int)
                                                                                                                                              (ByteArray.mk
                                                                                                                                               #[])
                                                                                                                                              false
                                                                                                                                              (0 :
                                                                                                                                               Int)
                                                                                                                                              (ByteArray.mk
                                                                                                                                               #[])
                                                                                                                                              false
                                                                                                                                              false),
                                                                                                                                             (nb_1,
                                                                                                                                              PR.mk
                                                                                                                                               (2 :
                                                                                                                                                Int)
                                                                                                                                               (1 :
                                                                                                                                                Int)
                                                                                                                                               (ByteArray.mk
                                                                                                                                                #[(97 :
                                                                                                                                                 UInt8)])
                                                                                                                                               true
                                                                                                                                               (-9 :
                                                                                                                                                Int)
                                                                                                                                               (ByteArray.mk
                                                                                                                                                #[(120 :
                                                                                                                                                 UInt8)])
                                                                                                                                               false
                                                                                                                                               true),
                                                                                                                                             (nb_2,
                                                                                                                                              PR.mk
                                                                                                                                               (3 :
                                                                                                                                                Int)
                                                                                                                                               (1 :
                                                                                                                                                Int)
                                                                                                                                               (ByteArray.mk
                                                                                                                                                #[(97 :
                                                                                                                                                 UInt8)])
                                                                                                                                               true
                                                                                                                                               (-9 :
                                                                                                                                                Int)
                                                                                                                                               (ByteArray.mk
                                                                                                                                                #[(120 :
                                                                                                                                                 UInt8)])
                                                                                                                                               false
                                                                                                                                               true)]
                                                                                                                                            (10 :
                                                                                                                                             Int)
                                                                                                                                            ((1 :
                                                                                                                                             Int) +
                                                                                                                                             (1 :
                                                                                                                                              Int) +
                                                                                                                                             (1 :
                                                                                                                                              Int))) ∧
                                                                                                                                           N
                                                                                                                                            [pkA
                                                                                                                                             b
                                                                                                                                             ptE
                                                                                                                                             (PT.mk
                                                                                                                                              bm
                                                                                                                                              [(bp,
                                                                                                                                               PR.mk
                                                                                                                                                (1 :
                                                                                                                                                 Int)
                                                                                                                                                (0 :
                                                                                                                                                 Int)
                                                                                                                                                (ByteArray.mk
                                                                                                                                                 #[])
                                                                                                                                                false
                                                                                                                                                (0 :
                                                                                                                                                 Int)
                                                                                                                                                (ByteArray.mk
                                                                                                                                                 #[])
                                                                                                                                                false
                                                                                                                                                false),
                                                                                                                                               (nb_1,
                                                                                                                                                PR.mk
                                                                                                                                                 (2 :
                                                                                                                                                  Int)
                                                                                                                                                 (1 :
                                                                                                                                                  Int)
                                                                                                                                                 (ByteArray.mk
                                                                                                                                                  #[(97 :
                                                                                                                                                   UInt8)])
                                                                                                                                                 true
                                                                                                                                                 (-9 :
                                                                                                                                                  Int)
                                                                                                                                                 (ByteArray.mk
                                                                                                                                                  #[(120 :
                                                                                                                                                   UInt8)])
                                                                                                                                                 false
                                                                                                                                                 true),
                                                                                                                                               (nb_2,
                                                                                                                                                PR.mk
                                                                                                                                                 (3 :
                                                                                                                                                  Int)
                                                                                                                                                 (1 :
                                                                                                                                                  Int)
                                                                                                                                                 (ByteArray.mk
                                                                                                                                                  #[(97 :
                                                                                                                                                   UInt8)])
                                                                                                                                                 true
                                                                                                                                                 (-9 :
                                                                                                                                                  Int)
                                                                                                                                                 (ByteArray.mk
                                                                                                                                                  #[(120 :
                                                                                                                                                   UInt8)])
                                                                                                                                                 false
                                                                                                                                                 true)]
                                                                                                                                              (10 :
                                                                                                                                               Int)
                                                                                                                                              ((1 :
                                                                                                                                               Int) +
                                                                                                                                               (1 :
                                                                                                                                                Int) +
                                                                                                                                               (1 :
                                                                                                                                                Int))),
                                                                                                                                             pkA
                                                                                                                                              b_1
                                                                                                                                              grpE
                                                                                                                                              (Grp.mk
                                                                                                                                               bg
                                                                                                                                               bo
                                                                                                                                               ao
                                                                                                                                               cap
                                                                                                                                               [(Key.s
                                                                                                                                                (Option.getD
                                                                                                                                                 (some
                                                                                                                                                  (ByteArray.mk
                                                                                                                                                   #[(97 :
                                                                                                                                                    UInt8)]))
                                                                                                                                                 (ByteArray.mk
                                                                                                                                                  #[])),
                                                                                                                                                nb,
                                                                                                                                                [])]
                                                                                                                                               []
                                                                                                                                               []),
                                                                                                                                             Ent.mk
                                                                                                                                              (Loc.blk
                                                                                                                                               b_2)
                                                                                                                                              (SObj.cells
                                                                                                                                               [SV.ptr
                                                                                                                                                (0 :
                                                                                                                                                 Nat)
                                                                                                                                                b
                                                                                                                                                (0 :
                                                                                                                                                 Nat),
                                                                                                                                                SV.ptr
                                                                                                                                                 (1 :
                                                                                                                                                  Nat)
                                                                                                                                                 b_1
                                                                                                                                                 (0 :
                                                                                                                                                  Nat),
                                                                                                                                                SV.raw
                                                                                                                                                 (Value.pointer
                                                                                                                                                  v),
                                                                                                                                                SV.raw
                                                                                                                                                 (Value.pointer
                                                                                                                                                  v_1),
                                                                                                                                                SV.int
                                                                                                                                                 IntKind.i64
                                                                                                                                                 (addS
                                                                                                                                                  (0 :
                                                                                                                                                   Int)
                                                                                                                                                  (3 :
                                                                                                                                                   Int)),
                                                                                                                                                SV.int
                                                                                                                                                 IntKind.i64
                                                                                                                                                 (addS
                                                                                                                                                  (5 :
                                                                                                                                                   Int)
                                                                                                                                                  (3 :
                                                                                                                                                   Int))]
                                                                                                                                               (96 :
                                                                                                                                                TypeId))]
                                                                                                                                            (SV.bool
                                                                                                                                             true)) := by kernel_rfl
end Go.Proofs.YtkcmgcoppecfpaaGreat

