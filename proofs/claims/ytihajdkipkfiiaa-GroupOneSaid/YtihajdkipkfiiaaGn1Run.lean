import Derived.Test.YtihajdkipkfiiaaGrpT
import Derived.Test.YtihajdkipkfiiaaTab
namespace Go.Proofs.Ytihajdkipkfiiaa
set_option linter.unusedVariables false
open Go Go.RowKit
set_option maxHeartbeats 0
set_option maxRecDepth 100000
set_option allowUnsafeReducibility true
set_option maxRecDepth 100000

theorem known9 (K : List Frm → Sy → Prop) (N : List Ent → SV → Prop) : (run Try.prog gTb false [] K (retP Try.prog Try.f12.results.toList N) 3000 [.code (bodyOf Try.f12)] ⟨padTo 53 [], []⟩) = (
true = true ∧
 ∀ (b bg bo : Nat),
  true = true ∧
   b = b ∧
    ∃ (h : Grp = Grp),
     AdtIs (fun (s : Grp) (b : Nat) ↦ packs (grpE s b)) grpE ∧
      ∀ (nb : Nat),
       true = true ∧
        b = b ∧
         ∃ (h : Grp = Grp),
          AdtIs (fun (s : Grp) (b : Nat) ↦ packs (grpE s b)) grpE ∧
           (gOk (Grp.mk bg bo (@none Addr) 0 [(Key.s (ByteArray.mk #[(97 : UInt8)]), nb, [])] [] []) (2 : Int) ∧
            keysOk (Grp.mk bg bo (@none Addr) 0 [(Key.s (ByteArray.mk #[(97 : UInt8)]), nb, [])] [] []).gs) ∧
            ∀ (ao : Option Addr) (cap : Nat),
             true = true ∧
              b = b ∧
               ∃ (h : Grp = Grp),
                AdtIs (fun (s : Grp) (b : Nat) ↦ packs (grpE s b)) grpE ∧
                 gOk
                  (Grp.mk bg bo (@none Addr) 0 [(Key.s (ByteArray.mk #[(97 : UInt8)]), nb, [(Key.i IntKind.i64 (2 : Int), PUnit.unit)])]
                   [(Key.i IntKind.i64 (2 : Int), ByteArray.mk #[(97 : UInt8)])] [])
                  (2 : Int) ∧
                  ∀ (ao : Option Addr) (cap : Nat),
                   true = true ∧
                    b = b ∧
                     ∃ (h : Grp = Grp),
                      AdtIs (fun (s : Grp) (b : Nat) ↦ packs (grpE s b)) grpE ∧
                       ∀ (ao : Option Addr) (cap : Nat),
                        true = true ∧
                         b = b ∧
                          ∃ (h : Grp = Grp),
                           AdtIs (fun (s : Grp) (b : Nat) ↦ packs (grpE s b)) grpE ∧
                            ∀ (ao : Option Addr) (cap : Nat),
                             true = true ∧
                              b = b ∧
                               ∃ (h : Grp = Grp),
                                AdtIs (fun (s : Grp) (b : Nat) ↦ packs (grpE s b)) grpE ∧
                                 ∀ (nb_1 : Nat),
                                  true = true ∧
                                   b = b ∧
                                    ∃ (h : Grp = Grp),
                                     AdtIs (fun (s : Grp) (b : Nat) ↦ packs (grpE s b)) grpE ∧
                                      (gOk (Grp.mk bg bo ao cap [(Key.s (ByteArray.mk #[(97 : UInt8)]), nb, [])] [] []) (2 : Int) ∧
                                       keysOk (Grp.mk bg bo ao cap [(Key.s (ByteArray.mk #[(97 : UInt8)]), nb, [])] [] []).gs) ∧
                                       ∀ (ao_1 : Option Addr) (cap_1 : Nat),
                                        N [pkA b grpE (Grp.mk bg bo ao cap [(Key.s (ByteArray.mk #[(97 : UInt8)]), nb, [])] [] [])] (SV.bool true)) := by kernel_rfl
end Go.Proofs.Ytihajdkipkfiiaa
