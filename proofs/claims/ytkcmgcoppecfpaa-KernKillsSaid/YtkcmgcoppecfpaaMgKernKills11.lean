import Derived.Test.YtkcmgcoppecfpaaMgKernKills9
import Derived.Test.YtkcmgcoppecfpaaMgKernKills10
import Derived.Test.YtkcmgcoppecfpaaMgKernKills6
/- YtkcmgcoppecfpaaKl -/
/- The kernel's laws: known. -/
namespace Go.Proofs.Ytkcmgcoppecfpaa
open Go Go.RowKit
set_option linter.unusedVariables false
set_option linter.unusedSimpArgs false
set_option linter.unnecessarySimpa false
set_option maxHeartbeats 0

def keysB {β : Type} : List (Key × β) → Bool
  | [] => true
  | a :: l => l.all (fun c => !keyEq a.1 c.1) && keysB l
theorem keysOk_lit {β : Type} : ∀ {es : List (Key × β)}, keysB es = true → keysOk es
  | [], _ => List.Pairwise.nil
  | a :: l, h => by
    simp only [keysB, Bool.and_eq_true, List.all_eq_true, Bool.not_eq_true'] at h
    exact List.pairwise_cons.2 ⟨h.1, keysOk_lit h.2⟩
def wfIB (ms : List (Key × Unit)) : Bool := keysB ms && Nat.ble ms.length 1000000 && ms.all fun e => (Lit.int .i64 (keyInt e.1)).wf
def gsB (s : Grp) : Bool := keysB s.gs && Nat.ble s.gs.length 1000000 && s.gs.all (fun e => (keyKind e.1).isNone && Nat.ble (keyStr e.1).length 1000) && s.gs.all fun e => wfIB e.2.2
theorem gsOk_lit {s : Grp} (h : gsB s = true) : gsOk s := by
  simp only [gsB, Bool.and_eq_true, List.all_eq_true, Nat.ble_eq, Option.isNone_iff_eq_none] at h
  obtain ⟨⟨⟨h1, h2⟩, h3⟩, h4⟩ := h
  refine ⟨⟨keysOk_lit h1, by omega, fun e he => ?_⟩, h2, fun e he => (h3 e he).1, fun n x hx => ?_⟩
  · have := (h3 e he).2
    unfold maxLen at *
    omega
  · obtain ⟨k', hm, _⟩ := mget_mem hx
    have := h4 _ hm
    simp only [wfIB, Bool.and_eq_true, List.all_eq_true, Nat.ble_eq] at this
    obtain ⟨⟨q1, q2⟩, q3⟩ := this
    exact ⟨⟨keysOk_lit q1, by omega, q3⟩, q2⟩
theorem gOk_litK {s : Grp} {pid : Int} (h : Nat.ble s.notes.length 100000000 = true) (h2 : (match mget s.of (.i .i64 pid) with | none => true | some n => (mget s.gs (.s n)).isSome) = true) : gOk s pid := by
  refine ⟨Nat.le_of_ble_eq_true h, fun n hn => ?_⟩
  rw [hn] at h2
  exact Option.isSome_iff_exists.1 h2
theorem memGOk_lit {s : Grp} {n : ByteArray} (h : gsB s = true) : memGOk s n := (gsOk_lit h).mem n
def ascBK : List Int → Bool
  | [] => true
  | a :: l => l.all (fun b => decide (a < b)) && ascBK l
theorem ascK_of : ∀ {l : List Int}, ascBK l = true → l.Pairwise (· < ·)
  | [], _ => .nil
  | a :: l, h => by
    simp only [ascBK, Bool.and_eq_true, List.all_eq_true, decide_eq_true_eq] at h
    exact .cons h.1 (ascK_of h.2)
theorem pOk_litK {s : PT} (h1 : ascBK (s.ps.map (·.2.pid)) = true) (h2 : (s.ps.map (·.2.pid)).all (fun p => decide (1 ≤ p) && decide (p ≤ s.last)) = true) (h3 : (decide (s.last ≤ 1000000) && Nat.ble s.ps.length 1000000 && decide (0 ≤ s.room) && decide (s.room ≤ 64)) = true) : pOk s := by
  simp only [Bool.and_eq_true, decide_eq_true_eq, Nat.ble_eq] at h3
  refine ⟨by simpa [List.pairwise_map] using ascK_of h1, fun x hx => ?_, h3.1.1.1, h3.1.1.2, h3.1.2, h3.2⟩
  have := List.all_eq_true.1 h2 x.2.pid (List.mem_map.2 ⟨x, hx, rfl⟩)
  simpa using this
theorem known12_ok : CtrOk Try.prog 54 trueKC := by
  intro args hs N h
  unfold trueKC at h
  split at h
  · refine Spec.lift (Φ := fun r => r = .bool true) ?_ (fun r hr => by rw [hr]; exact h)
    refine Spec.of_G 83 Try.func54 (c := bodyOf Try.f54) (by kernel_rfl) (by kernel_rfl) (Nat.le_of_ble_eq_true rfl) fun W F => ?_
    refine G_run (kc := false) (ss := []) knT_ok hmK 4000 ?_
    rw [known12]
    repeat' first
      | exact pOk_litK rfl rfl rfl
      | exact gsOk_lit rfl
      | exact memGOk_lit rfl
      | exact gOk_litK rfl rfl
      | exact keysOk_lit rfl
      | apply And.intro
      | exact rfl
      | exact HEq.rfl
      | (show _ ≤ _; decide)
      | (refine fun _ => ?_)
      | (refine ⟨rfl, ?_⟩)
  · exact h.elim
theorem klT_ok : AllOk Try.prog klT := ⟨known12_ok, knT_ok⟩
theorem klTJ_ok : AllOk Try.prog klTJ := ⟨known12_ok, knTJ_ok⟩
end Go.Proofs.Ytkcmgcoppecfpaa

/- YtkcmgcoppecfpaaKq0Run -/
namespace Go.Proofs.Ytkcmgcoppecfpaa
set_option linter.unusedVariables false
open Go Go.RowKit
set_option maxHeartbeats 0
set_option maxRecDepth 100000
set_option linter.unusedVariables false
set_option allowUnsafeReducibility true
set_option maxRecDepth 100000

theorem kq_start (K : List Frm → Sy → Prop) (N : List Ent → SV → Prop) (kids late : Int) : (run Try.prog klT false [] K (retP Try.prog Try.f8.results.toList N) 4000 [.code (bodyOf Try.f8)] ⟨padTo 166 [.int .u8 kids, .int .u8 late], []⟩) = (
true = true ∧
 true = true ∧
  true = true ∧
   ∀ (b bm bp : Nat),
    true = true ∧
     ∀ (b_1 bg bo : Nat),
      true = true ∧
       ∀ (v : Option Addr),
        true = true ∧
         ∀ (v_1 : Option Addr),
          (true = true ∧ true = true) ∧
           true = true ∧
            ∀ (b_2 : Nat),
             true = true ∧
              b_2 = b_2 ∧
               true = true ∧
                b_1 = b_1 ∧
                 ∃ (h : Grp = Grp),
                  AdtIs (fun (s : Grp) (b : Nat) ↦ packs (grpE s b)) grpE ∧
                   ∀ (nb : Nat),
                    true = true ∧
                     b_2 = b_2 ∧
                      true = true ∧
                       b_1 = b_1 ∧
                        ∃ (h : Grp = Grp),
                         AdtIs (fun (s : Grp) (b : Nat) ↦ packs (grpE s b)) grpE ∧
                          ∀ (nb_1 : Nat),
                           true = true ∧
                            true = true ∧
                             (b_2 = b_2 ∧ 175 = (175 : TypeId) ∧ false = false) ∧
                              b_1 = b_1 ∧
                               ∃ (h : Grp = Grp),
                                AdtIs (fun (s : Grp) (b : Nat) ↦ packs (grpE s b)) grpE ∧
                                 gsOk
                                  (cast h
                                   (Grp.mk bg bo (@none Addr) 0
                                    [(Key.s (ByteArray.mk #[(103 : UInt8)]), nb, []), (Key.s (ByteArray.mk #[(104 : UInt8)]), nb_1, [])] [] [])) ∧
                                  b_2 = b_2 ∧
                                   true = true ∧
                                    b = b ∧
                                     ∃ (h : PT = PT),
                                      AdtIs (fun (s : PT) (b : Nat) ↦ packs (ptE s b)) ptE ∧
                                       pOk
                                        (PT.mk bm [(bp, PR.mk (1 : Int) (0 : Int) (ByteArray.mk #[]) false (0 : Int) (ByteArray.mk #[]) false false)]
                                         (60 : Int) (1 : Int)) ∧
                                        ∀ (nb_2 : Nat),
                                         true = true ∧
                                          b_2 = b_2 ∧
                                           true = true ∧
                                            b_1 = b_1 ∧
                                             ∃ (h : Grp = Grp),
                                              AdtIs (fun (s : Grp) (b : Nat) ↦ packs (grpE s b)) grpE ∧
                                               (gOk
                                                (Grp.mk bg bo (@none Addr) 0
                                                 [(Key.s (ByteArray.mk #[(103 : UInt8)]), nb, []),
                                                  (Key.s (ByteArray.mk #[(104 : UInt8)]), nb_1, [])]
                                                 [] [])
                                                (2 : Int) ∧
                                                keysOk
                                                 (Grp.mk bg bo (@none Addr) 0
                                                  [(Key.s (ByteArray.mk #[(103 : UInt8)]), nb, []),
                                                   (Key.s (ByteArray.mk #[(104 : UInt8)]), nb_1, [])]
                                                  [] []).gs) ∧
                                                ∀ (ao : Option Addr) (cap : Nat),
                                                 true = true ∧
                                                  true = true ∧
                                                   (b_2 = b_2 ∧ 175 = (175 : TypeId) ∧ false = false) ∧
                                                    b_1 = b_1 ∧
                                                     ∃ (h : Grp = Grp),
                                                      AdtIs (fun (s : Grp) (b : Nat) ↦ packs (grpE s b)) grpE ∧
                                                       gsOk
                                                        (cast h
                                                         (Grp.mk bg bo (@none Addr) 0
                                                          [(Key.s (ByteArray.mk #[(103 : UInt8)]), nb,
                                                           [(Key.i IntKind.i64 (2 : Int), PUnit.unit)]),
                                                           (Key.s (ByteArray.mk #[(104 : UInt8)]), nb_1, [])]
                                                          [(Key.i IntKind.i64 (2 : Int), ByteArray.mk #[(103 : UInt8)])] [])) ∧
                                                        b_2 = b_2 ∧
                                                         true = true ∧
                                                          b = b ∧
                                                           ∃ (h : PT = PT),
                                                            AdtIs (fun (s : PT) (b : Nat) ↦ packs (ptE s b)) ptE ∧
                                                             pOk
                                                              (PT.mk bm
                                                               ([(bp,
                                                                PR.mk (1 : Int) (0 : Int) (ByteArray.mk #[]) false (0 : Int)
                                                                 (ByteArray.mk #[]) false false)] ++
                                                                [(nb_2,
                                                                 PR.mk ((1 : Int) + (1 : Int)) (1 : Int)
                                                                  (ByteArray.mk #[(103 : UInt8)]) false (0 : Int)
                                                                  (ByteArray.mk #[(99 : UInt8)]) false false)])
                                                               (60 : Int) ((1 : Int) + (1 : Int))) ∧
                                                              ∀ (nb_3 : Nat),
                                                               true = true ∧
                                                                b_2 = b_2 ∧
                                                                 true = true ∧
                                                                  b_1 = b_1 ∧
                                                                   ∃ (h : Grp = Grp),
                                                                    AdtIs (fun (s : Grp) (b : Nat) ↦ packs (grpE s b)) grpE ∧
                                                                     (gOk
                                                                      (Grp.mk bg bo (@none Addr) 0
                                                                       [(Key.s (ByteArray.mk #[(103 : UInt8)]), nb,
                                                                        [(Key.i IntKind.i64 (2 : Int), PUnit.unit)]),
                                                                        (Key.s (ByteArray.mk #[(104 : UInt8)]), nb_1, [])]
                                                                       [(Key.i IntKind.i64 (2 : Int),
                                                                        ByteArray.mk #[(103 : UInt8)])]
                                                                       [])
                                                                      (3 : Int) ∧
                                                                      keysOk
                                                                       (Grp.mk bg bo (@none Addr) 0
                                                                        [(Key.s (ByteArray.mk #[(103 : UInt8)]), nb,
                                                                         [(Key.i IntKind.i64 (2 : Int), PUnit.unit)]),
                                                                         (Key.s (ByteArray.mk #[(104 : UInt8)]), nb_1, [])]
                                                                        [(Key.i IntKind.i64 (2 : Int),
                                                                         ByteArray.mk #[(103 : UInt8)])]
                                                                        []).gs) ∧
                                                                      ∀ (ao : Option Addr) (cap : Nat),
                                                                       K
                                                                        (frm [] (bodyOf Try.f8)
                                                                         [1, 1, 1, 1,
                                                                          1, 1, 1, 0,
                                                                          1, 0]
                                                                         [])
                                                                        (Sy.mk (SV.int IntKind.u8 kids :: (SV.int IntKind.u8 late :: (SV.raw (Value.tuple #[]) :: (SV.raw (Value.tuple #[]) :: (SV.bool false :: (SV.ptr 2 b_2 0 :: (SV.int IntKind.i64 (2 : Int) :: (SV.int IntKind.i64 (0 : Int) :: (SV.int IntKind.i64 (3 : Int) :: (SV.int IntKind.i64 (0 : Int) :: (SV.int IntKind.i64 (0 : Int) :: (rawE (SV.bool true :: (SV.bool false :: (SV.ptr 2 b_2 0 :: (SV.ptr 2 b_2 0 :: (SV.ptr 1 b_1 0 :: (SV.int IntKind.i64 (0 : Int) :: (SV.bool false :: (SV.bool false :: (SV.ptr 2 b_2 0 :: (SV.ptr 1 b_1 0 :: (SV.int IntKind.i64 (0 : Int) :: (SV.bool false :: (SV.bool false :: (SV.tuple [SV.int IntKind.i64 (2 : Int), SV.int IntKind.i64 (0 : Int)] :: (SV.ptr 2 b_2 0 :: (SV.tuple [SV.int IntKind.i64 (2 : Int), SV.int IntKind.i64 (0 : Int)] :: (SV.int IntKind.i64 (2 : Int) :: (SV.int IntKind.i64 (0 : Int) :: (SV.tuple [SV.int IntKind.i64 (3 : Int), SV.int IntKind.i64 (0 : Int)] :: (SV.ptr 2 b_2 0 :: (SV.tuple [SV.int IntKind.i64 (3 : Int), SV.int IntKind.i64 (0 : Int)] :: (SV.int IntKind.i64 (3 : Int) :: (SV.int IntKind.i64 (0 : Int) :: (SV.int IntKind.i64 (0 : Int) :: (SV.bool false :: (SV.bool false :: (SV.int IntKind.i64 (0 : Int) :: (SV.bool false :: (SV.bool false :: (rawE [] 118)))))))))))))))))))))))))))))) 8))))))))))))
                                                                         [pkA b ptE
                                                                          (PT.mk bm
                                                                           ([(bp,
                                                                            PR.mk (1 : Int) (0 : Int)
                                                                             (ByteArray.mk #[]) false (0 : Int)
                                                                             (ByteArray.mk #[]) false false)] ++
                                                                            [(nb_2,
                                                                             PR.mk ((1 : Int) + (1 : Int)) (1 : Int)
                                                                              (ByteArray.mk #[(103 : UInt8)]) false
                                                                              (0 : Int)
                                                                              (ByteArray.mk #[(99 : UInt8)]) false
                                                                              false)] ++
                                                                            [(nb_3,
                                                                             PR.mk ((1 : Int) + (1 : Int) + (1 : Int))
                                                                              (1 : Int)
                                                                              (ByteArray.mk #[(104 : UInt8)]) false
                                                                              (0 : Int) (ByteArray.mk #[(99 : UInt8)])
                                                                              false false)])
                                                                           (60 : Int) ((1 : Int) + (1 : Int) + (1 : Int))),
                                                                          pkA b_1 grpE
                                                                           (Grp.mk bg bo (@none Addr) 0
                                                                            [(Key.s (ByteArray.mk #[(103 : UInt8)]), nb,
                                                                             [(Key.i IntKind.i64 (2 : Int),
                                                                              PUnit.unit)]),
                                                                             (Key.s (ByteArray.mk #[(104 : UInt8)]), nb_1,
                                                                              [(Key.i IntKind.i64 (3 : Int),
                                                                               PUnit.unit)])]
                                                                            [(Key.i IntKind.i64 (2 : Int),
                                                                             ByteArray.mk #[(103 : UInt8)]),
                                                                             (Key.i IntKind.i64 (3 : Int),
                                                                              ByteArray.mk #[(104 : UInt8)])]
                                                                            []),
                                                                          Ent.mk (Loc.blk b_2)
                                                                           (SObj.cells
                                                                            [SV.ptr 0 b 0,
                                                                             SV.ptr 1 b_1 0,
                                                                             SV.raw (Value.pointer v),
                                                                             SV.raw (Value.pointer v_1),
                                                                             SV.int IntKind.i64 (0 : Int),
                                                                             SV.int IntKind.i64 (0 : Int)]
                                                                            175)])) := by kernel_rfl
end Go.Proofs.Ytkcmgcoppecfpaa

/- YtkcmgcoppecfpaaKq1Run -/
namespace Go.Proofs.Ytkcmgcoppecfpaa
set_option linter.unusedVariables false
open Go Go.RowKit
set_option maxHeartbeats 0
set_option maxRecDepth 100000
set_option linter.unusedVariables false
set_option maxRecDepth 100000

theorem kq_l1 (K : List Frm → Sy → Prop) (N : List Ent → SV → Prop) (J : Act → World → Prop) (bk bp bg : Nat) (pt : PT) (gr : Grp) (v2 v3 : Value) (m w kids late : Int) (i : Nat) (u : Nat → Value) : (run Try.prog klT false [13, 16] K (retP Try.prog Try.f8.results.toList N) 1500 (frm [J] (bodyOf Try.f8) [1, 1, 1, 1, 1, 1, 1, 0, 1, 0, 0] []) ⟨mkT u 166 0 [(0, .int .u8 kids), (1, .int .u8 late), (5, .ptr 2 bk 0), (6, .int .i64 2), (8, .int .i64 3), (10, .int .i64 (i : Int))], [pkA bp ptE (pt), pkA bg grpE (gr), ⟨.blk bk, .cells [.ptr 0 bp 0, .ptr 1 bg 0, .raw v2, .raw v3, .int .i64 m, .int .i64 w] 175⟩]⟩) = (
(10 : Int) ≠ (0 : Int) ∧
 match decide ((↑i : Int) < IntKind.wrap IntKind.i64 (Int.tmod kids (10 : Int))) with
 | true =>
  K (frmR [J] (bodyOf Try.f8) 13)
   (Sy.mk (SV.int IntKind.u8 kids :: (SV.int IntKind.u8 late :: (rawR u 2 (SV.ptr 2 bk 0 :: (SV.int IntKind.i64 (2 : Int) :: (SV.raw (u 7) :: (SV.int IntKind.i64 (3 : Int) :: (SV.raw (u 9) :: (SV.int IntKind.i64 (↑i : Int) :: (rawR u 11 (SV.int IntKind.i64 (↑i : Int) :: (SV.int IntKind.u8 kids :: (SV.int IntKind.u8 (Int.tmod kids (10 : Int)) :: (SV.int IntKind.i64 (IntKind.wrap IntKind.i64 (Int.tmod kids (10 : Int))) :: (SV.bool true :: (rawR u 53 [] 113)))))) 37))))))) 3)))
    [pkA bp ptE pt, pkA bg grpE gr,
     Ent.mk (Loc.blk bk) (SObj.cells [SV.ptr 0 bp 0, SV.ptr 1 bg 0, SV.raw v2, SV.raw v3, SV.int IntKind.i64 m, SV.int IntKind.i64 w] (175 : TypeId))])
 | false =>
  K (frmR [] (bodyOf Try.f8) 16)
   (Sy.mk (SV.int IntKind.u8 kids :: (SV.int IntKind.u8 late :: (rawR u 2 (SV.ptr 2 bk 0 :: (SV.int IntKind.i64 (2 : Int) :: (SV.raw (u 7) :: (SV.int IntKind.i64 (3 : Int) :: (SV.raw (u 9) :: (SV.int IntKind.i64 (↑i : Int) :: (rawR u 11 (SV.int IntKind.i64 (↑i : Int) :: (SV.int IntKind.u8 kids :: (SV.int IntKind.u8 (Int.tmod kids (10 : Int)) :: (SV.int IntKind.i64 (IntKind.wrap IntKind.i64 (Int.tmod kids (10 : Int))) :: (SV.bool false :: (rawR u 53 [] 113)))))) 37))))))) 3)))
    [pkA bp ptE pt, pkA bg grpE gr,
     Ent.mk (Loc.blk bk) (SObj.cells [SV.ptr 0 bp 0, SV.ptr 1 bg 0, SV.raw v2, SV.raw v3, SV.int IntKind.i64 m, SV.int IntKind.i64 w] (175 : TypeId))])) := by kernel_rfl


theorem kq_13 (K : List Frm → Sy → Prop) (N : List Ent → SV → Prop) (J0 : Act → World → Prop) (bk bp bg : Nat) (pt : PT) (gr : Grp) (v2 v3 : Value) (m w kids late : Int) (i : Nat) (u : Nat → Value) : (run Try.prog klT false [] K (retP Try.prog Try.f8.results.toList N) 1500 (frmR [J0] (bodyOf Try.f8) 13) ⟨mkT u 166 0 [(0, .int .u8 kids), (1, .int .u8 late), (5, .ptr 2 bk 0), (6, .int .i64 2), (8, .int .i64 3), (10, .int .i64 (i : Int))], [pkA bp ptE (pt), pkA bg grpE (gr), ⟨.blk bk, .cells [.ptr 0 bp 0, .ptr 1 bg 0, .raw v2, .raw v3, .int .i64 m, .int .i64 w] 175⟩]⟩) = (
true = true ∧
 bk = bk ∧
  true = true ∧
   bg = bg ∧
    ∃ (h : Grp = Grp),
     AdtIs (fun (s : Grp) (b : Nat) ↦ packs (grpE s b)) grpE ∧
      bk = bk ∧
       true = true ∧
        bp = bp ∧
         ∃ (h : PT = PT),
          AdtIs (fun (s : PT) (b : Nat) ↦ packs (ptE s b)) ptE ∧
           pOk pt ∧
            ∀ (nb : Nat),
             true = true ∧
              match (pFork pt (2 : Int) nb).2.2 == (0 : Int) with
              | true =>
               match
                !sEq
                 (match mget gr.6 (Key.i IntKind.i64 (2 : Int)) with
                 | some x => x
                 | none => ByteArray.mk #[])
                 (ByteArray.mk #[]) with
               | true =>
                bk = bk ∧
                 true = true ∧
                  bg = bg ∧
                   ∃ (h : Grp = Grp),
                    AdtIs (fun (s : Grp) (b : Nat) ↦ packs (grpE s b)) grpE ∧
                     (gOk gr (pFork pt (2 : Int) nb).2.1 ∧ keysOk gr.gs) ∧
                      ∀ (ao : Option Addr) (cap : Nat),
                       match
                        (gPut gr (pFork pt (2 : Int) nb).2.1
                         (match mget gr.6 (Key.i IntKind.i64 (2 : Int)) with
                         | some x => x
                         | none => ByteArray.mk #[])
                         ao cap).2 !=
                         (0 : Int) with
                       | true =>
                        N
                         [pkA bp ptE (pFork pt (2 : Int) nb).1,
                          pkA bg grpE
                           (gPut gr (pFork pt (2 : Int) nb).2.1
                            (match mget gr.6 (Key.i IntKind.i64 (2 : Int)) with
                            | some x => x
                            | none => ByteArray.mk #[])
                            ao cap).1,
                          Ent.mk (Loc.blk bk)
                           (SObj.cells [SV.ptr 0 bp 0, SV.ptr 1 bg 0, SV.raw v2, SV.raw v3, SV.int IntKind.i64 m, SV.int IntKind.i64 w]
                            (175 : TypeId))]
                         (SV.bool false)
                       | false =>
                        K
                         (Frm.loop J0 ::
                          Frm.blk 0 :: frm [] (bodyOf Try.f8) [1, 1, 1, 1, 1, 1, 1, 1] [])
                         (Sy.mk (SV.int IntKind.u8 kids :: (SV.int IntKind.u8 late :: (rawR u 2 (SV.ptr 2 bk 0 :: (SV.int IntKind.i64 (2 : Int) :: ((SV.int IntKind.i64 (gPut gr (pFork pt (2 : Int) nb).2.1 (match mget gr.6 (Key.i IntKind.i64 (2 : Int)) with | some x => x | none => ByteArray.mk #[]) ao cap).2) :: (SV.int IntKind.i64 (3 : Int) :: (SV.raw (u 9) :: (SV.int IntKind.i64 (IntKind.wrap IntKind.i64 ((↑i : Int) + (1 : Int))) :: (rawR u 11 (SV.int IntKind.i64 (↑i : Int) :: (SV.int IntKind.i64 (IntKind.wrap IntKind.i64 ((↑i : Int) + (1 : Int))) :: ((SV.tuple [SV.int IntKind.i64 (pFork pt (2 : Int) nb).2.1, SV.int IntKind.i64 (gPut gr (pFork pt (2 : Int) nb).2.1 (match mget gr.6 (Key.i IntKind.i64 (2 : Int)) with | some x => x | none => ByteArray.mk #[]) ao cap).2]) :: (SV.ptr 2 bk 0 :: (SV.int IntKind.i64 (2 : Int) :: ((SV.tuple [SV.int IntKind.i64 (pFork pt (2 : Int) nb).2.1, SV.int IntKind.i64 (gPut gr (pFork pt (2 : Int) nb).2.1 (match mget gr.6 (Key.i IntKind.i64 (2 : Int)) with | some x => x | none => ByteArray.mk #[]) ao cap).2]) :: (SV.int IntKind.i64 (pFork pt (2 : Int) nb).2.1 :: ((SV.int IntKind.i64 (gPut gr (pFork pt (2 : Int) nb).2.1 (match mget gr.6 (Key.i IntKind.i64 (2 : Int)) with | some x => x | none => ByteArray.mk #[]) ao cap).2) :: ((SV.int IntKind.i64 (gPut gr (pFork pt (2 : Int) nb).2.1 (match mget gr.6 (Key.i IntKind.i64 (2 : Int)) with | some x => x | none => ByteArray.mk #[]) ao cap).2) :: (SV.bool false :: (rawR u 63 [] 103))))))))))) 42))))))) 3)))
                          [pkA bp ptE (pFork pt (2 : Int) nb).1,
                           pkA bg grpE
                            (gPut gr (pFork pt (2 : Int) nb).2.1
                             (match mget gr.6 (Key.i IntKind.i64 (2 : Int)) with
                             | some x => x
                             | none => ByteArray.mk #[])
                             ao cap).1,
                           Ent.mk (Loc.blk bk)
                            (SObj.cells [SV.ptr 0 bp 0, SV.ptr 1 bg 0, SV.raw v2, SV.raw v3, SV.int IntKind.i64 m, SV.int IntKind.i64 w]
                             (175 : TypeId))])
               | false =>
                match (pFork pt (2 : Int) nb).2.2 != (0 : Int) with
                | true =>
                 N
                  [pkA bp ptE (pFork pt (2 : Int) nb).1, pkA bg grpE gr,
                   Ent.mk (Loc.blk bk)
                    (SObj.cells [SV.ptr 0 bp 0, SV.ptr 1 bg 0, SV.raw v2, SV.raw v3, SV.int IntKind.i64 m, SV.int IntKind.i64 w] (175 : TypeId))]
                  (SV.bool false)
                | false =>
                 K (Frm.loop J0 :: Frm.blk 0 :: frm [] (bodyOf Try.f8) [1, 1, 1, 1, 1, 1, 1, 1] [])
                  (Sy.mk (SV.int IntKind.u8 kids :: (SV.int IntKind.u8 late :: (rawR u 2 (SV.ptr 2 bk 0 :: (SV.int IntKind.i64 (2 : Int) :: (SV.int IntKind.i64 (pFork pt (2 : Int) nb).2.2 :: (SV.int IntKind.i64 (3 : Int) :: (SV.raw (u 9) :: (SV.int IntKind.i64 (IntKind.wrap IntKind.i64 ((↑i : Int) + (1 : Int))) :: (rawR u 11 (SV.int IntKind.i64 (↑i : Int) :: (SV.int IntKind.i64 (IntKind.wrap IntKind.i64 ((↑i : Int) + (1 : Int))) :: (SV.tuple [SV.int IntKind.i64 (pFork pt (2 : Int) nb).2.1, SV.int IntKind.i64 (pFork pt (2 : Int) nb).2.2] :: (SV.ptr 2 bk 0 :: (SV.int IntKind.i64 (2 : Int) :: (SV.tuple [SV.int IntKind.i64 (pFork pt (2 : Int) nb).2.1, SV.int IntKind.i64 (pFork pt (2 : Int) nb).2.2] :: (SV.int IntKind.i64 (pFork pt (2 : Int) nb).2.1 :: (SV.int IntKind.i64 (pFork pt (2 : Int) nb).2.2 :: (SV.int IntKind.i64 (pFork pt (2 : Int) nb).2.2 :: (SV.bool false :: (rawR u 63 [] 103))))))))))) 42))))))) 3)))
                   [pkA bp ptE (pFork pt (2 : Int) nb).1, pkA bg grpE gr,
                    Ent.mk (Loc.blk bk)
                     (SObj.cells [SV.ptr 0 bp 0, SV.ptr 1 bg 0, SV.raw v2, SV.raw v3, SV.int IntKind.i64 m, SV.int IntKind.i64 w] (175 : TypeId))])
              | false =>
               match (pFork pt (2 : Int) nb).2.2 != (0 : Int) with
               | true =>
                N
                 [pkA bp ptE (pFork pt (2 : Int) nb).1, pkA bg grpE gr,
                  Ent.mk (Loc.blk bk)
                   (SObj.cells [SV.ptr 0 bp 0, SV.ptr 1 bg 0, SV.raw v2, SV.raw v3, SV.int IntKind.i64 m, SV.int IntKind.i64 w] (175 : TypeId))]
                 (SV.bool false)
               | false =>
                K (Frm.loop J0 :: Frm.blk 0 :: frm [] (bodyOf Try.f8) [1, 1, 1, 1, 1, 1, 1, 1] [])
                 (Sy.mk (SV.int IntKind.u8 kids :: (SV.int IntKind.u8 late :: (rawR u 2 (SV.ptr 2 bk 0 :: (SV.int IntKind.i64 (2 : Int) :: (SV.int IntKind.i64 (pFork pt (2 : Int) nb).2.2 :: (SV.int IntKind.i64 (3 : Int) :: (SV.raw (u 9) :: (SV.int IntKind.i64 (IntKind.wrap IntKind.i64 ((↑i : Int) + (1 : Int))) :: (rawR u 11 (SV.int IntKind.i64 (↑i : Int) :: (SV.int IntKind.i64 (IntKind.wrap IntKind.i64 ((↑i : Int) + (1 : Int))) :: (SV.tuple [SV.int IntKind.i64 (pFork pt (2 : Int) nb).2.1, SV.int IntKind.i64 (pFork pt (2 : Int) nb).2.2] :: (SV.ptr 2 bk 0 :: (SV.int IntKind.i64 (2 : Int) :: (SV.tuple [SV.int IntKind.i64 (pFork pt (2 : Int) nb).2.1, SV.int IntKind.i64 (pFork pt (2 : Int) nb).2.2] :: (SV.int IntKind.i64 (pFork pt (2 : Int) nb).2.1 :: (SV.int IntKind.i64 (pFork pt (2 : Int) nb).2.2 :: (SV.int IntKind.i64 (pFork pt (2 : Int) nb).2.2 :: (SV.bool false :: (rawR u 63 [] 103))))))))))) 42))))))) 3)))
                  [pkA bp ptE (pFork pt (2 : Int) nb).1, pkA bg grpE gr,
                   Ent.mk (Loc.blk bk)
                    (SObj.cells [SV.ptr 0 bp 0, SV.ptr 1 bg 0, SV.raw v2, SV.raw v3, SV.int IntKind.i64 m, SV.int IntKind.i64 w] (175 : TypeId))])) := by kernel_rfl


theorem kq_16 (K : List Frm → Sy → Prop) (N : List Ent → SV → Prop) (bk bp bg : Nat) (pt : PT) (gr : Grp) (v2 v3 : Value) (m w kids late : Int) (u : Nat → Value) : (run Try.prog klT false [17] K (retP Try.prog Try.f8.results.toList N) 1500 (frmR [] (bodyOf Try.f8) 16) ⟨mkT u 166 0 [(0, .int .u8 kids), (1, .int .u8 late), (5, .ptr 2 bk 0), (6, .int .i64 2), (8, .int .i64 3)], [pkA bp ptE (pt), pkA bg grpE (gr), ⟨.blk bk, .cells [.ptr 0 bp 0, .ptr 1 bg 0, .raw v2, .raw v3, .int .i64 m, .int .i64 w] 175⟩]⟩) = (
true = true ∧
 bk = bk ∧
  true = true ∧
   bg = bg ∧
    ∃ (h : Grp = Grp),
     AdtIs (fun (s : Grp) (b : Nat) ↦ packs (grpE s b)) grpE ∧
      memGOk (cast h gr) (ByteArray.mk #[(103 : UInt8)]) ∧
       ∀ (ao : Option Addr) (cap : Nat),
        K (frmR [] (bodyOf Try.f8) 17)
         (Sy.mk (SV.int IntKind.u8 kids :: (SV.int IntKind.u8 late :: (rawR u 2 (SV.ptr 2 bk 0 :: (SV.int IntKind.i64 (2 : Int) :: (SV.raw (u 7) :: (SV.int IntKind.i64 (3 : Int) :: (SV.raw (u 9) :: (SV.raw (u 10) :: (SV.vec 3 ao (List.length (memQ gr (ByteArray.mk #[(103 : UInt8)]))) cap :: (rawR u 12 (SV.ptr 2 bk 0 :: (SV.ptr 1 bg 0 :: (SV.vec 3 ao (List.length (memQ gr (ByteArray.mk #[(103 : UInt8)]))) cap :: (rawR u 66 [] 100)))) 51)))))))) 3)))
          [pkA bp ptE pt, pkA bg grpE gr,
           Ent.mk (Loc.blk bk) (SObj.cells [SV.ptr 0 bp 0, SV.ptr 1 bg 0, SV.raw v2, SV.raw v3, SV.int IntKind.i64 m, SV.int IntKind.i64 w] (175 : TypeId)),
           Ent.mk (Loc.sl ao cap) (SObj.vecL (3 : TypeId) 1 encI1 (memQ gr (ByteArray.mk #[(103 : UInt8)])) (0 : Int))])) := by kernel_rfl


theorem kq_17 (K : List Frm → Sy → Prop) (N : List Ent → SV → Prop) (bk bp bg : Nat) (pt : PT) (gr : Grp) (v2 v3 : Value) (m w kids late : Int) (al : Option Addr) (cl : Nat) (l : List Int) (u : Nat → Value) : (run Try.prog klT false [19] K (retP Try.prog Try.f8.results.toList N) 1500 (frmR [] (bodyOf Try.f8) 17) ⟨mkT u 166 0 [(0, .int .u8 kids), (1, .int .u8 late), (5, .ptr 2 bk 0), (6, .int .i64 2), (8, .int .i64 3), (11, .vec 3 al l.length cl)], [pkA bp ptE (pt), pkA bg grpE (gr), ⟨.blk bk, .cells [.ptr 0 bp 0, .ptr 1 bg 0, .raw v2, .raw v3, .int .i64 m, .int .i64 w] 175⟩, ⟨.sl al cl, .vecL 3 1 encI1 l 0⟩]⟩) = (
true = true ∧
 (bk = bk ∧ (175 : TypeId) = (175 : TypeId) ∧ true = true) ∧
  (bp = bp ∧ bg = bg) ∧
   ∃ (h1 : PT = PT),
    ∃ (h2 : Grp = Grp),
     AdtIs (fun (s : PT) (b : Nat) ↦ packs (ptE s b)) ptE ∧
      AdtIs (fun (s : Grp) (b : Nat) ↦ packs (grpE s b)) grpE ∧
       (pOk (cast h1 pt) ∧ gsOk (cast h2 gr)) ∧
        match (kgAll pt (15 : Int) (memQ gr (ByteArray.mk #[(103 : UInt8)]))).2 != (↑(List.length l) : Int) with
        | true =>
         N
          [pkA bp ptE (kgAll pt (15 : Int) (memQ gr (ByteArray.mk #[(103 : UInt8)]))).1, pkA bg grpE gr,
           Ent.mk (Loc.blk bk) (SObj.cells [SV.ptr 0 bp 0, SV.ptr 1 bg 0, SV.raw v2, SV.raw v3, SV.int IntKind.i64 m, SV.int IntKind.i64 w] (175 : TypeId)),
           Ent.mk (Loc.sl al cl) (SObj.vecL (3 : TypeId) 1 encI1 l (0 : Int))]
          (SV.bool false)
        | false =>
         true = true ∧
          bk = bk ∧
           true = true ∧
            bp = bp ∧
             ∃ (h : PT = PT),
              AdtIs (fun (s : PT) (b : Nat) ↦ packs (ptE s b)) ptE ∧
               pOk (kgAll pt (15 : Int) (memQ gr (ByteArray.mk #[(103 : UInt8)]))).1 ∧
                match !(pGet (kgAll pt (15 : Int) (memQ gr (ByteArray.mk #[(103 : UInt8)]))).1 (2 : Int)).8 with
                | true =>
                 K (frmR [] (bodyOf Try.f8) 19)
                  (Sy.mk (SV.int IntKind.u8 kids :: (SV.int IntKind.u8 late :: (rawR u 2 (SV.ptr 2 bk 0 :: (SV.int IntKind.i64 (2 : Int) :: (SV.raw (u 7) :: (SV.int IntKind.i64 (3 : Int) :: (SV.raw (u 9) :: (SV.raw (u 10) :: (SV.vec 3 al (List.length l) cl :: (rawR u 12 (SV.ptr 2 bk 0 :: (SV.int IntKind.i64 (kgAll pt (15 : Int) (memQ gr (ByteArray.mk #[(103 : UInt8)]))).2 :: (SV.vec 3 al (List.length l) cl :: (SV.int IntKind.i64 (↑(List.length l) : Int) :: ((SV.bool ((kgAll pt (15 : Int) (memQ gr (ByteArray.mk #[(103 : UInt8)]))).2 != (↑(List.length l) : Int))) :: (SV.bool false :: (SV.ptr 2 bk 0 :: (SV.int IntKind.i64 (2 : Int) :: (SV.int IntKind.i64 (80 : Int) :: (SV.bool false :: (SV.bool false :: (rawR u 77 [] 89)))))))))))) 54)))))))) 3)))
                   [pkA bp ptE (kgAll pt (15 : Int) (memQ gr (ByteArray.mk #[(103 : UInt8)]))).1, pkA bg grpE gr,
                    Ent.mk (Loc.blk bk)
                     (SObj.cells [SV.ptr 0 bp 0, SV.ptr 1 bg 0, SV.raw v2, SV.raw v3, SV.int IntKind.i64 m, SV.int IntKind.i64 w] (175 : TypeId)),
                    Ent.mk (Loc.sl al cl) (SObj.vecL (3 : TypeId) 1 encI1 l (0 : Int))])
                | false =>
                 true = true ∧
                  bk = bk ∧
                   true = true ∧
                    bp = bp ∧
                     ∃ (h : PT = PT),
                      AdtIs (fun (s : PT) (b : Nat) ↦ packs (ptE s b)) ptE ∧
                       pOk (kgAll pt (15 : Int) (memQ gr (ByteArray.mk #[(103 : UInt8)]))).1 ∧
                        match (pExit (kgAll pt (15 : Int) (memQ gr (ByteArray.mk #[(103 : UInt8)]))).1 (2 : Int) (-9 : Int)).2 == (0 : Int) with
                        | true =>
                         bk = bk ∧
                          true = true ∧
                           bg = bg ∧
                            ∃ (h : Grp = Grp),
                             AdtIs (fun (s : Grp) (b : Nat) ↦ packs (grpE s b)) grpE ∧
                              gOk gr (2 : Int) ∧
                               ∀ (ao : Option Addr) (cap : Nat),
                                match (pExit (kgAll pt (15 : Int) (memQ gr (ByteArray.mk #[(103 : UInt8)]))).1 (2 : Int) (-9 : Int)).2 != (80 : Int) with
                                | true =>
                                 N
                                  [pkA bp ptE (pExit (kgAll pt (15 : Int) (memQ gr (ByteArray.mk #[(103 : UInt8)]))).1 (2 : Int) (-9 : Int)).1,
                                   pkA bg grpE (gGone gr (2 : Int) ao cap).1,
                                   Ent.mk (Loc.blk bk)
                                    (SObj.cells
                                     [SV.ptr 0 bp 0, SV.ptr 1 bg 0, SV.raw v2, SV.raw v3, SV.int IntKind.i64 m,
                                      SV.int IntKind.i64 w]
                                     (175 : TypeId)),
                                   Ent.mk (Loc.sl al cl) (SObj.vecL (3 : TypeId) 1 encI1 l (0 : Int))]
                                  (SV.bool false)
                                | false =>
                                 K (frmR [] (bodyOf Try.f8) 19)
                                  (Sy.mk (SV.int IntKind.u8 kids :: (SV.int IntKind.u8 late :: (rawR u 2 (SV.ptr 2 bk 0 :: (SV.int IntKind.i64 (2 : Int) :: (SV.raw (u 7) :: (SV.int IntKind.i64 (3 : Int) :: (SV.raw (u 9) :: (SV.raw (u 10) :: (SV.vec 3 al (List.length l) cl :: (rawR u 12 (SV.ptr 2 bk 0 :: (SV.int IntKind.i64 (kgAll pt (15 : Int) (memQ gr (ByteArray.mk #[(103 : UInt8)]))).2 :: (SV.vec 3 al (List.length l) cl :: (SV.int IntKind.i64 (↑(List.length l) : Int) :: ((SV.bool ((kgAll pt (15 : Int) (memQ gr (ByteArray.mk #[(103 : UInt8)]))).2 != (↑(List.length l) : Int))) :: (SV.bool false :: (SV.ptr 2 bk 0 :: (SV.int IntKind.i64 (2 : Int) :: (SV.int IntKind.i64 (pExit (kgAll pt (15 : Int) (memQ gr (ByteArray.mk #[(103 : UInt8)]))).1 (2 : Int) (-9 : Int)).2 :: ((SV.bool ((pExit (kgAll pt (15 : Int) (memQ gr (ByteArray.mk #[(103 : UInt8)]))).1 (2 : Int) (-9 : Int)).2 != (80 : Int))) :: (SV.bool false :: (rawR u 77 [] 89)))))))))))) 54)))))))) 3)))
                                   [pkA bp ptE (pExit (kgAll pt (15 : Int) (memQ gr (ByteArray.mk #[(103 : UInt8)]))).1 (2 : Int) (-9 : Int)).1,
                                    pkA bg grpE (gGone gr (2 : Int) ao cap).1,
                                    Ent.mk (Loc.blk bk)
                                     (SObj.cells
                                      [SV.ptr 0 bp 0, SV.ptr 1 bg 0, SV.raw v2, SV.raw v3, SV.int IntKind.i64 m,
                                       SV.int IntKind.i64 w]
                                      (175 : TypeId)),
                                    Ent.mk (Loc.sl al cl) (SObj.vecL (3 : TypeId) 1 encI1 l (0 : Int))])
                        | false =>
                         match (pExit (kgAll pt (15 : Int) (memQ gr (ByteArray.mk #[(103 : UInt8)]))).1 (2 : Int) (-9 : Int)).2 != (80 : Int) with
                         | true =>
                          N
                           [pkA bp ptE (pExit (kgAll pt (15 : Int) (memQ gr (ByteArray.mk #[(103 : UInt8)]))).1 (2 : Int) (-9 : Int)).1, pkA bg grpE gr,
                            Ent.mk (Loc.blk bk)
                             (SObj.cells [SV.ptr 0 bp 0, SV.ptr 1 bg 0, SV.raw v2, SV.raw v3, SV.int IntKind.i64 m, SV.int IntKind.i64 w]
                              (175 : TypeId)),
                            Ent.mk (Loc.sl al cl) (SObj.vecL (3 : TypeId) 1 encI1 l (0 : Int))]
                           (SV.bool false)
                         | false =>
                          K (frmR [] (bodyOf Try.f8) 19)
                           (Sy.mk (SV.int IntKind.u8 kids :: (SV.int IntKind.u8 late :: (rawR u 2 (SV.ptr 2 bk 0 :: (SV.int IntKind.i64 (2 : Int) :: (SV.raw (u 7) :: (SV.int IntKind.i64 (3 : Int) :: (SV.raw (u 9) :: (SV.raw (u 10) :: (SV.vec 3 al (List.length l) cl :: (rawR u 12 (SV.ptr 2 bk 0 :: (SV.int IntKind.i64 (kgAll pt (15 : Int) (memQ gr (ByteArray.mk #[(103 : UInt8)]))).2 :: (SV.vec 3 al (List.length l) cl :: (SV.int IntKind.i64 (↑(List.length l) : Int) :: ((SV.bool ((kgAll pt (15 : Int) (memQ gr (ByteArray.mk #[(103 : UInt8)]))).2 != (↑(List.length l) : Int))) :: (SV.bool false :: (SV.ptr 2 bk 0 :: (SV.int IntKind.i64 (2 : Int) :: (SV.int IntKind.i64 (pExit (kgAll pt (15 : Int) (memQ gr (ByteArray.mk #[(103 : UInt8)]))).1 (2 : Int) (-9 : Int)).2 :: ((SV.bool ((pExit (kgAll pt (15 : Int) (memQ gr (ByteArray.mk #[(103 : UInt8)]))).1 (2 : Int) (-9 : Int)).2 != (80 : Int))) :: (SV.bool false :: (rawR u 77 [] 89)))))))))))) 54)))))))) 3)))
                            [pkA bp ptE (pExit (kgAll pt (15 : Int) (memQ gr (ByteArray.mk #[(103 : UInt8)]))).1 (2 : Int) (-9 : Int)).1, pkA bg grpE gr,
                             Ent.mk (Loc.blk bk)
                              (SObj.cells [SV.ptr 0 bp 0, SV.ptr 1 bg 0, SV.raw v2, SV.raw v3, SV.int IntKind.i64 m, SV.int IntKind.i64 w]
                               (175 : TypeId)),
                             Ent.mk (Loc.sl al cl) (SObj.vecL (3 : TypeId) 1 encI1 l (0 : Int))])) := by kernel_rfl


theorem kq_19 (K : List Frm → Sy → Prop) (N : List Ent → SV → Prop) (bk bp bg : Nat) (pt : PT) (gr : Grp) (v2 v3 : Value) (m w kids late : Int) (al : Option Addr) (cl : Nat) (l : List Int) (u : Nat → Value) : (run Try.prog klT false [] K (retP Try.prog Try.f8.results.toList N) 1500 (frmR [] (bodyOf Try.f8) 19) ⟨mkT u 166 0 [(0, .int .u8 kids), (1, .int .u8 late), (5, .ptr 2 bk 0), (6, .int .i64 2), (8, .int .i64 3), (11, .vec 3 al l.length cl)], [pkA bp ptE (pt), pkA bg grpE (gr), ⟨.blk bk, .cells [.ptr 0 bp 0, .ptr 1 bg 0, .raw v2, .raw v3, .int .i64 m, .int .i64 w] 175⟩, ⟨.sl al cl, .vecL 3 1 encI1 l 0⟩]⟩) = (
K (frm [] (bodyOf Try.f8) [1, 1, 1, 1, 1, 1, 1, 1, 1, 1, 0, 1, 0] [])
 (Sy.mk (SV.int IntKind.u8 kids :: (SV.int IntKind.u8 late :: (rawR u 2 (SV.ptr 2 bk 0 :: (SV.int IntKind.i64 (2 : Int) :: (SV.raw (u 7) :: (SV.int IntKind.i64 (3 : Int) :: (SV.raw (u 9) :: (SV.raw (u 10) :: (SV.vec 3 al (List.length l) cl :: (SV.int IntKind.i64 (0 : Int) :: (rawR u 13 [] 153))))))))) 3)))
  [pkA bp ptE pt, pkA bg grpE gr,
   Ent.mk (Loc.blk bk) (SObj.cells [SV.ptr 0 bp 0, SV.ptr 1 bg 0, SV.raw v2, SV.raw v3, SV.int IntKind.i64 m, SV.int IntKind.i64 w] (175 : TypeId)),
   Ent.mk (Loc.sl al cl) (SObj.vecL (3 : TypeId) 1 encI1 l (0 : Int))])) := by kernel_rfl


theorem kq_25 (K : List Frm → Sy → Prop) (N : List Ent → SV → Prop) (bk bp bg : Nat) (pt : PT) (gr : Grp) (v2 v3 : Value) (m w kids late : Int) (al : Option Addr) (cl : Nat) (l : List Int) (u : Nat → Value) : (run Try.prog klT false [26] K (retP Try.prog Try.f8.results.toList N) 1500 (frmR [] (bodyOf Try.f8) 25) ⟨mkT u 166 0 [(0, .int .u8 kids), (1, .int .u8 late), (5, .ptr 2 bk 0), (6, .int .i64 2), (8, .int .i64 3)], [pkA bp ptE (pt), pkA bg grpE (gr), ⟨.blk bk, .cells [.ptr 0 bp 0, .ptr 1 bg 0, .raw v2, .raw v3, .int .i64 m, .int .i64 w] 175⟩, ⟨.sl al cl, .vecL 3 1 encI1 l 0⟩]⟩) = (
true = true ∧
 (bk = bk ∧ (175 : TypeId) = (175 : TypeId) ∧ true = true) ∧
  (bp = bp ∧ bg = bg) ∧
   ∃ (h1 : PT = PT),
    ∃ (h2 : Grp = Grp),
     AdtIs (fun (s : PT) (b : Nat) ↦ packs (ptE s b)) ptE ∧
      AdtIs (fun (s : Grp) (b : Nat) ↦ packs (grpE s b)) grpE ∧
       (pOk (cast h1 pt) ∧ gsOk (cast h2 gr)) ∧
        K (frmR [] (bodyOf Try.f8) 26)
         (Sy.mk (SV.int IntKind.u8 kids :: (SV.int IntKind.u8 late :: (rawR u 2 (SV.ptr 2 bk 0 :: (SV.int IntKind.i64 (2 : Int) :: (SV.raw (u 7) :: (SV.int IntKind.i64 (3 : Int) :: (rawR u 9 (SV.int IntKind.i64 (kgAll pt (9 : Int) (memQ gr (ByteArray.mk #[(103 : UInt8)]))).2 :: (rawR u 14 (SV.ptr 2 bk 0 :: (SV.int IntKind.i64 (kgAll pt (9 : Int) (memQ gr (ByteArray.mk #[(103 : UInt8)]))).2 :: (rawR u 100 [] 66))) 84)) 4))))) 3)))
          [pkA bp ptE (kgAll pt (9 : Int) (memQ gr (ByteArray.mk #[(103 : UInt8)]))).1, pkA bg grpE gr,
           Ent.mk (Loc.blk bk) (SObj.cells [SV.ptr 0 bp 0, SV.ptr 1 bg 0, SV.raw v2, SV.raw v3, SV.int IntKind.i64 m, SV.int IntKind.i64 w] (175 : TypeId)),
           Ent.mk (Loc.sl al cl) (SObj.vecL (3 : TypeId) 1 encI1 l (0 : Int))])) := by kernel_rfl


theorem kq_26 (K : List Frm → Sy → Prop) (N : List Ent → SV → Prop) (bk bp bg : Nat) (pt : PT) (gr : Grp) (v2 v3 : Value) (m w kids late : Int) (al : Option Addr) (cl : Nat) (l : List Int) (n : Int) (u : Nat → Value) : (run Try.prog klT false [27] K (retP Try.prog Try.f8.results.toList N) 1500 (frmR [] (bodyOf Try.f8) 26) ⟨mkT u 166 0 [(0, .int .u8 kids), (1, .int .u8 late), (5, .ptr 2 bk 0), (6, .int .i64 2), (8, .int .i64 3), (13, .int .i64 n)], [pkA bp ptE (pt), pkA bg grpE (gr), ⟨.blk bk, .cells [.ptr 0 bp 0, .ptr 1 bg 0, .raw v2, .raw v3, .int .i64 m, .int .i64 w] 175⟩, ⟨.sl al cl, .vecL 3 1 encI1 l 0⟩]⟩) = (
true = true ∧
 bk = bk ∧
  true = true ∧
   bg = bg ∧
    ∃ (h : Grp = Grp),
     AdtIs (fun (s : Grp) (b : Nat) ↦ packs (grpE s b)) grpE ∧
      memGOk (cast h gr) (ByteArray.mk #[(103 : UInt8)]) ∧
       ∀ (ao : Option Addr) (cap : Nat),
        K (frmR [] (bodyOf Try.f8) 27)
         (Sy.mk (SV.int IntKind.u8 kids :: (SV.int IntKind.u8 late :: (rawR u 2 (SV.ptr 2 bk 0 :: (SV.int IntKind.i64 (2 : Int) :: (SV.raw (u 7) :: (SV.int IntKind.i64 (3 : Int) :: (SV.raw (u 9) :: (SV.raw (u 10) :: (SV.vec 4 ao (List.length (memQ gr (ByteArray.mk #[(103 : UInt8)]))) cap :: (SV.raw (u 12) :: (SV.int IntKind.i64 n :: (rawR u 14 (SV.ptr 2 bk 0 :: (SV.ptr 1 bg 0 :: (SV.vec 4 ao (List.length (memQ gr (ByteArray.mk #[(103 : UInt8)]))) cap :: (rawR u 103 [] 63)))) 86)))))))))) 3)))
          [pkA bp ptE pt, pkA bg grpE gr,
           Ent.mk (Loc.blk bk) (SObj.cells [SV.ptr 0 bp 0, SV.ptr 1 bg 0, SV.raw v2, SV.raw v3, SV.int IntKind.i64 m, SV.int IntKind.i64 w] (175 : TypeId)),
           Ent.mk (Loc.sl al cl) (SObj.vecL (3 : TypeId) 1 encI1 l (0 : Int)),
           Ent.mk (Loc.sl ao cap) (SObj.vecL (3 : TypeId) 1 encI1 (memQ gr (ByteArray.mk #[(103 : UInt8)])) (0 : Int))])) := by kernel_rfl


theorem kq_27 (K : List Frm → Sy → Prop) (N : List Ent → SV → Prop) (bk bp bg : Nat) (pt : PT) (gr : Grp) (v2 v3 : Value) (m w kids late : Int) (al : Option Addr) (cl : Nat) (l : List Int) (n : Int) (u : Nat → Value) : (run Try.prog klT false [29] K (retP Try.prog Try.f8.results.toList N) 1500 (frmR [] (bodyOf Try.f8) 27) ⟨mkT u 166 0 [(0, .int .u8 kids), (1, .int .u8 late), (5, .ptr 2 bk 0), (6, .int .i64 2), (8, .int .i64 3), (11, .vec 3 al l.length cl), (13, .int .i64 n)], [pkA bp ptE (pt), pkA bg grpE (gr), ⟨.blk bk, .cells [.ptr 0 bp 0, .ptr 1 bg 0, .raw v2, .raw v3, .int .i64 m, .int .i64 w] 175⟩, ⟨.sl al cl, .vecL 3 1 encI1 l 0⟩]⟩) = (
match n != (↑(List.length l) : Int) with
| true =>
 N
  [pkA bp ptE pt, pkA bg grpE gr,
   Ent.mk (Loc.blk bk) (SObj.cells [SV.ptr 0 bp 0, SV.ptr 1 bg 0, SV.raw v2, SV.raw v3, SV.int IntKind.i64 m, SV.int IntKind.i64 w] (175 : TypeId)),
   Ent.mk (Loc.sl al cl) (SObj.vecL (3 : TypeId) 1 encI1 l (0 : Int))]
  (SV.bool false)
| false =>
 K (frmR [] (bodyOf Try.f8) 29)
  (Sy.mk (SV.int IntKind.u8 kids :: (SV.int IntKind.u8 late :: (rawR u 2 (SV.ptr 2 bk 0 :: (SV.int IntKind.i64 (2 : Int) :: (SV.raw (u 7) :: (SV.int IntKind.i64 (3 : Int) :: (SV.raw (u 9) :: (SV.raw (u 10) :: (SV.vec 3 al (List.length l) cl :: (SV.raw (u 12) :: (SV.int IntKind.i64 n :: (rawR u 14 (SV.int IntKind.i64 n :: (SV.vec 3 al (List.length l) cl :: (SV.int IntKind.i64 (↑(List.length l) : Int) :: (SV.bool false :: (rawR u 107 [] 59))))) 89)))))))))) 3)))
   [pkA bp ptE pt, pkA bg grpE gr,
    Ent.mk (Loc.blk bk) (SObj.cells [SV.ptr 0 bp 0, SV.ptr 1 bg 0, SV.raw v2, SV.raw v3, SV.int IntKind.i64 m, SV.int IntKind.i64 w] (175 : TypeId)),
    Ent.mk (Loc.sl al cl) (SObj.vecL (3 : TypeId) 1 encI1 l (0 : Int))])) := by kernel_rfl


theorem kq_29 (K : List Frm → Sy → Prop) (N : List Ent → SV → Prop) (bk bp bg : Nat) (pt : PT) (gr : Grp) (v2 v3 : Value) (m w kids late : Int) (al : Option Addr) (cl : Nat) (l : List Int) (u : Nat → Value) : (run Try.prog klT false [30] K (retP Try.prog Try.f8.results.toList N) 1500 (frmR [] (bodyOf Try.f8) 29) ⟨mkT u 166 0 [(0, .int .u8 kids), (1, .int .u8 late), (5, .ptr 2 bk 0), (6, .int .i64 2), (8, .int .i64 3), (11, .vec 3 al l.length cl)], [pkA bp ptE (pt), pkA bg grpE (gr), ⟨.blk bk, .cells [.ptr 0 bp 0, .ptr 1 bg 0, .raw v2, .raw v3, .int .i64 m, .int .i64 w] 175⟩, ⟨.sl al cl, .vecL 3 1 encI1 l 0⟩]⟩) = (
(al = al ∧ cl = cl ∧ List.length l = List.length l ∧ (0 : Int) ≤ (0 : Int) ∧ (0 : Int) < (↑(List.length l) : Int)) ∧
 (Addr.blkD al = Addr.blkD al ∧ Addr.offD al = Addr.offD al ∧ 1 = 1 ∧ 0 < List.length l) ∧
  true = true ∧
   bk = bk ∧
    true = true ∧
     bg = bg ∧
      ∃ (h : Grp = Grp),
       AdtIs (fun (s : Grp) (b : Nat) ↦ packs (grpE s b)) grpE ∧
        bk = bk ∧
         true = true ∧
          bp = bp ∧
           ∃ (h : PT = PT),
            AdtIs (fun (s : PT) (b : Nat) ↦ packs (ptE s b)) ptE ∧
             pOk pt ∧
              ∀ (nb : Nat),
               true = true ∧
                match (pFork pt (List.getD l 0 (0 : Int)) nb).2.2 == (0 : Int) with
                | true =>
                 match
                  !sEq
                   (match mget gr.6 (Key.i IntKind.i64 (List.getD l 0 (0 : Int))) with
                   | some x => x
                   | none => ByteArray.mk #[])
                   (ByteArray.mk #[]) with
                 | true =>
                  bk = bk ∧
                   true = true ∧
                    bg = bg ∧
                     ∃ (h : Grp = Grp),
                      AdtIs (fun (s : Grp) (b : Nat) ↦ packs (grpE s b)) grpE ∧
                       (gOk gr (pFork pt (List.getD l 0 (0 : Int)) nb).2.1 ∧ keysOk gr.gs) ∧
                        ∀ (ao : Option Addr) (cap : Nat),
                         K (frmR [] (bodyOf Try.f8) 30)
                          (Sy.mk (SV.int IntKind.u8 kids :: (SV.int IntKind.u8 late :: (rawR u 2 (SV.ptr 2 bk 0 :: (SV.int IntKind.i64 (2 : Int) :: ((SV.int IntKind.i64 (gPut gr (pFork pt (List.getD l 0 (0 : Int)) nb).2.1 (match mget gr.6 (Key.i IntKind.i64 (List.getD l 0 (0 : Int))) with | some x => x | none => ByteArray.mk #[]) ao cap).2) :: (SV.int IntKind.i64 (3 : Int) :: (SV.raw (u 9) :: (SV.raw (u 10) :: (SV.vec 3 al (List.length l) cl :: (rawR u 12 ((SV.tuple [SV.int IntKind.i64 (pFork pt (List.getD l 0 (0 : Int)) nb).2.1, SV.int IntKind.i64 (gPut gr (pFork pt (List.getD l 0 (0 : Int)) nb).2.1 (match mget gr.6 (Key.i IntKind.i64 (List.getD l 0 (0 : Int))) with | some x => x | none => ByteArray.mk #[]) ao cap).2]) :: (SV.ptr 2 bk 0 :: (SV.vec 3 al (List.length l) cl :: (SV.eptr 3 (Addr.blkD al) (Addr.offD al) 1 0 0 :: (SV.int IntKind.i64 (List.getD l 0 (0 : Int)) :: ((SV.tuple [SV.int IntKind.i64 (pFork pt (List.getD l 0 (0 : Int)) nb).2.1, SV.int IntKind.i64 (gPut gr (pFork pt (List.getD l 0 (0 : Int)) nb).2.1 (match mget gr.6 (Key.i IntKind.i64 (List.getD l 0 (0 : Int))) with | some x => x | none => ByteArray.mk #[]) ao cap).2]) :: (SV.int IntKind.i64 (pFork pt (List.getD l 0 (0 : Int)) nb).2.1 :: ((SV.int IntKind.i64 (gPut gr (pFork pt (List.getD l 0 (0 : Int)) nb).2.1 (match mget gr.6 (Key.i IntKind.i64 (List.getD l 0 (0 : Int))) with | some x => x | none => ByteArray.mk #[]) ao cap).2) :: (rawR u 115 [] 51))))))))) 95)))))))) 3)))
                           [pkA bp ptE (pFork pt (List.getD l 0 (0 : Int)) nb).1,
                            pkA bg grpE
                             (gPut gr (pFork pt (List.getD l 0 (0 : Int)) nb).2.1
                              (match mget gr.6 (Key.i IntKind.i64 (List.getD l 0 (0 : Int))) with
                              | some x => x
                              | none => ByteArray.mk #[])
                              ao cap).1,
                            Ent.mk (Loc.blk bk)
                             (SObj.cells [SV.ptr 0 bp 0, SV.ptr 1 bg 0, SV.raw v2, SV.raw v3, SV.int IntKind.i64 m, SV.int IntKind.i64 w]
                              (175 : TypeId)),
                            Ent.mk (Loc.sl al cl) (SObj.vecL (3 : TypeId) 1 encI1 l (0 : Int))])
                 | false =>
                  K (frmR [] (bodyOf Try.f8) 30)
                   (Sy.mk (SV.int IntKind.u8 kids :: (SV.int IntKind.u8 late :: (rawR u 2 (SV.ptr 2 bk 0 :: (SV.int IntKind.i64 (2 : Int) :: (SV.int IntKind.i64 (pFork pt (List.getD l 0 (0 : Int)) nb).2.2 :: (SV.int IntKind.i64 (3 : Int) :: (SV.raw (u 9) :: (SV.raw (u 10) :: (SV.vec 3 al (List.length l) cl :: (rawR u 12 (SV.tuple [SV.int IntKind.i64 (pFork pt (List.getD l 0 (0 : Int)) nb).2.1, SV.int IntKind.i64 (pFork pt (List.getD l 0 (0 : Int)) nb).2.2] :: (SV.ptr 2 bk 0 :: (SV.vec 3 al (List.length l) cl :: (SV.eptr 3 (Addr.blkD al) (Addr.offD al) 1 0 0 :: (SV.int IntKind.i64 (List.getD l 0 (0 : Int)) :: (SV.tuple [SV.int IntKind.i64 (pFork pt (List.getD l 0 (0 : Int)) nb).2.1, SV.int IntKind.i64 (pFork pt (List.getD l 0 (0 : Int)) nb).2.2] :: (SV.int IntKind.i64 (pFork pt (List.getD l 0 (0 : Int)) nb).2.1 :: (SV.int IntKind.i64 (pFork pt (List.getD l 0 (0 : Int)) nb).2.2 :: (rawR u 115 [] 51))))))))) 95)))))))) 3)))
                    [pkA bp ptE (pFork pt (List.getD l 0 (0 : Int)) nb).1, pkA bg grpE gr,
                     Ent.mk (Loc.blk bk)
                      (SObj.cells [SV.ptr 0 bp 0, SV.ptr 1 bg 0, SV.raw v2, SV.raw v3, SV.int IntKind.i64 m, SV.int IntKind.i64 w]
                       (175 : TypeId)),
                     Ent.mk (Loc.sl al cl) (SObj.vecL (3 : TypeId) 1 encI1 l (0 : Int))])
                | false =>
                 K (frmR [] (bodyOf Try.f8) 30)
                  (Sy.mk (SV.int IntKind.u8 kids :: (SV.int IntKind.u8 late :: (rawR u 2 (SV.ptr 2 bk 0 :: (SV.int IntKind.i64 (2 : Int) :: (SV.int IntKind.i64 (pFork pt (List.getD l 0 (0 : Int)) nb).2.2 :: (SV.int IntKind.i64 (3 : Int) :: (SV.raw (u 9) :: (SV.raw (u 10) :: (SV.vec 3 al (List.length l) cl :: (rawR u 12 (SV.tuple [SV.int IntKind.i64 (pFork pt (List.getD l 0 (0 : Int)) nb).2.1, SV.int IntKind.i64 (pFork pt (List.getD l 0 (0 : Int)) nb).2.2] :: (SV.ptr 2 bk 0 :: (SV.vec 3 al (List.length l) cl :: (SV.eptr 3 (Addr.blkD al) (Addr.offD al) 1 0 0 :: (SV.int IntKind.i64 (List.getD l 0 (0 : Int)) :: (SV.tuple [SV.int IntKind.i64 (pFork pt (List.getD l 0 (0 : Int)) nb).2.1, SV.int IntKind.i64 (pFork pt (List.getD l 0 (0 : Int)) nb).2.2] :: (SV.int IntKind.i64 (pFork pt (List.getD l 0 (0 : Int)) nb).2.1 :: (SV.int IntKind.i64 (pFork pt (List.getD l 0 (0 : Int)) nb).2.2 :: (rawR u 115 [] 51))))))))) 95)))))))) 3)))
                   [pkA bp ptE (pFork pt (List.getD l 0 (0 : Int)) nb).1, pkA bg grpE gr,
                    Ent.mk (Loc.blk bk)
                     (SObj.cells [SV.ptr 0 bp 0, SV.ptr 1 bg 0, SV.raw v2, SV.raw v3, SV.int IntKind.i64 m, SV.int IntKind.i64 w] (175 : TypeId)),
                    Ent.mk (Loc.sl al cl) (SObj.vecL (3 : TypeId) 1 encI1 l (0 : Int))])) := by kernel_rfl


theorem kq_30 (K : List Frm → Sy → Prop) (N : List Ent → SV → Prop) (bk bp bg : Nat) (pt : PT) (gr : Grp) (v2 v3 : Value) (m w kids late : Int) (al : Option Addr) (cl : Nat) (l : List Int) (e : Int) (u : Nat → Value) : (run Try.prog klT false [] K (retP Try.prog Try.f8.results.toList N) 1500 (frmR [] (bodyOf Try.f8) 30) ⟨mkT u 166 0 [(0, .int .u8 kids), (1, .int .u8 late), (5, .ptr 2 bk 0), (6, .int .i64 2), (7, .int .i64 e), (8, .int .i64 3), (11, .vec 3 al l.length cl)], [pkA bp ptE (pt), pkA bg grpE (gr), ⟨.blk bk, .cells [.ptr 0 bp 0, .ptr 1 bg 0, .raw v2, .raw v3, .int .i64 m, .int .i64 w] 175⟩, ⟨.sl al cl, .vecL 3 1 encI1 l 0⟩]⟩) = (
match e != (80 : Int) with
| true =>
 N
  [pkA bp ptE pt, pkA bg grpE gr,
   Ent.mk (Loc.blk bk) (SObj.cells [SV.ptr 0 bp 0, SV.ptr 1 bg 0, SV.raw v2, SV.raw v3, SV.int IntKind.i64 m, SV.int IntKind.i64 w] (175 : TypeId)),
   Ent.mk (Loc.sl al cl) (SObj.vecL (3 : TypeId) 1 encI1 l (0 : Int))]
  (SV.bool false)
| false =>
 K
  (frm [] (bodyOf Try.f8)
   [1, 1, 1, 1, 1, 1, 1, 1, 1, 1, 1, 1, 1, 1, 1, 1, 0,
    1, 0]
   [])
  (Sy.mk (SV.int IntKind.u8 kids :: (SV.int IntKind.u8 late :: (rawR u 2 (SV.ptr 2 bk 0 :: (SV.int IntKind.i64 (2 : Int) :: (SV.int IntKind.i64 e :: (SV.int IntKind.i64 (3 : Int) :: (SV.raw (u 9) :: (SV.raw (u 10) :: (SV.vec 3 al (List.length l) cl :: (SV.raw (u 12) :: (SV.raw (u 13) :: (SV.int IntKind.i64 (0 : Int) :: (rawR u 15 (SV.int IntKind.i64 e :: (SV.bool false :: (rawR u 117 [] 49))) 100))))))))))) 3)))
   [pkA bp ptE pt, pkA bg grpE gr,
    Ent.mk (Loc.blk bk) (SObj.cells [SV.ptr 0 bp 0, SV.ptr 1 bg 0, SV.raw v2, SV.raw v3, SV.int IntKind.i64 m, SV.int IntKind.i64 w] (175 : TypeId)),
    Ent.mk (Loc.sl al cl) (SObj.vecL (3 : TypeId) 1 encI1 l (0 : Int))])) := by kernel_rfl


theorem kq_l2 (K : List Frm → Sy → Prop) (N : List Ent → SV → Prop) (J : Act → World → Prop) (bk bp bg : Nat) (pt : PT) (gr : Grp) (v2 v3 : Value) (m w kids late : Int) (al : Option Addr) (cl : Nat) (l : List Int) (i : Nat) (u : Nat → Value) : (run Try.prog klT false [22, 25] K (retP Try.prog Try.f8.results.toList N) 1500 (frm [J] (bodyOf Try.f8) [1, 1, 1, 1, 1, 1, 1, 1, 1, 1, 0, 1, 0, 0] []) ⟨mkT u 166 0 [(0, .int .u8 kids), (1, .int .u8 late), (5, .ptr 2 bk 0), (6, .int .i64 2), (8, .int .i64 3), (11, .vec 3 al l.length cl), (12, .int .i64 (i : Int))], [pkA bp ptE (pt), pkA bg grpE (gr), ⟨.blk bk, .cells [.ptr 0 bp 0, .ptr 1 bg 0, .raw v2, .raw v3, .int .i64 m, .int .i64 w] 175⟩, ⟨.sl al cl, .vecL 3 1 encI1 l 0⟩]⟩) = (
(10 : Int) ≠ (0 : Int) ∧
 match decide ((↑i : Int) < IntKind.wrap IntKind.i64 (Int.tmod late (10 : Int))) with
 | true =>
  K (frmR [J] (bodyOf Try.f8) 22)
   (Sy.mk (SV.int IntKind.u8 kids :: (SV.int IntKind.u8 late :: (rawR u 2 (SV.ptr 2 bk 0 :: (SV.int IntKind.i64 (2 : Int) :: (SV.raw (u 7) :: (SV.int IntKind.i64 (3 : Int) :: (SV.raw (u 9) :: (SV.raw (u 10) :: (SV.vec 3 al (List.length l) cl :: (SV.int IntKind.i64 (↑i : Int) :: (rawR u 13 (SV.int IntKind.i64 (↑i : Int) :: (SV.int IntKind.u8 late :: (SV.int IntKind.u8 (Int.tmod late (10 : Int)) :: (SV.int IntKind.i64 (IntKind.wrap IntKind.i64 (Int.tmod late (10 : Int))) :: (SV.bool true :: (rawR u 82 [] 84)))))) 64))))))))) 3)))
    [pkA bp ptE pt, pkA bg grpE gr,
     Ent.mk (Loc.blk bk) (SObj.cells [SV.ptr 0 bp 0, SV.ptr 1 bg 0, SV.raw v2, SV.raw v3, SV.int IntKind.i64 m, SV.int IntKind.i64 w] (175 : TypeId)),
     Ent.mk (Loc.sl al cl) (SObj.vecL (3 : TypeId) 1 encI1 l (0 : Int))])
 | false =>
  K (frmR [] (bodyOf Try.f8) 25)
   (Sy.mk (SV.int IntKind.u8 kids :: (SV.int IntKind.u8 late :: (rawR u 2 (SV.ptr 2 bk 0 :: (SV.int IntKind.i64 (2 : Int) :: (SV.raw (u 7) :: (SV.int IntKind.i64 (3 : Int) :: (SV.raw (u 9) :: (SV.raw (u 10) :: (SV.vec 3 al (List.length l) cl :: (SV.int IntKind.i64 (↑i : Int) :: (rawR u 13 (SV.int IntKind.i64 (↑i : Int) :: (SV.int IntKind.u8 late :: (SV.int IntKind.u8 (Int.tmod late (10 : Int)) :: (SV.int IntKind.i64 (IntKind.wrap IntKind.i64 (Int.tmod late (10 : Int))) :: (SV.bool false :: (rawR u 82 [] 84)))))) 64))))))))) 3)))
    [pkA bp ptE pt, pkA bg grpE gr,
     Ent.mk (Loc.blk bk) (SObj.cells [SV.ptr 0 bp 0, SV.ptr 1 bg 0, SV.raw v2, SV.raw v3, SV.int IntKind.i64 m, SV.int IntKind.i64 w] (175 : TypeId)),
     Ent.mk (Loc.sl al cl) (SObj.vecL (3 : TypeId) 1 encI1 l (0 : Int))])) := by kernel_rfl


theorem kq_22 (K : List Frm → Sy → Prop) (N : List Ent → SV → Prop) (J0 : Act → World → Prop) (bk bp bg : Nat) (pt : PT) (gr : Grp) (v2 v3 : Value) (m w kids late : Int) (al : Option Addr) (cl : Nat) (l : List Int) (i : Nat) (u : Nat → Value) : (run Try.prog klT false [] K (retP Try.prog Try.f8.results.toList N) 1500 (frmR [J0] (bodyOf Try.f8) 22) ⟨mkT u 166 0 [(0, .int .u8 kids), (1, .int .u8 late), (5, .ptr 2 bk 0), (6, .int .i64 2), (8, .int .i64 3), (11, .vec 3 al l.length cl), (12, .int .i64 (i : Int))], [pkA bp ptE (pt), pkA bg grpE (gr), ⟨.blk bk, .cells [.ptr 0 bp 0, .ptr 1 bg 0, .raw v2, .raw v3, .int .i64 m, .int .i64 w] 175⟩, ⟨.sl al cl, .vecL 3 1 encI1 l 0⟩]⟩) = (
(↑(List.length l) : Int) ≠ (0 : Int) ∧
 (al = al ∧ cl = cl ∧ List.length l = List.length l ∧ (0 : Int) ≤ Int.tmod (↑i : Int) (↑(List.length l) : Int) ∧ Int.tmod (↑i : Int) (↑(List.length l) : Int) < (↑(List.length l) : Int)) ∧
  (Addr.blkD al = Addr.blkD al ∧ Addr.offD al = Addr.offD al ∧ 1 = 1 ∧ Int.toNat (Int.tmod (↑i : Int) (↑(List.length l) : Int)) < List.length l) ∧
   true = true ∧
    bk = bk ∧
     true = true ∧
      bg = bg ∧
       ∃ (h : Grp = Grp),
        AdtIs (fun (s : Grp) (b : Nat) ↦ packs (grpE s b)) grpE ∧
         bk = bk ∧
          true = true ∧
           bp = bp ∧
            ∃ (h : PT = PT),
             AdtIs (fun (s : PT) (b : Nat) ↦ packs (ptE s b)) ptE ∧
              pOk pt ∧
               ∀ (nb : Nat),
                true = true ∧
                 match (pFork pt (List.getD l (Int.toNat (Int.tmod (↑i : Int) (↑(List.length l) : Int))) (0 : Int)) nb).2.2 == (0 : Int) with
                 | true =>
                  match
                   !sEq
                    (match mget gr.6 (Key.i IntKind.i64 (List.getD l (Int.toNat (Int.tmod (↑i : Int) (↑(List.length l) : Int))) (0 : Int))) with
                    | some x => x
                    | none => ByteArray.mk #[])
                    (ByteArray.mk #[]) with
                  | true =>
                   bk = bk ∧
                    true = true ∧
                     bg = bg ∧
                      ∃ (h : Grp = Grp),
                       AdtIs (fun (s : Grp) (b : Nat) ↦ packs (grpE s b)) grpE ∧
                        (gOk gr (pFork pt (List.getD l (Int.toNat (Int.tmod (↑i : Int) (↑(List.length l) : Int))) (0 : Int)) nb).2.1 ∧ keysOk gr.gs) ∧
                         ∀ (ao : Option Addr) (cap : Nat),
                          match
                           (gPut gr (pFork pt (List.getD l (Int.toNat (Int.tmod (↑i : Int) (↑(List.length l) : Int))) (0 : Int)) nb).2.1
                            (match mget gr.6 (Key.i IntKind.i64 (List.getD l (Int.toNat (Int.tmod (↑i : Int) (↑(List.length l) : Int))) (0 : Int))) with
                            | some x => x
                            | none => ByteArray.mk #[])
                            ao cap).2 !=
                            (0 : Int) with
                          | true =>
                           N
                            [pkA bp ptE (pFork pt (List.getD l (Int.toNat (Int.tmod (↑i : Int) (↑(List.length l) : Int))) (0 : Int)) nb).1,
                             pkA bg grpE
                              (gPut gr (pFork pt (List.getD l (Int.toNat (Int.tmod (↑i : Int) (↑(List.length l) : Int))) (0 : Int)) nb).2.1
                               (match mget gr.6 (Key.i IntKind.i64 (List.getD l (Int.toNat (Int.tmod (↑i : Int) (↑(List.length l) : Int))) (0 : Int))) with
                               | some x => x
                               | none => ByteArray.mk #[])
                               ao cap).1,
                             Ent.mk (Loc.blk bk)
                              (SObj.cells [SV.ptr 0 bp 0, SV.ptr 1 bg 0, SV.raw v2, SV.raw v3, SV.int IntKind.i64 m, SV.int IntKind.i64 w]
                               (175 : TypeId)),
                             Ent.mk (Loc.sl al cl) (SObj.vecL (3 : TypeId) 1 encI1 l (0 : Int))]
                            (SV.bool false)
                          | false =>
                           K
                            (Frm.loop J0 ::
                             Frm.blk 2 ::
                              frm [] (bodyOf Try.f8)
                               [1, 1, 1, 1, 1, 1, 1, 1, 1, 1, 1] [])
                            (Sy.mk (SV.int IntKind.u8 kids :: (SV.int IntKind.u8 late :: (rawR u 2 (SV.ptr 2 bk 0 :: (SV.int IntKind.i64 (2 : Int) :: ((SV.int IntKind.i64 (gPut gr (pFork pt (List.getD l (Int.toNat (Int.tmod (↑i : Int) (↑(List.length l) : Int))) (0 : Int)) nb).2.1 (match mget gr.6 (Key.i IntKind.i64 (List.getD l (Int.toNat (Int.tmod (↑i : Int) (↑(List.length l) : Int))) (0 : Int))) with | some x => x | none => ByteArray.mk #[]) ao cap).2) :: (SV.int IntKind.i64 (3 : Int) :: (SV.raw (u 9) :: (SV.raw (u 10) :: (SV.vec 3 al (List.length l) cl :: (SV.int IntKind.i64 (IntKind.wrap IntKind.i64 ((↑i : Int) + (1 : Int))) :: (rawR u 13 (SV.int IntKind.i64 (↑i : Int) :: (SV.int IntKind.i64 (IntKind.wrap IntKind.i64 ((↑i : Int) + (1 : Int))) :: ((SV.tuple [SV.int IntKind.i64 (pFork pt (List.getD l (Int.toNat (Int.tmod (↑i : Int) (↑(List.length l) : Int))) (0 : Int)) nb).2.1, SV.int IntKind.i64 (gPut gr (pFork pt (List.getD l (Int.toNat (Int.tmod (↑i : Int) (↑(List.length l) : Int))) (0 : Int)) nb).2.1 (match mget gr.6 (Key.i IntKind.i64 (List.getD l (Int.toNat (Int.tmod (↑i : Int) (↑(List.length l) : Int))) (0 : Int))) with | some x => x | none => ByteArray.mk #[]) ao cap).2]) :: (SV.ptr 2 bk 0 :: (SV.vec 3 al (List.length l) cl :: (SV.int IntKind.i64 (↑i : Int) :: (SV.vec 3 al (List.length l) cl :: (SV.int IntKind.i64 (↑(List.length l) : Int) :: (SV.int IntKind.i64 (Int.tmod (↑i : Int) (↑(List.length l) : Int)) :: (SV.eptr 3 (Addr.blkD al) (Addr.offD al) 1 (Int.toNat (Int.tmod (↑i : Int) (↑(List.length l) : Int))) 0 :: (SV.int IntKind.i64 (List.getD l (Int.toNat (Int.tmod (↑i : Int) (↑(List.length l) : Int))) (0 : Int)) :: ((SV.tuple [SV.int IntKind.i64 (pFork pt (List.getD l (Int.toNat (Int.tmod (↑i : Int) (↑(List.length l) : Int))) (0 : Int)) nb).2.1, SV.int IntKind.i64 (gPut gr (pFork pt (List.getD l (Int.toNat (Int.tmod (↑i : Int) (↑(List.length l) : Int))) (0 : Int)) nb).2.1 (match mget gr.6 (Key.i IntKind.i64 (List.getD l (Int.toNat (Int.tmod (↑i : Int) (↑(List.length l) : Int))) (0 : Int))) with | some x => x | none => ByteArray.mk #[]) ao cap).2]) :: (SV.int IntKind.i64 (pFork pt (List.getD l (Int.toNat (Int.tmod (↑i : Int) (↑(List.length l) : Int))) (0 : Int)) nb).2.1 :: ((SV.int IntKind.i64 (gPut gr (pFork pt (List.getD l (Int.toNat (Int.tmod (↑i : Int) (↑(List.length l) : Int))) (0 : Int)) nb).2.1 (match mget gr.6 (Key.i IntKind.i64 (List.getD l (Int.toNat (Int.tmod (↑i : Int) (↑(List.length l) : Int))) (0 : Int))) with | some x => x | none => ByteArray.mk #[]) ao cap).2) :: ((SV.int IntKind.i64 (gPut gr (pFork pt (List.getD l (Int.toNat (Int.tmod (↑i : Int) (↑(List.length l) : Int))) (0 : Int)) nb).2.1 (match mget gr.6 (Key.i IntKind.i64 (List.getD l (Int.toNat (Int.tmod (↑i : Int) (↑(List.length l) : Int))) (0 : Int))) with | some x => x | none => ByteArray.mk #[]) ao cap).2) :: (SV.bool false :: (rawR u 98 [] 68))))))))))))))))) 69))))))))) 3)))
                             [pkA bp ptE (pFork pt (List.getD l (Int.toNat (Int.tmod (↑i : Int) (↑(List.length l) : Int))) (0 : Int)) nb).1,
                              pkA bg grpE
                               (gPut gr (pFork pt (List.getD l (Int.toNat (Int.tmod (↑i : Int) (↑(List.length l) : Int))) (0 : Int)) nb).2.1
                                (match mget gr.6 (Key.i IntKind.i64 (List.getD l (Int.toNat (Int.tmod (↑i : Int) (↑(List.length l) : Int))) (0 : Int))) with
                                | some x => x
                                | none => ByteArray.mk #[])
                                ao cap).1,
                              Ent.mk (Loc.blk bk)
                               (SObj.cells
                                [SV.ptr 0 bp 0, SV.ptr 1 bg 0, SV.raw v2, SV.raw v3, SV.int IntKind.i64 m, SV.int IntKind.i64 w]
                                (175 : TypeId)),
                              Ent.mk (Loc.sl al cl) (SObj.vecL (3 : TypeId) 1 encI1 l (0 : Int))])
                  | false =>
                   match (pFork pt (List.getD l (Int.toNat (Int.tmod (↑i : Int) (↑(List.length l) : Int))) (0 : Int)) nb).2.2 != (0 : Int) with
                   | true =>
                    N
                     [pkA bp ptE (pFork pt (List.getD l (Int.toNat (Int.tmod (↑i : Int) (↑(List.length l) : Int))) (0 : Int)) nb).1, pkA bg grpE gr,
                      Ent.mk (Loc.blk bk)
                       (SObj.cells [SV.ptr 0 bp 0, SV.ptr 1 bg 0, SV.raw v2, SV.raw v3, SV.int IntKind.i64 m, SV.int IntKind.i64 w]
                        (175 : TypeId)),
                      Ent.mk (Loc.sl al cl) (SObj.vecL (3 : TypeId) 1 encI1 l (0 : Int))]
                     (SV.bool false)
                   | false =>
                    K
                     (Frm.loop J0 ::
                      Frm.blk 2 ::
                       frm [] (bodyOf Try.f8) [1, 1, 1, 1, 1, 1, 1, 1, 1, 1, 1] [])
                     (Sy.mk (SV.int IntKind.u8 kids :: (SV.int IntKind.u8 late :: (rawR u 2 (SV.ptr 2 bk 0 :: (SV.int IntKind.i64 (2 : Int) :: (SV.int IntKind.i64 (pFork pt (List.getD l (Int.toNat (Int.tmod (↑i : Int) (↑(List.length l) : Int))) (0 : Int)) nb).2.2 :: (SV.int IntKind.i64 (3 : Int) :: (SV.raw (u 9) :: (SV.raw (u 10) :: (SV.vec 3 al (List.length l) cl :: (SV.int IntKind.i64 (IntKind.wrap IntKind.i64 ((↑i : Int) + (1 : Int))) :: (rawR u 13 (SV.int IntKind.i64 (↑i : Int) :: (SV.int IntKind.i64 (IntKind.wrap IntKind.i64 ((↑i : Int) + (1 : Int))) :: (SV.tuple [SV.int IntKind.i64 (pFork pt (List.getD l (Int.toNat (Int.tmod (↑i : Int) (↑(List.length l) : Int))) (0 : Int)) nb).2.1, SV.int IntKind.i64 (pFork pt (List.getD l (Int.toNat (Int.tmod (↑i : Int) (↑(List.length l) : Int))) (0 : Int)) nb).2.2] :: (SV.ptr 2 bk 0 :: (SV.vec 3 al (List.length l) cl :: (SV.int IntKind.i64 (↑i : Int) :: (SV.vec 3 al (List.length l) cl :: (SV.int IntKind.i64 (↑(List.length l) : Int) :: (SV.int IntKind.i64 (Int.tmod (↑i : Int) (↑(List.length l) : Int)) :: (SV.eptr 3 (Addr.blkD al) (Addr.offD al) 1 (Int.toNat (Int.tmod (↑i : Int) (↑(List.length l) : Int))) 0 :: (SV.int IntKind.i64 (List.getD l (Int.toNat (Int.tmod (↑i : Int) (↑(List.length l) : Int))) (0 : Int)) :: (SV.tuple [SV.int IntKind.i64 (pFork pt (List.getD l (Int.toNat (Int.tmod (↑i : Int) (↑(List.length l) : Int))) (0 : Int)) nb).2.1, SV.int IntKind.i64 (pFork pt (List.getD l (Int.toNat (Int.tmod (↑i : Int) (↑(List.length l) : Int))) (0 : Int)) nb).2.2] :: (SV.int IntKind.i64 (pFork pt (List.getD l (Int.toNat (Int.tmod (↑i : Int) (↑(List.length l) : Int))) (0 : Int)) nb).2.1 :: (SV.int IntKind.i64 (pFork pt (List.getD l (Int.toNat (Int.tmod (↑i : Int) (↑(List.length l) : Int))) (0 : Int)) nb).2.2 :: (SV.int IntKind.i64 (pFork pt (List.getD l (Int.toNat (Int.tmod (↑i : Int) (↑(List.length l) : Int))) (0 : Int)) nb).2.2 :: (SV.bool false :: (rawR u 98 [] 68))))))))))))))))) 69))))))))) 3)))
                      [pkA bp ptE (pFork pt (List.getD l (Int.toNat (Int.tmod (↑i : Int) (↑(List.length l) : Int))) (0 : Int)) nb).1, pkA bg grpE gr,
                       Ent.mk (Loc.blk bk)
                        (SObj.cells [SV.ptr 0 bp 0, SV.ptr 1 bg 0, SV.raw v2, SV.raw v3, SV.int IntKind.i64 m, SV.int IntKind.i64 w]
                         (175 : TypeId)),
                       Ent.mk (Loc.sl al cl) (SObj.vecL (3 : TypeId) 1 encI1 l (0 : Int))])
                 | false =>
                  match (pFork pt (List.getD l (Int.toNat (Int.tmod (↑i : Int) (↑(List.length l) : Int))) (0 : Int)) nb).2.2 != (0 : Int) with
                  | true =>
                   N
                    [pkA bp ptE (pFork pt (List.getD l (Int.toNat (Int.tmod (↑i : Int) (↑(List.length l) : Int))) (0 : Int)) nb).1, pkA bg grpE gr,
                     Ent.mk (Loc.blk bk)
                      (SObj.cells [SV.ptr 0 bp 0, SV.ptr 1 bg 0, SV.raw v2, SV.raw v3, SV.int IntKind.i64 m, SV.int IntKind.i64 w]
                       (175 : TypeId)),
                     Ent.mk (Loc.sl al cl) (SObj.vecL (3 : TypeId) 1 encI1 l (0 : Int))]
                    (SV.bool false)
                  | false =>
                   K
                    (Frm.loop J0 ::
                     Frm.blk 2 ::
                      frm [] (bodyOf Try.f8) [1, 1, 1, 1, 1, 1, 1, 1, 1, 1, 1] [])
                    (Sy.mk (SV.int IntKind.u8 kids :: (SV.int IntKind.u8 late :: (rawR u 2 (SV.ptr 2 bk 0 :: (SV.int IntKind.i64 (2 : Int) :: (SV.int IntKind.i64 (pFork pt (List.getD l (Int.toNat (Int.tmod (↑i : Int) (↑(List.length l) : Int))) (0 : Int)) nb).2.2 :: (SV.int IntKind.i64 (3 : Int) :: (SV.raw (u 9) :: (SV.raw (u 10) :: (SV.vec 3 al (List.length l) cl :: (SV.int IntKind.i64 (IntKind.wrap IntKind.i64 ((↑i : Int) + (1 : Int))) :: (rawR u 13 (SV.int IntKind.i64 (↑i : Int) :: (SV.int IntKind.i64 (IntKind.wrap IntKind.i64 ((↑i : Int) + (1 : Int))) :: (SV.tuple [SV.int IntKind.i64 (pFork pt (List.getD l (Int.toNat (Int.tmod (↑i : Int) (↑(List.length l) : Int))) (0 : Int)) nb).2.1, SV.int IntKind.i64 (pFork pt (List.getD l (Int.toNat (Int.tmod (↑i : Int) (↑(List.length l) : Int))) (0 : Int)) nb).2.2] :: (SV.ptr 2 bk 0 :: (SV.vec 3 al (List.length l) cl :: (SV.int IntKind.i64 (↑i : Int) :: (SV.vec 3 al (List.length l) cl :: (SV.int IntKind.i64 (↑(List.length l) : Int) :: (SV.int IntKind.i64 (Int.tmod (↑i : Int) (↑(List.length l) : Int)) :: (SV.eptr 3 (Addr.blkD al) (Addr.offD al) 1 (Int.toNat (Int.tmod (↑i : Int) (↑(List.length l) : Int))) 0 :: (SV.int IntKind.i64 (List.getD l (Int.toNat (Int.tmod (↑i : Int) (↑(List.length l) : Int))) (0 : Int)) :: (SV.tuple [SV.int IntKind.i64 (pFork pt (List.getD l (Int.toNat (Int.tmod (↑i : Int) (↑(List.length l) : Int))) (0 : Int)) nb).2.1, SV.int IntKind.i64 (pFork pt (List.getD l (Int.toNat (Int.tmod (↑i : Int) (↑(List.length l) : Int))) (0 : Int)) nb).2.2] :: (SV.int IntKind.i64 (pFork pt (List.getD l (Int.toNat (Int.tmod (↑i : Int) (↑(List.length l) : Int))) (0 : Int)) nb).2.1 :: (SV.int IntKind.i64 (pFork pt (List.getD l (Int.toNat (Int.tmod (↑i : Int) (↑(List.length l) : Int))) (0 : Int)) nb).2.2 :: (SV.int IntKind.i64 (pFork pt (List.getD l (Int.toNat (Int.tmod (↑i : Int) (↑(List.length l) : Int))) (0 : Int)) nb).2.2 :: (SV.bool false :: (rawR u 98 [] 68))))))))))))))))) 69))))))))) 3)))
                     [pkA bp ptE (pFork pt (List.getD l (Int.toNat (Int.tmod (↑i : Int) (↑(List.length l) : Int))) (0 : Int)) nb).1, pkA bg grpE gr,
                      Ent.mk (Loc.blk bk)
                       (SObj.cells [SV.ptr 0 bp 0, SV.ptr 1 bg 0, SV.raw v2, SV.raw v3, SV.int IntKind.i64 m, SV.int IntKind.i64 w]
                        (175 : TypeId)),
                      Ent.mk (Loc.sl al cl) (SObj.vecL (3 : TypeId) 1 encI1 l (0 : Int))])) := by kernel_rfl


theorem kq_l3 (K : List Frm → Sy → Prop) (N : List Ent → SV → Prop) (J : Act → World → Prop) (bk bp bg : Nat) (pt : PT) (gr : Grp) (v2 v3 : Value) (m w kids late : Int) (al : Option Addr) (cl : Nat) (l : List Int) (i : Nat) (u : Nat → Value) : (run Try.prog klT false [35, 37] K (retP Try.prog Try.f8.results.toList N) 1500 (frm [J] (bodyOf Try.f8) [1, 1, 1, 1, 1, 1, 1, 1, 1, 1, 1, 1, 1, 1, 1, 1, 0, 1, 0, 0] []) ⟨mkT u 166 0 [(0, .int .u8 kids), (1, .int .u8 late), (5, .ptr 2 bk 0), (6, .int .i64 2), (8, .int .i64 3), (11, .vec 3 al l.length cl), (14, .int .i64 (i : Int))], [pkA bp ptE (pt), pkA bg grpE (gr), ⟨.blk bk, .cells [.ptr 0 bp 0, .ptr 1 bg 0, .raw v2, .raw v3, .int .i64 m, .int .i64 w] 175⟩, ⟨.sl al cl, .vecL 3 1 encI1 l 0⟩]⟩) = (
match decide ((↑i : Int) < (↑(List.length l) : Int)) with
| true =>
 K (frmR [J] (bodyOf Try.f8) 35)
  (Sy.mk (SV.int IntKind.u8 kids :: (SV.int IntKind.u8 late :: (rawR u 2 (SV.ptr 2 bk 0 :: (SV.int IntKind.i64 (2 : Int) :: (SV.raw (u 7) :: (SV.int IntKind.i64 (3 : Int) :: (SV.raw (u 9) :: (SV.raw (u 10) :: (SV.vec 3 al (List.length l) cl :: (SV.raw (u 12) :: (SV.raw (u 13) :: (SV.int IntKind.i64 (↑i : Int) :: (rawR u 15 (SV.int IntKind.i64 (↑i : Int) :: (SV.vec 3 al (List.length l) cl :: (SV.int IntKind.i64 (↑(List.length l) : Int) :: (SV.bool true :: (rawR u 121 [] 45))))) 102))))))))))) 3)))
   [pkA bp ptE pt, pkA bg grpE gr,
    Ent.mk (Loc.blk bk) (SObj.cells [SV.ptr 0 bp 0, SV.ptr 1 bg 0, SV.raw v2, SV.raw v3, SV.int IntKind.i64 m, SV.int IntKind.i64 w] (175 : TypeId)),
    Ent.mk (Loc.sl al cl) (SObj.vecL (3 : TypeId) 1 encI1 l (0 : Int))])
| false =>
 K (frmR [] (bodyOf Try.f8) 37)
  (Sy.mk (SV.int IntKind.u8 kids :: (SV.int IntKind.u8 late :: (rawR u 2 (SV.ptr 2 bk 0 :: (SV.int IntKind.i64 (2 : Int) :: (SV.raw (u 7) :: (SV.int IntKind.i64 (3 : Int) :: (SV.raw (u 9) :: (SV.raw (u 10) :: (SV.vec 3 al (List.length l) cl :: (SV.raw (u 12) :: (SV.raw (u 13) :: (SV.int IntKind.i64 (↑i : Int) :: (rawR u 15 (SV.int IntKind.i64 (↑i : Int) :: (SV.vec 3 al (List.length l) cl :: (SV.int IntKind.i64 (↑(List.length l) : Int) :: (SV.bool false :: (rawR u 121 [] 45))))) 102))))))))))) 3)))
   [pkA bp ptE pt, pkA bg grpE gr,
    Ent.mk (Loc.blk bk) (SObj.cells [SV.ptr 0 bp 0, SV.ptr 1 bg 0, SV.raw v2, SV.raw v3, SV.int IntKind.i64 m, SV.int IntKind.i64 w] (175 : TypeId)),
    Ent.mk (Loc.sl al cl) (SObj.vecL (3 : TypeId) 1 encI1 l (0 : Int))])) := by kernel_rfl


theorem kq_35 (K : List Frm → Sy → Prop) (N : List Ent → SV → Prop) (J0 : Act → World → Prop) (bk bp bg : Nat) (pt : PT) (gr : Grp) (v2 v3 : Value) (m w kids late : Int) (al : Option Addr) (cl : Nat) (l : List Int) (i : Nat) (u : Nat → Value) : (run Try.prog klT false [] K (retP Try.prog Try.f8.results.toList N) 1500 (frmR [J0] (bodyOf Try.f8) 35) ⟨mkT u 166 0 [(0, .int .u8 kids), (1, .int .u8 late), (5, .ptr 2 bk 0), (6, .int .i64 2), (8, .int .i64 3), (11, .vec 3 al l.length cl), (14, .int .i64 (i : Int))], [pkA bp ptE (pt), pkA bg grpE (gr), ⟨.blk bk, .cells [.ptr 0 bp 0, .ptr 1 bg 0, .raw v2, .raw v3, .int .i64 m, .int .i64 w] 175⟩, ⟨.sl al cl, .vecL 3 1 encI1 l 0⟩]⟩) = (
(al = al ∧ cl = cl ∧ List.length l = List.length l ∧ (0 : Int) ≤ (↑i : Int) ∧ (↑i : Int) < (↑(List.length l) : Int)) ∧
 (Addr.blkD al = Addr.blkD al ∧ Addr.offD al = Addr.offD al ∧ 1 = 1 ∧ Int.toNat (↑i : Int) < List.length l) ∧
  true = true ∧
   bk = bk ∧
    true = true ∧
     bp = bp ∧
      ∃ (h : PT = PT),
       AdtIs (fun (s : PT) (b : Nat) ↦ packs (ptE s b)) ptE ∧
        pOk pt ∧
         match !(pGet pt (List.getD l (Int.toNat (↑i : Int)) (0 : Int))).8 with
         | true =>
          N
           [pkA bp ptE pt, pkA bg grpE gr,
            Ent.mk (Loc.blk bk)
             (SObj.cells [SV.ptr 0 bp 0, SV.ptr 1 bg 0, SV.raw v2, SV.raw v3, SV.int IntKind.i64 m, SV.int IntKind.i64 w] (175 : TypeId)),
            Ent.mk (Loc.sl al cl) (SObj.vecL (3 : TypeId) 1 encI1 l (0 : Int))]
           (SV.bool false)
         | false =>
          true = true ∧
           bk = bk ∧
            true = true ∧
             bp = bp ∧
              ∃ (h : PT = PT),
               AdtIs (fun (s : PT) (b : Nat) ↦ packs (ptE s b)) ptE ∧
                pOk pt ∧
                 match (pExit pt (List.getD l (Int.toNat (↑i : Int)) (0 : Int)) (-9 : Int)).2 == (0 : Int) with
                 | true =>
                  bk = bk ∧
                   true = true ∧
                    bg = bg ∧
                     ∃ (h : Grp = Grp),
                      AdtIs (fun (s : Grp) (b : Nat) ↦ packs (grpE s b)) grpE ∧
                       gOk gr (List.getD l (Int.toNat (↑i : Int)) (0 : Int)) ∧
                        ∀ (ao : Option Addr) (cap : Nat),
                         match (pExit pt (List.getD l (Int.toNat (↑i : Int)) (0 : Int)) (-9 : Int)).2 != (0 : Int) with
                         | true =>
                          N
                           [pkA bp ptE (pExit pt (List.getD l (Int.toNat (↑i : Int)) (0 : Int)) (-9 : Int)).1,
                            pkA bg grpE (gGone gr (List.getD l (Int.toNat (↑i : Int)) (0 : Int)) ao cap).1,
                            Ent.mk (Loc.blk bk)
                             (SObj.cells [SV.ptr 0 bp 0, SV.ptr 1 bg 0, SV.raw v2, SV.raw v3, SV.int IntKind.i64 m, SV.int IntKind.i64 w]
                              (175 : TypeId)),
                            Ent.mk (Loc.sl al cl) (SObj.vecL (3 : TypeId) 1 encI1 l (0 : Int))]
                           (SV.bool false)
                         | false =>
                          K
                           (Frm.loop J0 ::
                            Frm.blk 4 ::
                             frm [] (bodyOf Try.f8)
                              [1, 1, 1, 1, 1, 1, 1, 1, 1, 1, 1, 1,
                               1, 1, 1, 1, 1]
                              [])
                           (Sy.mk (SV.int IntKind.u8 kids :: (SV.int IntKind.u8 late :: (rawR u 2 (SV.ptr 2 bk 0 :: (SV.int IntKind.i64 (2 : Int) :: (SV.raw (u 7) :: (SV.int IntKind.i64 (3 : Int) :: (SV.raw (u 9) :: (SV.raw (u 10) :: (SV.vec 3 al (List.length l) cl :: (SV.raw (u 12) :: (SV.raw (u 13) :: (SV.int IntKind.i64 (IntKind.wrap IntKind.i64 ((↑i : Int) + (1 : Int))) :: (rawR u 15 (SV.int IntKind.i64 (↑i : Int) :: (SV.int IntKind.i64 (IntKind.wrap IntKind.i64 ((↑i : Int) + (1 : Int))) :: (SV.ptr 2 bk 0 :: (SV.vec 3 al (List.length l) cl :: (SV.int IntKind.i64 (↑i : Int) :: (SV.eptr 3 (Addr.blkD al) (Addr.offD al) 1 (Int.toNat (↑i : Int)) 0 :: (SV.int IntKind.i64 (List.getD l (Int.toNat (↑i : Int)) (0 : Int)) :: (SV.int IntKind.i64 (pExit pt (List.getD l (Int.toNat (↑i : Int)) (0 : Int)) (-9 : Int)).2 :: (SV.bool false :: (rawR u 130 [] 36)))))))))) 106))))))))))) 3)))
                            [pkA bp ptE (pExit pt (List.getD l (Int.toNat (↑i : Int)) (0 : Int)) (-9 : Int)).1,
                             pkA bg grpE (gGone gr (List.getD l (Int.toNat (↑i : Int)) (0 : Int)) ao cap).1,
                             Ent.mk (Loc.blk bk)
                              (SObj.cells [SV.ptr 0 bp 0, SV.ptr 1 bg 0, SV.raw v2, SV.raw v3, SV.int IntKind.i64 m, SV.int IntKind.i64 w]
                               (175 : TypeId)),
                             Ent.mk (Loc.sl al cl) (SObj.vecL (3 : TypeId) 1 encI1 l (0 : Int))])
                 | false =>
                  match (pExit pt (List.getD l (Int.toNat (↑i : Int)) (0 : Int)) (-9 : Int)).2 != (0 : Int) with
                  | true =>
                   N
                    [pkA bp ptE (pExit pt (List.getD l (Int.toNat (↑i : Int)) (0 : Int)) (-9 : Int)).1, pkA bg grpE gr,
                     Ent.mk (Loc.blk bk)
                      (SObj.cells [SV.ptr 0 bp 0, SV.ptr 1 bg 0, SV.raw v2, SV.raw v3, SV.int IntKind.i64 m, SV.int IntKind.i64 w]
                       (175 : TypeId)),
                     Ent.mk (Loc.sl al cl) (SObj.vecL (3 : TypeId) 1 encI1 l (0 : Int))]
                    (SV.bool false)
                  | false =>
                   K
                    (Frm.loop J0 ::
                     Frm.blk 4 ::
                      frm [] (bodyOf Try.f8)
                       [1, 1, 1, 1, 1, 1, 1, 1, 1, 1, 1, 1, 1, 1,
                        1, 1, 1]
                       [])
                    (Sy.mk (SV.int IntKind.u8 kids :: (SV.int IntKind.u8 late :: (rawR u 2 (SV.ptr 2 bk 0 :: (SV.int IntKind.i64 (2 : Int) :: (SV.raw (u 7) :: (SV.int IntKind.i64 (3 : Int) :: (SV.raw (u 9) :: (SV.raw (u 10) :: (SV.vec 3 al (List.length l) cl :: (SV.raw (u 12) :: (SV.raw (u 13) :: (SV.int IntKind.i64 (IntKind.wrap IntKind.i64 ((↑i : Int) + (1 : Int))) :: (rawR u 15 (SV.int IntKind.i64 (↑i : Int) :: (SV.int IntKind.i64 (IntKind.wrap IntKind.i64 ((↑i : Int) + (1 : Int))) :: (SV.ptr 2 bk 0 :: (SV.vec 3 al (List.length l) cl :: (SV.int IntKind.i64 (↑i : Int) :: (SV.eptr 3 (Addr.blkD al) (Addr.offD al) 1 (Int.toNat (↑i : Int)) 0 :: (SV.int IntKind.i64 (List.getD l (Int.toNat (↑i : Int)) (0 : Int)) :: (SV.int IntKind.i64 (pExit pt (List.getD l (Int.toNat (↑i : Int)) (0 : Int)) (-9 : Int)).2 :: (SV.bool false :: (rawR u 130 [] 36)))))))))) 106))))))))))) 3)))
                     [pkA bp ptE (pExit pt (List.getD l (Int.toNat (↑i : Int)) (0 : Int)) (-9 : Int)).1, pkA bg grpE gr,
                      Ent.mk (Loc.blk bk)
                       (SObj.cells [SV.ptr 0 bp 0, SV.ptr 1 bg 0, SV.raw v2, SV.raw v3, SV.int IntKind.i64 m, SV.int IntKind.i64 w]
                        (175 : TypeId)),
                      Ent.mk (Loc.sl al cl) (SObj.vecL (3 : TypeId) 1 encI1 l (0 : Int))])) := by kernel_rfl


theorem kq_37 (K : List Frm → Sy → Prop) (N : List Ent → SV → Prop) (bk bp bg : Nat) (pt : PT) (gr : Grp) (v2 v3 : Value) (m w kids late : Int) (al : Option Addr) (cl : Nat) (l : List Int) (u : Nat → Value) : (run Try.prog klT false [] K (retP Try.prog Try.f8.results.toList N) 3000 (frmR [] (bodyOf Try.f8) 37) ⟨mkT u 166 0 [(0, .int .u8 kids), (1, .int .u8 late), (5, .ptr 2 bk 0), (6, .int .i64 2), (8, .int .i64 3)], [pkA bp ptE (pt), pkA bg grpE (gr), ⟨.blk bk, .cells [.ptr 0 bp 0, .ptr 1 bg 0, .raw v2, .raw v3, .int .i64 m, .int .i64 w] 175⟩, ⟨.sl al cl, .vecL 3 1 encI1 l 0⟩]⟩) = (
true = true ∧
 bk = bk ∧
  true = true ∧
   bg = bg ∧
    ∃ (h : Grp = Grp),
     AdtIs (fun (s : Grp) (b : Nat) ↦ packs (grpE s b)) grpE ∧
      ∀ (ao : Option Addr) (cap : Nat),
       true = true ∧
        bk = bk ∧
         true = true ∧
          bp = bp ∧
           ∃ (h : PT = PT),
            AdtIs (fun (s : PT) (b : Nat) ↦ packs (ptE s b)) ptE ∧
             pOk pt ∧
              match Option.isSome (gEmptied gr ao cap).2 with
              | true =>
               match
                sEq
                 (match (gEmptied gr ao cap).2 with
                 | some x => x
                 | none => ByteArray.mk #[])
                 (ByteArray.mk #[(103 : UInt8)]) with
               | true =>
                true = true ∧
                 bk = bk ∧
                  true = true ∧
                   bg = bg ∧
                    ∃ (h : Grp = Grp),
                     AdtIs (fun (s : Grp) (b : Nat) ↦ packs (grpE s b)) grpE ∧
                      memGOk (cast h (gEmptied gr ao cap).1) (ByteArray.mk #[(103 : UInt8)]) ∧
                       ∀ (ao_1 : Option Addr) (cap_1 : Nat),
                        match (↑(List.length (memQ (Grp.mk gr.1 gr.2 ao cap gr.5 gr.6 (firstEmpty gr.5 gr.7).1) (ByteArray.mk #[(103 : UInt8)]))) : Int) == (0 : Int) with
                        | true =>
                         true = true ∧
                          bk = bk ∧
                           true = true ∧
                            bg = bg ∧
                             ∃ (h : Grp = Grp),
                              AdtIs (fun (s : Grp) (b : Nat) ↦ packs (grpE s b)) grpE ∧
                               memGOk (cast h (gEmptied gr ao cap).1) (ByteArray.mk #[(104 : UInt8)]) ∧
                                ∀ (ao_2 : Option Addr) (cap_2 : Nat),
                                 match
                                  (↑(List.length (memQ (Grp.mk gr.1 gr.2 ao cap gr.5 gr.6 (firstEmpty gr.5 gr.7).1) (ByteArray.mk #[(104 : UInt8)]))) : Int) ==
                                   (1 : Int) with
                                 | true =>
                                  N
                                   [pkA bp ptE pt, pkA bg grpE (gEmptied gr ao cap).1,
                                    Ent.mk (Loc.blk bk)
                                     (SObj.cells
                                      [SV.ptr 0 bp 0, SV.ptr 1 bg 0, SV.raw v2, SV.raw v3, SV.int IntKind.i64 m,
                                       SV.int IntKind.i64 w]
                                      (175 : TypeId)),
                                    Ent.mk (Loc.sl al cl) (SObj.vecL (3 : TypeId) 1 encI1 l (0 : Int)),
                                    Ent.mk (Loc.sl ao_1 cap_1)
                                     (SObj.vecL (3 : TypeId) 1 encI1
                                      (memQ (Grp.mk gr.1 gr.2 ao cap gr.5 gr.6 (firstEmpty gr.5 gr.7).1) (ByteArray.mk #[(103 : UInt8)])) (0 : Int)),
                                    Ent.mk (Loc.sl ao_2 cap_2)
                                     (SObj.vecL (3 : TypeId) 1 encI1
                                      (memQ (Grp.mk gr.1 gr.2 ao cap gr.5 gr.6 (firstEmpty gr.5 gr.7).1) (ByteArray.mk #[(104 : UInt8)])) (0 : Int))]
                                   (SV.bool !(pGet pt (3 : Int)).8)
                                 | false =>
                                  N
                                   [pkA bp ptE pt, pkA bg grpE (gEmptied gr ao cap).1,
                                    Ent.mk (Loc.blk bk)
                                     (SObj.cells
                                      [SV.ptr 0 bp 0, SV.ptr 1 bg 0, SV.raw v2, SV.raw v3, SV.int IntKind.i64 m,
                                       SV.int IntKind.i64 w]
                                      (175 : TypeId)),
                                    Ent.mk (Loc.sl al cl) (SObj.vecL (3 : TypeId) 1 encI1 l (0 : Int)),
                                    Ent.mk (Loc.sl ao_1 cap_1)
                                     (SObj.vecL (3 : TypeId) 1 encI1
                                      (memQ (Grp.mk gr.1 gr.2 ao cap gr.5 gr.6 (firstEmpty gr.5 gr.7).1) (ByteArray.mk #[(103 : UInt8)])) (0 : Int)),
                                    Ent.mk (Loc.sl ao_2 cap_2)
                                     (SObj.vecL (3 : TypeId) 1 encI1
                                      (memQ (Grp.mk gr.1 gr.2 ao cap gr.5 gr.6 (firstEmpty gr.5 gr.7).1) (ByteArray.mk #[(104 : UInt8)])) (0 : Int))]
                                   (SV.bool false)
                        | false =>
                         N
                          [pkA bp ptE pt, pkA bg grpE (gEmptied gr ao cap).1,
                           Ent.mk (Loc.blk bk)
                            (SObj.cells [SV.ptr 0 bp 0, SV.ptr 1 bg 0, SV.raw v2, SV.raw v3, SV.int IntKind.i64 m, SV.int IntKind.i64 w]
                             (175 : TypeId)),
                           Ent.mk (Loc.sl al cl) (SObj.vecL (3 : TypeId) 1 encI1 l (0 : Int)),
                           Ent.mk (Loc.sl ao_1 cap_1)
                            (SObj.vecL (3 : TypeId) 1 encI1 (memQ (Grp.mk gr.1 gr.2 ao cap gr.5 gr.6 (firstEmpty gr.5 gr.7).1) (ByteArray.mk #[(103 : UInt8)]))
                             (0 : Int))]
                          (SV.bool false)
               | false =>
                N
                 [pkA bp ptE pt, pkA bg grpE (gEmptied gr ao cap).1,
                  Ent.mk (Loc.blk bk)
                   (SObj.cells [SV.ptr 0 bp 0, SV.ptr 1 bg 0, SV.raw v2, SV.raw v3, SV.int IntKind.i64 m, SV.int IntKind.i64 w] (175 : TypeId)),
                  Ent.mk (Loc.sl al cl) (SObj.vecL (3 : TypeId) 1 encI1 l (0 : Int))]
                 (SV.bool false)
              | false =>
               N
                [pkA bp ptE pt, pkA bg grpE (gEmptied gr ao cap).1,
                 Ent.mk (Loc.blk bk)
                  (SObj.cells [SV.ptr 0 bp 0, SV.ptr 1 bg 0, SV.raw v2, SV.raw v3, SV.int IntKind.i64 m, SV.int IntKind.i64 w] (175 : TypeId)),
                 Ent.mk (Loc.sl al cl) (SObj.vecL (3 : TypeId) 1 encI1 l (0 : Int))]
                (SV.bool false)) := by kernel_rfl
end Go.Proofs.Ytkcmgcoppecfpaa

/- YtkcmgcoppecfpaaRgC -/
/- The document's groups (reveilleref9). -/
namespace Go.Proofs.Ytkcmgcoppecfpaa
open Go Go.RowKit
set_option linter.unusedVariables false
set_option linter.unusedSimpArgs false
set_option linter.unnecessarySimpa false
set_option maxHeartbeats 0

/-- The document's groups. -/
structure RGrp where
  (name : ByteArray) (ao : Option Addr) (cap : Nat) (pids : List Int)
structure RG where
  (aoL : Option Addr) (capL : Nat) (L : List RGrp) (aoN : Option Addr) (capN : Nat) (notes : List ByteArray)
def encRg (g : RGrp) : List SV := [.str g.name, .vec 4 g.ao g.pids.length g.cap]
def zR : RGrp := ⟨⟨#[]⟩, none, 0, []⟩
def pidE (g : RGrp) : Ent := ⟨.sl g.ao g.cap, .vecL 3 1 encI1 g.pids 0⟩
/-- Where a name stands, or is to stand. -/
def rAt (L : List RGrp) (name : ByteArray) : Nat := (L.takeWhile fun g => sLt g.name name).length
def rHas (L : List RGrp) (name : ByteArray) : Bool := decide (rAt L name < L.length) && sEq (L.getD (rAt L name) zR).name name
def rMake (r : RG) (name : ByteArray) (ao : Option Addr) (cap : Nat) : RG × Int := match sEq name ⟨#[]⟩ with
  | true => (r, 90)
  | false => match rHas r.L name with
    | true => (r, 91)
    | false => ({ r with L := r.L.take (rAt r.L name) ++ ⟨name, none, 0, []⟩ :: r.L.drop (rAt r.L name), aoL := ao, capL := cap }, 0)
def rRemove (r : RG) (name : ByteArray) (ao : Option Addr) (cap : Nat) (aoN : Option Addr) (capN : Nat) : RG × Int := match rHas r.L name with
  | false => (r, 90)
  | true => match decide (((r.L.getD (rAt r.L name) zR).pids.length : Int) > 0) with
    | true => (r, 91)
    | false => (⟨ao, cap, r.L.take (rAt r.L name) ++ r.L.drop (rAt r.L name + 1), aoN, capN, r.notes.filter fun x => !sEq x name⟩, 0)
def rOf (L : List RGrp) (pid : Int) : Option ByteArray := (L.find? fun g => g.pids.contains pid).map (·.name)
/-- A group's members are others. -/
def rSet (L : List RGrp) (i : Nat) (l : List Int) (ao : Option Addr) (cap : Nat) : List RGrp := L.set i { L.getD i zR with pids := l, ao := ao, cap := cap }
def rGone (r : RG) (pid : Int) (ao : Option Addr) (cap : Nat) (aoN : Option Addr) (capN : Nat) : RG × Bool := match rOf r.L pid with
  | none => (r, false)
  | some n => match (((r.L.getD (rAt r.L n) zR).pids.filter fun p => p != pid).length == 0) && !(r.notes.any fun x => sEq x n) with
    | true => ({ r with L := rSet r.L (rAt r.L n) ((r.L.getD (rAt r.L n) zR).pids.filter fun p => p != pid) ao cap, notes := r.notes ++ [n], aoN := aoN, capN := capN }, true)
    | false => ({ r with L := rSet r.L (rAt r.L n) ((r.L.getD (rAt r.L n) zR).pids.filter fun p => p != pid) ao cap }, true)
/-- A number among those that rise. -/
def insI (l : List Int) (p : Int) : List Int := l.takeWhile (fun x => decide (x < p)) ++ p :: l.dropWhile (fun x => decide (x < p))
def rPut2 (r : RG) (pid : Int) (name : ByteArray) (ao : Option Addr) (cap : Nat) : RG := { r with L := rSet r.L (rAt r.L name) (insI (r.L.getD (rAt r.L name) zR).pids pid) ao cap }
def rIn (L : List RGrp) (pid : Int) (name : ByteArray) : Bool := match rOf L pid with
  | some n => sEq n name
  | none => false
def rPut (r : RG) (pid : Int) (name : ByteArray) (ao1 : Option Addr) (cap1 : Nat) (aoN : Option Addr) (capN : Nat) (ao : Option Addr) (cap : Nat) : RG × Int := match !rHas r.L name || decide (pid < 2) with
  | true => (r, 90)
  | false => match rIn r.L pid name with
    | true => (r, 0)
    | false => (rPut2 (rGone r pid ao1 cap1 aoN capN).1 pid name ao cap, 0)
def rMem (L : List RGrp) (name : ByteArray) : List Int := match rHas L name with
  | true => (L.getD (rAt L name) zR).pids
  | false => []
/-- The first of the notes that is of an empty group. -/
def rFirst (L : List RGrp) : List ByteArray → List ByteArray × Option ByteArray
  | [] => ([], none)
  | n :: l => match rHas L n && ((L.getD (rAt L n) zR).pids.length == 0) with
    | true => (l, some n)
    | false => rFirst L l
/-- Few enough; each process's group is where its name stands. -/
def rOk (r : RG) : Prop := r.L.length ≤ 1000 ∧ r.notes.length ≤ 1000000 ∧ ∀ g ∈ r.L, g.pids.length ≤ 1000
def ratM (r : RG) (args : List SV) (N : RG → SV → Prop) : Prop := match args with
  | [.str name] => rOk r ∧ N r (.tuple [.int .i64 (rAt r.L name : Int), .bool (rHas r.L name)])
  | _ => False
def rmakeM (r : RG) (args : List SV) (N : RG → SV → Prop) : Prop := match args with
  | [.str name] => rOk r ∧ ∀ ao cap, N (rMake r name ao cap).1 (.int .i64 (rMake r name ao cap).2)
  | _ => False
def rforgetM (r : RG) (args : List SV) (N : RG → SV → Prop) : Prop := match args with
  | [.str name] => rOk r ∧ ∀ ao cap, N { r with notes := r.notes.filter (fun x => !sEq x name), aoN := ao, capN := cap } (.tuple [])
  | _ => False
def rremoveM (r : RG) (args : List SV) (N : RG → SV → Prop) : Prop := match args with
  | [.str name] => rOk r ∧ ∀ ao cap aoN capN, N (rRemove r name ao cap aoN capN).1 (.int .i64 (rRemove r name ao cap aoN capN).2)
  | _ => False
def rofM (r : RG) (args : List SV) (N : RG → SV → Prop) : Prop := match args with
  | [.int .i64 pid] => rOk r ∧ N r (.tuple [.str ((rOf r.L pid).getD ⟨#[]⟩), .bool (rOf r.L pid).isSome])
  | _ => False
/-- Each process's group is found by its name. -/
def rAtOk (L : List RGrp) (pid : Int) : Prop := ∀ n, rOf L pid = some n → rHas L n = true
def rgoneM (r : RG) (args : List SV) (N : RG → SV → Prop) : Prop := match args with
  | [.int .i64 pid] => (rOk r ∧ rAtOk r.L pid) ∧ ∀ ao cap aoN capN, N (rGone r pid ao cap aoN capN).1 (.bool (rGone r pid ao cap aoN capN).2)
  | _ => False
def rputM (r : RG) (args : List SV) (N : RG → SV → Prop) : Prop := match args with
  | [.int .i64 pid, .str name] => ((rOk r ∧ r.notes.length ≤ 10000) ∧ rAtOk r.L pid) ∧ ∀ ao1 cap1 aoN capN ao cap, N (rPut r pid name ao1 cap1 aoN capN ao cap).1 (.int .i64 (rPut r pid name ao1 cap1 aoN capN ao cap).2)
  | _ => False
def remptiedM (r : RG) (args : List SV) (N : RG → SV → Prop) : Prop := match args with
  | [] => rOk r ∧ ∀ ao cap, N { r with notes := (rFirst r.L r.notes).1, aoN := ao, capN := cap } (.tuple [.str ((rFirst r.L r.notes).2.getD ⟨#[]⟩), .bool (rFirst r.L r.notes).2.isSome])
  | _ => False
end Go.Proofs.Ytkcmgcoppecfpaa

/- YtkcmgcoppecfpaaGrpT -/
/- The groups' methods as1 a table. -/
namespace Go.Proofs.Ytkcmgcoppecfpaa
open Go Go.RowKit
set_option linter.unusedVariables false
end Go.Proofs.Ytkcmgcoppecfpaa

