import Derived.Test.YtkcmgcoppecfpaaMgKernClocks9
import Derived.Test.YtkcmgcoppecfpaaMgKernClocks10
import Derived.Test.YtkcmgcoppecfpaaMgKernClocks6
import Derived.Test.YtkcmgcoppecfpaaMgKernClocks4
import Derived.ChangeSlices
import Derived.OpenShut
import Derived.Carry
import Derived.ProofKit
import Derived.Deep.Grids
import Derived.Deep.Strs
/- YtkcmgcoppecfpaaKl -/
/- The kernel's laws: known. -/
namespace Go.Proofs.Ytkcmgcoppecfpaa
open Go Go.RowKit
set_option linter.unusedVariables false
set_option linter.unusedSimpArgs false
set_option linter.unnecessarySimpa false
set_option maxHeartbeats 0

def keysB {β : Type} : List (Key × β) → Bool
  | [] => true
  | a :: l => l.all (fun c => !keyEq a.1 c.1) && keysB l
theorem keysOk_lit {β : Type} : ∀ {es : List (Key × β)}, keysB es = true → keysOk es
  | [], _ => List.Pairwise.nil
  | a :: l, h => by
    simp only [keysB, Bool.and_eq_true, List.all_eq_true, Bool.not_eq_true'] at h
    exact List.pairwise_cons.2 ⟨h.1, keysOk_lit h.2⟩
def wfIB (ms : List (Key × Unit)) : Bool := keysB ms && Nat.ble ms.length 1000000 && ms.all fun e => (Lit.int .i64 (keyInt e.1)).wf
def gsB (s : Grp) : Bool := keysB s.gs && Nat.ble s.gs.length 1000000 && s.gs.all (fun e => (keyKind e.1).isNone && Nat.ble (keyStr e.1).length 1000) && s.gs.all fun e => wfIB e.2.2
theorem gsOk_lit {s : Grp} (h : gsB s = true) : gsOk s := by
  simp only [gsB, Bool.and_eq_true, List.all_eq_true, Nat.ble_eq, Option.isNone_iff_eq_none] at h
  obtain ⟨⟨⟨h1, h2⟩, h3⟩, h4⟩ := h
  refine ⟨⟨keysOk_lit h1, by omega, fun e he => ?_⟩, h2, fun e he => (h3 e he).1, fun n x hx => ?_⟩
  · have := (h3 e he).2
    unfold maxLen at *
    omega
  · obtain ⟨k', hm, _⟩ := mget_mem hx
    have := h4 _ hm
    simp only [wfIB, Bool.and_eq_true, List.all_eq_true, Nat.ble_eq] at this
    obtain ⟨⟨q1, q2⟩, q3⟩ := this
    exact ⟨⟨keysOk_lit q1, by omega, q3⟩, q2⟩
theorem gOk_litK {s : Grp} {pid : Int} (h : Nat.ble s.notes.length 100000000 = true) (h2 : (match mget s.of (.i .i64 pid) with | none => true | some n => (mget s.gs (.s n)).isSome) = true) : gOk s pid := by
  refine ⟨Nat.le_of_ble_eq_true h, fun n hn => ?_⟩
  rw [hn] at h2
  exact Option.isSome_iff_exists.1 h2
theorem memGOk_lit {s : Grp} {n : ByteArray} (h : gsB s = true) : memGOk s n := (gsOk_lit h).mem n
def ascBK : List Int → Bool
  | [] => true
  | a :: l => l.all (fun b => decide (a < b)) && ascBK l
theorem ascK_of : ∀ {l : List Int}, ascBK l = true → l.Pairwise (· < ·)
  | [], _ => .nil
  | a :: l, h => by
    simp only [ascBK, Bool.and_eq_true, List.all_eq_true, decide_eq_true_eq] at h
    exact .cons h.1 (ascK_of h.2)
theorem pOk_litK {s : PT} (h1 : ascBK (s.ps.map (·.2.pid)) = true) (h2 : (s.ps.map (·.2.pid)).all (fun p => decide (1 ≤ p) && decide (p ≤ s.last)) = true) (h3 : (decide (s.last ≤ 1000000) && Nat.ble s.ps.length 1000000 && decide (0 ≤ s.room) && decide (s.room ≤ 64)) = true) : pOk s := by
  simp only [Bool.and_eq_true, decide_eq_true_eq, Nat.ble_eq] at h3
  refine ⟨by simpa [List.pairwise_map] using ascK_of h1, fun x hx => ?_, h3.1.1.1, h3.1.1.2, h3.1.2, h3.2⟩
  have := List.all_eq_true.1 h2 x.2.pid (List.mem_map.2 ⟨x, hx, rfl⟩)
  simpa using this
theorem known12_ok : CtrOk Try.prog 54 trueKC := by
  intro args hs N h
  unfold trueKC at h
  split at h
  · refine Spec.lift (Φ := fun r => r = .bool true) ?_ (fun r hr => by rw [hr]; exact h)
    refine Spec.of_G 83 Try.func54 (c := bodyOf Try.f54) (by kernel_rfl) (by kernel_rfl) (Nat.le_of_ble_eq_true rfl) fun W F => ?_
    refine G_run (kc := false) (ss := []) knT_ok hmK 4000 ?_
    rw [known12]
    repeat' first
      | exact pOk_litK rfl rfl rfl
      | exact gsOk_lit rfl
      | exact memGOk_lit rfl
      | exact gOk_litK rfl rfl
      | exact keysOk_lit rfl
      | apply And.intro
      | exact rfl
      | exact HEq.rfl
      | (show _ ≤ _; decide)
      | (refine fun _ => ?_)
      | (refine ⟨rfl, ?_⟩)
  · exact h.elim
theorem klT_ok : AllOk Try.prog klT := ⟨known12_ok, knT_ok⟩
theorem klTJ_ok : AllOk Try.prog klTJ := ⟨known12_ok, knTJ_ok⟩
end Go.Proofs.Ytkcmgcoppecfpaa

/- YtkcmgcoppecfpaaKl1Run -/
namespace Go.Proofs.Ytkcmgcoppecfpaa
set_option linter.unusedVariables false
open Go Go.RowKit
set_option maxHeartbeats 0
set_option maxRecDepth 100000
set_option linter.unusedVariables false
set_option maxRecDepth 100000

theorem kc_start (K : List Frm → Sy → Prop) (N : List Ent → SV → Prop) (at_ : Option Addr) (ct : Nat) (ts : List Int) (aj : Option Addr) (cj : Nat) (js : List Int) (w : Int) : (run Try.prog klTJ false [] K (retP Try.prog Try.f9.results.toList N) 900 [.code (bodyOf Try.f9)] ⟨padTo 127 [.int .i64 w, .vec 0 at_ ts.length ct, .vec 1 aj js.length cj], [⟨.sl at_ ct, .roL 1 encU16 ts 0⟩, ⟨.sl aj cj, .roL 1 encI1 js 0⟩]⟩) = (
true = true ∧
 match decide ((↑(List.length ts) : Int) > (60 : Int)) with
 | true => N [Ent.mk (Loc.sl at_ ct) (SObj.roL 1 encU16 ts (0 : Int)), Ent.mk (Loc.sl aj cj) (SObj.roL 1 encI1 js (0 : Int))] (SV.bool true)
 | false =>
  match decide ((↑(List.length js) : Int) > (60 : Int)) with
  | true => N [Ent.mk (Loc.sl at_ ct) (SObj.roL 1 encU16 ts (0 : Int)), Ent.mk (Loc.sl aj cj) (SObj.roL 1 encI1 js (0 : Int))] (SV.bool true)
  | false =>
   match decide (w < (0 : Int)) with
   | true => N [Ent.mk (Loc.sl at_ ct) (SObj.roL 1 encU16 ts (0 : Int)), Ent.mk (Loc.sl aj cj) (SObj.roL 1 encI1 js (0 : Int))] (SV.bool true)
   | false =>
    match decide (w > (1152921504606846976 : Int)) with
    | true => N [Ent.mk (Loc.sl at_ ct) (SObj.roL 1 encU16 ts (0 : Int)), Ent.mk (Loc.sl aj cj) (SObj.roL 1 encI1 js (0 : Int))] (SV.bool true)
    | false =>
     true = true ∧
      true = true ∧
       ∀ (b bm bp : Nat),
        true = true ∧
         ∀ (b_1 bg bo : Nat),
          true = true ∧
           ∀ (v : Option Addr),
            true = true ∧
             ∀ (v_1 : Option Addr),
              (true = true ∧ true = true) ∧
               true = true ∧
                ∀ (b_2 : Nat),
                 K (frm [] (bodyOf Try.f9) [1, 1, 1, 1, 1, 0, 1, 0] [])
                  (Sy.mk (SV.int IntKind.i64 w :: (SV.vec 0 at_ (List.length ts) ct :: (SV.vec 1 aj (List.length js) cj :: (rawE (SV.bool false :: (SV.ptr 4 b_2 0 :: (SV.int IntKind.i64 (0 : Int) :: (SV.int IntKind.i64 (0 : Int) :: (SV.bool true :: (SV.bool false :: (SV.vec 0 at_ (List.length ts) ct :: (SV.int IntKind.i64 (↑(List.length ts) : Int) :: (SV.bool (decide ((↑(List.length ts) : Int) > (60 : Int))) :: (SV.bool false :: (SV.vec 1 aj (List.length js) cj :: (SV.int IntKind.i64 (↑(List.length js) : Int) :: (SV.bool (decide ((↑(List.length js) : Int) > (60 : Int))) :: (SV.bool (decide ((↑(List.length js) : Int) > (60 : Int))) :: (SV.bool false :: (SV.int IntKind.i64 w :: (SV.bool (decide (w < (0 : Int))) :: (SV.bool (decide (w < (0 : Int))) :: (SV.bool false :: (SV.int IntKind.i64 w :: (SV.bool (decide (w > (1152921504606846976 : Int))) :: (SV.bool false :: (SV.int IntKind.i64 w :: (SV.ptr 4 b_2 0 :: (rawE [] 97))))))))))))))))))))))))) 3))))
                   [Ent.mk (Loc.sl at_ ct) (SObj.roL 1 encU16 ts (0 : Int)), Ent.mk (Loc.sl aj cj) (SObj.roL 1 encI1 js (0 : Int)), pkA b ptE (pNew (3 : Int) bm bp),
                    pkA b_1 grpE (Grp.mk bg bo (@none Addr) 0 [] [] []),
                    Ent.mk (Loc.blk b_2)
                     (SObj.cells
                      [SV.ptr 2 b 0, SV.ptr 3 b_1 0, SV.raw (Value.pointer v), SV.raw (Value.pointer v_1), SV.int IntKind.i64 (0 : Int),
                       SV.int IntKind.i64 w]
                      175)])) := by kernel_rfl


theorem kc_l1 (K : List Frm → Sy → Prop) (N : List Ent → SV → Prop) (J : Act → World → Prop) (at_ : Option Addr) (ct : Nat) (ts : List Int) (aj : Option Addr) (cj : Nat) (js : List Int) (bk : Nat) (v0 v1 v2 v3 : Value) (m w : Int) (i : Nat) (u : Nat → Value) : (run Try.prog klTJ false [13, 18] K (retP Try.prog Try.f9.results.toList N) 1500 (frm [J] (bodyOf Try.f9) [1, 1, 1, 1, 1, 0, 1, 0, 0] []) ⟨mkT u 127 0 [(0, .int .i64 w), (1, .vec 0 at_ ts.length ct), (2, .vec 1 aj js.length cj), (7, .ptr 2 bk 0), (8, .int .i64 m), (9, .int .i64 (i : Int))], [⟨.sl at_ ct, .roL 1 encU16 ts 0⟩, ⟨.sl aj cj, .roL 1 encI1 js 0⟩, ⟨.blk bk, .cells [.raw v0, .raw v1, .raw v2, .raw v3, .int .i64 m, .int .i64 w] 175⟩]⟩) = (
match decide ((↑i : Int) < (↑(List.length ts) : Int)) with
| true =>
 match decide ((↑i : Int) < (↑(List.length js) : Int)) with
 | true =>
  (at_ = at_ ∧ ct = ct ∧ List.length ts = List.length ts ∧ (0 : Int) ≤ (↑i : Int) ∧ (↑i : Int) < (↑(List.length ts) : Int)) ∧
   (Addr.blkD at_ = Addr.blkD at_ ∧ Addr.offD at_ = Addr.offD at_ ∧ 1 = 1 ∧ Int.toNat (↑i : Int) < List.length ts) ∧
    (4 : Int) ≠ (0 : Int) ∧
     match Int.tmod (List.getD ts (Int.toNat (↑i : Int)) (0 : Int)) (4 : Int) == (0 : Int) with
     | true =>
      (aj = aj ∧ cj = cj ∧ List.length js = List.length js ∧ (0 : Int) ≤ (↑i : Int) ∧ (↑i : Int) < (↑(List.length js) : Int)) ∧
       (Addr.blkD aj = Addr.blkD aj ∧ Addr.offD aj = Addr.offD aj ∧ 1 = 1 ∧ Int.toNat (↑i : Int) < List.length js) ∧
        match decide (List.getD js (Int.toNat (↑i : Int)) (0 : Int) ≥ (0 : Int)) with
        | true =>
         (aj = aj ∧ cj = cj ∧ List.length js = List.length js ∧ (0 : Int) ≤ (↑i : Int) ∧ (↑i : Int) < (↑(List.length js) : Int)) ∧
          (Addr.blkD aj = Addr.blkD aj ∧ Addr.offD aj = Addr.offD aj ∧ 1 = 1 ∧ Int.toNat (↑i : Int) < List.length js) ∧
           match decide (List.getD js (Int.toNat (↑i : Int)) (0 : Int) < (1152921504606846976 : Int)) with
           | true =>
            (aj = aj ∧ cj = cj ∧ List.length js = List.length js ∧ (0 : Int) ≤ (↑i : Int) ∧ (↑i : Int) < (↑(List.length js) : Int)) ∧
             (Addr.blkD aj = Addr.blkD aj ∧ Addr.offD aj = Addr.offD aj ∧ 1 = 1 ∧ Int.toNat (↑i : Int) < List.length js) ∧
              true = true ∧
               (bk = bk ∧ true = true ∧ 1 = 1 ∧ 6 ≤ 6) ∧
                (aj = aj ∧ cj = cj ∧ List.length js = List.length js ∧ (0 : Int) ≤ (↑i : Int) ∧ (↑i : Int) < (↑(List.length js) : Int)) ∧
                 (Addr.blkD aj = Addr.blkD aj ∧ Addr.offD aj = Addr.offD aj ∧ 1 = 1 ∧ Int.toNat (↑i : Int) < List.length js) ∧
                  K (frmR [J] (bodyOf Try.f9) 13)
                   (Sy.mk (SV.int IntKind.i64 (List.getD js (Int.toNat (↑i : Int)) (0 : Int)) :: (SV.vec 0 at_ (List.length ts) ct :: (SV.vec 1 aj (List.length js) cj :: (rawR u 3 (SV.ptr 2 bk 0 :: (SV.int IntKind.i64 m :: (SV.int IntKind.i64 (↑i : Int) :: (rawR u 10 (SV.int IntKind.i64 (↑i : Int) :: (SV.vec 0 at_ (List.length ts) ct :: (SV.int IntKind.i64 (↑(List.length ts) : Int) :: (SV.bool true :: (SV.raw (u 34) :: (SV.raw (u 35) :: (SV.int IntKind.i64 (↑i : Int) :: (SV.vec 1 aj (List.length js) cj :: (SV.int IntKind.i64 (↑(List.length js) : Int) :: (SV.bool (decide ((↑i : Int) < (↑(List.length js) : Int))) :: (SV.bool true :: (SV.vec 0 at_ (List.length ts) ct :: (SV.int IntKind.i64 (↑i : Int) :: (SV.eptr 0 (Addr.blkD at_) (Addr.offD at_) 1 (Int.toNat (↑i : Int)) 0 :: (SV.int IntKind.u16 (List.getD ts (Int.toNat (↑i : Int)) (0 : Int)) :: (SV.int IntKind.u16 (Int.tmod (List.getD ts (Int.toNat (↑i : Int)) (0 : Int)) (4 : Int)) :: ((SV.bool (Int.tmod (List.getD ts (Int.toNat (↑i : Int)) (0 : Int)) (4 : Int) == (0 : Int))) :: ((SV.bool (Int.tmod (List.getD ts (Int.toNat (↑i : Int)) (0 : Int)) (4 : Int) == (0 : Int))) :: (SV.bool true :: (SV.vec 1 aj (List.length js) cj :: (SV.int IntKind.i64 (↑i : Int) :: (SV.eptr 1 (Addr.blkD aj) (Addr.offD aj) 1 (Int.toNat (↑i : Int)) 0 :: (SV.int IntKind.i64 (List.getD js (Int.toNat (↑i : Int)) (0 : Int)) :: (SV.bool (decide (List.getD js (Int.toNat (↑i : Int)) (0 : Int) ≥ (0 : Int))) :: (SV.bool (decide (List.getD js (Int.toNat (↑i : Int)) (0 : Int) ≥ (0 : Int))) :: (SV.bool true :: (SV.vec 1 aj (List.length js) cj :: (SV.int IntKind.i64 (↑i : Int) :: (SV.eptr 1 (Addr.blkD aj) (Addr.offD aj) 1 (Int.toNat (↑i : Int)) 0 :: (SV.int IntKind.i64 (List.getD js (Int.toNat (↑i : Int)) (0 : Int)) :: (SV.bool (decide (List.getD js (Int.toNat (↑i : Int)) (0 : Int) < (1152921504606846976 : Int))) :: (SV.bool true :: (SV.ptr 2 bk 0 :: (SV.vec 1 aj (List.length js) cj :: (SV.int IntKind.i64 (↑i : Int) :: (SV.eptr 1 (Addr.blkD aj) (Addr.offD aj) 1 (Int.toNat (↑i : Int)) 0 :: (SV.int IntKind.i64 (List.getD js (Int.toNat (↑i : Int)) (0 : Int)) :: (SV.tuple [] :: (SV.vec 1 aj (List.length js) cj :: (SV.int IntKind.i64 (↑i : Int) :: (SV.eptr 1 (Addr.blkD aj) (Addr.offD aj) 1 (Int.toNat (↑i : Int)) 0 :: (SV.int IntKind.i64 (List.getD js (Int.toNat (↑i : Int)) (0 : Int)) :: (rawR u 72 [] 55))))))))))))))))))))))))))))))))))))))))))) 20)))) 4))))
                    [Ent.mk (Loc.sl at_ ct) (SObj.roL 1 encU16 ts (0 : Int)), Ent.mk (Loc.sl aj cj) (SObj.roL 1 encI1 js (0 : Int)),
                     Ent.mk (Loc.blk bk)
                      (SObj.cells [SV.raw v0, SV.raw v1, SV.raw v2, SV.raw v3, SV.int IntKind.i64 m, SV.int IntKind.i64 (List.getD js (Int.toNat (↑i : Int)) (0 : Int))]
                       (175 : TypeId))])
           | false =>
            K (frmR [J] (bodyOf Try.f9) 13)
             (Sy.mk (SV.int IntKind.i64 w :: (SV.vec 0 at_ (List.length ts) ct :: (SV.vec 1 aj (List.length js) cj :: (rawR u 3 (SV.ptr 2 bk 0 :: (SV.int IntKind.i64 m :: (SV.int IntKind.i64 (↑i : Int) :: (rawR u 10 (SV.int IntKind.i64 (↑i : Int) :: (SV.vec 0 at_ (List.length ts) ct :: (SV.int IntKind.i64 (↑(List.length ts) : Int) :: (SV.bool true :: (SV.raw (u 34) :: (SV.raw (u 35) :: (SV.int IntKind.i64 (↑i : Int) :: (SV.vec 1 aj (List.length js) cj :: (SV.int IntKind.i64 (↑(List.length js) : Int) :: (SV.bool (decide ((↑i : Int) < (↑(List.length js) : Int))) :: (SV.bool true :: (SV.vec 0 at_ (List.length ts) ct :: (SV.int IntKind.i64 (↑i : Int) :: (SV.eptr 0 (Addr.blkD at_) (Addr.offD at_) 1 (Int.toNat (↑i : Int)) 0 :: (SV.int IntKind.u16 (List.getD ts (Int.toNat (↑i : Int)) (0 : Int)) :: (SV.int IntKind.u16 (Int.tmod (List.getD ts (Int.toNat (↑i : Int)) (0 : Int)) (4 : Int)) :: ((SV.bool (Int.tmod (List.getD ts (Int.toNat (↑i : Int)) (0 : Int)) (4 : Int) == (0 : Int))) :: ((SV.bool (Int.tmod (List.getD ts (Int.toNat (↑i : Int)) (0 : Int)) (4 : Int) == (0 : Int))) :: (SV.bool true :: (SV.vec 1 aj (List.length js) cj :: (SV.int IntKind.i64 (↑i : Int) :: (SV.eptr 1 (Addr.blkD aj) (Addr.offD aj) 1 (Int.toNat (↑i : Int)) 0 :: (SV.int IntKind.i64 (List.getD js (Int.toNat (↑i : Int)) (0 : Int)) :: (SV.bool (decide (List.getD js (Int.toNat (↑i : Int)) (0 : Int) ≥ (0 : Int))) :: (SV.bool (decide (List.getD js (Int.toNat (↑i : Int)) (0 : Int) ≥ (0 : Int))) :: (SV.bool true :: (SV.vec 1 aj (List.length js) cj :: (SV.int IntKind.i64 (↑i : Int) :: (SV.eptr 1 (Addr.blkD aj) (Addr.offD aj) 1 (Int.toNat (↑i : Int)) 0 :: (SV.int IntKind.i64 (List.getD js (Int.toNat (↑i : Int)) (0 : Int)) :: (SV.bool (decide (List.getD js (Int.toNat (↑i : Int)) (0 : Int) < (1152921504606846976 : Int))) :: (SV.bool false :: (rawR u 62 [] 65))))))))))))))))))))))))))))))))) 20)))) 4))))
              [Ent.mk (Loc.sl at_ ct) (SObj.roL 1 encU16 ts (0 : Int)), Ent.mk (Loc.sl aj cj) (SObj.roL 1 encI1 js (0 : Int)),
               Ent.mk (Loc.blk bk) (SObj.cells [SV.raw v0, SV.raw v1, SV.raw v2, SV.raw v3, SV.int IntKind.i64 m, SV.int IntKind.i64 w] (175 : TypeId))])
        | false =>
         K (frmR [J] (bodyOf Try.f9) 13)
          (Sy.mk (SV.int IntKind.i64 w :: (SV.vec 0 at_ (List.length ts) ct :: (SV.vec 1 aj (List.length js) cj :: (rawR u 3 (SV.ptr 2 bk 0 :: (SV.int IntKind.i64 m :: (SV.int IntKind.i64 (↑i : Int) :: (rawR u 10 (SV.int IntKind.i64 (↑i : Int) :: (SV.vec 0 at_ (List.length ts) ct :: (SV.int IntKind.i64 (↑(List.length ts) : Int) :: (SV.bool true :: (SV.raw (u 34) :: (SV.raw (u 35) :: (SV.int IntKind.i64 (↑i : Int) :: (SV.vec 1 aj (List.length js) cj :: (SV.int IntKind.i64 (↑(List.length js) : Int) :: (SV.bool (decide ((↑i : Int) < (↑(List.length js) : Int))) :: (SV.bool true :: (SV.vec 0 at_ (List.length ts) ct :: (SV.int IntKind.i64 (↑i : Int) :: (SV.eptr 0 (Addr.blkD at_) (Addr.offD at_) 1 (Int.toNat (↑i : Int)) 0 :: (SV.int IntKind.u16 (List.getD ts (Int.toNat (↑i : Int)) (0 : Int)) :: (SV.int IntKind.u16 (Int.tmod (List.getD ts (Int.toNat (↑i : Int)) (0 : Int)) (4 : Int)) :: ((SV.bool (Int.tmod (List.getD ts (Int.toNat (↑i : Int)) (0 : Int)) (4 : Int) == (0 : Int))) :: ((SV.bool (Int.tmod (List.getD ts (Int.toNat (↑i : Int)) (0 : Int)) (4 : Int) == (0 : Int))) :: (SV.bool true :: (SV.vec 1 aj (List.length js) cj :: (SV.int IntKind.i64 (↑i : Int) :: (SV.eptr 1 (Addr.blkD aj) (Addr.offD aj) 1 (Int.toNat (↑i : Int)) 0 :: (SV.int IntKind.i64 (List.getD js (Int.toNat (↑i : Int)) (0 : Int)) :: (SV.bool (decide (List.getD js (Int.toNat (↑i : Int)) (0 : Int) ≥ (0 : Int))) :: (SV.bool (decide (List.getD js (Int.toNat (↑i : Int)) (0 : Int) ≥ (0 : Int))) :: (SV.bool false :: (rawE (SV.bool false :: (rawR u 62 [] 65)) 5))))))))))))))))))))))))))) 20)))) 4))))
           [Ent.mk (Loc.sl at_ ct) (SObj.roL 1 encU16 ts (0 : Int)), Ent.mk (Loc.sl aj cj) (SObj.roL 1 encI1 js (0 : Int)),
            Ent.mk (Loc.blk bk) (SObj.cells [SV.raw v0, SV.raw v1, SV.raw v2, SV.raw v3, SV.int IntKind.i64 m, SV.int IntKind.i64 w] (175 : TypeId))])
     | false =>
      K (frmR [J] (bodyOf Try.f9) 13)
       (Sy.mk (SV.int IntKind.i64 w :: (SV.vec 0 at_ (List.length ts) ct :: (SV.vec 1 aj (List.length js) cj :: (rawR u 3 (SV.ptr 2 bk 0 :: (SV.int IntKind.i64 m :: (SV.int IntKind.i64 (↑i : Int) :: (rawR u 10 (SV.int IntKind.i64 (↑i : Int) :: (SV.vec 0 at_ (List.length ts) ct :: (SV.int IntKind.i64 (↑(List.length ts) : Int) :: (SV.bool true :: (SV.raw (u 34) :: (SV.raw (u 35) :: (SV.int IntKind.i64 (↑i : Int) :: (SV.vec 1 aj (List.length js) cj :: (SV.int IntKind.i64 (↑(List.length js) : Int) :: (SV.bool (decide ((↑i : Int) < (↑(List.length js) : Int))) :: (SV.bool true :: (SV.vec 0 at_ (List.length ts) ct :: (SV.int IntKind.i64 (↑i : Int) :: (SV.eptr 0 (Addr.blkD at_) (Addr.offD at_) 1 (Int.toNat (↑i : Int)) 0 :: (SV.int IntKind.u16 (List.getD ts (Int.toNat (↑i : Int)) (0 : Int)) :: (SV.int IntKind.u16 (Int.tmod (List.getD ts (Int.toNat (↑i : Int)) (0 : Int)) (4 : Int)) :: ((SV.bool (Int.tmod (List.getD ts (Int.toNat (↑i : Int)) (0 : Int)) (4 : Int) == (0 : Int))) :: ((SV.bool (Int.tmod (List.getD ts (Int.toNat (↑i : Int)) (0 : Int)) (4 : Int) == (0 : Int))) :: (SV.bool false :: (rawE (SV.bool false :: (SV.bool false :: (rawE (SV.bool false :: (rawR u 62 [] 65)) 5))) 5)))))))))))))))))))) 20)))) 4))))
        [Ent.mk (Loc.sl at_ ct) (SObj.roL 1 encU16 ts (0 : Int)), Ent.mk (Loc.sl aj cj) (SObj.roL 1 encI1 js (0 : Int)),
         Ent.mk (Loc.blk bk) (SObj.cells [SV.raw v0, SV.raw v1, SV.raw v2, SV.raw v3, SV.int IntKind.i64 m, SV.int IntKind.i64 w] (175 : TypeId))])
 | false =>
  K (frmR [J] (bodyOf Try.f9) 13)
   (Sy.mk (SV.int IntKind.i64 w :: (SV.vec 0 at_ (List.length ts) ct :: (SV.vec 1 aj (List.length js) cj :: (rawR u 3 (SV.ptr 2 bk 0 :: (SV.int IntKind.i64 m :: (SV.int IntKind.i64 (↑i : Int) :: (rawR u 10 (SV.int IntKind.i64 (↑i : Int) :: (SV.vec 0 at_ (List.length ts) ct :: (SV.int IntKind.i64 (↑(List.length ts) : Int) :: (SV.bool true :: (SV.raw (u 34) :: (SV.raw (u 35) :: (SV.int IntKind.i64 (↑i : Int) :: (SV.vec 1 aj (List.length js) cj :: (SV.int IntKind.i64 (↑(List.length js) : Int) :: (SV.bool (decide ((↑i : Int) < (↑(List.length js) : Int))) :: (SV.bool false :: (rawE (SV.bool false :: (SV.bool false :: (rawE (SV.bool false :: (SV.bool false :: (rawE (SV.bool false :: (rawR u 62 [] 65)) 5))) 5))) 6)))))))))))) 20)))) 4))))
    [Ent.mk (Loc.sl at_ ct) (SObj.roL 1 encU16 ts (0 : Int)), Ent.mk (Loc.sl aj cj) (SObj.roL 1 encI1 js (0 : Int)),
     Ent.mk (Loc.blk bk) (SObj.cells [SV.raw v0, SV.raw v1, SV.raw v2, SV.raw v3, SV.int IntKind.i64 m, SV.int IntKind.i64 w] (175 : TypeId))])
| false =>
 K (frmR [] (bodyOf Try.f9) 18)
  (Sy.mk (SV.int IntKind.i64 w :: (SV.vec 0 at_ (List.length ts) ct :: (SV.vec 1 aj (List.length js) cj :: (rawR u 3 (SV.ptr 2 bk 0 :: (SV.int IntKind.i64 m :: (SV.int IntKind.i64 (↑i : Int) :: (rawR u 10 (SV.int IntKind.i64 (↑i : Int) :: (SV.vec 0 at_ (List.length ts) ct :: (SV.int IntKind.i64 (↑(List.length ts) : Int) :: (SV.bool false :: (rawR u 34 [] 93))))) 20)))) 4))))
   [Ent.mk (Loc.sl at_ ct) (SObj.roL 1 encU16 ts (0 : Int)), Ent.mk (Loc.sl aj cj) (SObj.roL 1 encI1 js (0 : Int)),
    Ent.mk (Loc.blk bk) (SObj.cells [SV.raw v0, SV.raw v1, SV.raw v2, SV.raw v3, SV.int IntKind.i64 m, SV.int IntKind.i64 w] (175 : TypeId))])) := by kernel_rfl


theorem kc_13 (K : List Frm → Sy → Prop) (N : List Ent → SV → Prop) (J0 : Act → World → Prop) (at_ : Option Addr) (ct : Nat) (ts : List Int) (aj : Option Addr) (cj : Nat) (js : List Int) (bk : Nat) (v0 v1 v2 v3 : Value) (m w : Int) (i : Nat) (u : Nat → Value) : (run Try.prog klTJ false [15] K (retP Try.prog Try.f9.results.toList N) 1500 (frmR [J0] (bodyOf Try.f9) 13) ⟨mkT u 127 0 [(0, .int .i64 w), (1, .vec 0 at_ ts.length ct), (2, .vec 1 aj js.length cj), (7, .ptr 2 bk 0), (8, .int .i64 m), (9, .int .i64 (i : Int))], [⟨.sl at_ ct, .roL 1 encU16 ts 0⟩, ⟨.sl aj cj, .roL 1 encI1 js 0⟩, ⟨.blk bk, .cells [.raw v0, .raw v1, .raw v2, .raw v3, .int .i64 m, .int .i64 w] 175⟩]⟩) = (
(at_ = at_ ∧ ct = ct ∧ List.length ts = List.length ts ∧ (0 : Int) ≤ (↑i : Int) ∧ (↑i : Int) < (↑(List.length ts) : Int)) ∧
 (Addr.blkD at_ = Addr.blkD at_ ∧ Addr.offD at_ = Addr.offD at_ ∧ 1 = 1 ∧ Int.toNat (↑i : Int) < List.length ts) ∧
  true = true ∧
   (bk = bk ∧ (175 : TypeId) = (175 : TypeId)) ∧
    match decide (IntKind.wrap IntKind.i64 (List.getD ts (Int.toNat (↑i : Int)) (0 : Int)) < (0 : Int)) with
    | true =>
     N
      [Ent.mk (Loc.sl at_ ct) (SObj.roL 1 encU16 ts (0 : Int)), Ent.mk (Loc.sl aj cj) (SObj.roL 1 encI1 js (0 : Int)),
       Ent.mk (Loc.blk bk) (SObj.cells [SV.raw v0, SV.raw v1, SV.raw v2, SV.raw v3, SV.int IntKind.i64 m, SV.int IntKind.i64 w] (175 : TypeId))]
      (SV.bool false)
    | false =>
     true = true ∧
      (bk = bk ∧ (175 : TypeId) = (175 : TypeId)) ∧
       K (frmR [J0] (bodyOf Try.f9) 15)
        (Sy.mk (SV.int IntKind.i64 w :: (SV.vec 0 at_ (List.length ts) ct :: (SV.vec 1 aj (List.length js) cj :: (rawR u 3 (SV.ptr 2 bk 0 :: (SV.int IntKind.i64 m :: (SV.int IntKind.i64 (↑i : Int) :: (rawR u 10 (SV.ptr 2 bk 0 :: (SV.vec 0 at_ (List.length ts) ct :: (SV.int IntKind.i64 (↑i : Int) :: (SV.eptr 0 (Addr.blkD at_) (Addr.offD at_) 1 (Int.toNat (↑i : Int)) 0 :: (SV.int IntKind.u16 (List.getD ts (Int.toNat (↑i : Int)) (0 : Int)) :: (SV.int IntKind.i64 (IntKind.wrap IntKind.i64 (List.getD ts (Int.toNat (↑i : Int)) (0 : Int))) :: (SV.int IntKind.i64 (0 : Int) :: (SV.bool false :: (SV.bool false :: (SV.ptr 2 bk 0 :: (SV.int IntKind.i64 (10 : Int) :: (SV.bool false :: (SV.bool false :: (rawR u 85 [] 42)))))))))))))) 62)))) 4))))
         [Ent.mk (Loc.sl at_ ct) (SObj.roL 1 encU16 ts (0 : Int)), Ent.mk (Loc.sl aj cj) (SObj.roL 1 encI1 js (0 : Int)),
          Ent.mk (Loc.blk bk)
           (SObj.cells
            [SV.raw v0, SV.raw v1, SV.raw v2, SV.raw v3, SV.int IntKind.i64 (addS m (IntKind.wrap IntKind.i64 (List.getD ts (Int.toNat (↑i : Int)) (0 : Int)))),
             SV.int IntKind.i64 (addS w (IntKind.wrap IntKind.i64 (List.getD ts (Int.toNat (↑i : Int)) (0 : Int))))]
            (175 : TypeId))])) := by kernel_rfl


theorem kc_15 (K : List Frm → Sy → Prop) (N : List Ent → SV → Prop) (J0 : Act → World → Prop) (at_ : Option Addr) (ct : Nat) (ts : List Int) (aj : Option Addr) (cj : Nat) (js : List Int) (bk : Nat) (v0 v1 v2 v3 : Value) (m w m2 w2 : Int) (i : Nat) (u : Nat → Value) : (run Try.prog klTJ false [] K (retP Try.prog Try.f9.results.toList N) 1500 (frmR [J0] (bodyOf Try.f9) 15) ⟨mkT u 127 0 [(0, .int .i64 w), (1, .vec 0 at_ ts.length ct), (2, .vec 1 aj js.length cj), (7, .ptr 2 bk 0), (8, .int .i64 m), (9, .int .i64 (i : Int))], [⟨.sl at_ ct, .roL 1 encU16 ts 0⟩, ⟨.sl aj cj, .roL 1 encI1 js 0⟩, ⟨.blk bk, .cells [.raw v0, .raw v1, .raw v2, .raw v3, .int .i64 m2, .int .i64 w2] 175⟩]⟩) = (
(at_ = at_ ∧ ct = ct ∧ List.length ts = List.length ts ∧ (0 : Int) ≤ (↑i : Int) ∧ (↑i : Int) < (↑(List.length ts) : Int)) ∧
 (Addr.blkD at_ = Addr.blkD at_ ∧ Addr.offD at_ = Addr.offD at_ ∧ 1 = 1 ∧ Int.toNat (↑i : Int) < List.length ts) ∧
  (at_ = at_ ∧ ct = ct ∧ List.length ts = List.length ts ∧ (0 : Int) ≤ (↑i : Int) ∧ (↑i : Int) < (↑(List.length ts) : Int)) ∧
   (Addr.blkD at_ = Addr.blkD at_ ∧ Addr.offD at_ = Addr.offD at_ ∧ 1 = 1 ∧ Int.toNat (↑i : Int) < List.length ts) ∧
    true = true ∧
     bk = bk ∧
      match m2 != IntKind.wrap IntKind.i64 (m + IntKind.wrap IntKind.i64 (List.getD ts (Int.toNat (↑i : Int)) (0 : Int))) with
      | true =>
       N
        [Ent.mk (Loc.sl at_ ct) (SObj.roL 1 encU16 ts (0 : Int)), Ent.mk (Loc.sl aj cj) (SObj.roL 1 encI1 js (0 : Int)),
         Ent.mk (Loc.blk bk) (SObj.cells [SV.raw v0, SV.raw v1, SV.raw v2, SV.raw v3, SV.int IntKind.i64 m2, SV.int IntKind.i64 w2] (175 : TypeId))]
        (SV.bool false)
      | false =>
       true = true ∧
        bk = bk ∧
         match w2 != IntKind.wrap IntKind.i64 (w + IntKind.wrap IntKind.i64 (List.getD ts (Int.toNat (↑i : Int)) (0 : Int))) with
         | true =>
          N
           [Ent.mk (Loc.sl at_ ct) (SObj.roL 1 encU16 ts (0 : Int)), Ent.mk (Loc.sl aj cj) (SObj.roL 1 encI1 js (0 : Int)),
            Ent.mk (Loc.blk bk) (SObj.cells [SV.raw v0, SV.raw v1, SV.raw v2, SV.raw v3, SV.int IntKind.i64 m2, SV.int IntKind.i64 w2] (175 : TypeId))]
           (SV.bool false)
         | false =>
          K (Frm.loop J0 :: Frm.blk 0 :: frm [] (bodyOf Try.f9) [1, 1, 1, 1, 1, 1] [])
           (Sy.mk (SV.int IntKind.i64 (IntKind.wrap IntKind.i64 (w + IntKind.wrap IntKind.i64 (List.getD ts (Int.toNat (↑i : Int)) (0 : Int)))) :: (SV.vec 0 at_ (List.length ts) ct :: (SV.vec 1 aj (List.length js) cj :: (rawR u 3 (SV.ptr 2 bk 0 :: (SV.int IntKind.i64 (IntKind.wrap IntKind.i64 (m + IntKind.wrap IntKind.i64 (List.getD ts (Int.toNat (↑i : Int)) (0 : Int)))) :: (SV.int IntKind.i64 (IntKind.wrap IntKind.i64 ((↑i : Int) + (1 : Int))) :: (rawR u 10 (SV.int IntKind.i64 (↑i : Int) :: (SV.int IntKind.i64 (IntKind.wrap IntKind.i64 ((↑i : Int) + (1 : Int))) :: (rawR u 36 (SV.int IntKind.i64 m :: (SV.vec 0 at_ (List.length ts) ct :: (SV.int IntKind.i64 (↑i : Int) :: (SV.eptr 0 (Addr.blkD at_) (Addr.offD at_) 1 (Int.toNat (↑i : Int)) 0 :: (SV.int IntKind.u16 (List.getD ts (Int.toNat (↑i : Int)) (0 : Int)) :: (SV.int IntKind.i64 (IntKind.wrap IntKind.i64 (List.getD ts (Int.toNat (↑i : Int)) (0 : Int))) :: (SV.int IntKind.i64 (IntKind.wrap IntKind.i64 (m + IntKind.wrap IntKind.i64 (List.getD ts (Int.toNat (↑i : Int)) (0 : Int)))) :: (SV.int IntKind.i64 w :: (SV.vec 0 at_ (List.length ts) ct :: (SV.int IntKind.i64 (↑i : Int) :: (SV.eptr 0 (Addr.blkD at_) (Addr.offD at_) 1 (Int.toNat (↑i : Int)) 0 :: (SV.int IntKind.u16 (List.getD ts (Int.toNat (↑i : Int)) (0 : Int)) :: (SV.int IntKind.i64 (IntKind.wrap IntKind.i64 (List.getD ts (Int.toNat (↑i : Int)) (0 : Int))) :: (SV.int IntKind.i64 (IntKind.wrap IntKind.i64 (w + IntKind.wrap IntKind.i64 (List.getD ts (Int.toNat (↑i : Int)) (0 : Int)))) :: (SV.ptr 2 bk 0 :: (SV.int IntKind.i64 m2 :: (SV.int IntKind.i64 (IntKind.wrap IntKind.i64 (m + IntKind.wrap IntKind.i64 (List.getD ts (Int.toNat (↑i : Int)) (0 : Int)))) :: ((SV.bool (m2 != IntKind.wrap IntKind.i64 (m + IntKind.wrap IntKind.i64 (List.getD ts (Int.toNat (↑i : Int)) (0 : Int))))) :: (SV.bool false :: (SV.ptr 2 bk 0 :: (SV.int IntKind.i64 w2 :: (SV.int IntKind.i64 (IntKind.wrap IntKind.i64 (w + IntKind.wrap IntKind.i64 (List.getD ts (Int.toNat (↑i : Int)) (0 : Int)))) :: ((SV.bool (w2 != IntKind.wrap IntKind.i64 (w + IntKind.wrap IntKind.i64 (List.getD ts (Int.toNat (↑i : Int)) (0 : Int))))) :: (SV.bool false :: (rawR u 109 [] 18))))))))))))))))))))))))) 49))) 24)))) 4))))
            [Ent.mk (Loc.sl at_ ct) (SObj.roL 1 encU16 ts (0 : Int)), Ent.mk (Loc.sl aj cj) (SObj.roL 1 encI1 js (0 : Int)),
             Ent.mk (Loc.blk bk) (SObj.cells [SV.raw v0, SV.raw v1, SV.raw v2, SV.raw v3, SV.int IntKind.i64 m2, SV.int IntKind.i64 w2] (175 : TypeId))])) := by kernel_rfl


theorem kc_18 (K : List Frm → Sy → Prop) (N : List Ent → SV → Prop) (at_ : Option Addr) (ct : Nat) (ts : List Int) (aj : Option Addr) (cj : Nat) (js : List Int) (bk : Nat) (v0 v1 v2 v3 : Value) (m w : Int) (u : Nat → Value) : (run Try.prog klTJ false [] K (retP Try.prog Try.f9.results.toList N) 3000 (frmR [] (bodyOf Try.f9) 18) ⟨mkT u 127 0 [(7, .ptr 2 bk 0)], [⟨.sl at_ ct, .roL 1 encU16 ts 0⟩, ⟨.sl aj cj, .roL 1 encI1 js 0⟩, ⟨.blk bk, .cells [.raw v0, .raw v1, .raw v2, .raw v3, .int .i64 m, .int .i64 w] 175⟩]⟩) = (
true = true ∧
 (bk = bk ∧ (175 : TypeId) = (175 : TypeId)) ∧
  true = true ∧
   bk = bk ∧
    match addS m (9223372036854775807 : Int) == (9223372036854775807 : Int) with
    | true =>
     true = true ∧
      (bk = bk ∧ (175 : TypeId) = (175 : TypeId)) ∧
       true = true ∧
        bk = bk ∧
         N
          [Ent.mk (Loc.sl at_ ct) (SObj.roL 1 encU16 ts (0 : Int)), Ent.mk (Loc.sl aj cj) (SObj.roL 1 encI1 js (0 : Int)),
           Ent.mk (Loc.blk bk)
            (SObj.cells
             [SV.raw v0, SV.raw v1, SV.raw v2, SV.raw v3, SV.int IntKind.i64 (addS (addS m (9223372036854775807 : Int)) (5 : Int)),
              SV.int IntKind.i64 (addS (addS w (9223372036854775807 : Int)) (5 : Int))]
             (175 : TypeId))]
          (SV.bool (addS (addS m (9223372036854775807 : Int)) (5 : Int) == (9223372036854775807 : Int)))
    | false =>
     N
      [Ent.mk (Loc.sl at_ ct) (SObj.roL 1 encU16 ts (0 : Int)), Ent.mk (Loc.sl aj cj) (SObj.roL 1 encI1 js (0 : Int)),
       Ent.mk (Loc.blk bk)
        (SObj.cells [SV.raw v0, SV.raw v1, SV.raw v2, SV.raw v3, SV.int IntKind.i64 (addS m (9223372036854775807 : Int)), SV.int IntKind.i64 (addS w (9223372036854775807 : Int))]
         (175 : TypeId))]
      (SV.bool false)) := by kernel_rfl
end Go.Proofs.Ytkcmgcoppecfpaa

/- YtkcmgcoppecfpaaKc -/
/- KernClocks. -/
namespace Go.Proofs.Ytkcmgcoppecfpaa
open Go Go.RowKit
set_option linter.unusedVariables false
set_option linter.unusedSimpArgs false
set_option linter.unnecessarySimpa false
set_option maxHeartbeats 0

theorem hmKc : Try.prog.follows .mixedOrders = true := by kernel_rfl
theorem addS_small {a c : Int} (ha : 0 ≤ a) (hc : 0 ≤ c) (h : a + c ≤ 4611686018427387904) : addS a c = a + c := by
  have h1 : (a == foreverI) = false := by unfold foreverI; rw [beq_eq_false_iff_ne]; omega
  have h2 : (c == foreverI) = false := by unfold foreverI; rw [beq_eq_false_iff_ne]; omega
  have w1 : IntKind.wrap .i64 (a + c) = a + c := IntWalk.i64_in _ (by omega)
  have h3 : decide (a + c < 0) = false := decide_eq_false (by omega)
  have h4 : decide (a < 0) = false := decide_eq_false (by omega)
  unfold addS
  rw [h1, h2, w1, h3, h4]
  simp only [Bool.or_self, Bool.and_false, Bool.false_and]
theorem addS_f (a : Int) : addS a 9223372036854775807 = 9223372036854775807 := by
  unfold addS foreverI
  have : ((9223372036854775807 : Int) == 9223372036854775807) = true := rfl
  rw [this, Bool.or_true]
section
variable {W : World} {F : List Ch} {at_ : Option Addr} {ct : Nat} {ts : List Int} {aj : Option Addr} {cj : Nat} {js : List Int} {bk : Nat} {v0 v1 v2 v3 : Value} {m w : Int} {i : Nat} {st : Sy}
theorem kc13 (hi : i < ts.length) (hl : ts.length ≤ 60) (hx : 0 ≤ ts[i] ∧ ts[i] ≤ 65535) (hm : 0 ≤ m ∧ m ≤ (i : Int) * 65535) (hw : 0 ≤ w ∧ w ≤ 1152921504606846976 + (i : Int) * 65535) (h1 : lenN st.tmps = 127) (h2 : liveOk st.tmps [(0, .int .i64 w), (1, .vec 0 at_ ts.length ct), (2, .vec 1 aj js.length cj), (7, .ptr 2 bk 0), (8, .int .i64 m), (9, .int .i64 (i : Int))]) (hh : ∀ x, Rep W F st.heap x → Rep W F [⟨.sl at_ ct, .roL 1 encU16 ts 0⟩, ⟨.sl aj cj, .roL 1 encI1 js 0⟩, ⟨.blk bk, .cells [.raw v0, .raw v1, .raw v2, .raw v3, .int .i64 m, .int .i64 w] 175⟩] x) :
    G Try.prog (endQ Try.prog Try.f9 W F fun _ r => r = .bool true) W F (frmR [(Back W F 127 (fun x : Nat × Int × Int => [(0, .int .i64 x.2.2), (1, .vec 0 at_ ts.length ct), (2, .vec 1 aj js.length cj), (7, .ptr 2 bk 0), (8, .int .i64 x.2.1), (9, .int .i64 (x.1 : Int))]) (fun x : Nat × Int × Int => [⟨.sl at_ ct, .roL 1 encU16 ts 0⟩, ⟨.sl aj cj, .roL 1 encI1 js 0⟩, ⟨.blk bk, .cells [.raw v0, .raw v1, .raw v2, .raw v3, .int .i64 x.2.1, .int .i64 x.2.2] 175⟩]) (fun x : Nat × Int × Int => x.1 ≤ ts.length ∧ (0 ≤ x.2.1 ∧ x.2.1 ≤ (x.1 : Int) * 65535) ∧ (0 ≤ x.2.2 ∧ x.2.2 ≤ 1152921504606846976 + (x.1 : Int) * 65535)) (fun x : Nat × Int × Int => ts.length - x.1) (ts.length - i))] (bodyOf Try.f9) 13) st := by
  refine G_live 127 [(0, .int .i64 w), (1, .vec 0 at_ ts.length ct), (2, .vec 1 aj js.length cj), (7, .ptr 2 bk 0), (8, .int .i64 m), (9, .int .i64 (i : Int))] [⟨.sl at_ ct, .roL 1 encU16 ts 0⟩, ⟨.sl aj cj, .roL 1 encI1 js 0⟩, ⟨.blk bk, .cells [.raw v0, .raw v1, .raw v2, .raw v3, .int .i64 m, .int .i64 w] 175⟩] h1 h2 hh fun u => ?_
  refine G_run (kc := false) (ss := [15]) klTJ_ok hmKc 1500 ?_
  have hg : ∀ d, ts.getD i d = ts[i] := fun d => by simp [List.getD, hi]
  have w1 : IntKind.wrap .i64 ts[i] = ts[i] := IntWalk.i64_in _ (by omega)
  rw [kc_13, Int.toNat_natCast, hg, w1, addS_small hm.1 hx.1 (by omega), addS_small hw.1 hx.1 (by omega)]
  refine ⟨⟨rfl, rfl, rfl, by omega, by omega⟩, ⟨rfl, rfl, rfl, hi⟩, rfl, ⟨rfl, rfl⟩, ?_⟩
  have hd : decide (ts[i] < 0) = false := decide_eq_false (by omega)
  rw [hd]
  refine ⟨rfl, ⟨rfl, rfl⟩, ?_⟩
  refine G_live 127 [(0, .int .i64 w), (1, .vec 0 at_ ts.length ct), (2, .vec 1 aj js.length cj), (7, .ptr 2 bk 0), (8, .int .i64 m), (9, .int .i64 (i : Int))] [⟨.sl at_ ct, .roL 1 encU16 ts 0⟩, ⟨.sl aj cj, .roL 1 encI1 js 0⟩, ⟨.blk bk, .cells [.raw v0, .raw v1, .raw v2, .raw v3, .int .i64 (m + ts[i]), .int .i64 (w + ts[i])] 175⟩] rfl ⟨rfl, rfl, rfl, rfl, rfl, rfl, trivial⟩ (fun x hr => hr) fun u => ?_
  refine G_run (kc := false) (ss := []) klTJ_ok hmKc 1500 ?_
  have w2 : IntKind.wrap .i64 (m + ts[i]) = m + ts[i] := IntWalk.i64_in _ (by omega)
  have w3 : IntKind.wrap .i64 (w + ts[i]) = w + ts[i] := IntWalk.i64_in _ (by omega)
  have w4 : IntKind.wrap .i64 ((i : Int) + 1) = ((i + 1 : Nat) : Int) := IntWalk.i64_in _ (by omega)
  rw [kc_15, Int.toNat_natCast, hg, w1, w2, w3, bne_self_eq_false, bne_self_eq_false]
  refine ⟨⟨rfl, rfl, rfl, by omega, by omega⟩, ⟨rfl, rfl, rfl, hi⟩, ⟨rfl, rfl, rfl, by omega, by omega⟩, ⟨rfl, rfl, rfl, hi⟩, rfl, rfl, rfl, rfl, ?_⟩
  refine G_back (i + 1, m + ts[i], w + ts[i]) ⟨by dsimp only; omega, ⟨by dsimp only; omega, by dsimp only; push_cast; omega⟩, by dsimp only; omega, by dsimp only; push_cast; omega⟩ (by dsimp only; omega) rfl ⟨rfl, rfl, rfl, rfl, rfl, congrArg (Value.int .i64) w4, trivial⟩ (fun x hr => hr)
end
theorem kc_ok (w : Int) (at_ : Option Addr) (ct : Nat) (ts : List Int) (aj : Option Addr) (cj : Nat) (js : List Int) (hts : ∀ z ∈ ts, 0 ≤ z ∧ z ≤ 65535) : Spec Try.prog 9 [⟨.sl at_ ct, .roL 1 encU16 ts 0⟩, ⟨.sl aj cj, .roL 1 encI1 js 0⟩] [.int .i64 w, .vec 0 at_ ts.length ct, .vec 1 aj js.length cj] fun _ r => r = .bool true := by
  refine Spec.of_G 127 Try.func9 (c := bodyOf Try.f9) (by kernel_rfl) (by kernel_rfl) (Nat.le_of_ble_eq_true rfl) fun W F => ?_
  refine G_run (kc := false) (ss := []) klTJ_ok hmKc 900 ?_
  rw [kc_start]
  refine ⟨rfl, ?_⟩
  cases c1 : decide ((ts.length : Int) > 60) with
  | true => exact rfl
  | false =>
  cases c2 : decide ((js.length : Int) > 60) with
  | true => exact rfl
  | false =>
  cases c3 : decide (w < 0) with
  | true => exact rfl
  | false =>
  cases c4 : decide (w > 1152921504606846976) with
  | true => exact rfl
  | false =>
  simp only [decide_eq_false_iff_not] at c1 c2 c3 c4
  refine ⟨rfl, rfl, fun b bm bp => ⟨rfl, fun b1 bg bo => ⟨rfl, fun v2 => ⟨rfl, fun v3 => ⟨⟨rfl, rfl⟩, rfl, fun bk => ?_⟩⟩⟩⟩⟩
  obtain ⟨v0, hv0⟩ : ∃ v0 : Value, v0 = .pointer (some ⟨b, 0, none⟩) := ⟨_, rfl⟩
  obtain ⟨v1, hv1⟩ : ∃ v1 : Value, v1 = .pointer (some ⟨b1, 0, none⟩) := ⟨_, rfl⟩
  obtain ⟨y2, hy2⟩ : ∃ y : Value, y = .pointer v2 := ⟨_, rfl⟩
  obtain ⟨y3, hy3⟩ : ∃ y : Value, y = .pointer v3 := ⟨_, rfl⟩
  refine G_loopAt (ι := Nat × Int × Int) [] (bodyOf Try.f9) [1, 1, 1, 1, 1, 0, 1, 0] 127 (fun x : Nat × Int × Int => [(0, .int .i64 x.2.2), (1, .vec 0 at_ ts.length ct), (2, .vec 1 aj js.length cj), (7, .ptr 2 bk 0), (8, .int .i64 x.2.1), (9, .int .i64 (x.1 : Int))]) (fun x : Nat × Int × Int => [⟨.sl at_ ct, .roL 1 encU16 ts 0⟩, ⟨.sl aj cj, .roL 1 encI1 js 0⟩, ⟨.blk bk, .cells [.raw v0, .raw v1, .raw y2, .raw y3, .int .i64 x.2.1, .int .i64 x.2.2] 175⟩]) (fun x : Nat × Int × Int => x.1 ≤ ts.length ∧ (0 ≤ x.2.1 ∧ x.2.1 ≤ (x.1 : Int) * 65535) ∧ (0 ≤ x.2.2 ∧ x.2.2 ≤ 1152921504606846976 + (x.1 : Int) * 65535)) (fun x : Nat × Int × Int => ts.length - x.1) (0, 0, w) (by kernel_rfl) (fun J => by kernel_rfl) ⟨Nat.zero_le _, ⟨Int.le_refl _, by simp⟩, by dsimp only; omega, by dsimp only; omega⟩ rfl ⟨rfl, rfl, rfl, rfl, rfl, rfl, trivial⟩ (fun x hr => ?_) ?_
  · subst hv0; subst hv1; subst hy2; subst hy3
    have q1 := Rep.pick (π := [0, 1, 4]) (by decide) rfl hr
    exact Rep.cellsEq (l := 2) (cs' := [.raw (.pointer (some ⟨b, 0, none⟩)), .raw (.pointer (some ⟨b1, 0, none⟩)), .raw (.pointer v2), .raw (.pointer v3), .int .i64 0, .int .i64 w]) rfl (by rfl) q1
  rintro ⟨i, m, w⟩ ⟨hi, hm, hw⟩ u
  dsimp only at hi hm hw
  try dsimp only
  simp only [List.nil_append, List.cons_append]
  refine G_run (kc := false) (ss := [13, 18]) klTJ_ok hmKc 1500 ?_
  rw [kc_l1]
  cases hlt : decide ((i : Int) < (ts.length : Int)) with
  | false =>
    refine G_live 127 [(7, .ptr 2 bk 0)] [⟨.sl at_ ct, .roL 1 encU16 ts 0⟩, ⟨.sl aj cj, .roL 1 encI1 js 0⟩, ⟨.blk bk, .cells [.raw v0, .raw v1, .raw y2, .raw y3, .int .i64 m, .int .i64 w] 175⟩] rfl ⟨rfl, trivial⟩ (fun x hr => hr) fun u => ?_
    refine G_run (kc := false) (ss := []) klTJ_ok hmKc 3000 ?_
    rw [kc_18, addS_f]
    have e1 : addS 9223372036854775807 5 = 9223372036854775807 := rfl
    rw [e1]
    exact ⟨rfl, ⟨rfl, rfl⟩, rfl, rfl, rfl, ⟨rfl, rfl⟩, rfl, rfl, rfl⟩
  | true =>
    simp only [decide_eq_true_eq] at hlt
    have hi2 : i < ts.length := by omega
    have hx := hts _ (List.getElem_mem hi2)
    have fin := fun (tm : List SV) g1 g2 => kc13 (W := W) (F := F) (at_ := at_) (ct := ct) (ts := ts) (aj := aj) (cj := cj) (js := js) (bk := bk) (v0 := v0) (v1 := v1) (v2 := y2) (v3 := y3) (m := m) (w := w) (i := i) (st := ⟨tm, [⟨.sl at_ ct, .roL 1 encU16 ts 0⟩, ⟨.sl aj cj, .roL 1 encI1 js 0⟩, ⟨.blk bk, .cells [.raw v0, .raw v1, .raw y2, .raw y3, .int .i64 m, .int .i64 w] 175⟩]⟩) hi2 (by omega) hx hm hw g1 g2 (fun x hr => hr)
    have fin2 := fun (tm : List SV) (q1 : decide (js.getD (Int.toNat (i : Int)) 0 ≥ 0) = true) (q2 : decide (js.getD (Int.toNat (i : Int)) 0 < 1152921504606846976) = true) g1 g2 => kc13 (W := W) (F := F) (at_ := at_) (ct := ct) (ts := ts) (aj := aj) (cj := cj) (js := js) (bk := bk) (v0 := v0) (v1 := v1) (v2 := y2) (v3 := y3) (m := m) (w := js.getD (Int.toNat (i : Int)) 0) (i := i) (st := ⟨tm, [⟨.sl at_ ct, .roL 1 encU16 ts 0⟩, ⟨.sl aj cj, .roL 1 encI1 js 0⟩, ⟨.blk bk, .cells [.raw v0, .raw v1, .raw y2, .raw y3, .int .i64 m, .int .i64 (js.getD (Int.toNat (i : Int)) 0)] 175⟩]⟩) hi2 (by omega) hx hm ⟨of_decide_eq_true q1, by have := of_decide_eq_true q2; omega⟩ g1 g2 (fun x hr => hr)
    repeat' first
      | exact rfl
      | exact fin _ rfl ⟨rfl, rfl, rfl, rfl, rfl, rfl, trivial⟩
      | exact fin2 _ (by assumption) (by assumption) rfl ⟨rfl, rfl, rfl, rfl, rfl, rfl, trivial⟩
      | (split <;> rename_i hj)
      | (exact absurd hj (by decide))
      | (show (4 : Int) ≠ 0; decide)
      | exact Nat.le_refl _
      | apply And.intro
      | (show _ ≤ _; omega)
      | (show _ < _; omega)
      | (have hjl := of_decide_eq_true ‹decide ((i : Int) < (js.length : Int)) = true›; omega)
      | fail
end Go.Proofs.Ytkcmgcoppecfpaa

/- YtkcmgcoppecfpaaRow -/
/- A law's call with a slice of numbers as1 its argument. -/
namespace Go.Proofs.Ytkcmgcoppecfpaa
open Go Go.RowKit Go.ChangeShapes
set_option linter.unusedVariables false
set_option linter.unusedSimpArgs false
set_option linter.unnecessarySimpa false

theorem ro_ints {W : World} {k : IntKind} {a : Addr} {len cap : Nat} {zs : List Int} {enc : Int → List SV} (henc : ∀ x, enc x = [.int k x]) (hl : len ≤ cap) (hz : zs.length = cap) (hcell : ∀ i, i < zs.length → W.cell? (a.add i) = some (.int k (zs.getD i 0))) :
    has W (.sl (some a) cap) (.roL 1 enc (zs.take len) 0) [] := by
  by_cases h0 : len = 0
  · subst h0
    exact ⟨rfl, (fun x => by rw [henc]; rfl), by simp, .inl (by simp)⟩
  · obtain ⟨b, off, rfl, hc⟩ := ints_at hcell (by omega)
    have hc0 := hc 0 (by omega)
    have hc1 : ∃ cur T fr, W.heap[b]? = some (.cells cur T fr) := by
      simp only [World.cell?] at hc0
      split at hc0
      · rename_i cur T fr hh; exact ⟨_, _, _, hh⟩
      · cases hc0
    obtain ⟨cur, T, fr, hb⟩ := hc1
    refine ⟨rfl, (fun x => by rw [henc]; rfl), by simp; omega, .inr ⟨b, off, cur, T, fr, rfl, hb, ?_⟩⟩
    · have hfl : ∀ l : List Int, flatV enc l = l.map fun x => Value.int k x := by
        intro l
        induction l with
        | nil => rfl
        | cons x l ih =>
          have : flatV enc (x :: l) = denL (enc x) ++ flatV enc l := by simp [flatV]
          rw [this, ih, henc]; rfl
      rw [hfl, List.map_take]
      have hlt : (zs.take len).length = len := by simp; omega
      rw [hlt, Nat.mul_one]
      apply List.ext_getElem?
      intro j
      simp only [List.getElem?_take, List.getElem?_drop, List.getElem?_map]
      split
      · rename_i hj
        have h1 := hc j (by omega)
        simp only [World.cell?, hb] at h1
        have h2 : cur.toList[off + j]? = cur[off + j]? := by simp
        simp at h1
        rw [h2, h1]
        have : j < zs.length := by omega
        simp [this]
      · rfl

/-- An argument that is a slice of numbers: the entry, its numbers. -/
theorem arg_ints {P : Program} {H : Type} {enc : TypeId × Value → H} {t e : TypeId} {k : IntKind} {fuel : Nat} {W : World} {a0 : Option Addr} {len cap : Nat} {x : DataW H × List MemPlace} {enc' : Int → List SV}
    (henc : ∀ x, enc' x = [.int k x]) (ht : P.underlying t = some (.slice e)) (he : P.underlying e = some (.int k)) (hc : P.cellsOf e = 1)
    (hf : DataW.trod enc P W 0 (fun _ => true) true fuel t [.slice a0 len cap] = some x) :
    ∃ bs : List Int, bs.length = len ∧ (∀ z ∈ bs, (Lit.int k z).wf = true) ∧ has W (.sl a0 cap) (.roL 1 enc' bs 0) [] := by
  rcases open_ints ht he hc hf with ⟨hcs, _⟩ | ⟨a, len', cap', zs, hcs, _, hl, hm, hz, _, hcell, hwz⟩
  · simp only [List.cons.injEq, Value.slice.injEq, and_true] at hcs
    obtain ⟨rfl, rfl, rfl⟩ := hcs
    exact ⟨[], rfl, (fun z hz => by cases hz), rfl, fun x => by rw [henc]; rfl, by simp, .inl rfl⟩
  · simp at hcs
    obtain ⟨rfl, rfl, rfl⟩ := hcs
    simp only [if_true] at hz
    exact ⟨zs.take len, by simp; omega, fun z hz => hwz z (List.mem_of_mem_take hz), ro_ints (k := k) (len := len) henc hl hz hcell⟩

/-- A slice whose cells are known, to be read. -/
theorem ro_gen {W : World} {α : Type} {a : Addr} {len cap : Nat} {zs : List α} {enc : α → List SV} {sv : α → SV} {d : α} (henc : ∀ x, enc x = [sv x]) (hl : len ≤ cap) (hz : zs.length = cap) (hcell : ∀ i, i < zs.length → W.cell? (a.add i) = some (den (sv (zs.getD i d)))) :
    has W (.sl (some a) cap) (.roL 1 enc (zs.take len) d) [] := by
  by_cases h0 : len = 0
  · subst h0
    exact ⟨rfl, (fun x => by rw [henc]; rfl), by simp, .inl (by simp)⟩
  · obtain ⟨b, off, spot⟩ := a
    have hspot : spot = none := by simpa [Addr.add] using World.cell?_spot (hcell 0 (by omega))
    subst hspot
    have hc : ∀ j, j < zs.length → W.cell? ⟨b, off + j, none⟩ = some (den (sv (zs.getD j d))) := fun j hj => by rw [← Go.WideShapes.add_plain]; exact hcell j hj
    have hc0 := hc 0 (by omega)
    have hc1 : ∃ cur T fr, W.heap[b]? = some (.cells cur T fr) := by
      simp only [World.cell?] at hc0
      split at hc0
      · rename_i cur T fr hh; exact ⟨_, _, _, hh⟩
      · cases hc0
    obtain ⟨cur, T, fr, hb⟩ := hc1
    refine ⟨rfl, (fun x => by rw [henc]; rfl), by simp; omega, .inr ⟨b, off, cur, T, fr, rfl, hb, ?_⟩⟩
    have hfl : ∀ l : List α, flatV enc l = l.map fun x => den (sv x) := by
      intro l
      induction l with
      | nil => rfl
      | cons x l ih =>
        have : flatV enc (x :: l) = denL (enc x) ++ flatV enc l := by simp [flatV]
        rw [this, ih, henc]; rfl
    rw [hfl, List.map_take]
    have hlt : (zs.take len).length = len := by simp; omega
    rw [hlt, Nat.mul_one]
    apply List.ext_getElem?
    intro j
    simp only [List.getElem?_take, List.getElem?_drop, List.getElem?_map]
    split
    · rename_i hj
      have h1 := hc j (by omega)
      simp only [World.cell?, hb] at h1
      have h2 : cur.toList[off + j]? = cur[off + j]? := by simp
      simp at h1
      rw [h2, h1]
      have : j < zs.length := by omega
      simp [this]
    · rfl

/-- An argument that is a slice of truth values. -/
theorem arg_bools {P : Program} {H : Type} {enc : TypeId × Value → H} {t e : TypeId} {fuel : Nat} {W : World} {a0 : Option Addr} {len cap : Nat} {x : DataW H × List MemPlace} {enc' : Bool → List SV}
    (henc : ∀ x, enc' x = [.bool x]) (ht : P.underlying t = some (.slice e)) (he : P.underlying e = some .bool) (hc : P.cellsOf e = 1)
    (hf : DataW.trod enc P W 0 (fun _ => true) true fuel t [.slice a0 len cap] = some x) :
    ∃ bs : List Bool, bs.length = len ∧ has W (.sl a0 cap) (.roL 1 enc' bs false) [] := by
  rcases Go.Deep.open_bools ht he hc hf with ⟨hcs, _⟩ | ⟨a, len', cap', B, hcs, _, hl, hm, _, hcell⟩
  · simp only [List.cons.injEq, Value.slice.injEq, and_true] at hcs
    obtain ⟨rfl, rfl, rfl⟩ := hcs
    exact ⟨[], rfl, rfl, fun x => by rw [henc]; rfl, by simp, .inl rfl⟩
  · simp at hcs
    obtain ⟨rfl, rfl, rfl⟩ := hcs
    have hlen : ((List.range cap).map B).length = cap := by simp
    refine ⟨((List.range cap).map B).take len, by simp; omega, ro_gen (sv := SV.bool) henc hl hlen fun i hi => ?_⟩
    rw [hlen] at hi
    rw [hcell i hi]
    simp [List.getD, hi, den]

/-- An argument that is a slice of texts. -/
theorem arg_strs {P : Program} {H : Type} {enc : TypeId × Value → H} {t e : TypeId} {fuel : Nat} {W : World} {a0 : Option Addr} {len cap : Nat} {x : DataW H × List MemPlace} {enc' : ByteArray → List SV}
    (henc : ∀ x, enc' x = [.str x]) (ht : P.underlying t = some (.slice e)) (he : P.underlying e = some .string) (hc : P.cellsOf e = 1)
    (hf : DataW.trod enc P W 0 (fun _ => true) true fuel t [.slice a0 len cap] = some x) :
    ∃ bs : List ByteArray, bs.length = len ∧ (∀ s ∈ bs, s.size ≤ maxLen) ∧ has W (.sl a0 cap) (.roL 1 enc' bs .empty) [] := by
  rcases Go.Deep.open_strs ht he hc hf with ⟨hcs, _⟩ | ⟨a, len', cap', m, S, hcs, _, hl, hm, hmm, _, hcell⟩
  · simp only [List.cons.injEq, Value.slice.injEq, and_true] at hcs
    obtain ⟨rfl, rfl, rfl⟩ := hcs
    exact ⟨[], rfl, (fun s hs => by cases hs), rfl, fun x => by rw [henc]; rfl, by simp, .inl rfl⟩
  · simp at hcs
    obtain ⟨rfl, rfl, rfl⟩ := hcs
    simp only [if_true] at hmm
    subst hmm
    have hlen : ((List.range m).map S).length = m := by simp
    refine ⟨((List.range m).map S).take len, by simp; omega, fun s hs => ?_, ro_gen (sv := SV.str) henc hl hlen fun i hi => ?_⟩
    · obtain ⟨i, hi, rfl⟩ := List.mem_map.1 (List.mem_of_mem_take hs)
      exact (hcell i (List.mem_range.1 hi)).2
    · rw [hlen] at hi
      rw [(hcell i hi).1]
      simp [List.getD, hi, den]

theorem calls_ints {P : Program} {H : Type} {enc : TypeId × Value → H} {f : FuncId} {t e : TypeId} {k : IntKind} {fuel : Nat} {W : World} {a0 : Option Addr} {len cap : Nat} {x : DataW H × List MemPlace} {v : SV} {enc' : Int → List SV}
    (henc : ∀ x, enc' x = [.int k x]) (ht : P.underlying t = some (.slice e)) (he : P.underlying e = some (.int k)) (hc : P.cellsOf e = 1)
    (hf : DataW.trod enc P W 0 (fun _ => true) true fuel t [.slice a0 len cap] = some x)
    (h : ∀ (ao : Option Addr) (bs : List Int) (cap : Nat), (∀ z ∈ bs, (Lit.int k z).wf = true) → Spec P f [⟨.sl ao cap, .roL 1 enc' bs 0⟩] [.vec 0 ao bs.length cap] fun _ r => r = v) :
    Calls P f #[.slice a0 len cap] W fun e W' => e = .returned (den v) ∧ Below W.heap.size W W' := by
  obtain ⟨bs, rfl, hw, hh⟩ := arg_ints henc ht he hc hf
  have h4 := Spec.rowR (W := W) (hs := [⟨.sl a0 cap, .roL 1 enc' bs 0⟩]) (fun e he => by rcases List.mem_singleton.1 he with rfl; exact hh) (h a0 bs cap hw)
  exact h4
end Go.Proofs.Ytkcmgcoppecfpaa

