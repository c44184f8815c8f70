import Derived.Test.YtjnkfgigpapeaaaMgQueuePlays10
import Derived.Test.YtjnkfgigpapeaaaMgQueuePlays5
set_option linter.unusedVariables false
set_option linter.unusedSimpArgs false
set_option linter.unnecessarySimpa false
set_option maxHeartbeats 0
set_option maxRecDepth 100000
/- queue.Queue[int]: its pile's methods. -/
namespace Go.Proofs.Ytjnkfgigpapeaaa
open Go Go.RowKit
theorem hmQI : Try.prog.follows .mixedOrders = true := by kernel_rfl
def RI (f : FuncId) (bef : Int → Int → Bool) : Prop := (f = 77 ∧ bef = fun a b : Int => decide (a < b)) ∨ (f = 41 ∧ bef = fun a b : Int => decide (a < b)) ∨ (f = 42 ∧ bef = fun a b : Int => decide (a > b)) ∨ (f = 53 ∧ bef = fun a b : Int => decide (a < b))
theorem qIless0_ok (b cap : Nat) (ao : Option Addr) (rest : List SV) (T : TypeId) (xs : List (Int × Int)) (i j : Int) (h1 : 0 ≤ i) (h2 : i < xs.length) (h3 : 0 ≤ j) (h4 : j < xs.length) :
    Spec Try.prog 135 (qhG 149 2 encItI ((0 : Int), (0 : Int)) b ao cap 77 rest T xs) [.ptr 0 b 0, .int .i64 i, .int .i64 j] fun h' r => PreE (qhG 149 2 encItI ((0 : Int), (0 : Int)) b ao cap 77 rest T xs) h' ∧ r = .bool (lessI (fun a b : Int => decide (a < b)) (xs.getD i.toNat ((0 : Int), (0 : Int))) (xs.getD j.toNat ((0 : Int), (0 : Int)))) := by
  refine Spec.of_G 51 Try.func135 (c := bodyOf Try.f135) (by kernel_rfl) (by kernel_rfl) (Nat.le_of_ble_eq_true rfl) fun W F => ?_
  refine G_run (Cs := [(77, inl Try.prog [] true Try.f77 100)]) (kc := true) (ss := []) ⟨inl_ok trivial hmQI Try.func77 (by kernel_rfl), trivial⟩ hmQI 900 ?_
  rw [qIless0]
  repeat' first
    | exact rfl
    | exact trivial
    | assumption
    | apply And.intro
    | intro _
    | (refine ⟨[(_, _)], rfl, rfl, ?_⟩)
    | (refine ⟨[_], rfl, rfl, ?_⟩)
    | (split <;> rename_i hh <;> try simp only [Bool.not_eq_true', Bool.not_eq_false', Bool.not_true, Bool.not_false, beq_iff_eq, beq_eq_false_iff_ne, decide_eq_true_eq, decide_eq_false_iff_not, Bool.true_eq, Bool.false_eq, Bool.not_eq_true, Bool.not_eq_false, bne_iff_ne, bne_eq_false_iff_eq, ne_eq, Decidable.not_not] at hh)
    | decide
    | omega
    | (exfalso; omega)
    | exact absurd trivial hh
    | exact ⟨_, rfl⟩
    | (simp_all [lessI]; done)
    | (unfold lessI; simp only [*, decide_false, decide_true, Bool.false_or, Bool.true_or, Bool.not_false, Bool.not_true, Bool.true_and, Bool.false_and, Bool.or_false]; done)
    | fail
theorem qIless1_ok (b cap : Nat) (ao : Option Addr) (rest : List SV) (T : TypeId) (xs : List (Int × Int)) (i j : Int) (h1 : 0 ≤ i) (h2 : i < xs.length) (h3 : 0 ≤ j) (h4 : j < xs.length) :
    Spec Try.prog 135 (qhG 149 2 encItI ((0 : Int), (0 : Int)) b ao cap 41 rest T xs) [.ptr 0 b 0, .int .i64 i, .int .i64 j] fun h' r => PreE (qhG 149 2 encItI ((0 : Int), (0 : Int)) b ao cap 41 rest T xs) h' ∧ r = .bool (lessI (fun a b : Int => decide (a < b)) (xs.getD i.toNat ((0 : Int), (0 : Int))) (xs.getD j.toNat ((0 : Int), (0 : Int)))) := by
  refine Spec.of_G 51 Try.func135 (c := bodyOf Try.f135) (by kernel_rfl) (by kernel_rfl) (Nat.le_of_ble_eq_true rfl) fun W F => ?_
  refine G_run (Cs := [(41, inl Try.prog [] true Try.f41 100)]) (kc := true) (ss := []) ⟨inl_ok trivial hmQI Try.func41 (by kernel_rfl), trivial⟩ hmQI 900 ?_
  rw [qIless1]
  repeat' first
    | exact rfl
    | exact trivial
    | assumption
    | apply And.intro
    | intro _
    | (refine ⟨[(_, _)], rfl, rfl, ?_⟩)
    | (refine ⟨[_], rfl, rfl, ?_⟩)
    | (split <;> rename_i hh <;> try simp only [Bool.not_eq_true', Bool.not_eq_false', Bool.not_true, Bool.not_false, beq_iff_eq, beq_eq_false_iff_ne, decide_eq_true_eq, decide_eq_false_iff_not, Bool.true_eq, Bool.false_eq, Bool.not_eq_true, Bool.not_eq_false, bne_iff_ne, bne_eq_false_iff_eq, ne_eq, Decidable.not_not] at hh)
    | decide
    | omega
    | (exfalso; omega)
    | exact absurd trivial hh
    | exact ⟨_, rfl⟩
    | (simp_all [lessI]; done)
    | (unfold lessI; simp only [*, decide_false, decide_true, Bool.false_or, Bool.true_or, Bool.not_false, Bool.not_true, Bool.true_and, Bool.false_and, Bool.or_false]; done)
    | fail
theorem qIless2_ok (b cap : Nat) (ao : Option Addr) (rest : List SV) (T : TypeId) (xs : List (Int × Int)) (i j : Int) (h1 : 0 ≤ i) (h2 : i < xs.length) (h3 : 0 ≤ j) (h4 : j < xs.length) :
    Spec Try.prog 135 (qhG 149 2 encItI ((0 : Int), (0 : Int)) b ao cap 42 rest T xs) [.ptr 0 b 0, .int .i64 i, .int .i64 j] fun h' r => PreE (qhG 149 2 encItI ((0 : Int), (0 : Int)) b ao cap 42 rest T xs) h' ∧ r = .bool (lessI (fun a b : Int => decide (a > b)) (xs.getD i.toNat ((0 : Int), (0 : Int))) (xs.getD j.toNat ((0 : Int), (0 : Int)))) := by
  refine Spec.of_G 51 Try.func135 (c := bodyOf Try.f135) (by kernel_rfl) (by kernel_rfl) (Nat.le_of_ble_eq_true rfl) fun W F => ?_
  refine G_run (Cs := [(42, inl Try.prog [] true Try.f42 100)]) (kc := true) (ss := []) ⟨inl_ok trivial hmQI Try.func42 (by kernel_rfl), trivial⟩ hmQI 900 ?_
  rw [qIless2]
  repeat' first
    | exact rfl
    | exact trivial
    | assumption
    | apply And.intro
    | intro _
    | (refine ⟨[(_, _)], rfl, rfl, ?_⟩)
    | (refine ⟨[_], rfl, rfl, ?_⟩)
    | (split <;> rename_i hh <;> try simp only [Bool.not_eq_true', Bool.not_eq_false', Bool.not_true, Bool.not_false, beq_iff_eq, beq_eq_false_iff_ne, decide_eq_true_eq, decide_eq_false_iff_not, Bool.true_eq, Bool.false_eq, Bool.not_eq_true, Bool.not_eq_false, bne_iff_ne, bne_eq_false_iff_eq, ne_eq, Decidable.not_not] at hh)
    | decide
    | omega
    | (exfalso; omega)
    | exact absurd trivial hh
    | exact ⟨_, rfl⟩
    | (simp_all [lessI]; done)
    | (unfold lessI; simp only [*, decide_false, decide_true, Bool.false_or, Bool.true_or, Bool.not_false, Bool.not_true, Bool.true_and, Bool.false_and, Bool.or_false]; done)
    | fail
theorem qIless3_ok (b cap : Nat) (ao : Option Addr) (rest : List SV) (T : TypeId) (xs : List (Int × Int)) (i j : Int) (h1 : 0 ≤ i) (h2 : i < xs.length) (h3 : 0 ≤ j) (h4 : j < xs.length) :
    Spec Try.prog 135 (qhG 149 2 encItI ((0 : Int), (0 : Int)) b ao cap 53 rest T xs) [.ptr 0 b 0, .int .i64 i, .int .i64 j] fun h' r => PreE (qhG 149 2 encItI ((0 : Int), (0 : Int)) b ao cap 53 rest T xs) h' ∧ r = .bool (lessI (fun a b : Int => decide (a < b)) (xs.getD i.toNat ((0 : Int), (0 : Int))) (xs.getD j.toNat ((0 : Int), (0 : Int)))) := by
  refine Spec.of_G 51 Try.func135 (c := bodyOf Try.f135) (by kernel_rfl) (by kernel_rfl) (Nat.le_of_ble_eq_true rfl) fun W F => ?_
  refine G_run (Cs := [(53, inl Try.prog [] true Try.f53 100)]) (kc := true) (ss := []) ⟨inl_ok trivial hmQI Try.func53 (by kernel_rfl), trivial⟩ hmQI 900 ?_
  rw [qIless3]
  repeat' first
    | exact rfl
    | exact trivial
    | assumption
    | apply And.intro
    | intro _
    | (refine ⟨[(_, _)], rfl, rfl, ?_⟩)
    | (refine ⟨[_], rfl, rfl, ?_⟩)
    | (split <;> rename_i hh <;> try simp only [Bool.not_eq_true', Bool.not_eq_false', Bool.not_true, Bool.not_false, beq_iff_eq, beq_eq_false_iff_ne, decide_eq_true_eq, decide_eq_false_iff_not, Bool.true_eq, Bool.false_eq, Bool.not_eq_true, Bool.not_eq_false, bne_iff_ne, bne_eq_false_iff_eq, ne_eq, Decidable.not_not] at hh)
    | decide
    | omega
    | (exfalso; omega)
    | exact absurd trivial hh
    | exact ⟨_, rfl⟩
    | (simp_all [lessI]; done)
    | (unfold lessI; simp only [*, decide_false, decide_true, Bool.false_or, Bool.true_or, Bool.not_false, Bool.not_true, Bool.true_and, Bool.false_and, Bool.or_false]; done)
    | fail

theorem qIless_ok : CtrOk Try.prog 135 (lessC 149 2 encItI ((0 : Int), (0 : Int)) RI) := by
  intro args hs N h
  unfold lessC at h
  split at h
  · rename_i l b k i k' j
    unfold onPile at h
    split at h
    · rename_i b' l2 ao n cap f rest T hl
      split at h
      · rename_i e hl2
        obtain ⟨xs, ⟨rfl, rfl, rfl, hne⟩, ⟨rfl, rfl, g1, g2, g3, g4⟩, bef, hR, hN⟩ := h
        have fin : ∀ bef' : Int → Int → Bool, bef = bef' → Spec Try.prog 135 (qhG 149 2 encItI ((0 : Int), (0 : Int)) b' ao cap f rest T xs) [.ptr 0 b' 0, .int .i64 i, .int .i64 j] (fun h' r => PreE (qhG 149 2 encItI ((0 : Int), (0 : Int)) b' ao cap f rest T xs) h' ∧ r = .bool (lessI bef' (xs.getD i.toNat ((0 : Int), (0 : Int))) (xs.getD j.toNat ((0 : Int), (0 : Int))))) → Spec Try.prog 135 hs [.ptr l b' 0, .int .i64 i, .int .i64 j] N := by
          intro bef' hb hsp
          subst hb
          refine Spec.pile 149 2 encItI ((0 : Int), (0 : Int)) hl hl2 hne (args' := [.ptr 0 b' 0, .int .i64 i, .int .i64 j]) (by rfl) (fun _ _ => hsp) ?_
          rintro h' r ⟨hp, rfl⟩
          refine ⟨xs, ao, cap, rest, _, fun W F w hr => hr.pre hp, rfl, ?_⟩
          rw [setPile_same 149 2 encItI ((0 : Int), (0 : Int)) hl hl2]
          exact hN
        rcases hR with ⟨rfl, hb⟩ | ⟨rfl, hb⟩ | ⟨rfl, hb⟩ | ⟨rfl, hb⟩
        · exact fin _ hb (qIless0_ok b' cap ao rest T xs i j g1 g2 g3 g4)
        · exact fin _ hb (qIless1_ok b' cap ao rest T xs i j g1 g2 g3 g4)
        · exact fin _ hb (qIless2_ok b' cap ao rest T xs i j g1 g2 g3 g4)
        · exact fin _ hb (qIless3_ok b' cap ao rest T xs i j g1 g2 g3 g4)
      · exact h.elim
    · exact h.elim
  · exact h.elim

theorem qIswap_ok : CtrOk Try.prog 138 (swapC 149 2 encItI ((0 : Int), (0 : Int))) := by
  intro args hs N h
  unfold swapC at h
  split at h
  · rename_i l b k i k' j
    unfold onPile at h
    split at h
    · rename_i b' l2 ao n cap f rest T hl
      split at h
      · rename_i e hl2
        obtain ⟨xs, ⟨rfl, rfl, rfl, hne⟩, ⟨rfl, rfl, g1, g2, g3, g4⟩, hN⟩ := h
        refine Spec.pile 149 2 encItI ((0 : Int), (0 : Int)) hl hl2 hne (args' := [.ptr 0 b' 0, .int .i64 i, .int .i64 j]) (Post' := fun h' r => h' = qhG 149 2 encItI ((0 : Int), (0 : Int)) b' ao cap f rest T (swapL ((0 : Int), (0 : Int)) xs i.toNat j.toNat) ∧ r = .tuple []) (by rfl) (fun _ _ => ?_) ?_
        · refine Spec.of_G 32 Try.func138 (c := bodyOf Try.f138) (by kernel_rfl) (by kernel_rfl) (Nat.le_of_ble_eq_true rfl) fun W F => ?_
          refine G_run (Cs := []) (kc := false) (ss := []) trivial hmQI 900 ?_
          rw [qIswap]
          repeat' first
            | (refine ⟨xs.getD j.toNat ((0 : Int), (0 : Int)), rfl, ?_⟩)
            | (refine ⟨xs.getD i.toNat ((0 : Int), (0 : Int)), rfl, ?_⟩)
            | exact rfl
            | assumption
            | apply And.intro
            | (rw [List.length_set]; omega)
            | (rw [List.length_set])
            | omega
            | (unfold qhG; rw [length_swapL]; rfl)
            | fail
        · rintro h' r ⟨rfl, rfl⟩
          exact ⟨_, ao, cap, rest, _, fun W F w hr => hr, rfl, hN⟩
      · exact h.elim
    · exact h.elim
  · exact h.elim

theorem qIppush_ok : CtrOk Try.prog 137 (ppushC 149 2 encItI ((0 : Int), (0 : Int)) 16) := by
  intro args hs N h
  unfold ppushC at h
  split at h
  · rename_i l b t cs
    unfold onPile at h
    split at h
    · rename_i b' l2 ao n cap f rest T hl
      split at h
      · rename_i e hl2
        obtain ⟨xs, ⟨rfl, rfl, rfl, hne⟩, x, ⟨rfl, rfl, g1, g2⟩, hN⟩ := h
        refine Spec.pile 149 2 encItI ((0 : Int), (0 : Int)) hl hl2 hne (args' := [.ptr 0 b' 0, .iface 149 (.agg (encItI x))]) (Post' := fun h' r => ∃ ao2 cap2, PreE (qhG 149 2 encItI ((0 : Int), (0 : Int)) b' ao2 cap2 f rest T (xs ++ [x])) h' ∧ r = .tuple []) (by rfl) (fun _ _ => ?_) ?_
        · refine Spec.of_G 15 Try.func137 (c := bodyOf Try.f137) (by kernel_rfl) (by kernel_rfl) (Nat.le_of_ble_eq_true rfl) fun W F => ?_
          refine G_run (Cs := []) (kc := false) (ss := []) trivial hmQI 900 ?_
          rw [qIppush]
          repeat' first
            | (refine ⟨[x], rfl, rfl, ?_⟩)
            | exact rfl
            | exact trivial
            | assumption
            | (refine ⟨_, _, ⟨?_, rfl, trivial⟩, rfl⟩; rw [List.length_append]; rfl)
            | apply And.intro
            | intro _
            | decide
            | omega
            | fail
        · rintro h' r ⟨ao2, cap2, hp, rfl⟩
          exact ⟨_, ao2, cap2, rest, _, fun W F w hr => hr.pre hp, rfl, hN ao2 cap2⟩
      · exact h.elim
    · exact h.elim
  · exact h.elim

theorem qIppop_ok : CtrOk Try.prog 136 (ppopC 149 2 encItI ((0 : Int), (0 : Int))) := by
  intro args hs N h
  unfold ppopC at h
  split at h
  · rename_i l b
    unfold onPile at h
    split at h
    · rename_i b' l2 ao n cap f rest T hl
      split at h
      · rename_i e hl2
        obtain ⟨xs, ⟨rfl, rfl, rfl, hne⟩, ⟨g1, g2⟩, hN⟩ := h
        have hw : IntKind.wrap .i64 ((xs.length : Int) - 1) = ((xs.length - 1 : Nat) : Int) := by rw [IntWalk.i64_in _ (by omega)]; omega
        refine Spec.pile 149 2 encItI ((0 : Int), (0 : Int)) hl hl2 hne (args' := [.ptr 0 b' 0]) (Post' := fun h' r => (∃ c, h' = [⟨.blk b', .cells (.sub 1 ao cap 2 0 (xs.length - 1) :: .func (.func f) [] [] :: rest) T⟩, ⟨.sl ao cap, .vecL 149 2 encItI xs ((0 : Int), (0 : Int))⟩, c]) ∧ r = .iface 149 (.agg (encItI (xs.getD (xs.length - 1) ((0 : Int), (0 : Int)))))) (by rfl) (fun hc ha => ?_) ?_
        · refine Spec.of_G 29 Try.func136 (c := bodyOf Try.f136) (by kernel_rfl) (by kernel_rfl) (Nat.le_of_ble_eq_true rfl) fun W F => ?_
          refine G_run (Cs := []) (kc := false) (ss := []) trivial hmQI 900 ?_
          rw [qIppop]
          rw [hw]
          simp only [Int.toNat_natCast]
          repeat' first
            | exact ⟨_, rfl⟩
            | exact rfl
            | exact trivial
            | assumption
            | apply And.intro
            | intro _
            | decide
            | omega
            | fail
        · rintro h' r ⟨⟨c, rfl⟩, rfl⟩
          have hlt : (xs.take (xs.length - 1)).length = xs.length - 1 := by simp
          refine ⟨xs.take (xs.length - 1), ao, cap, rest, _, fun W F w hr => ?_, rfl, hN⟩
          have hao := (hr.vec (l := 1) rfl).2.2.1 g1
          have a1 := Rep.trim (l := 1) (k := xs.length - 1) rfl (by omega) hr
          have a2 := Rep.cellsEq (l := 0) (cs' := .vec 1 ao (xs.take (xs.length - 1)).length cap :: .func (.func f) [] [] :: rest) rfl (by rw [hlt]; simp only [denL]; rw [den_trim 1 cap 2 (xs.length - 1) hao]) a1
          exact a2.front ⟨rfl, rfl, trivial⟩
      · exact h.elim
    · exact h.elim
  · exact h.elim
end Go.Proofs.Ytjnkfgigpapeaaa

/- queue.Queue[int]: the tables. -/
namespace Go.Proofs.Ytjnkfgigpapeaaa
open Go Go.RowKit
def qTI1 : Tbl := [(135, lessC 149 2 encItI ((0 : Int), (0 : Int)) RI), (138, swapC 149 2 encItI ((0 : Int), (0 : Int))), (137, ppushC 149 2 encItI ((0 : Int), (0 : Int)) 16), (136, ppopC 149 2 encItI ((0 : Int), (0 : Int))), (104, inl Try.prog [] true Try.f104 100)]
theorem qTI1_ok : AllOk Try.prog qTI1 := ⟨qIless_ok, qIswap_ok, qIppush_ok, qIppop_ok, inl_ok trivial hmQI Try.func104 (by kernel_rfl), trivial⟩
def qTI2 : Tbl := (99, upC 149 2 encItI ((0 : Int), (0 : Int)) 147 RI) :: (100, downC 149 2 encItI ((0 : Int), (0 : Int)) 147 RI) :: qTI1
end Go.Proofs.Ytjnkfgigpapeaaa

namespace Go.Proofs.Ytjnkfgigpapeaaa
open Go Go.RowKit

theorem qIup_start (K : List Frm → Sy → Prop) (N : List Ent → SV → Prop) (J : Act → World → Prop) (u : Nat → Value) (b cap : Nat) (ao : Option Addr) (rest : List SV) (T : TypeId) (xs : List (Int × Int)) (f : FuncId) (j : Int) : (run Try.prog qTI1 false [] K (retP Try.prog Try.f99.results.toList N) 900 [.code (bodyOf Try.f99)] ⟨padTo 23 [(.iface 147 (.ptr 0 b 0)), .int .i64 j], qhG 149 2 encItI ((0 : Int), (0 : Int)) b ao cap f rest T xs⟩) = (
K (frm [] (bodyOf Try.f99) [0] [])
 (Sy.mk (SV.iface (147 : TypeId) (SV.ptr 0 b 0) :: (SV.int IntKind.i64 j :: (rawE [] 21)))
  [Ent.mk (Loc.blk b) (SObj.cells (SV.vec 1 ao (List.length xs) cap :: SV.func (Fn.func f) [] [] :: rest) T),
   Ent.mk (Loc.sl ao cap) (SObj.vecL (149 : TypeId) 2 encItI xs ((0 : Int), (0 : Int)))])) := by kernel_rfl


theorem qIup_body (K : List Frm → Sy → Prop) (N : List Ent → SV → Prop) (J : Act → World → Prop) (u : Nat → Value) (b cap : Nat) (ao : Option Addr) (rest : List SV) (T : TypeId) (xs : List (Int × Int)) (f : FuncId) (j : Int) : (run Try.prog qTI1 false [] K (retP Try.prog Try.f99.results.toList N) 900 (frm [J] (bodyOf Try.f99) [0, 0] []) ⟨mkT u 23 0 [(0, (.iface 147 (.ptr 0 b 0))), (1, .int .i64 j)], qhG 149 2 encItI ((0 : Int), (0 : Int)) b ao cap f rest T xs⟩) = (
(2 : Int) ≠ (0 : Int) ∧
 match IntKind.wrap IntKind.i64 (Int.tdiv (IntKind.wrap IntKind.i64 (j - (1 : Int))) (2 : Int)) == j with
 | true =>
  N
   [Ent.mk (Loc.blk b) (SObj.cells (SV.vec 1 ao (List.length xs) cap :: SV.func (Fn.func f) [] [] :: rest) T),
    Ent.mk (Loc.sl ao cap) (SObj.vecL (149 : TypeId) 2 encItI xs ((0 : Int), (0 : Int)))]
   (SV.tuple [])
 | false =>
  true = true ∧
   ∃ (xs_1 : List (Int × Int)),
    (Ent.mk (Loc.sl ao cap) (SObj.vecL (149 : TypeId) 2 encItI xs ((0 : Int), (0 : Int))) = Ent.mk (Loc.sl ao cap) (SObj.vecL (149 : TypeId) 2 encItI xs_1 ((0 : Int), (0 : Int))) ∧
     b = b ∧ List.length xs = List.length xs_1 ∧ false = false) ∧
     (IntKind.i64 = IntKind.i64 ∧
      IntKind.i64 = IntKind.i64 ∧
       (0 : Int) ≤ j ∧
        j < (↑(List.length xs_1) : Int) ∧
         (0 : Int) ≤ IntKind.wrap IntKind.i64 (Int.tdiv (IntKind.wrap IntKind.i64 (j - (1 : Int))) (2 : Int)) ∧
          IntKind.wrap IntKind.i64 (Int.tdiv (IntKind.wrap IntKind.i64 (j - (1 : Int))) (2 : Int)) < (↑(List.length xs_1) : Int)) ∧
      ∃ (bef : Int → Int → Bool),
       RI f bef ∧
        match
         !lessI bef (List.getD xs_1 (Int.toNat j) ((0 : Int), (0 : Int)))
          (List.getD xs_1 (Int.toNat (IntKind.wrap IntKind.i64 (Int.tdiv (IntKind.wrap IntKind.i64 (j - (1 : Int))) (2 : Int)))) ((0 : Int), (0 : Int))) with
        | true =>
         N
          [Ent.mk (Loc.blk b) (SObj.cells (SV.vec 1 ao (List.length xs) cap :: SV.func (Fn.func f) [] [] :: rest) T),
           Ent.mk (Loc.sl ao cap) (SObj.vecL (149 : TypeId) 2 encItI xs ((0 : Int), (0 : Int)))]
          (SV.tuple [])
        | false =>
         true = true ∧
          ∃ (xs_2 : List (Int × Int)),
           (Ent.mk (Loc.sl ao cap) (SObj.vecL (149 : TypeId) 2 encItI xs ((0 : Int), (0 : Int))) =
            Ent.mk (Loc.sl ao cap) (SObj.vecL (149 : TypeId) 2 encItI xs_2 ((0 : Int), (0 : Int))) ∧
            b = b ∧ List.length xs = List.length xs_2 ∧ false = false) ∧
            (IntKind.i64 = IntKind.i64 ∧
             IntKind.i64 = IntKind.i64 ∧
              (0 : Int) ≤ IntKind.wrap IntKind.i64 (Int.tdiv (IntKind.wrap IntKind.i64 (j - (1 : Int))) (2 : Int)) ∧
               IntKind.wrap IntKind.i64 (Int.tdiv (IntKind.wrap IntKind.i64 (j - (1 : Int))) (2 : Int)) < (↑(List.length xs_2) : Int) ∧
                (0 : Int) ≤ j ∧ j < (↑(List.length xs_2) : Int)) ∧
             K [Frm.loop J, Frm.blk 0]
              (Sy.mk (SV.iface (147 : TypeId) (SV.ptr 0 b 0) :: (SV.int IntKind.i64 (IntKind.wrap IntKind.i64 (Int.tdiv (IntKind.wrap IntKind.i64 (j - (1 : Int))) (2 : Int))) :: (SV.raw (u 2) :: (SV.raw (u 3) :: (SV.int IntKind.i64 (IntKind.wrap IntKind.i64 (Int.tdiv (IntKind.wrap IntKind.i64 (j - (1 : Int))) (2 : Int))) :: (SV.int IntKind.i64 j :: (SV.int IntKind.i64 (IntKind.wrap IntKind.i64 (j - (1 : Int))) :: (SV.int IntKind.i64 (IntKind.wrap IntKind.i64 (Int.tdiv (IntKind.wrap IntKind.i64 (j - (1 : Int))) (2 : Int))) :: (SV.int IntKind.i64 (IntKind.wrap IntKind.i64 (Int.tdiv (IntKind.wrap IntKind.i64 (j - (1 : Int))) (2 : Int))) :: (SV.int IntKind.i64 j :: ((SV.bool (IntKind.wrap IntKind.i64 (Int.tdiv (IntKind.wrap IntKind.i64 (j - (1 : Int))) (2 : Int)) == j)) :: (SV.bool false :: (SV.iface (147 : TypeId) (SV.ptr 0 b 0) :: (SV.int IntKind.i64 j :: (SV.int IntKind.i64 (IntKind.wrap IntKind.i64 (Int.tdiv (IntKind.wrap IntKind.i64 (j - (1 : Int))) (2 : Int))) :: (SV.bool (lessI bef (List.getD xs_1 (Int.toNat j) ((0 : Int), (0 : Int))) (List.getD xs_1 (Int.toNat (IntKind.wrap IntKind.i64 (Int.tdiv (IntKind.wrap IntKind.i64 (j - (1 : Int))) (2 : Int)))) ((0 : Int), (0 : Int)))) :: ((SV.bool !lessI bef (List.getD xs_1 (Int.toNat j) ((0 : Int), (0 : Int))) (List.getD xs_1 (Int.toNat (IntKind.wrap IntKind.i64 (Int.tdiv (IntKind.wrap IntKind.i64 (j - (1 : Int))) (2 : Int)))) ((0 : Int), (0 : Int)))) :: (SV.bool false :: (SV.iface (147 : TypeId) (SV.ptr 0 b 0) :: (SV.int IntKind.i64 (IntKind.wrap IntKind.i64 (Int.tdiv (IntKind.wrap IntKind.i64 (j - (1 : Int))) (2 : Int))) :: (SV.int IntKind.i64 j :: (SV.tuple [] :: (SV.int IntKind.i64 (IntKind.wrap IntKind.i64 (Int.tdiv (IntKind.wrap IntKind.i64 (j - (1 : Int))) (2 : Int))) :: [])))))))))))))))))))))))
               [Ent.mk (Loc.blk b)
                (SObj.cells
                 (SV.vec 1 ao
                  (List.length
                   (swapL ((0 : Int), (0 : Int)) xs_2 (Int.toNat (IntKind.wrap IntKind.i64 (Int.tdiv (IntKind.wrap IntKind.i64 (j - (1 : Int))) (2 : Int)))) (Int.toNat j)))
                  cap ::
                  SV.func (Fn.func f) [] [] :: rest)
                 T),
                Ent.mk (Loc.sl ao cap)
                 (SObj.vecL (149 : TypeId) 2 encItI
                  (swapL ((0 : Int), (0 : Int)) xs_2 (Int.toNat (IntKind.wrap IntKind.i64 (Int.tdiv (IntKind.wrap IntKind.i64 (j - (1 : Int))) (2 : Int)))) (Int.toNat j))
                  ((0 : Int), (0 : Int)))])) := by kernel_rfl


theorem qIdn_start (K : List Frm → Sy → Prop) (N : List Ent → SV → Prop) (J : Act → World → Prop) (u : Nat → Value) (b cap : Nat) (ao : Option Addr) (rest : List SV) (T : TypeId) (xs : List (Int × Int)) (f : FuncId) (i0 n : Int) : (run Try.prog qTI1 false [] K (retP Try.prog Try.f100.results.toList N) 900 [.code (bodyOf Try.f100)] ⟨padTo 48 [(.iface 147 (.ptr 0 b 0)), .int .i64 i0, .int .i64 n], qhG 149 2 encItI ((0 : Int), (0 : Int)) b ao cap f rest T xs⟩) = (
K (frm [] (bodyOf Try.f100) [1, 1, 0, 0] [])
 (Sy.mk (SV.iface (147 : TypeId) (SV.ptr 0 b 0) :: (SV.int IntKind.i64 i0 :: (SV.int IntKind.i64 n :: (rawE (SV.bool false :: (SV.int IntKind.i64 i0 :: (rawE (SV.int IntKind.i64 i0 :: (rawE [] 36)) 3))) 3))))
  [Ent.mk (Loc.blk b) (SObj.cells (SV.vec 1 ao (List.length xs) cap :: SV.func (Fn.func f) [] [] :: rest) T),
   Ent.mk (Loc.sl ao cap) (SObj.vecL (149 : TypeId) 2 encItI xs ((0 : Int), (0 : Int)))])) := by kernel_rfl


theorem qIdn_body (K : List Frm → Sy → Prop) (N : List Ent → SV → Prop) (J : Act → World → Prop) (u : Nat → Value) (b cap : Nat) (ao : Option Addr) (rest : List SV) (T : TypeId) (xs : List (Int × Int)) (f : FuncId) (i0 n i : Int) : (run Try.prog qTI1 false [] K (retP Try.prog Try.f100.results.toList N) 900 (frm [J] (bodyOf Try.f100) [1, 1, 0, 0, 0] []) ⟨mkT u 48 0 [(0, (.iface 147 (.ptr 0 b 0))), (1, .int .i64 i0), (2, .int .i64 n), (7, .int .i64 i)], qhG 149 2 encItI ((0 : Int), (0 : Int)) b ao cap f rest T xs⟩) = (
match decide (IntKind.wrap IntKind.i64 (IntKind.wrap IntKind.i64 ((2 : Int) * i) + (1 : Int)) ≥ n) with
| true =>
 N
  [Ent.mk (Loc.blk b) (SObj.cells (SV.vec 1 ao (List.length xs) cap :: SV.func (Fn.func f) [] [] :: rest) T),
   Ent.mk (Loc.sl ao cap) (SObj.vecL (149 : TypeId) 2 encItI xs ((0 : Int), (0 : Int)))]
  (SV.bool (decide (i > i0)))
| false =>
 match decide (IntKind.wrap IntKind.i64 (IntKind.wrap IntKind.i64 ((2 : Int) * i) + (1 : Int)) < (0 : Int)) with
 | true =>
  N
   [Ent.mk (Loc.blk b) (SObj.cells (SV.vec 1 ao (List.length xs) cap :: SV.func (Fn.func f) [] [] :: rest) T),
    Ent.mk (Loc.sl ao cap) (SObj.vecL (149 : TypeId) 2 encItI xs ((0 : Int), (0 : Int)))]
   (SV.bool (decide (i > i0)))
 | false =>
  match decide (IntKind.wrap IntKind.i64 (IntKind.wrap IntKind.i64 (IntKind.wrap IntKind.i64 ((2 : Int) * i) + (1 : Int)) + (1 : Int)) < n) with
  | true =>
   true = true ∧
    ∃ (xs_1 : List (Int × Int)),
     (Ent.mk (Loc.sl ao cap) (SObj.vecL (149 : TypeId) 2 encItI xs ((0 : Int), (0 : Int))) =
      Ent.mk (Loc.sl ao cap) (SObj.vecL (149 : TypeId) 2 encItI xs_1 ((0 : Int), (0 : Int))) ∧
      b = b ∧ List.length xs = List.length xs_1 ∧ false = false) ∧
      (IntKind.i64 = IntKind.i64 ∧
       IntKind.i64 = IntKind.i64 ∧
        (0 : Int) ≤ IntKind.wrap IntKind.i64 (IntKind.wrap IntKind.i64 (IntKind.wrap IntKind.i64 ((2 : Int) * i) + (1 : Int)) + (1 : Int)) ∧
         IntKind.wrap IntKind.i64 (IntKind.wrap IntKind.i64 (IntKind.wrap IntKind.i64 ((2 : Int) * i) + (1 : Int)) + (1 : Int)) < (↑(List.length xs_1) : Int) ∧
          (0 : Int) ≤ IntKind.wrap IntKind.i64 (IntKind.wrap IntKind.i64 ((2 : Int) * i) + (1 : Int)) ∧
           IntKind.wrap IntKind.i64 (IntKind.wrap IntKind.i64 ((2 : Int) * i) + (1 : Int)) < (↑(List.length xs_1) : Int)) ∧
       ∃ (bef : Int → Int → Bool),
        RI f bef ∧
         match
          lessI bef
           (List.getD xs_1 (Int.toNat (IntKind.wrap IntKind.i64 (IntKind.wrap IntKind.i64 (IntKind.wrap IntKind.i64 ((2 : Int) * i) + (1 : Int)) + (1 : Int)))) ((0 : Int), (0 : Int)))
           (List.getD xs_1 (Int.toNat (IntKind.wrap IntKind.i64 (IntKind.wrap IntKind.i64 ((2 : Int) * i) + (1 : Int)))) ((0 : Int), (0 : Int))) with
         | true =>
          true = true ∧
           ∃ (xs_2 : List (Int × Int)),
            (Ent.mk (Loc.sl ao cap) (SObj.vecL (149 : TypeId) 2 encItI xs ((0 : Int), (0 : Int))) =
             Ent.mk (Loc.sl ao cap) (SObj.vecL (149 : TypeId) 2 encItI xs_2 ((0 : Int), (0 : Int))) ∧
             b = b ∧ List.length xs = List.length xs_2 ∧ false = false) ∧
             (IntKind.i64 = IntKind.i64 ∧
              IntKind.i64 = IntKind.i64 ∧
               (0 : Int) ≤ IntKind.wrap IntKind.i64 (IntKind.wrap IntKind.i64 (IntKind.wrap IntKind.i64 ((2 : Int) * i) + (1 : Int)) + (1 : Int)) ∧
                IntKind.wrap IntKind.i64 (IntKind.wrap IntKind.i64 (IntKind.wrap IntKind.i64 ((2 : Int) * i) + (1 : Int)) + (1 : Int)) < (↑(List.length xs_2) : Int) ∧
                 (0 : Int) ≤ i ∧ i < (↑(List.length xs_2) : Int)) ∧
              ∃ (bef_1 : Int → Int → Bool),
               RI f bef_1 ∧
                match
                 !lessI bef_1
                  (List.getD xs_2 (Int.toNat (IntKind.wrap IntKind.i64 (IntKind.wrap IntKind.i64 (IntKind.wrap IntKind.i64 ((2 : Int) * i) + (1 : Int)) + (1 : Int))))
                   ((0 : Int), (0 : Int)))
                  (List.getD xs_2 (Int.toNat i) ((0 : Int), (0 : Int))) with
                | true =>
                 N
                  [Ent.mk (Loc.blk b) (SObj.cells (SV.vec 1 ao (List.length xs) cap :: SV.func (Fn.func f) [] [] :: rest) T),
                   Ent.mk (Loc.sl ao cap) (SObj.vecL (149 : TypeId) 2 encItI xs ((0 : Int), (0 : Int)))]
                  (SV.bool (decide (i > i0)))
                | false =>
                 true = true ∧
                  ∃ (xs_3 : List (Int × Int)),
                   (Ent.mk (Loc.sl ao cap) (SObj.vecL (149 : TypeId) 2 encItI xs ((0 : Int), (0 : Int))) =
                    Ent.mk (Loc.sl ao cap) (SObj.vecL (149 : TypeId) 2 encItI xs_3 ((0 : Int), (0 : Int))) ∧
                    b = b ∧ List.length xs = List.length xs_3 ∧ false = false) ∧
                    (IntKind.i64 = IntKind.i64 ∧
                     IntKind.i64 = IntKind.i64 ∧
                      (0 : Int) ≤ i ∧
                       i < (↑(List.length xs_3) : Int) ∧
                        (0 : Int) ≤ IntKind.wrap IntKind.i64 (IntKind.wrap IntKind.i64 (IntKind.wrap IntKind.i64 ((2 : Int) * i) + (1 : Int)) + (1 : Int)) ∧
                         IntKind.wrap IntKind.i64 (IntKind.wrap IntKind.i64 (IntKind.wrap IntKind.i64 ((2 : Int) * i) + (1 : Int)) + (1 : Int)) <
                          (↑(List.length xs_3) : Int)) ∧
                     K (Frm.loop J :: Frm.blk 0 :: frm [] (bodyOf Try.f100) [1, 1, 1] [])
                      (Sy.mk (SV.iface (147 : TypeId) (SV.ptr 0 b 0) :: (SV.int IntKind.i64 i0 :: (SV.int IntKind.i64 n :: (rawR u 3 (SV.int IntKind.i64 (IntKind.wrap IntKind.i64 (IntKind.wrap IntKind.i64 (IntKind.wrap IntKind.i64 ((2 : Int) * i) + (1 : Int)) + (1 : Int))) :: (SV.int IntKind.i64 (IntKind.wrap IntKind.i64 (IntKind.wrap IntKind.i64 ((2 : Int) * i) + (1 : Int))) :: (SV.int IntKind.i64 (IntKind.wrap IntKind.i64 (IntKind.wrap IntKind.i64 (IntKind.wrap IntKind.i64 ((2 : Int) * i) + (1 : Int)) + (1 : Int))) :: (SV.int IntKind.i64 (IntKind.wrap IntKind.i64 (IntKind.wrap IntKind.i64 (IntKind.wrap IntKind.i64 ((2 : Int) * i) + (1 : Int)) + (1 : Int))) :: (SV.raw (u 11) :: (SV.int IntKind.i64 i :: (SV.int IntKind.i64 (IntKind.wrap IntKind.i64 ((2 : Int) * i)) :: (SV.int IntKind.i64 (IntKind.wrap IntKind.i64 (IntKind.wrap IntKind.i64 ((2 : Int) * i) + (1 : Int))) :: (SV.int IntKind.i64 (IntKind.wrap IntKind.i64 (IntKind.wrap IntKind.i64 ((2 : Int) * i) + (1 : Int))) :: (SV.int IntKind.i64 n :: (SV.bool (decide (IntKind.wrap IntKind.i64 (IntKind.wrap IntKind.i64 ((2 : Int) * i) + (1 : Int)) ≥ n)) :: (SV.bool false :: (SV.int IntKind.i64 (IntKind.wrap IntKind.i64 (IntKind.wrap IntKind.i64 ((2 : Int) * i) + (1 : Int))) :: (SV.bool (decide (IntKind.wrap IntKind.i64 (IntKind.wrap IntKind.i64 ((2 : Int) * i) + (1 : Int)) < (0 : Int))) :: (SV.bool false :: (SV.int IntKind.i64 (IntKind.wrap IntKind.i64 (IntKind.wrap IntKind.i64 ((2 : Int) * i) + (1 : Int))) :: (SV.int IntKind.i64 (IntKind.wrap IntKind.i64 (IntKind.wrap IntKind.i64 ((2 : Int) * i) + (1 : Int))) :: (SV.int IntKind.i64 (IntKind.wrap IntKind.i64 (IntKind.wrap IntKind.i64 (IntKind.wrap IntKind.i64 ((2 : Int) * i) + (1 : Int)) + (1 : Int))) :: (SV.int IntKind.i64 (IntKind.wrap IntKind.i64 (IntKind.wrap IntKind.i64 (IntKind.wrap IntKind.i64 ((2 : Int) * i) + (1 : Int)) + (1 : Int))) :: (SV.int IntKind.i64 n :: (SV.bool (decide (IntKind.wrap IntKind.i64 (IntKind.wrap IntKind.i64 (IntKind.wrap IntKind.i64 ((2 : Int) * i) + (1 : Int)) + (1 : Int)) < n)) :: (SV.bool true :: (SV.iface (147 : TypeId) (SV.ptr 0 b 0) :: (SV.int IntKind.i64 (IntKind.wrap IntKind.i64 (IntKind.wrap IntKind.i64 (IntKind.wrap IntKind.i64 ((2 : Int) * i) + (1 : Int)) + (1 : Int))) :: (SV.int IntKind.i64 (IntKind.wrap IntKind.i64 (IntKind.wrap IntKind.i64 ((2 : Int) * i) + (1 : Int))) :: (SV.bool (lessI bef (List.getD xs_1 (Int.toNat (IntKind.wrap IntKind.i64 (IntKind.wrap IntKind.i64 (IntKind.wrap IntKind.i64 ((2 : Int) * i) + (1 : Int)) + (1 : Int)))) ((0 : Int), (0 : Int))) (List.getD xs_1 (Int.toNat (IntKind.wrap IntKind.i64 (IntKind.wrap IntKind.i64 ((2 : Int) * i) + (1 : Int)))) ((0 : Int), (0 : Int)))) :: (SV.bool true :: (SV.int IntKind.i64 (IntKind.wrap IntKind.i64 (IntKind.wrap IntKind.i64 (IntKind.wrap IntKind.i64 ((2 : Int) * i) + (1 : Int)) + (1 : Int))) :: (SV.iface (147 : TypeId) (SV.ptr 0 b 0) :: (SV.int IntKind.i64 (IntKind.wrap IntKind.i64 (IntKind.wrap IntKind.i64 (IntKind.wrap IntKind.i64 ((2 : Int) * i) + (1 : Int)) + (1 : Int))) :: (SV.int IntKind.i64 i :: (SV.bool (lessI bef_1 (List.getD xs_2 (Int.toNat (IntKind.wrap IntKind.i64 (IntKind.wrap IntKind.i64 (IntKind.wrap IntKind.i64 ((2 : Int) * i) + (1 : Int)) + (1 : Int)))) ((0 : Int), (0 : Int))) (List.getD xs_2 (Int.toNat i) ((0 : Int), (0 : Int)))) :: (SV.bool false :: (SV.iface (147 : TypeId) (SV.ptr 0 b 0) :: (SV.int IntKind.i64 i :: (SV.int IntKind.i64 (IntKind.wrap IntKind.i64 (IntKind.wrap IntKind.i64 (IntKind.wrap IntKind.i64 ((2 : Int) * i) + (1 : Int)) + (1 : Int))) :: (SV.tuple [] :: (SV.int IntKind.i64 (IntKind.wrap IntKind.i64 (IntKind.wrap IntKind.i64 (IntKind.wrap IntKind.i64 ((2 : Int) * i) + (1 : Int)) + (1 : Int))) :: (rawR u 45 [] 3))))))))))))))))))))))))))))))))))))))) 4))))
                       [Ent.mk (Loc.blk b)
                        (SObj.cells
                         (SV.vec 1 ao
                          (List.length
                           (swapL ((0 : Int), (0 : Int)) xs_3 (Int.toNat i)
                            (Int.toNat (IntKind.wrap IntKind.i64 (IntKind.wrap IntKind.i64 (IntKind.wrap IntKind.i64 ((2 : Int) * i) + (1 : Int)) + (1 : Int))))))
                          cap ::
                          SV.func (Fn.func f) [] [] :: rest)
                         T),
                        Ent.mk (Loc.sl ao cap)
                         (SObj.vecL (149 : TypeId) 2 encItI
                          (swapL ((0 : Int), (0 : Int)) xs_3 (Int.toNat i)
                           (Int.toNat (IntKind.wrap IntKind.i64 (IntKind.wrap IntKind.i64 (IntKind.wrap IntKind.i64 ((2 : Int) * i) + (1 : Int)) + (1 : Int)))))
                          ((0 : Int), (0 : Int)))])
         | false =>
          true = true ∧
           ∃ (xs_2 : List (Int × Int)),
            (Ent.mk (Loc.sl ao cap) (SObj.vecL (149 : TypeId) 2 encItI xs ((0 : Int), (0 : Int))) =
             Ent.mk (Loc.sl ao cap) (SObj.vecL (149 : TypeId) 2 encItI xs_2 ((0 : Int), (0 : Int))) ∧
             b = b ∧ List.length xs = List.length xs_2 ∧ false = false) ∧
             (IntKind.i64 = IntKind.i64 ∧
              IntKind.i64 = IntKind.i64 ∧
               (0 : Int) ≤ IntKind.wrap IntKind.i64 (IntKind.wrap IntKind.i64 ((2 : Int) * i) + (1 : Int)) ∧
                IntKind.wrap IntKind.i64 (IntKind.wrap IntKind.i64 ((2 : Int) * i) + (1 : Int)) < (↑(List.length xs_2) : Int) ∧ (0 : Int) ≤ i ∧ i < (↑(List.length xs_2) : Int)) ∧
              ∃ (bef_1 : Int → Int → Bool),
               RI f bef_1 ∧
                match
                 !lessI bef_1 (List.getD xs_2 (Int.toNat (IntKind.wrap IntKind.i64 (IntKind.wrap IntKind.i64 ((2 : Int) * i) + (1 : Int)))) ((0 : Int), (0 : Int)))
                  (List.getD xs_2 (Int.toNat i) ((0 : Int), (0 : Int))) with
                | true =>
                 N
                  [Ent.mk (Loc.blk b) (SObj.cells (SV.vec 1 ao (List.length xs) cap :: SV.func (Fn.func f) [] [] :: rest) T),
                   Ent.mk (Loc.sl ao cap) (SObj.vecL (149 : TypeId) 2 encItI xs ((0 : Int), (0 : Int)))]
                  (SV.bool (decide (i > i0)))
                | false =>
                 true = true ∧
                  ∃ (xs_3 : List (Int × Int)),
                   (Ent.mk (Loc.sl ao cap) (SObj.vecL (149 : TypeId) 2 encItI xs ((0 : Int), (0 : Int))) =
                    Ent.mk (Loc.sl ao cap) (SObj.vecL (149 : TypeId) 2 encItI xs_3 ((0 : Int), (0 : Int))) ∧
                    b = b ∧ List.length xs = List.length xs_3 ∧ false = false) ∧
                    (IntKind.i64 = IntKind.i64 ∧
                     IntKind.i64 = IntKind.i64 ∧
                      (0 : Int) ≤ i ∧
                       i < (↑(List.length xs_3) : Int) ∧
                        (0 : Int) ≤ IntKind.wrap IntKind.i64 (IntKind.wrap IntKind.i64 ((2 : Int) * i) + (1 : Int)) ∧
                         IntKind.wrap IntKind.i64 (IntKind.wrap IntKind.i64 ((2 : Int) * i) + (1 : Int)) < (↑(List.length xs_3) : Int)) ∧
                     K (Frm.loop J :: Frm.blk 0 :: frm [] (bodyOf Try.f100) [1, 1, 1] [])
                      (Sy.mk (SV.iface (147 : TypeId) (SV.ptr 0 b 0) :: (SV.int IntKind.i64 i0 :: (SV.int IntKind.i64 n :: (rawR u 3 (SV.int IntKind.i64 (IntKind.wrap IntKind.i64 (IntKind.wrap IntKind.i64 ((2 : Int) * i) + (1 : Int))) :: (SV.int IntKind.i64 (IntKind.wrap IntKind.i64 (IntKind.wrap IntKind.i64 ((2 : Int) * i) + (1 : Int))) :: (SV.int IntKind.i64 (IntKind.wrap IntKind.i64 (IntKind.wrap IntKind.i64 ((2 : Int) * i) + (1 : Int))) :: (SV.int IntKind.i64 (IntKind.wrap IntKind.i64 (IntKind.wrap IntKind.i64 (IntKind.wrap IntKind.i64 ((2 : Int) * i) + (1 : Int)) + (1 : Int))) :: (SV.raw (u 11) :: (SV.int IntKind.i64 i :: (SV.int IntKind.i64 (IntKind.wrap IntKind.i64 ((2 : Int) * i)) :: (SV.int IntKind.i64 (IntKind.wrap IntKind.i64 (IntKind.wrap IntKind.i64 ((2 : Int) * i) + (1 : Int))) :: (SV.int IntKind.i64 (IntKind.wrap IntKind.i64 (IntKind.wrap IntKind.i64 ((2 : Int) * i) + (1 : Int))) :: (SV.int IntKind.i64 n :: (SV.bool (decide (IntKind.wrap IntKind.i64 (IntKind.wrap IntKind.i64 ((2 : Int) * i) + (1 : Int)) ≥ n)) :: (SV.bool false :: (SV.int IntKind.i64 (IntKind.wrap IntKind.i64 (IntKind.wrap IntKind.i64 ((2 : Int) * i) + (1 : Int))) :: (SV.bool (decide (IntKind.wrap IntKind.i64 (IntKind.wrap IntKind.i64 ((2 : Int) * i) + (1 : Int)) < (0 : Int))) :: (SV.bool false :: (SV.int IntKind.i64 (IntKind.wrap IntKind.i64 (IntKind.wrap IntKind.i64 ((2 : Int) * i) + (1 : Int))) :: (SV.int IntKind.i64 (IntKind.wrap IntKind.i64 (IntKind.wrap IntKind.i64 ((2 : Int) * i) + (1 : Int))) :: (SV.int IntKind.i64 (IntKind.wrap IntKind.i64 (IntKind.wrap IntKind.i64 (IntKind.wrap IntKind.i64 ((2 : Int) * i) + (1 : Int)) + (1 : Int))) :: (SV.int IntKind.i64 (IntKind.wrap IntKind.i64 (IntKind.wrap IntKind.i64 (IntKind.wrap IntKind.i64 ((2 : Int) * i) + (1 : Int)) + (1 : Int))) :: (SV.int IntKind.i64 n :: (SV.bool (decide (IntKind.wrap IntKind.i64 (IntKind.wrap IntKind.i64 (IntKind.wrap IntKind.i64 ((2 : Int) * i) + (1 : Int)) + (1 : Int)) < n)) :: (SV.bool true :: (SV.iface (147 : TypeId) (SV.ptr 0 b 0) :: (SV.int IntKind.i64 (IntKind.wrap IntKind.i64 (IntKind.wrap IntKind.i64 (IntKind.wrap IntKind.i64 ((2 : Int) * i) + (1 : Int)) + (1 : Int))) :: (SV.int IntKind.i64 (IntKind.wrap IntKind.i64 (IntKind.wrap IntKind.i64 ((2 : Int) * i) + (1 : Int))) :: (SV.bool (lessI bef (List.getD xs_1 (Int.toNat (IntKind.wrap IntKind.i64 (IntKind.wrap IntKind.i64 (IntKind.wrap IntKind.i64 ((2 : Int) * i) + (1 : Int)) + (1 : Int)))) ((0 : Int), (0 : Int))) (List.getD xs_1 (Int.toNat (IntKind.wrap IntKind.i64 (IntKind.wrap IntKind.i64 ((2 : Int) * i) + (1 : Int)))) ((0 : Int), (0 : Int)))) :: (SV.bool false :: (SV.raw (u 34) :: (SV.iface (147 : TypeId) (SV.ptr 0 b 0) :: (SV.int IntKind.i64 (IntKind.wrap IntKind.i64 (IntKind.wrap IntKind.i64 ((2 : Int) * i) + (1 : Int))) :: (SV.int IntKind.i64 i :: (SV.bool (lessI bef_1 (List.getD xs_2 (Int.toNat (IntKind.wrap IntKind.i64 (IntKind.wrap IntKind.i64 ((2 : Int) * i) + (1 : Int)))) ((0 : Int), (0 : Int))) (List.getD xs_2 (Int.toNat i) ((0 : Int), (0 : Int)))) :: (SV.bool false :: (SV.iface (147 : TypeId) (SV.ptr 0 b 0) :: (SV.int IntKind.i64 i :: (SV.int IntKind.i64 (IntKind.wrap IntKind.i64 (IntKind.wrap IntKind.i64 ((2 : Int) * i) + (1 : Int))) :: (SV.tuple [] :: (SV.int IntKind.i64 (IntKind.wrap IntKind.i64 (IntKind.wrap IntKind.i64 ((2 : Int) * i) + (1 : Int))) :: (rawR u 45 [] 3))))))))))))))))))))))))))))))))))))))) 4))))
                       [Ent.mk (Loc.blk b)
                        (SObj.cells
                         (SV.vec 1 ao
                          (List.length
                           (swapL ((0 : Int), (0 : Int)) xs_3 (Int.toNat i)
                            (Int.toNat (IntKind.wrap IntKind.i64 (IntKind.wrap IntKind.i64 ((2 : Int) * i) + (1 : Int))))))
                          cap ::
                          SV.func (Fn.func f) [] [] :: rest)
                         T),
                        Ent.mk (Loc.sl ao cap)
                         (SObj.vecL (149 : TypeId) 2 encItI
                          (swapL ((0 : Int), (0 : Int)) xs_3 (Int.toNat i) (Int.toNat (IntKind.wrap IntKind.i64 (IntKind.wrap IntKind.i64 ((2 : Int) * i) + (1 : Int)))))
                          ((0 : Int), (0 : Int)))])
  | false =>
   true = true ∧
    ∃ (xs_1 : List (Int × Int)),
     (Ent.mk (Loc.sl ao cap) (SObj.vecL (149 : TypeId) 2 encItI xs ((0 : Int), (0 : Int))) =
      Ent.mk (Loc.sl ao cap) (SObj.vecL (149 : TypeId) 2 encItI xs_1 ((0 : Int), (0 : Int))) ∧
      b = b ∧ List.length xs = List.length xs_1 ∧ false = false) ∧
      (IntKind.i64 = IntKind.i64 ∧
       IntKind.i64 = IntKind.i64 ∧
        (0 : Int) ≤ IntKind.wrap IntKind.i64 (IntKind.wrap IntKind.i64 ((2 : Int) * i) + (1 : Int)) ∧
         IntKind.wrap IntKind.i64 (IntKind.wrap IntKind.i64 ((2 : Int) * i) + (1 : Int)) < (↑(List.length xs_1) : Int) ∧ (0 : Int) ≤ i ∧ i < (↑(List.length xs_1) : Int)) ∧
       ∃ (bef : Int → Int → Bool),
        RI f bef ∧
         match
          !lessI bef (List.getD xs_1 (Int.toNat (IntKind.wrap IntKind.i64 (IntKind.wrap IntKind.i64 ((2 : Int) * i) + (1 : Int)))) ((0 : Int), (0 : Int)))
           (List.getD xs_1 (Int.toNat i) ((0 : Int), (0 : Int))) with
         | true =>
          N
           [Ent.mk (Loc.blk b) (SObj.cells (SV.vec 1 ao (List.length xs) cap :: SV.func (Fn.func f) [] [] :: rest) T),
            Ent.mk (Loc.sl ao cap) (SObj.vecL (149 : TypeId) 2 encItI xs ((0 : Int), (0 : Int)))]
           (SV.bool (decide (i > i0)))
         | false =>
          true = true ∧
           ∃ (xs_2 : List (Int × Int)),
            (Ent.mk (Loc.sl ao cap) (SObj.vecL (149 : TypeId) 2 encItI xs ((0 : Int), (0 : Int))) =
             Ent.mk (Loc.sl ao cap) (SObj.vecL (149 : TypeId) 2 encItI xs_2 ((0 : Int), (0 : Int))) ∧
             b = b ∧ List.length xs = List.length xs_2 ∧ false = false) ∧
             (IntKind.i64 = IntKind.i64 ∧
              IntKind.i64 = IntKind.i64 ∧
               (0 : Int) ≤ i ∧
                i < (↑(List.length xs_2) : Int) ∧
                 (0 : Int) ≤ IntKind.wrap IntKind.i64 (IntKind.wrap IntKind.i64 ((2 : Int) * i) + (1 : Int)) ∧
                  IntKind.wrap IntKind.i64 (IntKind.wrap IntKind.i64 ((2 : Int) * i) + (1 : Int)) < (↑(List.length xs_2) : Int)) ∧
              K (Frm.loop J :: Frm.blk 0 :: frm [] (bodyOf Try.f100) [1, 1, 1] [])
               (Sy.mk (SV.iface (147 : TypeId) (SV.ptr 0 b 0) :: (SV.int IntKind.i64 i0 :: (SV.int IntKind.i64 n :: (rawR u 3 (SV.int IntKind.i64 (IntKind.wrap IntKind.i64 (IntKind.wrap IntKind.i64 ((2 : Int) * i) + (1 : Int))) :: (SV.int IntKind.i64 (IntKind.wrap IntKind.i64 (IntKind.wrap IntKind.i64 ((2 : Int) * i) + (1 : Int))) :: (SV.int IntKind.i64 (IntKind.wrap IntKind.i64 (IntKind.wrap IntKind.i64 ((2 : Int) * i) + (1 : Int))) :: (SV.int IntKind.i64 (IntKind.wrap IntKind.i64 (IntKind.wrap IntKind.i64 (IntKind.wrap IntKind.i64 ((2 : Int) * i) + (1 : Int)) + (1 : Int))) :: (SV.raw (u 11) :: (SV.int IntKind.i64 i :: (SV.int IntKind.i64 (IntKind.wrap IntKind.i64 ((2 : Int) * i)) :: (SV.int IntKind.i64 (IntKind.wrap IntKind.i64 (IntKind.wrap IntKind.i64 ((2 : Int) * i) + (1 : Int))) :: (SV.int IntKind.i64 (IntKind.wrap IntKind.i64 (IntKind.wrap IntKind.i64 ((2 : Int) * i) + (1 : Int))) :: (SV.int IntKind.i64 n :: (SV.bool (decide (IntKind.wrap IntKind.i64 (IntKind.wrap IntKind.i64 ((2 : Int) * i) + (1 : Int)) ≥ n)) :: (SV.bool false :: (SV.int IntKind.i64 (IntKind.wrap IntKind.i64 (IntKind.wrap IntKind.i64 ((2 : Int) * i) + (1 : Int))) :: (SV.bool (decide (IntKind.wrap IntKind.i64 (IntKind.wrap IntKind.i64 ((2 : Int) * i) + (1 : Int)) < (0 : Int))) :: (SV.bool false :: (SV.int IntKind.i64 (IntKind.wrap IntKind.i64 (IntKind.wrap IntKind.i64 ((2 : Int) * i) + (1 : Int))) :: (SV.int IntKind.i64 (IntKind.wrap IntKind.i64 (IntKind.wrap IntKind.i64 ((2 : Int) * i) + (1 : Int))) :: (SV.int IntKind.i64 (IntKind.wrap IntKind.i64 (IntKind.wrap IntKind.i64 (IntKind.wrap IntKind.i64 ((2 : Int) * i) + (1 : Int)) + (1 : Int))) :: (SV.int IntKind.i64 (IntKind.wrap IntKind.i64 (IntKind.wrap IntKind.i64 (IntKind.wrap IntKind.i64 ((2 : Int) * i) + (1 : Int)) + (1 : Int))) :: (SV.int IntKind.i64 n :: (SV.bool (decide (IntKind.wrap IntKind.i64 (IntKind.wrap IntKind.i64 (IntKind.wrap IntKind.i64 ((2 : Int) * i) + (1 : Int)) + (1 : Int)) < n)) :: (SV.bool false :: (rawE (SV.bool false :: (SV.raw (u 34) :: (SV.iface (147 : TypeId) (SV.ptr 0 b 0) :: (SV.int IntKind.i64 (IntKind.wrap IntKind.i64 (IntKind.wrap IntKind.i64 ((2 : Int) * i) + (1 : Int))) :: (SV.int IntKind.i64 i :: (SV.bool (lessI bef (List.getD xs_1 (Int.toNat (IntKind.wrap IntKind.i64 (IntKind.wrap IntKind.i64 ((2 : Int) * i) + (1 : Int)))) ((0 : Int), (0 : Int))) (List.getD xs_1 (Int.toNat i) ((0 : Int), (0 : Int)))) :: (SV.bool false :: (SV.iface (147 : TypeId) (SV.ptr 0 b 0) :: (SV.int IntKind.i64 i :: (SV.int IntKind.i64 (IntKind.wrap IntKind.i64 (IntKind.wrap IntKind.i64 ((2 : Int) * i) + (1 : Int))) :: (SV.tuple [] :: (SV.int IntKind.i64 (IntKind.wrap IntKind.i64 (IntKind.wrap IntKind.i64 ((2 : Int) * i) + (1 : Int))) :: (rawR u 45 [] 3))))))))))))) 4))))))))))))))))))))))) 4))))
                [Ent.mk (Loc.blk b)
                 (SObj.cells
                  (SV.vec 1 ao
                   (List.length (swapL ((0 : Int), (0 : Int)) xs_2 (Int.toNat i) (Int.toNat (IntKind.wrap IntKind.i64 (IntKind.wrap IntKind.i64 ((2 : Int) * i) + (1 : Int))))))
                   cap ::
                   SV.func (Fn.func f) [] [] :: rest)
                  T),
                 Ent.mk (Loc.sl ao cap)
                  (SObj.vecL (149 : TypeId) 2 encItI
                   (swapL ((0 : Int), (0 : Int)) xs_2 (Int.toNat i) (Int.toNat (IntKind.wrap IntKind.i64 (IntKind.wrap IntKind.i64 ((2 : Int) * i) + (1 : Int)))))
                   ((0 : Int), (0 : Int)))])) := by kernel_rfl


theorem qIhpush (K : List Frm → Sy → Prop) (N : List Ent → SV → Prop) (J : Act → World → Prop) (u : Nat → Value) (b cap : Nat) (ao : Option Addr) (rest : List SV) (T : TypeId) (xs : List (Int × Int)) (f : FuncId) (v : Int × Int) : (run Try.prog qTI2 false [] K (retP Try.prog Try.f80.results.toList N) 900 [.code (bodyOf Try.f80)] ⟨padTo 12 [(.iface 147 (.ptr 0 b 0)), .iface 149 (.agg (encItI v))], qhG 149 2 encItI ((0 : Int), (0 : Int)) b ao cap f rest T xs⟩) = (
true = true ∧
 ∃ (xs_1 : List (Int × Int)),
  (Ent.mk (Loc.sl ao cap) (SObj.vecL (149 : TypeId) 2 encItI xs ((0 : Int), (0 : Int))) = Ent.mk (Loc.sl ao cap) (SObj.vecL (149 : TypeId) 2 encItI xs_1 ((0 : Int), (0 : Int))) ∧
   b = b ∧ List.length xs = List.length xs_1 ∧ false = false) ∧
   ∃ (x : Int × Int),
    ((149 : TypeId) = (149 : TypeId) ∧
     [SV.int IntKind.i64 x.1, SV.int IntKind.i64 x.2] = [SV.int IntKind.i64 v.1, SV.int IntKind.i64 v.2] ∧
      (List.length xs_1 + 1) * 16 ≤ 140737488355328 ∧ List.length xs_1 + 1 ≤ 9223372036854775807) ∧
     ∀ (ao2 : Option Addr) (cap2 : Nat),
      true = true ∧
       b = b ∧
        true = true ∧
         ∃ (xs : List (Int × Int)),
          (Ent.mk (Loc.sl ao2 cap2) (SObj.vecL (149 : TypeId) 2 encItI (xs_1 ++ [x]) ((0 : Int), (0 : Int))) =
           Ent.mk (Loc.sl ao2 cap2) (SObj.vecL (149 : TypeId) 2 encItI xs ((0 : Int), (0 : Int))) ∧
           b = b ∧ List.length (xs_1 ++ [x]) = List.length xs ∧ false = false) ∧
           ((147 : TypeId) = (147 : TypeId) ∧
            IntKind.i64 = IntKind.i64 ∧
             (0 : Int) ≤ IntKind.wrap IntKind.i64 ((↑(List.length (xs_1 ++ [x])) : Int) - (1 : Int)) ∧
              IntKind.wrap IntKind.i64 ((↑(List.length (xs_1 ++ [x])) : Int) - (1 : Int)) < (↑(List.length xs) : Int) ∧ List.length xs ≤ 2305843009213693952) ∧
            ∃ (bef : Int → Int → Bool),
             RI f bef ∧
              N
               [Ent.mk (Loc.blk b)
                (SObj.cells
                 (SV.vec 1 ao2
                  (List.length
                   (upL (lessI bef) ((0 : Int), (0 : Int)) (Int.toNat (IntKind.wrap IntKind.i64 ((↑(List.length (xs_1 ++ [x])) : Int) - (1 : Int)))) xs
                    (Int.toNat (IntKind.wrap IntKind.i64 ((↑(List.length (xs_1 ++ [x])) : Int) - (1 : Int))))))
                  cap2 ::
                  SV.func (Fn.func f) [] [] :: rest)
                 T),
                Ent.mk (Loc.sl ao2 cap2)
                 (SObj.vecL (149 : TypeId) 2 encItI
                  (upL (lessI bef) ((0 : Int), (0 : Int)) (Int.toNat (IntKind.wrap IntKind.i64 ((↑(List.length (xs_1 ++ [x])) : Int) - (1 : Int)))) xs
                   (Int.toNat (IntKind.wrap IntKind.i64 ((↑(List.length (xs_1 ++ [x])) : Int) - (1 : Int)))))
                  ((0 : Int), (0 : Int)))]
               (SV.tuple [])) := by kernel_rfl


theorem qIhpop (K : List Frm → Sy → Prop) (N : List Ent → SV → Prop) (J : Act → World → Prop) (u : Nat → Value) (b cap : Nat) (ao : Option Addr) (rest : List SV) (T : TypeId) (xs : List (Int × Int)) (f : FuncId) : (run Try.prog qTI2 false [] K (retP Try.prog Try.f81.results.toList N) 900 [.code (bodyOf Try.f81)] ⟨padTo 15 [(.iface 147 (.ptr 0 b 0))], qhG 149 2 encItI ((0 : Int), (0 : Int)) b ao cap f rest T xs⟩) = (
true = true ∧
 b = b ∧
  true = true ∧
   ∃ (xs_1 : List (Int × Int)),
    (Ent.mk (Loc.sl ao cap) (SObj.vecL (149 : TypeId) 2 encItI xs ((0 : Int), (0 : Int))) = Ent.mk (Loc.sl ao cap) (SObj.vecL (149 : TypeId) 2 encItI xs_1 ((0 : Int), (0 : Int))) ∧
     b = b ∧ List.length xs = List.length xs_1 ∧ false = false) ∧
     (IntKind.i64 = IntKind.i64 ∧
      IntKind.i64 = IntKind.i64 ∧
       (0 : Int) ≤ (0 : Int) ∧
        (0 : Int) < (↑(List.length xs_1) : Int) ∧
         (0 : Int) ≤ IntKind.wrap IntKind.i64 ((↑(List.length xs) : Int) - (1 : Int)) ∧ IntKind.wrap IntKind.i64 ((↑(List.length xs) : Int) - (1 : Int)) < (↑(List.length xs_1) : Int)) ∧
      true = true ∧
       ∃ (xs_2 : List (Int × Int)),
        (Ent.mk (Loc.sl ao cap)
         (SObj.vecL (149 : TypeId) 2 encItI (swapL ((0 : Int), (0 : Int)) xs_1 0 (Int.toNat (IntKind.wrap IntKind.i64 ((↑(List.length xs) : Int) - (1 : Int)))))
          ((0 : Int), (0 : Int))) =
         Ent.mk (Loc.sl ao cap) (SObj.vecL (149 : TypeId) 2 encItI xs_2 ((0 : Int), (0 : Int))) ∧
         b = b ∧
          List.length (swapL ((0 : Int), (0 : Int)) xs_1 0 (Int.toNat (IntKind.wrap IntKind.i64 ((↑(List.length xs) : Int) - (1 : Int))))) = List.length xs_2 ∧ false = false) ∧
         ((147 : TypeId) = (147 : TypeId) ∧
          IntKind.i64 = IntKind.i64 ∧
           IntKind.i64 = IntKind.i64 ∧
            (0 : Int) = (0 : Int) ∧
             (0 : Int) ≤ IntKind.wrap IntKind.i64 ((↑(List.length xs) : Int) - (1 : Int)) ∧
              IntKind.wrap IntKind.i64 ((↑(List.length xs) : Int) - (1 : Int)) ≤ (↑(List.length xs_2) : Int) ∧ List.length xs_2 ≤ 2305843009213693952) ∧
          ∃ (bef : Int → Int → Bool),
           RI f bef ∧
            ∀ (bb : Bool),
             true = true ∧
              ∃ (xs_3 : List (Int × Int)),
               (Ent.mk (Loc.sl ao cap)
                (SObj.vecL (149 : TypeId) 2 encItI
                 (downL (lessI bef) ((0 : Int), (0 : Int)) (List.length xs_2) xs_2 0 (Int.toNat (IntKind.wrap IntKind.i64 ((↑(List.length xs) : Int) - (1 : Int)))))
                 ((0 : Int), (0 : Int))) =
                Ent.mk (Loc.sl ao cap) (SObj.vecL (149 : TypeId) 2 encItI xs_3 ((0 : Int), (0 : Int))) ∧
                b = b ∧
                 List.length
                  (downL (lessI bef) ((0 : Int), (0 : Int)) (List.length xs_2) xs_2 0 (Int.toNat (IntKind.wrap IntKind.i64 ((↑(List.length xs) : Int) - (1 : Int))))) =
                  List.length xs_3 ∧
                  false = false) ∧
                (0 < List.length xs_3 ∧ List.length xs_3 ≤ 9223372036854775807) ∧
                 N
                  [Ent.mk (Loc.blk b) (SObj.cells (SV.vec 1 ao (List.length (List.take (List.length xs_3 - 1) xs_3)) cap :: SV.func (Fn.func f) [] [] :: rest) T),
                   Ent.mk (Loc.sl ao cap) (SObj.vecL (149 : TypeId) 2 encItI (List.take (List.length xs_3 - 1) xs_3) ((0 : Int), (0 : Int)))]
                  (SV.iface (149 : TypeId)
                   (SV.agg
                    [SV.int IntKind.i64 (List.getD xs_3 (List.length xs_3 - 1) ((0 : Int), (0 : Int))).1,
                     SV.int IntKind.i64 (List.getD xs_3 (List.length xs_3 - 1) ((0 : Int), (0 : Int))).2]))) := by kernel_rfl
end Go.Proofs.Ytjnkfgigpapeaaa

/- queue.Queue[int]: container/heap over its piles. -/
namespace Go.Proofs.Ytjnkfgigpapeaaa
open Go Go.RowKit

section
variable {W : World} {F : List Ch} (b cap : Nat) (ao : Option Addr) (rest : List SV) (T : TypeId) (f : FuncId) (bef : Int → Int → Bool) (len : Nat) (R0 : List (Int × Int))

def qIupLive (s : List (Int × Int) × Nat) : List (Nat × SV) := [(0, .iface 147 (.ptr 0 b 0)), (1, .int .i64 (s.2 : Int))]
def qIHeap (s : List (Int × Int) × Nat) : List Ent := qhG 149 2 encItI ((0 : Int), (0 : Int)) b ao cap f rest T s.1
structure QIUp (s : List (Int × Int) × Nat) : Prop where
  lt : s.2 < s.1.length
  len : s.1.length = len
  go : ∃ m, s.2 ≤ m ∧ upL (lessI bef) ((0 : Int), (0 : Int)) m s.1 s.2 = R0

theorem qIup_round (hR : RI f bef) (hlen : len ≤ 2305843009213693952) (s : List (Int × Int) × Nat) (h : QIUp bef len R0 s) (u : Nat → Value) :
    G Try.prog (endQ Try.prog Try.f99 W F fun h' r => h' = qhG 149 2 encItI ((0 : Int), (0 : Int)) b ao cap f rest T R0 ∧ r = .tuple []) W F (frm [Back W F 23 (qIupLive b) (qIHeap b cap ao rest T f) (QIUp bef len R0) (fun s => s.2) s.2] (bodyOf Try.f99) [0, 0] []) ⟨mkT u 23 0 (qIupLive b s), qIHeap b cap ao rest T f s⟩ := by
  obtain ⟨xs, j⟩ := s
  obtain ⟨h1, h2, m, hm, he⟩ := h
  dsimp only at h1 h2 hm he ⊢
  refine G_run (kc := false) (ss := []) qTI1_ok hmQI 900 ?_
  unfold qIupLive qIHeap
  dsimp only
  rw [qIup_body]
  have hw : IntKind.wrap .i64 (Int.tdiv (IntKind.wrap .i64 ((j : Int) - 1)) 2) = (((j - 1) / 2 : Nat) : Int) := by
    rw [IntWalk.i64_in ((j : Int) - 1) (by omega)]
    by_cases j0 : j = 0
    · subst j0; decide
    · rw [Int.tdiv_eq_ediv_of_nonneg (by omega), IntWalk.i64_in _ (by omega)]; omega
  rw [hw]
  refine ⟨by decide, ?_⟩
  split <;> rename_i hh
  · have hj : (j - 1) / 2 = j := by have := beq_iff_eq.1 hh; omega
    exact ⟨by rw [← he, upL_stop (.inl hj)], rfl⟩
  · have hj : (j - 1) / 2 ≠ j := by have := beq_eq_false_iff_ne.1 hh; omega
    refine ⟨rfl, xs, ⟨rfl, rfl, rfl, rfl⟩, ⟨rfl, rfl, by omega, by omega, by omega, by omega⟩, bef, hR, ?_⟩
    split <;> rename_i hl
    · exact ⟨by rw [← he, upL_stop (.inr (by rw [Bool.not_eq_true'] at hl; exact hl))], rfl⟩
    · refine ⟨rfl, xs, ⟨rfl, rfl, rfl, rfl⟩, ⟨rfl, rfl, by omega, by omega, by omega, by omega⟩, ?_⟩
      refine G_back (swapL ((0 : Int), (0 : Int)) xs ((j - 1) / 2) j, (j - 1) / 2) ⟨by rw [length_swapL]; dsimp only; omega, by rw [length_swapL]; exact h2, m - 1, by dsimp only; omega, by rw [← he, upL_go hj (by rw [Bool.not_eq_false'] at hl; exact hl) hm]⟩ (by dsimp only; omega) rfl ⟨rfl, rfl, trivial⟩ (fun w hw => hw)
end

theorem qIup_spec (b cap : Nat) (ao : Option Addr) (rest : List SV) (T : TypeId) (f : FuncId) (bef : Int → Int → Bool) (hR : RI f bef) (xs : List (Int × Int)) (j : Nat) (hj : j < xs.length) (hl : xs.length ≤ 2305843009213693952) :
    Spec Try.prog 99 (qhG 149 2 encItI ((0 : Int), (0 : Int)) b ao cap f rest T xs) [.iface 147 (.ptr 0 b 0), .int .i64 (j : Int)] fun h' r => h' = qhG 149 2 encItI ((0 : Int), (0 : Int)) b ao cap f rest T (upL (lessI bef) ((0 : Int), (0 : Int)) j xs j) ∧ r = .tuple [] := by
  refine Spec.of_G 23 Try.func99 (c := bodyOf Try.f99) (by kernel_rfl) (by kernel_rfl) (Nat.le_of_ble_eq_true rfl) fun W F => ?_
  refine G_run (kc := false) (ss := []) qTI1_ok hmQI 900 ?_
  rw [qIup_start (J := fun _ _ => False) (u := fun _ => undef)]
  exact G_loopAt [] (bodyOf Try.f99) [0] 23 (qIupLive b) (qIHeap b cap ao rest T f) (QIUp bef xs.length (upL (lessI bef) ((0 : Int), (0 : Int)) j xs j)) (fun s => s.2) (xs, j) (by kernel_rfl) (fun J => by kernel_rfl) ⟨hj, rfl, j, Nat.le_refl _, rfl⟩ rfl ⟨rfl, rfl, trivial⟩ (fun w hw => hw) fun s hs u => qIup_round b cap ao rest T f bef xs.length _ hR hl s hs u

theorem qIup_ok : CtrOk Try.prog 99 (upC 149 2 encItI ((0 : Int), (0 : Int)) 147 RI) := by
  intro args hs N h
  unfold upC at h
  split at h
  · rename_i t l b k j
    unfold onPile at h
    split at h
    · rename_i b' l2 ao n' cap f rest T hl
      split at h
      · rename_i e hl2
        obtain ⟨xs, ⟨rfl, rfl, rfl, hne⟩, ⟨rfl, rfl, g1, g2, g3⟩, bef, hR, hN⟩ := h
        obtain ⟨j', rfl⟩ := Int.eq_ofNat_of_zero_le g1
        refine Spec.pile 149 2 encItI ((0 : Int), (0 : Int)) hl hl2 hne (args' := [.iface 147 (.ptr 0 b' 0), .int .i64 (j' : Int)]) (by rfl) (fun _ _ => qIup_spec b' cap ao rest T f bef hR xs j' (by omega) (by omega)) ?_
        rintro h' r ⟨rfl, rfl⟩
        exact ⟨_, ao, cap, rest, _, fun W F w hr => hr, rfl, hN⟩
      · exact h.elim
    · exact h.elim
  · exact h.elim

section
variable {W : World} {F : List Ch} (b cap : Nat) (ao : Option Addr) (rest : List SV) (T : TypeId) (f : FuncId) (bef : Int → Int → Bool) (len n : Nat) (R0 : List (Int × Int))

def qIdnLive (s : List (Int × Int) × Nat) : List (Nat × SV) := [(0, .iface 147 (.ptr 0 b 0)), (1, .int .i64 0), (2, .int .i64 (n : Int)), (7, .int .i64 (s.2 : Int))]
structure QIDn (s : List (Int × Int) × Nat) : Prop where
  le : s.2 ≤ len
  len : s.1.length = len
  go : ∃ m, n ≤ m + s.2 + 1 ∧ downL (lessI bef) ((0 : Int), (0 : Int)) m s.1 s.2 n = R0

theorem qIdn_round (hR : RI f bef) (hlen : len ≤ 2305843009213693952) (hn : n ≤ len) (s : List (Int × Int) × Nat) (h : QIDn bef len n R0 s) (u : Nat → Value) :
    G Try.prog (endQ Try.prog Try.f100 W F fun h' r => h' = qhG 149 2 encItI ((0 : Int), (0 : Int)) b ao cap f rest T R0 ∧ ∃ bb, r = .bool bb) W F (frm [Back W F 48 (qIdnLive b n) (qIHeap b cap ao rest T f) (QIDn bef len n R0) (fun s => len - s.2) (len - s.2)] (bodyOf Try.f100) [1, 1, 0, 0, 0] []) ⟨mkT u 48 0 (qIdnLive b n s), qIHeap b cap ao rest T f s⟩ := by
  obtain ⟨xs, i⟩ := s
  obtain ⟨h1, h2, m, hm, he⟩ := h
  dsimp only at h1 h2 hm he ⊢
  refine G_run (kc := false) (ss := []) qTI1_ok hmQI 900 ?_
  unfold qIdnLive qIHeap
  dsimp only
  rw [qIdn_body]
  have e1 : IntKind.wrap .i64 (2 * (i : Int)) = 2 * (i : Int) := IntWalk.i64_in _ (by omega)
  have e2 : IntKind.wrap .i64 (2 * (i : Int) + 1) = 2 * (i : Int) + 1 := IntWalk.i64_in _ (by omega)
  have e3 : IntKind.wrap .i64 (2 * (i : Int) + 1 + 1) = 2 * (i : Int) + 1 + 1 := IntWalk.i64_in _ (by omega)
  have e4 : Int.toNat (2 * (i : Int) + 1) = 2 * i + 1 := by omega
  have e5 : Int.toNat (2 * (i : Int) + 1 + 1) = 2 * i + 2 := by omega
  rw [e1, e2, e3, e4, e5]
  have go : ∀ kd : Nat, ¬ n ≤ 2 * i + 1 → kidL (lessI bef) ((0 : Int), (0 : Int)) xs i n = kd → (kd = 2 * i + 1 ∨ kd = 2 * i + 2) → kd < n → lessI bef (xs.getD kd ((0 : Int), (0 : Int))) (xs.getD i ((0 : Int), (0 : Int))) = true → QIDn bef len n R0 (swapL ((0 : Int), (0 : Int)) xs i kd, kd) ∧ len - kd < len - i := by
    intro kd q1 q2 q3 q4 q5
    refine ⟨⟨by dsimp only; omega, by rw [length_swapL]; exact h2, m - 1, by dsimp only; omega, ?_⟩, by omega⟩
    dsimp only
    rw [← he, downL_go q1 (by rw [q2]; exact q5) hm, q2]
  split <;> rename_i c1
  · exact ⟨by rw [← he, downL_stop (.inl (by simp at c1; omega))], _, rfl⟩
  · have c1' : ¬ n ≤ 2 * i + 1 := by simp at c1; omega
    split <;> rename_i c2
    · simp at c2; omega
    · split <;> rename_i c3
      · have c3' : 2 * i + 2 < n := by simp at c3; omega
        refine ⟨rfl, xs, ⟨rfl, rfl, rfl, rfl⟩, ⟨rfl, rfl, by omega, by omega, by omega, by omega⟩, bef, hR, ?_⟩
        split <;> rename_i c4
        · have hk := kidL_two (lt := lessI bef) (d := ((0 : Int), (0 : Int))) c3' c4
          refine ⟨rfl, xs, ⟨rfl, rfl, rfl, rfl⟩, ⟨rfl, rfl, by omega, by omega, by omega, by omega⟩, bef, hR, ?_⟩
          split <;> rename_i c5
          · exact ⟨by rw [← he, downL_stop (.inr (by rw [hk]; simpa using c5))], _, rfl⟩
          · refine ⟨rfl, xs, ⟨rfl, rfl, rfl, rfl⟩, ⟨rfl, rfl, by omega, by omega, by omega, by omega⟩, ?_⟩
            obtain ⟨a1, a2⟩ := go _ c1' hk (.inr rfl) (by omega) (by simpa using c5)
            exact G_back (swapL ((0 : Int), (0 : Int)) xs i (2 * i + 2), 2 * i + 2) a1 a2 rfl ⟨rfl, rfl, rfl, congrArg (Value.int .i64) (by dsimp only; omega), trivial⟩ (fun w hw => hw)
        · have hk := kidL_one (lt := lessI bef) (d := ((0 : Int), (0 : Int))) (xs := xs) (i := i) (n := n) fun _ => by simpa using c4
          refine ⟨rfl, xs, ⟨rfl, rfl, rfl, rfl⟩, ⟨rfl, rfl, by omega, by omega, by omega, by omega⟩, bef, hR, ?_⟩
          split <;> rename_i c5
          · exact ⟨by rw [← he, downL_stop (.inr (by rw [hk]; simpa using c5))], _, rfl⟩
          · refine ⟨rfl, xs, ⟨rfl, rfl, rfl, rfl⟩, ⟨rfl, rfl, by omega, by omega, by omega, by omega⟩, ?_⟩
            obtain ⟨a1, a2⟩ := go _ c1' hk (.inl rfl) (by omega) (by simpa using c5)
            exact G_back (swapL ((0 : Int), (0 : Int)) xs i (2 * i + 1), 2 * i + 1) a1 a2 rfl ⟨rfl, rfl, rfl, congrArg (Value.int .i64) (by dsimp only; omega), trivial⟩ (fun w hw => hw)
      · have hk := kidL_one (lt := lessI bef) (d := ((0 : Int), (0 : Int))) (xs := xs) (i := i) (n := n) fun h => by simp at c3; omega
        refine ⟨rfl, xs, ⟨rfl, rfl, rfl, rfl⟩, ⟨rfl, rfl, by omega, by omega, by omega, by omega⟩, bef, hR, ?_⟩
        split <;> rename_i c5
        · exact ⟨by rw [← he, downL_stop (.inr (by rw [hk]; simpa using c5))], _, rfl⟩
        · refine ⟨rfl, xs, ⟨rfl, rfl, rfl, rfl⟩, ⟨rfl, rfl, by omega, by omega, by omega, by omega⟩, ?_⟩
          obtain ⟨a1, a2⟩ := go _ c1' hk (.inl rfl) (by omega) (by simpa using c5)
          exact G_back (swapL ((0 : Int), (0 : Int)) xs i (2 * i + 1), 2 * i + 1) a1 a2 rfl ⟨rfl, rfl, rfl, congrArg (Value.int .i64) (by dsimp only; omega), trivial⟩ (fun w hw => hw)
end

theorem qIdn_spec (b cap : Nat) (ao : Option Addr) (rest : List SV) (T : TypeId) (f : FuncId) (bef : Int → Int → Bool) (hR : RI f bef) (xs : List (Int × Int)) (n : Nat) (hn : n ≤ xs.length) (hl : xs.length ≤ 2305843009213693952) :
    Spec Try.prog 100 (qhG 149 2 encItI ((0 : Int), (0 : Int)) b ao cap f rest T xs) [.iface 147 (.ptr 0 b 0), .int .i64 0, .int .i64 (n : Int)] fun h' r => h' = qhG 149 2 encItI ((0 : Int), (0 : Int)) b ao cap f rest T (downL (lessI bef) ((0 : Int), (0 : Int)) xs.length xs 0 n) ∧ ∃ bb, r = .bool bb := by
  refine Spec.of_G 48 Try.func100 (c := bodyOf Try.f100) (by kernel_rfl) (by kernel_rfl) (Nat.le_of_ble_eq_true rfl) fun W F => ?_
  refine G_run (kc := false) (ss := []) qTI1_ok hmQI 900 ?_
  rw [qIdn_start (J := fun _ _ => False) (u := fun _ => undef)]
  exact G_loopAt [] (bodyOf Try.f100) [1, 1, 0, 0] 48 (qIdnLive b n) (qIHeap b cap ao rest T f) (QIDn bef xs.length n (downL (lessI bef) ((0 : Int), (0 : Int)) xs.length xs 0 n)) (fun s => xs.length - s.2) (xs, 0) (by kernel_rfl) (fun J => by kernel_rfl) ⟨Nat.zero_le _, rfl, xs.length, by dsimp only; omega, rfl⟩ rfl ⟨rfl, rfl, rfl, rfl, trivial⟩ (fun w hw => hw) fun s hs u => qIdn_round b cap ao rest T f bef xs.length n _ hR hl hn s hs u

theorem qIdn_ok : CtrOk Try.prog 100 (downC 149 2 encItI ((0 : Int), (0 : Int)) 147 RI) := by
  intro args hs N h
  unfold downC at h
  split at h
  · rename_i t l b k i k' n
    unfold onPile at h
    split at h
    · rename_i b' l2 ao n' cap f rest T hl
      split at h
      · rename_i e hl2
        obtain ⟨xs, ⟨rfl, rfl, rfl, hne⟩, ⟨rfl, rfl, rfl, rfl, g1, g2, g3⟩, bef, hR, hN⟩ := h
        obtain ⟨j', rfl⟩ := Int.eq_ofNat_of_zero_le g1
        refine Spec.pile 149 2 encItI ((0 : Int), (0 : Int)) hl hl2 hne (args' := [.iface 147 (.ptr 0 b' 0), .int .i64 0, .int .i64 (j' : Int)]) (by rfl) (fun _ _ => qIdn_spec b' cap ao rest T f bef hR xs j' (by omega) (by omega)) ?_
        rintro h' r ⟨rfl, bb, rfl⟩
        exact ⟨_, ao, cap, rest, _, fun W F w hr => hr, rfl, hN bb⟩
      · exact h.elim
    · exact h.elim
  · exact h.elim

theorem qTI2_ok : AllOk Try.prog qTI2 := ⟨qIup_ok, qIdn_ok, qTI1_ok⟩

theorem qIhpush_ok : CtrOk Try.prog 80 (hpushC 149 2 encItI ((0 : Int), (0 : Int)) 147 16 RI) := by
  intro args hs N h
  unfold hpushC at h
  split at h
  · rename_i t l b t' cs
    unfold onPile at h
    split at h
    · rename_i b' l2 ao n' cap f rest T hl
      split at h
      · rename_i e hl2
        obtain ⟨xs, ⟨rfl, rfl, rfl, hne⟩, x, ⟨rfl, rfl, rfl, g1, g2⟩, bef, hR, hN⟩ := h
        refine Spec.pile 149 2 encItI ((0 : Int), (0 : Int)) hl hl2 hne (args' := [.iface 147 (.ptr 0 b' 0), .iface 149 (.agg (encItI x))]) (Post' := fun h' r => ∃ ao2 cap2, h' = qhG 149 2 encItI ((0 : Int), (0 : Int)) b' ao2 cap2 f rest T (pushL (lessI bef) ((0 : Int), (0 : Int)) xs x) ∧ r = .tuple []) (by rfl) (fun _ _ => ?_) ?_
        · refine Spec.of_G 12 Try.func80 (c := bodyOf Try.f80) (by kernel_rfl) (by kernel_rfl) (Nat.le_of_ble_eq_true rfl) fun W F => ?_
          refine G_run (kc := false) (ss := []) qTI2_ok hmQI 900 ?_
          rw [qIhpush (J := fun _ _ => False) (u := fun _ => undef)]
          have hlx : (xs ++ [x]).length = xs.length + 1 := by simp
          have hw : IntKind.wrap .i64 (((xs ++ [x]).length : Int) - 1) = (xs.length : Int) := by rw [hlx, IntWalk.i64_in _ (by omega)]; omega
          refine ⟨rfl, xs, ⟨rfl, rfl, rfl, rfl⟩, x, ⟨rfl, rfl, g1, by omega⟩, fun ao2 cap2 => ⟨rfl, rfl, rfl, xs ++ [x], ⟨rfl, rfl, rfl, rfl⟩, ?_⟩⟩
          rw [hw]
          exact ⟨⟨rfl, rfl, by omega, by omega, by omega⟩, bef, hR, ao2, cap2, rfl, rfl⟩
        · rintro h' r ⟨ao2, cap2, rfl, rfl⟩
          exact ⟨_, ao2, cap2, rest, _, fun W F w hr => hr, rfl, hN ao2 cap2⟩
      · exact h.elim
    · exact h.elim
  · exact h.elim

theorem qIhpop_ok : CtrOk Try.prog 81 (hpopC 149 2 encItI ((0 : Int), (0 : Int)) 147 RI) := by
  intro args hs N h
  unfold hpopC at h
  split at h
  · rename_i t l b
    unfold onPile at h
    split at h
    · rename_i b' l2 ao n' cap f rest T hl
      split at h
      · rename_i e hl2
        obtain ⟨xs, ⟨rfl, rfl, rfl, hne⟩, ⟨rfl, g1, g2⟩, bef, hR, hN⟩ := h
        refine Spec.pile 149 2 encItI ((0 : Int), (0 : Int)) hl hl2 hne (args' := [.iface 147 (.ptr 0 b' 0)]) (Post' := fun h' r => h' = qhG 149 2 encItI ((0 : Int), (0 : Int)) b' ao cap f rest T (popL (lessI bef) ((0 : Int), (0 : Int)) xs) ∧ r = .iface 149 (.agg (encItI (xs.getD 0 ((0 : Int), (0 : Int)))))) (by rfl) (fun _ _ => ?_) ?_
        · refine Spec.of_G 15 Try.func81 (c := bodyOf Try.f81) (by kernel_rfl) (by kernel_rfl) (Nat.le_of_ble_eq_true rfl) fun W F => ?_
          refine G_run (kc := false) (ss := []) qTI2_ok hmQI 900 ?_
          rw [qIhpop (J := fun _ _ => False) (u := fun _ => undef)]
          have hw : IntKind.wrap .i64 ((xs.length : Int) - 1) = ((xs.length - 1 : Nat) : Int) := by rw [IntWalk.i64_in _ (by omega)]; omega
          have hs1 : (swapL ((0 : Int), (0 : Int)) xs 0 (xs.length - 1)).length = xs.length := length_swapL _ _ _
          have hd1 : (downL (lessI bef) ((0 : Int), (0 : Int)) xs.length (swapL ((0 : Int), (0 : Int)) xs 0 (xs.length - 1)) 0 (xs.length - 1)).length = xs.length := by rw [length_downL, hs1]
          have hlast := last_downL (lt := lessI bef) (d := ((0 : Int), (0 : Int))) g1
          rw [hw]
          refine ⟨rfl, rfl, rfl, xs, ⟨rfl, rfl, rfl, rfl⟩, ⟨rfl, rfl, by omega, by omega, by omega, by omega⟩, rfl, swapL ((0 : Int), (0 : Int)) xs 0 (xs.length - 1), ⟨rfl, rfl, rfl, rfl⟩, ⟨rfl, rfl, rfl, rfl, by omega, by omega, by omega⟩, bef, hR, fun bb => ⟨rfl, downL (lessI bef) ((0 : Int), (0 : Int)) xs.length (swapL ((0 : Int), (0 : Int)) xs 0 (xs.length - 1)) 0 (xs.length - 1), ⟨by simp only [hs1, Int.toNat_natCast], rfl, by simp only [hs1, Int.toNat_natCast], rfl⟩, ⟨by omega, by omega⟩, ?_⟩⟩
          rw [hd1, hlast]
          exact ⟨rfl, rfl⟩
        · rintro h' r ⟨rfl, rfl⟩
          exact ⟨_, ao, cap, rest, _, fun W F w hr => hr, rfl, hN⟩
      · exact h.elim
    · exact h.elim
  · exact h.elim
end Go.Proofs.Ytjnkfgigpapeaaa

/- queue.Queue[int]: its functions in line. -/
namespace Go.Proofs.Ytjnkfgigpapeaaa
open Go Go.RowKit
theorem RI_0 : RI 77 (fun a b : Int => decide (a < b)) := .inl ⟨rfl, rfl⟩
theorem RI_1 : RI 41 (fun a b : Int => decide (a < b)) := .inr (.inl ⟨rfl, rfl⟩)
theorem RI_2 : RI 42 (fun a b : Int => decide (a > b)) := .inr (.inr (.inl ⟨rfl, rfl⟩))
theorem RI_3 : RI 53 (fun a b : Int => decide (a < b)) := .inr (.inr (.inr (⟨rfl, rfl⟩)))
def qTI3 : Tbl := [(80, hpushC 149 2 encItI ((0 : Int), (0 : Int)) 147 16 RI), (81, hpopC 149 2 encItI ((0 : Int), (0 : Int)) 147 RI), (45, inl Try.prog [] false Try.f45 100)]
def qTI4 : Tbl := (43, inl Try.prog qTI3 false Try.f43 200) :: (44, inl Try.prog qTI3 false Try.f44 200) :: (40, inl Try.prog [] false Try.f40 200) :: (78, inl Try.prog qTI3 false Try.f78 200) :: (35, inl Try.prog [] false Try.f35 200) :: (38, inl Try.prog [(39, inl Try.prog [] false Try.f39 100)] false Try.f38 200) :: qTI3
theorem qTI3_ok : AllOk Try.prog qTI3 := ⟨qIhpush_ok, qIhpop_ok, inl_ok trivial hmQI Try.func45 (by kernel_rfl), trivial⟩
theorem qTI4_ok : AllOk Try.prog qTI4 := ⟨inl_ok qTI3_ok hmQI Try.func43 (by kernel_rfl), inl_ok qTI3_ok hmQI Try.func44 (by kernel_rfl), inl_ok trivial hmQI Try.func40 (by kernel_rfl), inl_ok qTI3_ok hmQI Try.func78 (by kernel_rfl), inl_ok trivial hmQI Try.func35 (by kernel_rfl), inl_ok ⟨inl_ok trivial hmQI Try.func39 (by kernel_rfl), trivial⟩ hmQI Try.func38 (by kernel_rfl), qTI3_ok⟩
end Go.Proofs.Ytjnkfgigpapeaaa

/- QueueBoth: its states. -/
namespace Go.Proofs.Ytjnkfgigpapeaaa
open Go Go.RowKit
def encI16 (x : Int) : List SV := [.int .i16 x]
def encBool (x : Bool) : List SV := [.bool x]
def trueC13 : Ctr := fun args hs N => match args with
  | [] => N hs (.bool true)
  | _ => False
def qTI5 : Tbl := (34, trueC13) :: qTI4
abbrev qbHeap (ao : Option Addr) (cap : Nat) (bs : List Int) (ao' : Option Addr) (cap' : Nat) (ps : List Bool) (qa : Nat) (aoa : Option Addr) (capa : Nat) (xs : List (Int × Int)) (na : Int) (qb : Nat) (aob : Option Addr) (capb : Nat) (ys : List (Int × Int)) (nb : Int) : List Ent :=
  [⟨.sl ao cap, .roL 1 encI16 bs 0⟩, ⟨.sl ao' cap', .roL 1 encBool ps false⟩,
   ⟨.blk qa, .cells [.vec 3 aoa xs.length capa, .func (.func 41) [] [], .int .i64 na] 146⟩, ⟨.sl aoa capa, .vecL 149 2 encItI xs ((0 : Int), (0 : Int))⟩,
   ⟨.blk qb, .cells [.vec 5 aob ys.length capb, .func (.func 42) [] [], .int .i64 nb] 146⟩, ⟨.sl aob capb, .vecL 149 2 encItI ys ((0 : Int), (0 : Int))⟩]
end Go.Proofs.Ytjnkfgigpapeaaa

