/- queue.Queue[int]: its pile's methods. -/
import Derived.Test.YtjnkfgigpapeaaaQI1Run
import Derived.Test.YtjnkfgigpapeaaaQG
namespace Go.Proofs.Ytjnkfgigpapeaaa
open Go Go.RowKit
set_option linter.unusedVariables false
set_option linter.unusedSimpArgs false
set_option linter.unnecessarySimpa false
set_option maxHeartbeats 0
theorem hmQI : Try.prog.follows .mixedOrders = true := by kernel_rfl
/-- The orders of the law's queues. -/
def RI (f : FuncId) (bef : Int → Int → Bool) : Prop := (f = 77 ∧ bef = fun a b : Int => decide (a < b)) ∨ (f = 41 ∧ bef = fun a b : Int => decide (a < b)) ∨ (f = 42 ∧ bef = fun a b : Int => decide (a > b)) ∨ (f = 53 ∧ bef = fun a b : Int => decide (a < b))
theorem qIless0_ok (b cap : Nat) (ao : Option Addr) (rest : List SV) (T : TypeId) (xs : List (Int × Int)) (i j : Int) (h1 : 0 ≤ i) (h2 : i < xs.length) (h3 : 0 ≤ j) (h4 : j < xs.length) :
    Spec Try.prog 135 (qhG 149 2 encItI ((0 : Int), (0 : Int)) b ao cap 77 rest T xs) [.ptr 0 b 0, .int .i64 i, .int .i64 j] fun h' r => PreE (qhG 149 2 encItI ((0 : Int), (0 : Int)) b ao cap 77 rest T xs) h' ∧ r = .bool (lessI (fun a b : Int => decide (a < b)) (xs.getD i.toNat ((0 : Int), (0 : Int))) (xs.getD j.toNat ((0 : Int), (0 : Int)))) := by
  refine Spec.of_G 51 Try.func135 (c := bodyOf Try.f135) (by kernel_rfl) (by kernel_rfl) (Nat.le_of_ble_eq_true rfl) fun W F => ?_
  refine G_run (Cs := [(77, inl Try.prog [] true Try.f77 100)]) (kc := true) (ss := []) ⟨inl_ok trivial hmQI Try.func77 (by kernel_rfl), trivial⟩ hmQI 900 ?_
  rw [qIless0]
  repeat' first
    | exact rfl
    | exact trivial
    | assumption
    | apply And.intro
    | intro _
    | (refine ⟨[(_, _)], rfl, rfl, ?_⟩)
    | (refine ⟨[_], rfl, rfl, ?_⟩)
    | (split <;> rename_i hh <;> try simp only [Bool.not_eq_true', Bool.not_eq_false', Bool.not_true, Bool.not_false, beq_iff_eq, beq_eq_false_iff_ne, decide_eq_true_eq, decide_eq_false_iff_not, Bool.true_eq, Bool.false_eq, Bool.not_eq_true, Bool.not_eq_false, bne_iff_ne, bne_eq_false_iff_eq, ne_eq, Decidable.not_not] at hh)
    | decide
    | omega
    | (exfalso; omega)
    | exact absurd trivial hh
    | exact ⟨_, rfl⟩
    | (simp_all [lessI]; done)
    | (unfold lessI; simp only [*, decide_false, decide_true, Bool.false_or, Bool.true_or, Bool.not_false, Bool.not_true, Bool.true_and, Bool.false_and, Bool.or_false]; done)
    | fail
theorem qIless1_ok (b cap : Nat) (ao : Option Addr) (rest : List SV) (T : TypeId) (xs : List (Int × Int)) (i j : Int) (h1 : 0 ≤ i) (h2 : i < xs.length) (h3 : 0 ≤ j) (h4 : j < xs.length) :
    Spec Try.prog 135 (qhG 149 2 encItI ((0 : Int), (0 : Int)) b ao cap 41 rest T xs) [.ptr 0 b 0, .int .i64 i, .int .i64 j] fun h' r => PreE (qhG 149 2 encItI ((0 : Int), (0 : Int)) b ao cap 41 rest T xs) h' ∧ r = .bool (lessI (fun a b : Int => decide (a < b)) (xs.getD i.toNat ((0 : Int), (0 : Int))) (xs.getD j.toNat ((0 : Int), (0 : Int)))) := by
  refine Spec.of_G 51 Try.func135 (c := bodyOf Try.f135) (by kernel_rfl) (by kernel_rfl) (Nat.le_of_ble_eq_true rfl) fun W F => ?_
  refine G_run (Cs := [(41, inl Try.prog [] true Try.f41 100)]) (kc := true) (ss := []) ⟨inl_ok trivial hmQI Try.func41 (by kernel_rfl), trivial⟩ hmQI 900 ?_
  rw [qIless1]
  repeat' first
    | exact rfl
    | exact trivial
    | assumption
    | apply And.intro
    | intro _
    | (refine ⟨[(_, _)], rfl, rfl, ?_⟩)
    | (refine ⟨[_], rfl, rfl, ?_⟩)
    | (split <;> rename_i hh <;> try simp only [Bool.not_eq_true', Bool.not_eq_false', Bool.not_true, Bool.not_false, beq_iff_eq, beq_eq_false_iff_ne, decide_eq_true_eq, decide_eq_false_iff_not, Bool.true_eq, Bool.false_eq, Bool.not_eq_true, Bool.not_eq_false, bne_iff_ne, bne_eq_false_iff_eq, ne_eq, Decidable.not_not] at hh)
    | decide
    | omega
    | (exfalso; omega)
    | exact absurd trivial hh
    | exact ⟨_, rfl⟩
    | (simp_all [lessI]; done)
    | (unfold lessI; simp only [*, decide_false, decide_true, Bool.false_or, Bool.true_or, Bool.not_false, Bool.not_true, Bool.true_and, Bool.false_and, Bool.or_false]; done)
    | fail
theorem qIless2_ok (b cap : Nat) (ao : Option Addr) (rest : List SV) (T : TypeId) (xs : List (Int × Int)) (i j : Int) (h1 : 0 ≤ i) (h2 : i < xs.length) (h3 : 0 ≤ j) (h4 : j < xs.length) :
    Spec Try.prog 135 (qhG 149 2 encItI ((0 : Int), (0 : Int)) b ao cap 42 rest T xs) [.ptr 0 b 0, .int .i64 i, .int .i64 j] fun h' r => PreE (qhG 149 2 encItI ((0 : Int), (0 : Int)) b ao cap 42 rest T xs) h' ∧ r = .bool (lessI (fun a b : Int => decide (a > b)) (xs.getD i.toNat ((0 : Int), (0 : Int))) (xs.getD j.toNat ((0 : Int), (0 : Int)))) := by
  refine Spec.of_G 51 Try.func135 (c := bodyOf Try.f135) (by kernel_rfl) (by kernel_rfl) (Nat.le_of_ble_eq_true rfl) fun W F => ?_
  refine G_run (Cs := [(42, inl Try.prog [] true Try.f42 100)]) (kc := true) (ss := []) ⟨inl_ok trivial hmQI Try.func42 (by kernel_rfl), trivial⟩ hmQI 900 ?_
  rw [qIless2]
  repeat' first
    | exact rfl
    | exact trivial
    | assumption
    | apply And.intro
    | intro _
    | (refine ⟨[(_, _)], rfl, rfl, ?_⟩)
    | (refine ⟨[_], rfl, rfl, ?_⟩)
    | (split <;> rename_i hh <;> try simp only [Bool.not_eq_true', Bool.not_eq_false', Bool.not_true, Bool.not_false, beq_iff_eq, beq_eq_false_iff_ne, decide_eq_true_eq, decide_eq_false_iff_not, Bool.true_eq, Bool.false_eq, Bool.not_eq_true, Bool.not_eq_false, bne_iff_ne, bne_eq_false_iff_eq, ne_eq, Decidable.not_not] at hh)
    | decide
    | omega
    | (exfalso; omega)
    | exact absurd trivial hh
    | exact ⟨_, rfl⟩
    | (simp_all [lessI]; done)
    | (unfold lessI; simp only [*, decide_false, decide_true, Bool.false_or, Bool.true_or, Bool.not_false, Bool.not_true, Bool.true_and, Bool.false_and, Bool.or_false]; done)
    | fail
theorem qIless3_ok (b cap : Nat) (ao : Option Addr) (rest : List SV) (T : TypeId) (xs : List (Int × Int)) (i j : Int) (h1 : 0 ≤ i) (h2 : i < xs.length) (h3 : 0 ≤ j) (h4 : j < xs.length) :
    Spec Try.prog 135 (qhG 149 2 encItI ((0 : Int), (0 : Int)) b ao cap 53 rest T xs) [.ptr 0 b 0, .int .i64 i, .int .i64 j] fun h' r => PreE (qhG 149 2 encItI ((0 : Int), (0 : Int)) b ao cap 53 rest T xs) h' ∧ r = .bool (lessI (fun a b : Int => decide (a < b)) (xs.getD i.toNat ((0 : Int), (0 : Int))) (xs.getD j.toNat ((0 : Int), (0 : Int)))) := by
  refine Spec.of_G 51 Try.func135 (c := bodyOf Try.f135) (by kernel_rfl) (by kernel_rfl) (Nat.le_of_ble_eq_true rfl) fun W F => ?_
  refine G_run (Cs := [(53, inl Try.prog [] true Try.f53 100)]) (kc := true) (ss := []) ⟨inl_ok trivial hmQI Try.func53 (by kernel_rfl), trivial⟩ hmQI 900 ?_
  rw [qIless3]
  repeat' first
    | exact rfl
    | exact trivial
    | assumption
    | apply And.intro
    | intro _
    | (refine ⟨[(_, _)], rfl, rfl, ?_⟩)
    | (refine ⟨[_], rfl, rfl, ?_⟩)
    | (split <;> rename_i hh <;> try simp only [Bool.not_eq_true', Bool.not_eq_false', Bool.not_true, Bool.not_false, beq_iff_eq, beq_eq_false_iff_ne, decide_eq_true_eq, decide_eq_false_iff_not, Bool.true_eq, Bool.false_eq, Bool.not_eq_true, Bool.not_eq_false, bne_iff_ne, bne_eq_false_iff_eq, ne_eq, Decidable.not_not] at hh)
    | decide
    | omega
    | (exfalso; omega)
    | exact absurd trivial hh
    | exact ⟨_, rfl⟩
    | (simp_all [lessI]; done)
    | (unfold lessI; simp only [*, decide_false, decide_true, Bool.false_or, Bool.true_or, Bool.not_false, Bool.not_true, Bool.true_and, Bool.false_and, Bool.or_false]; done)
    | fail

theorem qIless_ok : CtrOk Try.prog 135 (lessC 149 2 encItI ((0 : Int), (0 : Int)) RI) := by
  intro args hs N h
  unfold lessC at h
  split at h
  · rename_i l b k i k' j
    unfold onPile at h
    split at h
    · rename_i b' l2 ao n cap f rest T hl
      split at h
      · rename_i e hl2
        obtain ⟨xs, ⟨rfl, rfl, rfl, hne⟩, ⟨rfl, rfl, g1, g2, g3, g4⟩, bef, hR, hN⟩ := h
        have fin : ∀ bef' : Int → Int → Bool, bef = bef' → Spec Try.prog 135 (qhG 149 2 encItI ((0 : Int), (0 : Int)) b' ao cap f rest T xs) [.ptr 0 b' 0, .int .i64 i, .int .i64 j] (fun h' r => PreE (qhG 149 2 encItI ((0 : Int), (0 : Int)) b' ao cap f rest T xs) h' ∧ r = .bool (lessI bef' (xs.getD i.toNat ((0 : Int), (0 : Int))) (xs.getD j.toNat ((0 : Int), (0 : Int))))) → Spec Try.prog 135 hs [.ptr l b' 0, .int .i64 i, .int .i64 j] N := by
          intro bef' hb hsp
          subst hb
          refine Spec.pile 149 2 encItI ((0 : Int), (0 : Int)) hl hl2 hne (args' := [.ptr 0 b' 0, .int .i64 i, .int .i64 j]) (by rfl) (fun _ _ => hsp) ?_
          rintro h' r ⟨hp, rfl⟩
          refine ⟨xs, ao, cap, rest, _, fun W F w hr => hr.pre hp, rfl, ?_⟩
          rw [setPile_same 149 2 encItI ((0 : Int), (0 : Int)) hl hl2]
          exact hN
        rcases hR with ⟨rfl, hb⟩ | ⟨rfl, hb⟩ | ⟨rfl, hb⟩ | ⟨rfl, hb⟩
        · exact fin _ hb (qIless0_ok b' cap ao rest T xs i j g1 g2 g3 g4)
        · exact fin _ hb (qIless1_ok b' cap ao rest T xs i j g1 g2 g3 g4)
        · exact fin _ hb (qIless2_ok b' cap ao rest T xs i j g1 g2 g3 g4)
        · exact fin _ hb (qIless3_ok b' cap ao rest T xs i j g1 g2 g3 g4)
      · exact h.elim
    · exact h.elim
  · exact h.elim

theorem qIswap_ok : CtrOk Try.prog 138 (swapC 149 2 encItI ((0 : Int), (0 : Int))) := by
  intro args hs N h
  unfold swapC at h
  split at h
  · rename_i l b k i k' j
    unfold onPile at h
    split at h
    · rename_i b' l2 ao n cap f rest T hl
      split at h
      · rename_i e hl2
        obtain ⟨xs, ⟨rfl, rfl, rfl, hne⟩, ⟨rfl, rfl, g1, g2, g3, g4⟩, hN⟩ := h
        refine Spec.pile 149 2 encItI ((0 : Int), (0 : Int)) hl hl2 hne (args' := [.ptr 0 b' 0, .int .i64 i, .int .i64 j]) (Post' := fun h' r => h' = qhG 149 2 encItI ((0 : Int), (0 : Int)) b' ao cap f rest T (swapL ((0 : Int), (0 : Int)) xs i.toNat j.toNat) ∧ r = .tuple []) (by rfl) (fun _ _ => ?_) ?_
        · refine Spec.of_G 32 Try.func138 (c := bodyOf Try.f138) (by kernel_rfl) (by kernel_rfl) (Nat.le_of_ble_eq_true rfl) fun W F => ?_
          refine G_run (Cs := []) (kc := false) (ss := []) trivial hmQI 900 ?_
          rw [qIswap]
          repeat' first
            | (refine ⟨xs.getD j.toNat ((0 : Int), (0 : Int)), rfl, ?_⟩)
            | (refine ⟨xs.getD i.toNat ((0 : Int), (0 : Int)), rfl, ?_⟩)
            | exact rfl
            | assumption
            | apply And.intro
            | (rw [List.length_set]; omega)
            | (rw [List.length_set])
            | omega
            | (unfold qhG; rw [length_swapL]; rfl)
            | fail
        · rintro h' r ⟨rfl, rfl⟩
          exact ⟨_, ao, cap, rest, _, fun W F w hr => hr, rfl, hN⟩
      · exact h.elim
    · exact h.elim
  · exact h.elim

theorem qIppush_ok : CtrOk Try.prog 137 (ppushC 149 2 encItI ((0 : Int), (0 : Int)) 16) := by
  intro args hs N h
  unfold ppushC at h
  split at h
  · rename_i l b t cs
    unfold onPile at h
    split at h
    · rename_i b' l2 ao n cap f rest T hl
      split at h
      · rename_i e hl2
        obtain ⟨xs, ⟨rfl, rfl, rfl, hne⟩, x, ⟨rfl, rfl, g1, g2⟩, hN⟩ := h
        refine Spec.pile 149 2 encItI ((0 : Int), (0 : Int)) hl hl2 hne (args' := [.ptr 0 b' 0, .iface 149 (.agg (encItI x))]) (Post' := fun h' r => ∃ ao2 cap2, PreE (qhG 149 2 encItI ((0 : Int), (0 : Int)) b' ao2 cap2 f rest T (xs ++ [x])) h' ∧ r = .tuple []) (by rfl) (fun _ _ => ?_) ?_
        · refine Spec.of_G 15 Try.func137 (c := bodyOf Try.f137) (by kernel_rfl) (by kernel_rfl) (Nat.le_of_ble_eq_true rfl) fun W F => ?_
          refine G_run (Cs := []) (kc := false) (ss := []) trivial hmQI 900 ?_
          rw [qIppush]
          repeat' first
            | (refine ⟨[x], rfl, rfl, ?_⟩)
            | exact rfl
            | exact trivial
            | assumption
            | (refine ⟨_, _, ⟨?_, rfl, trivial⟩, rfl⟩; rw [List.length_append]; rfl)
            | apply And.intro
            | intro _
            | decide
            | omega
            | fail
        · rintro h' r ⟨ao2, cap2, hp, rfl⟩
          exact ⟨_, ao2, cap2, rest, _, fun W F w hr => hr.pre hp, rfl, hN ao2 cap2⟩
      · exact h.elim
    · exact h.elim
  · exact h.elim

theorem qIppop_ok : CtrOk Try.prog 136 (ppopC 149 2 encItI ((0 : Int), (0 : Int))) := by
  intro args hs N h
  unfold ppopC at h
  split at h
  · rename_i l b
    unfold onPile at h
    split at h
    · rename_i b' l2 ao n cap f rest T hl
      split at h
      · rename_i e hl2
        obtain ⟨xs, ⟨rfl, rfl, rfl, hne⟩, ⟨g1, g2⟩, hN⟩ := h
        have hw : IntKind.wrap .i64 ((xs.length : Int) - 1) = ((xs.length - 1 : Nat) : Int) := by rw [IntWalk.i64_in _ (by omega)]; omega
        refine Spec.pile 149 2 encItI ((0 : Int), (0 : Int)) hl hl2 hne (args' := [.ptr 0 b' 0]) (Post' := fun h' r => (∃ c, h' = [⟨.blk b', .cells (.sub 1 ao cap 2 0 (xs.length - 1) :: .func (.func f) [] [] :: rest) T⟩, ⟨.sl ao cap, .vecL 149 2 encItI xs ((0 : Int), (0 : Int))⟩, c]) ∧ r = .iface 149 (.agg (encItI (xs.getD (xs.length - 1) ((0 : Int), (0 : Int)))))) (by rfl) (fun hc ha => ?_) ?_
        · refine Spec.of_G 29 Try.func136 (c := bodyOf Try.f136) (by kernel_rfl) (by kernel_rfl) (Nat.le_of_ble_eq_true rfl) fun W F => ?_
          refine G_run (Cs := []) (kc := false) (ss := []) trivial hmQI 900 ?_
          rw [qIppop]
          rw [hw]
          simp only [Int.toNat_natCast]
          repeat' first
            | exact ⟨_, rfl⟩
            | exact rfl
            | exact trivial
            | assumption
            | apply And.intro
            | intro _
            | decide
            | omega
            | fail
        · rintro h' r ⟨⟨c, rfl⟩, rfl⟩
          have hlt : (xs.take (xs.length - 1)).length = xs.length - 1 := by simp
          refine ⟨xs.take (xs.length - 1), ao, cap, rest, _, fun W F w hr => ?_, rfl, hN⟩
          have hao := (hr.vec (l := 1) rfl).2.2.1 g1
          have a1 := Rep.trim (l := 1) (k := xs.length - 1) rfl (by omega) hr
          have a2 := Rep.cellsEq (l := 0) (cs' := .vec 1 ao (xs.take (xs.length - 1)).length cap :: .func (.func f) [] [] :: rest) rfl (by rw [hlt]; simp only [denL]; rw [den_trim 1 cap 2 (xs.length - 1) hao]) a1
          exact a2.front ⟨rfl, rfl, trivial⟩
      · exact h.elim
    · exact h.elim
  · exact h.elim
end Go.Proofs.Ytjnkfgigpapeaaa
