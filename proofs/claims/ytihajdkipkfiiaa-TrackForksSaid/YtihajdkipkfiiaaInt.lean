/- reveillehelp.Ints. -/
import Derived.Test.YtihajdkipkfiiaaInt1Run
namespace Go.Proofs.Ytihajdkipkfiiaa
open Go Go.RowKit
set_option linter.unusedVariables false
set_option linter.unusedSimpArgs false
set_option linter.unnecessarySimpa false
set_option maxHeartbeats 0
theorem hmInt : Try.prog.follows .mixedOrders = true := by kernel_rfl
theorem setN_selfInt {α : Type 1} {l : Nat} {v : α} : ∀ {h : List α}, nth h l = some v → setN h l v = h := by
  induction l with
  | zero => intro h hl; cases h <;> simp [nth, setN] at hl ⊢; exact hl.symm
  | succ l ih => intro h hl; cases h <;> simp [nth, setN] at hl ⊢; exact ih hl
theorem ints_ok : CtrOk Try.prog 17 intsC := by
  intro args hs N h
  unfold intsC at h
  split at h
  case h_2 => exact h.elim
  rename_i l ao n cap l' ao' n' cap'
  obtain ⟨xs, h1, h2, ⟨hne, rfl, rfl, hx⟩, h⟩ := h
  refine Spec.at (hp := [⟨.sl ao cap, .vecL 3 1 encI1 xs 0⟩, ⟨.sl ao' cap', .vecL 3 1 encI1 xs 0⟩]) (args' := [.vec 0 ao xs.length cap, .vec 1 ao' xs.length cap']) (Post' := fun h' r => h' = [⟨.sl ao cap, .vecL 3 1 encI1 xs 0⟩, ⟨.sl ao' cap', .vecL 3 1 encI1 xs 0⟩] ∧ r = .bool true) [l, l'] (by
    have : l ≠ l' := fun e => by
      subst e
      simp at hne
    simpa [distinct] using this) (by simp [pickE, h1, h2]) ?_ rfl ?_
  · refine Spec.up ?_
    refine Spec.of_G 26 Try.func17 (c := bodyOf Try.f17) (by kernel_rfl) (by kernel_rfl) (Nat.le_of_ble_eq_true rfl) fun W F => ?_
    refine G_run (kc := false) (ss := []) (Cs := []) trivial hmInt 600 ?_
    rw [ints_run]
    have : ((xs.length : Int) != (xs.length : Int)) = false := by simp
    rw [this]
    refine G_loopAt (ι := Nat) [] (bodyOf Try.f17) [1, 1, 0, 1, 0] 26 (fun i => [(0, .vec 0 ao xs.length cap), (1, .vec 1 ao' xs.length cap'), (5, .int .i64 (i : Int))]) (fun i => [⟨.sl ao cap, .vecL 3 1 encI1 xs 0⟩, ⟨.sl ao' cap', .vecL 3 1 encI1 xs 0⟩]) (fun i => i ≤ xs.length) (fun i => xs.length - i) 0 (by kernel_rfl) (fun J => by kernel_rfl) (Nat.zero_le _) rfl ⟨rfl, rfl, rfl, trivial⟩ (fun w hw => hw) ?_
    intro i hi u
    try dsimp only at hi ⊢
    simp only [List.nil_append, List.cons_append]
    refine G_run (kc := false) (ss := []) (Cs := []) trivial hmInt 900 ?_
    rw [ints_body]
    cases hlt : decide ((i : Int) < (xs.length : Int)) with
    | false => exact ⟨_, .bool true, fun W F w hr => hr, rfl, rfl, rfl⟩
    | true =>
      simp only [decide_eq_true_eq] at hlt
      have w1 : IntKind.wrap .i64 ((i : Int) + 1) = ((i + 1 : Nat) : Int) := IntWalk.i64_in _ (by omega)
      have e : (xs.getD (Int.toNat (i : Int)) 0 != xs.getD (Int.toNat (i : Int)) 0) = false := by simp
      refine ⟨⟨rfl, rfl, rfl, by omega, by omega⟩, ⟨rfl, rfl, rfl, by omega⟩, ⟨rfl, rfl, rfl, by omega, by omega⟩, ⟨rfl, rfl, rfl, by omega⟩, ?_⟩
      rw [e]
      exact G_back (i + 1) (by omega) (by omega) rfl ⟨rfl, rfl, congrArg (Value.int .i64) w1, trivial⟩ (fun w hw => hw)
  · rintro h' r ⟨rfl, rfl⟩
    refine ⟨Nat.le_refl _, _, rfl, ?_⟩
    simpa [putBack, appE_eq, setN_selfInt h1, setN_selfInt h2] using h
end Go.Proofs.Ytihajdkipkfiiaa
