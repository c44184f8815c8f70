/- For every year: CivilYears returns true (the pure statement printed for it). -/
import Derived.Test.YtjnkfgigpapeaaaPCivilYearsx2
namespace Go.Proofs.Ytjnkfgigpapeaaa.Pure
open Go.RowKit Go.Proofs.Ytjnkfgigpapeaaa.PCivilYears Go.Proofs.YtjnkfgigpapeaaaW.PrintWords Go.Proofs.YtjnkfgigpapeaaaW.PrintLast

theorem years_in : ∀ i : Fin 230, reveillelaw2_CivilYears.f 40 (1970 + (i.val : Int)) = some true := by decide +kernel

theorem known40 : reveillelaw2_known.f 40 = some true := by decide +kernel

theorem CivilYears : reveillelaw2_CivilYears.Pure := by
  intro y hw
  refine ⟨40, ?_⟩
  by_cases h : 1970 ≤ y ∧ y < 2200
  · have := years_in ⟨(y - 1970).toNat, by omega⟩
    have e : (1970 + (((⟨(y - 1970).toNat, by omega⟩ : Fin 230).val : Nat) : Int)) = y := by simp; omega
    rw [e] at this
    exact this
  · by_cases h1 : y = 2200
    · subst h1; decide +kernel
    · have e1 : reveillelaw2_CivilYears.f 40 y = reveillelaw2_CivilYears.j0 40 y true := by
        unfold reveillelaw2_CivilYears.f
        rw [known40]
        simp only [Option.bind_some, if_true]
        by_cases h2 : y < 1970
        · rw [if_pos h2]
        · rw [if_neg h2]
          have : decide (y ≥ 2200) = true := by simp; omega
          rw [this]
      have e2 : civil_length.f 39 y 1 = some 0 := by
        unfold civil_length.f
        by_cases h2 : y < 1970
        · rw [if_pos h2]; rfl
        · rw [if_neg h2, if_pos (by omega)]; rfl
      have e3 : civil_Days.f 39 y 1 1 = some (0, 20) := by
        unfold civil_Days.f civil_Is.f
        rw [if_pos (by omega), e2]
        simp
      rw [e1]
      show (civil_Days.f 39 y 1 1).bind _ = _
      rw [e3]
      simp [h1]

end Go.Proofs.Ytjnkfgigpapeaaa.Pure
