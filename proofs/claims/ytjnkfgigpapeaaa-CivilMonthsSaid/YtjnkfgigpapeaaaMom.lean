/- civil: Moment and Unix. -/
import Derived.Test.YtjnkfgigpapeaaaMomRun
import Derived.Test.YtjnkfgigpapeaaaCiv
namespace Go.Proofs.Ytjnkfgigpapeaaa
open Go Go.RowKit
set_option linter.unusedVariables false
set_option linter.unusedSimpArgs false
set_option linter.unnecessarySimpa false

theorem moment_ok : CtrOk Try.prog 31 momentC := by
  intro args hs N h
  unfold momentC at h
  split at h
  · rename_i t
    obtain ⟨ht, h⟩ := h
    cases hr : decide (0 ≤ t) && decide (t < 7289654400) with
    | false =>
      rw [hr] at h
      refine Spec.pure (Cs := civ4) (kc := true) (ss := []) 600 34 civ4_ok hm Try.func31 (by kernel_rfl) (by kernel_rfl) rfl h fun K => ?_
      rw [moment_run]
      intro b
      simp only [Bool.and_eq_false_iff, decide_eq_false_iff_not] at hr
      cases h0 : decide (t < 0) with
      | true => simp
      | false =>
        simp only [decide_eq_false_iff_not] at h0
        have h1 : decide (IntKind.i64.wrap (t.tdiv 86400) ≥ 84371) = true := by
          have h2 : ¬ t < 7289654400 := by rcases hr with hr | hr <;> omega
          rw [Int.tdiv_eq_ediv_of_nonneg (by omega), IntWalk.i64_in _ (by omega)]
          simp; omega
        rw [h1]; simp
    | true =>
      rw [hr] at h
      simp only [Bool.and_eq_true, decide_eq_true_eq] at hr
      obtain ⟨hr0, hr1⟩ := hr
      refine Spec.lift (Φ := fun r => ∃ y m d, dateP (t / 86400) y m d ∧ r = .tuple [.agg [.int .i64 y, .int .i64 m, .int .i64 d, .int .i64 (t % 86400 / 3600), .int .i64 (t % 86400 / 60 % 60), .int .i64 (t % 86400 % 60)], .int .i64 0]) ?_ (by rintro _ ⟨y, m, d, hd, rfl⟩; exact h y m d hd)
      refine Spec.of_G 34 Try.func31 (c := bodyOf Try.f31) (by kernel_rfl) (by kernel_rfl) (by simp [lenN]) fun W F => ?_
      refine G_run (Cs := civ4) (kc := true) (ss := []) civ4_ok hm 600 ?_
      rw [moment_run]
      intro b
      have h0 : decide (t < 0) = false := by simp; omega
      have e1 : IntKind.i64.wrap (t.tdiv 86400) = t / 86400 := by rw [Int.tdiv_eq_ediv_of_nonneg hr0]; exact IntWalk.i64_in _ (by omega)
      have e2 : t.tmod 86400 = t % 86400 := Int.tmod_eq_emod_of_nonneg hr0
      have hq : 0 ≤ t % 86400 ∧ t % 86400 < 86400 := by omega
      have e3 : IntKind.i64.wrap ((t % 86400).tdiv 3600) = t % 86400 / 3600 := by rw [Int.tdiv_eq_ediv_of_nonneg hq.1]; exact IntWalk.i64_in _ (by omega)
      have e4 : IntKind.i64.wrap ((t % 86400).tdiv 60) = t % 86400 / 60 := by rw [Int.tdiv_eq_ediv_of_nonneg hq.1]; exact IntWalk.i64_in _ (by omega)
      have e5 : (t % 86400 / 60).tmod 60 = t % 86400 / 60 % 60 := Int.tmod_eq_emod_of_nonneg (by omega)
      have e6 : (t % 86400).tmod 60 = t % 86400 % 60 := Int.tmod_eq_emod_of_nonneg hq.1
      have h1 : decide (t / 86400 ≥ 84371) = false := by simp; omega
      have h2 : decide (0 ≤ t / 86400) = true := by simp; omega
      have h3 : decide (t / 86400 < 84371) = true := by simp; omega
      rw [e1, e2, e3, e4, e5, e6, h0, h1, h2, h3]
      refine ⟨by decide, rfl, by decide, by decide, rfl, fun y m d hd b1 => ?_⟩
      refine ⟨⟨rfl, rfl, rfl, by decide⟩, by decide, ⟨rfl, rfl⟩, by decide, by decide, by decide, by decide, ⟨rfl, rfl⟩, ⟨rfl, rfl, rfl, by decide⟩, ⟨rfl, rfl⟩, y, m, d, hd, rfl⟩
  · exact h.elim

theorem daysI_le {y m d : Int} (h : isB y m d = true) : 0 ≤ daysI y m d ∧ daysI y m d ≤ 90000 := by
  obtain ⟨d1, d2⟩ := isB_iff.1 h
  obtain ⟨y1, y2, m1, m2⟩ := lenI_pos d1 d2
  have h1 := beginsI_le y1 (by omega : y ≤ 2201)
  have h2 := lenI_le y m
  have h3 := cumI_le y (m - 1).toNat
  unfold daysI; omega

theorem inB_iff {n b : Int} : inB n b = true ↔ 0 ≤ n ∧ n < b := by simp [inB]

theorem unix_ok : CtrOk Try.prog 32 unixC := by
  intro args hs N h
  unfold unixC at h
  split at h
  · rename_i y m d hh mi s
    cases hr : isB y m d && (inB hh 24 && (inB mi 60 && inB s 60)) with
    | false =>
      rw [hr] at h
      refine Spec.pure (Cs := civ4) (kc := true) (ss := []) 600 45 civ4_ok hm Try.func32 (by kernel_rfl) (by kernel_rfl) rfl h fun K => ?_
      rw [unix_run]
      refine ⟨rfl, fun b => ⟨⟨rfl, rfl⟩, rfl, ?_⟩⟩
      cases h1 : isB y m d <;> cases h2 : inB hh 24 <;> cases h3 : inB mi 60 <;> cases h4 : inB s 60 <;> simp_all
    | true =>
      rw [hr] at h
      refine Spec.pure (Cs := civ4) (kc := true) (ss := []) 600 45 civ4_ok hm Try.func32 (by kernel_rfl) (by kernel_rfl) rfl h fun K => ?_
      rw [unix_run]
      simp only [Bool.and_eq_true] at hr
      obtain ⟨h1, h2, h3, h4⟩ := hr
      have hd := daysI_le h1
      have g2 := inB_iff.1 h2
      have g3 := inB_iff.1 h3
      have g4 := inB_iff.1 h4
      rw [h1, h2, h3, h4]
      refine ⟨rfl, fun b => ⟨⟨rfl, rfl⟩, rfl, rfl, rfl, rfl, rfl, rfl, rfl, rfl, rfl, rfl, ?_⟩⟩
      simp (disch := omega) only [IntWalk.i64_in]
  · exact h.elim

theorem civ5_ok : AllOk Try.prog civ5 := ⟨moment_ok, unix_ok, civ4_ok⟩
end Go.Proofs.Ytjnkfgigpapeaaa
