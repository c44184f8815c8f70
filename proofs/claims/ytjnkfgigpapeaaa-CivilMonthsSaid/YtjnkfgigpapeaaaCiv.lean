/- civil: the contracts hold. -/
import Derived.Test.YtjnkfgigpapeaaaCivRun
import Derived.IntWalk
namespace Go.Proofs.Ytjnkfgigpapeaaa
open Go Go.RowKit
set_option linter.unusedVariables false
set_option linter.unusedSimpArgs false
set_option linter.unnecessarySimpa false

theorem hm : Try.prog.follows .mixedOrders = true := by kernel_rfl

theorem leap_ok : CtrOk Try.prog 97 leapC := by
  intro args hs N h
  unfold leapC at h
  split at h
  · rename_i y
    refine Spec.pure (Cs := []) (kc := false) (ss := []) 400 16 trivial hm Try.func97 (by kernel_rfl) (by kernel_rfl) rfl h.2 fun K => ?_
    rw [leap_run]
    have h0 := h.1
    unfold leapB
    refine ⟨by decide, ?_⟩
    rw [Int.tmod_eq_emod_of_nonneg h0, Int.tmod_eq_emod_of_nonneg h0, Int.tmod_eq_emod_of_nonneg h0]
    cases y % 4 == 0 <;> cases y % 100 != 0 <;> simp
  · exact h.elim

theorem leaps_ok : CtrOk Try.prog 96 leapsC := by
  intro args hs N h
  unfold leapsC at h
  split at h
  · rename_i y
    refine Spec.pure (Cs := []) (kc := false) (ss := []) 400 11 trivial hm Try.func96 (by kernel_rfl) (by kernel_rfl) rfl h.2 fun K => ?_
    rw [leaps_run]
    obtain ⟨⟨h0, h1⟩, -⟩ := h
    refine ⟨by decide, by decide, by decide, ?_⟩
    unfold leapsI
    rw [Int.tdiv_eq_ediv_of_nonneg h0, Int.tdiv_eq_ediv_of_nonneg h0, Int.tdiv_eq_ediv_of_nonneg h0]
    simp (disch := omega) only [IntWalk.i64_in]
  · exact h.elim

theorem civ1_ok : AllOk Try.prog civ1 := ⟨leap_ok, leaps_ok, trivial⟩

theorem begins_ok : CtrOk Try.prog 67 beginsC := by
  intro args hs N h
  unfold beginsC at h
  split at h
  · rename_i y
    refine Spec.pure (Cs := civ1) (kc := false) (ss := []) 400 12 civ1_ok hm Try.func67 (by kernel_rfl) (by kernel_rfl) rfl h.2 fun K => ?_
    rw [begins_run]
    obtain ⟨⟨h0, h1⟩, -⟩ := h
    have e1 : IntKind.i64.wrap (y - 1) = y - 1 := IntWalk.i64_in _ (by omega)
    rw [e1]
    refine ⟨rfl, ⟨by omega, by omega⟩, rfl, by decide, ?_⟩
    unfold beginsI leapsI
    simp (disch := omega) only [IntWalk.i64_in]
    congr 1
  · exact h.elim

theorem length_ok : CtrOk Try.prog 68 lengthC := by
  intro args hs N h
  unfold lengthC at h
  split at h
  · rename_i y m
    refine Spec.pure (Cs := civ1) (kc := false) (ss := []) 400 29 civ1_ok hm Try.func68 (by kernel_rfl) (by kernel_rfl) rfl h fun K => ?_
    rw [length_run]
    clear h
    unfold lenI
    repeat' split
    all_goals simp_all
    all_goals omega
  · exact h.elim

theorem in_ok : CtrOk Try.prog 76 inC := by
  intro args hs N h
  unfold inC at h
  split at h
  · rename_i n b
    refine Spec.pure (Cs := []) (kc := false) (ss := []) 400 12 trivial hm Try.func76 (by kernel_rfl) (by kernel_rfl) rfl h fun K => ?_
    rw [in_run]
    clear h
    unfold inB
    cases decide (n ≥ 0) <;> simp
  · exact h.elim

theorem weekday_ok : CtrOk Try.prog 30 weekdayC := by
  intro args hs N h
  unfold weekdayC at h
  split at h
  · rename_i n
    refine Spec.pure (Cs := []) (kc := false) (ss := []) 400 9 trivial hm Try.func30 (by kernel_rfl) (by kernel_rfl) rfl h.2 fun K => ?_
    rw [weekday_run]
    obtain ⟨⟨h0, h1⟩, -⟩ := h
    refine ⟨by decide, by decide, by decide, ?_⟩
    unfold weekdayI
    have e0 : n.tmod 7 = if 0 ≤ n then n % 7 else -((-n) % 7) := by
      split
      · rename_i h; exact Int.tmod_eq_emod_of_nonneg h
      · rw [← Int.tmod_eq_emod_of_nonneg (a := -n) (by omega), Int.neg_tmod, Int.neg_neg]
    have e1 : -7 < n.tmod 7 ∧ n.tmod 7 < 7 ∧ (n.tmod 7 + 7) % 7 = n % 7 := by rw [e0]; split <;> omega
    obtain ⟨a1, a2, a3⟩ := e1
    rw [IntWalk.i64_in (n.tmod 7 + 7) (by omega), Int.tmod_eq_emod_of_nonneg (a := n.tmod 7 + 7) (by omega), a3, IntWalk.i64_in _ (by omega), Int.tmod_eq_emod_of_nonneg (by omega)]
    congr 1; omega
  · exact h.elim

theorem civ2_ok : AllOk Try.prog civ2 := ⟨begins_ok, length_ok, in_ok, weekday_ok, civ1_ok⟩

theorem is_ok : CtrOk Try.prog 17 isC := by
  intro args hs N h
  unfold isC at h
  split at h
  · rename_i y m d
    refine Spec.pure (Cs := civ2) (kc := true) (ss := []) 400 16 civ2_ok hm Try.func17 (by kernel_rfl) (by kernel_rfl) rfl h fun K => ?_
    rw [is_run]
    clear h
    refine ⟨rfl, fun b => ⟨rfl, ?_⟩⟩
    unfold isB
    cases decide (d ≥ 1) <;> simp
  · exact h.elim

theorem civ3_ok : AllOk Try.prog civ3 := ⟨is_ok, civ2_ok⟩

theorem lenI_le (y m : Int) : 0 ≤ lenI y m ∧ lenI y m ≤ 31 := by unfold lenI; repeat' split <;> omega
theorem cumI_le (y : Int) : ∀ k : Nat, 0 ≤ cumI y k ∧ cumI y k ≤ 31 * k
  | 0 => by simp [cumI]
  | k + 1 => by
    have h1 := cumI_le y k
    have h2 := lenI_le y ((k : Int) + 1)
    simp only [cumI]; omega
theorem isB_iff {y m d : Int} : isB y m d = true ↔ 1 ≤ d ∧ d ≤ lenI y m := by simp [isB]
theorem lenI_pos {y m d : Int} (h1 : 1 ≤ d) (h2 : d ≤ lenI y m) : 1970 ≤ y ∧ y ≤ 2200 ∧ 1 ≤ m ∧ m ≤ 12 := by
  unfold lenI at h2; split at h2 <;> omega
theorem beginsI_le {y : Int} (h1 : 1970 ≤ y) (h2 : y ≤ 2201) : 0 ≤ beginsI y ∧ beginsI y ≤ 84371 := by unfold beginsI leapsI; omega

theorem days_ok : CtrOk Try.prog 15 daysC := by
  intro args hs N h
  unfold daysC at h
  split at h
  · rename_i y m d
    cases hb : isB y m d with
    | false =>
      rw [hb] at h
      refine Spec.pure (Cs := civ3) (kc := true) (ss := []) 400 29 civ3_ok hm Try.func15 (by kernel_rfl) (by kernel_rfl) rfl h fun K => ?_
      rw [days_run]
      simp [hb]
    | true =>
      rw [hb] at h
      refine Spec.pureG 29 Try.func15 (by kernel_rfl) (by kernel_rfl) rfl h fun W F => ?_
      refine G_run (Cs := civ3) (kc := true) (ss := []) civ3_ok hm 400 ?_
      rw [days_run]
      obtain ⟨d1, d2⟩ := isB_iff.1 hb
      obtain ⟨y1, y2, m1, m2⟩ := lenI_pos d1 d2
      have hb1 := beginsI_le y1 (by omega : y ≤ 2201)
      have hd3 := lenI_le y m
      refine ⟨rfl, fun b => ⟨⟨rfl, rfl⟩, rfl, ?_⟩⟩
      rw [hb]
      refine ⟨rfl, rfl, rfl, ⟨by omega, by omega⟩, ⟨rfl, trivial⟩, ?_⟩
      have e1 : IntKind.i64.wrap (beginsI y + d) = beginsI y + d := IntWalk.i64_in _ (by omega)
      have e2 : IntKind.i64.wrap (beginsI y + d - 1) = beginsI y + d - 1 := IntWalk.i64_in _ (by omega)
      rw [e1, e2]
      refine G_loopAt (ι := Nat) [] (bodyOf Try.f15) [1, 1, 1, 0, 1, 0] 29 (fun k => [(1, .ptr 0 b 0), (2, .int .i64 0), (3, .int .i64 0), (4, .int .i64 (beginsI y + d - 1 + cumI y k)), (5, .int .i64 (k + 1))])
        (fun _ => [⟨.blk b, .cells [.int .i64 y, .int .i64 m, .int .i64 d] 27⟩]) (fun k => (k : Int) + 1 ≤ m) (fun k => 12 - k) 0 (by kernel_rfl) (fun J => by kernel_rfl) (by simpa using m1) rfl ?_ (fun _ h => h) ?_
      · simp [liveOk, nth, den, cumI]
      · intro k hk u
        simp only [List.nil_append, List.cons_append]
        refine G_run (Cs := civ3) (kc := true) (ss := []) civ3_ok hm 400 ?_
        rw [days_loop]
        have hc := cumI_le y k
        have hl := lenI_le y ((k : Int) + 1)
        have e3 : IntKind.i64.wrap (beginsI y + d - 1 + cumI y k + lenI y ((k : Int) + 1)) = beginsI y + d - 1 + cumI y k + lenI y ((k : Int) + 1) := IntWalk.i64_in _ (by omega)
        have e4 : IntKind.i64.wrap ((k : Int) + 1 + 1) = (k : Int) + 1 + 1 := IntWalk.i64_in _ (by omega)
        rw [e3, e4]
        refine ⟨rfl, ?_⟩
        cases hlt : decide ((k : Int) + 1 < m) with
        | true =>
          refine ⟨rfl, rfl, G_back (k + 1) (by simp only [decide_eq_true_eq] at hlt; push_cast; omega) (by simp only [decide_eq_true_eq] at hlt; show 12 - (k + 1) < 12 - k; omega) rfl ?_ (fun _ h => h)⟩
          simp [liveOk, nth, den, cumI, Int.add_assoc]
        | false =>
          simp only [decide_eq_false_iff_not] at hlt
          have : (m - 1).toNat = k := by omega
          simp only [daysI, this]
  · exact h.elim

theorem leap_step {y : Int} (h : 1 ≤ y) : beginsI (y + 1) = beginsI y + (if leapB y then 366 else 365) := by
  unfold beginsI leapsI leapB
  have e : (y % 4 == 0 && (y % 100 != 0 || y % 400 == 0)) = decide (y % 4 = 0 ∧ (y % 100 ≠ 0 ∨ y % 400 = 0)) := by
    rw [Bool.eq_iff_iff]; simp
  rw [e]
  have q : y + 1 - 1 = y := by omega
  rw [q]
  have q1 : (y - 1) / 4 = y / 4 - (if y % 4 = 0 then 1 else 0) := by split <;> omega
  have q2 : (y - 1) / 100 = y / 100 - (if y % 100 = 0 then 1 else 0) := by split <;> omega
  have q3 : (y - 1) / 400 = y / 400 - (if y % 400 = 0 then 1 else 0) := by split <;> omega
  rw [q1, q2, q3]
  have r1 : y % 100 = 0 → y % 4 = 0 := fun h => by omega
  have r2 : y % 400 = 0 → y % 100 = 0 := fun h => by omega
  by_cases h4 : y % 4 = 0 <;> by_cases h100 : y % 100 = 0 <;> by_cases h400 : y % 400 = 0 <;> simp [h4, h100, h400] <;> omega

theorem cum12 {y : Int} (h1 : 1970 ≤ y) (h2 : y ≤ 2200) : cumI y 12 = (if leapB y then 366 else 365) := by
  have hn : ∀ m : Int, (y < 1970 ∨ y > 2200 ∨ m < 1 ∨ m > 12) ↔ (m < 1 ∨ m > 12) := fun m => by omega
  simp only [cumI, lenI, hn]
  cases leapB y <;> decide

theorem begins_next {y : Int} (h1 : 1970 ≤ y) (h2 : y ≤ 2200) : beginsI (y + 1) = beginsI y + cumI y 12 := by rw [cum12 h1 h2, leap_step (by omega)]

theorem cumI_mono (y : Int) (k : Nat) : ∀ n : Nat, cumI y k ≤ cumI y (k + n)
  | 0 => Int.le_refl _
  | n + 1 => by
    have h1 := cumI_mono y k n
    have h2 := lenI_le y (((k + n : Nat) : Int) + 1)
    show _ ≤ cumI y (k + n) + lenI y (((k + n : Nat) : Int) + 1)
    omega

theorem date_ok : CtrOk Try.prog 29 dateC := by
  intro args hs N h
  unfold dateC at h
  split at h
  · rename_i n
    cases hr : decide (0 ≤ n) && decide (n < 84371) with
    | false =>
      rw [hr] at h
      refine Spec.pure (Cs := civ3) (kc := true) (ss := []) 400 54 civ3_ok hm Try.func29 (by kernel_rfl) (by kernel_rfl) rfl h fun K => ?_
      rw [date_run]
      intro b
      simp only [Bool.and_eq_false_iff, decide_eq_false_iff_not] at hr
      cases h0 : decide (n < 0) with
      | true => simp
      | false =>
        simp only [decide_eq_false_iff_not] at h0
        have h1 : decide (n ≥ 84371) = true := by simp; omega
        rw [h1]; simp
    | true =>
      rw [hr] at h
      simp only [Bool.and_eq_true, decide_eq_true_eq] at hr
      obtain ⟨hr0, hr1⟩ := hr
      refine Spec.lift (Φ := fun r => ∃ y m d, dateP n y m d ∧ r = .tuple [.agg [.int .i64 y, .int .i64 m, .int .i64 d], .int .i64 0]) ?_ (by rintro _ ⟨y, m, d, hd, rfl⟩; exact h y m d hd)
      refine Spec.of_G 54 Try.func29 (c := bodyOf Try.f29) (by kernel_rfl) (by kernel_rfl) (by simp [lenN]) fun W F => ?_
      refine G_run (Cs := civ3) (kc := true) (ss := []) civ3_ok hm 400 ?_
      rw [date_run]
      intro a
      have h0 : decide (n < 0) = false := by simp; omega
      have h1 : decide (n ≥ 84371) = false := by simp; omega
      rw [h0, h1]
      refine ⟨rfl, by decide, by decide, ⟨rfl, rfl⟩, fun b => ⟨⟨rfl, rfl, rfl, by decide⟩, ?_⟩⟩
      have e1 : IntKind.i64.wrap (n.tdiv 366) = n / 366 := by rw [Int.tdiv_eq_ediv_of_nonneg hr0]; exact IntWalk.i64_in _ (by omega)
      have e2 : IntKind.i64.wrap (1970 + n / 366) = 1970 + n / 366 := IntWalk.i64_in _ (by omega)
      rw [e1, e2]
      refine G_loopAt (ι := Nat) [] (bodyOf Try.f29) [1, 1, 1, 0, 0] 54 (fun k => [(0, .int .i64 n), (2, .ptr 0 a 0), (3, .int .i64 0), (4, .ptr 1 b 0)])
        (fun k => [⟨.blk a, .cells [.int .i64 0, .int .i64 0, .int .i64 0] 27⟩, ⟨.blk b, .cells [.int .i64 (1970 + n / 366 + k), .int .i64 1, .int .i64 0] 27⟩])
        (fun k => beginsI (1970 + n / 366 + k) ≤ n) (fun k => 300 - k) 0 (by kernel_rfl) (fun J => by kernel_rfl) ?_ rfl ?_ ?_ ?_
      · show beginsI (1970 + n / 366 + ((0 : Nat) : Int)) ≤ n
        unfold beginsI leapsI; omega
      · simp [liveOk, nth, den]
      · intro w hw; simpa using hw
      · intro k hk u
        have hk2 : (1970 + n / 366 + k) ≤ 2200 := by
          unfold beginsI leapsI at hk; omega
        generalize hy : 1970 + n / 366 + (k : Int) = y at *
        simp only [List.nil_append, List.cons_append]
        refine G_run (Cs := civ3) (kc := true) (ss := []) civ3_ok hm 400 ?_
        rw [date_loop1]
        have e3 : IntKind.i64.wrap (y + 1) = y + 1 := IntWalk.i64_in _ (by omega)
        rw [e3]
        refine ⟨rfl, rfl, ⟨by omega, by omega⟩, ?_⟩
        cases hlt : decide (n ≥ beginsI (y + 1)) with
        | true =>
          simp only [decide_eq_true_eq] at hlt
          refine ⟨rfl, ⟨rfl, rfl, rfl, by decide⟩, G_back (k + 1) ?_ ?_ rfl ?_ ?_⟩
          · have : 1970 + n / 366 + ((k + 1 : Nat) : Int) = y + 1 := by push_cast; omega
            rw [this]; exact hlt
          · show 300 - (k + 1) < 300 - k; omega
          · simp [liveOk, nth, den]
          · intro w hw
            have : 1970 + n / 366 + ((k + 1 : Nat) : Int) = y + 1 := by push_cast; omega
            rw [this]; exact hw
        | false =>
          simp only [decide_eq_false_iff_not, Int.not_le, ge_iff_le] at hlt
          refine ⟨rfl, rfl, ⟨by omega, by omega⟩, ?_⟩
          have hb := beginsI_le (y := y) (by omega) (by omega)
          rw [begins_next (by omega) hk2] at hlt
          have e4 : IntKind.i64.wrap (n - beginsI y) = n - beginsI y := IntWalk.i64_in _ (by omega)
          rw [e4]
          refine G_loopAt (ι := Nat) [] (bodyOf Try.f29) [1, 1, 1, 1, 1, 0, 0] 54 (fun j => [(0, .int .i64 (n - beginsI y - cumI y j)), (2, .ptr 0 a 0), (3, .int .i64 0), (4, .ptr 1 b 0)])
            (fun j => [⟨.blk a, .cells [.int .i64 0, .int .i64 0, .int .i64 0] 27⟩, ⟨.blk b, .cells [.int .i64 y, .int .i64 (j + 1), .int .i64 0] 27⟩])
            (fun j => cumI y j ≤ n - beginsI y ∧ j ≤ 11) (fun j => 12 - j) 0 (by kernel_rfl) (fun J => by kernel_rfl) ⟨by simp only [cumI]; omega, by decide⟩ rfl ?_ ?_ ?_
          · simp [liveOk, nth, den, cumI]
          · intro w hw; simpa using hw
          · rintro j ⟨hj, hj2⟩ u
            simp only [List.nil_append, List.cons_append]
            refine G_run (Cs := civ3) (kc := true) (ss := []) civ3_ok hm 400 ?_
            rw [date_loop2]
            have hc := cumI_le y j
            have hl := lenI_le y ((j : Int) + 1)
            have e5 : IntKind.i64.wrap (n - beginsI y - cumI y j - lenI y ((j : Int) + 1)) = n - beginsI y - cumI y j - lenI y ((j : Int) + 1) := IntWalk.i64_in _ (by omega)
            have e6 : IntKind.i64.wrap ((j : Int) + 1 + 1) = (j : Int) + 1 + 1 := IntWalk.i64_in _ (by omega)
            have e7 : IntKind.i64.wrap (n - beginsI y - cumI y j + 1) = n - beginsI y - cumI y j + 1 := IntWalk.i64_in _ (by omega)
            rw [e5, e6, e7]
            refine ⟨rfl, rfl, rfl, ?_⟩
            cases hlt2 : decide (n - beginsI y - cumI y j ≥ lenI y ((j : Int) + 1)) with
            | true =>
              simp only [decide_eq_true_eq] at hlt2
              have hstep : cumI y (j + 1) = cumI y j + lenI y ((j : Int) + 1) := rfl
              have hj3 : j + 1 ≤ 11 := by
                rcases Nat.lt_or_ge j 11 with h3 | h3
                · omega
                · have : j = 11 := by omega
                  subst this
                  have : cumI y 12 = cumI y 11 + lenI y ((11 : Nat) + 1) := rfl
                  omega
              refine ⟨rfl, rfl, rfl, rfl, ⟨rfl, rfl, rfl, by decide⟩, G_back (j + 1) ⟨by rw [hstep]; omega, hj3⟩ ?_ rfl ?_ ?_⟩
              · show 12 - (j + 1) < 12 - j; omega
              · have : n - beginsI y - cumI y (j + 1) = n - beginsI y - cumI y j - lenI y ((j : Int) + 1) := by rw [hstep]; omega
                simp [liveOk, nth, den, this]
              · intro w hw; simpa using hw
            | false =>
              simp only [decide_eq_false_iff_not, Int.not_le, ge_iff_le] at hlt2
              refine ⟨⟨rfl, rfl, rfl, by decide⟩, ⟨rfl, rfl⟩, ⟨rfl, rfl, rfl, by decide⟩, ⟨rfl, rfl⟩, y, (j : Int) + 1, n - beginsI y - cumI y j + 1, ?_, rfl⟩
              refine ⟨by omega, hk2, by omega, by omega, by omega, by omega, ?_⟩
              have : ((j : Int) + 1 - 1).toNat = j := by omega
              simp only [daysI, this]; omega
  · exact h.elim

theorem civ4_ok : AllOk Try.prog civ4 := ⟨days_ok, date_ok, civ3_ok⟩
end Go.Proofs.Ytjnkfgigpapeaaa
