-- PRINTED BY print.sh 35421559b90ae4d0a3588c463048766b98c2df88dd9212a6774a882060cdf62d: not written by this session
import Derived.Test.YtjnkfgigpapeaaaPCivilYearsx0
import Derived.Test.YtjnkfgigpapeaaaPCivilYearsx1
namespace Go.Proofs.Ytjnkfgigpapeaaa.PCivilYears
open Go.RowKit Go.Proofs.YtjnkfgigpapeaaaW.PrintWords Go.Proofs.YtjnkfgigpapeaaaW.PrintLast Go.Proofs.YtjnkfgigpapeaaaW.PrintMore
attribute [local go_sem] max2_int min2_int max_two min_two max_three min_three max_four min_four   -- for this text's walks alone
set_option linter.unusedVariables false
set_option linter.unusedSimpArgs false

/-! ### reveillelaw2_CivilYears: function 3 -/
def reveillelaw2_CivilYears.j0 : Nat → Int → Bool → Option (Bool)
  | 0, _, _ => none
  | k + 1, x0, x17 => if x17 = true then ((civil_Days.f k x0 1 1).bind fun bt117 => (some ((bt117.2 == 0) == (x0 == 2200)))) else ((civil_Days.f k x0 1 1).bind fun bt119 => ((civil_Days.f k (wrap64 (x0 + 1)) 1 1).bind fun bt121 => (if (Int.tmod x0 4) = 0 then (if (Int.tmod x0 100) = 0 then (if bt119.2 = 0 then (if bt121.2 = 0 then ((reveillelaw2_days.f ((Int.tmod x0 400) == 0)).bind fun t123 => (if (wrap64 (bt121.1 - bt119.1)) = t123 then ((civil_Is.f k x0 2 29).bind fun t124 => (some (t124 == ((Int.tmod x0 400) == 0)))) else (some false))) else (some false)) else (some false)) else (if bt119.2 = 0 then (if bt121.2 = 0 then ((reveillelaw2_days.f true).bind fun t125 => (if (wrap64 (bt121.1 - bt119.1)) = t125 then ((civil_Is.f k x0 2 29).bind fun t126 => (some (t126 == true))) else (some false))) else (some false)) else (some false))) else (if bt119.2 = 0 then (if bt121.2 = 0 then ((reveillelaw2_days.f false).bind fun t127 => (if (wrap64 (bt121.1 - bt119.1)) = t127 then ((civil_Is.f k x0 2 29).bind fun t128 => (some (t128 == false))) else (some false))) else (some false)) else (some false)))))
def reveillelaw2_CivilYears.f (k : Nat) (a0 : Int) : Option (Bool) := (reveillelaw2_known.f k).bind fun t116 => (if t116 = true then (if a0 < 1970 then (reveillelaw2_CivilYears.j0 k a0 true) else (reveillelaw2_CivilYears.j0 k a0 (decide (a0 ≥ 2200)))) else (some false))
theorem reveillelaw2_CivilYears.mono_l : ∀ k, (∀ y0 y1, LeO (reveillelaw2_CivilYears.j0 k y0 y1) (reveillelaw2_CivilYears.j0 (k + 1) y0 y1))
  | 0 => fun _ _ r h => by simp [reveillelaw2_CivilYears.j0] at h
  | k + 1 => by
    have ih0 := reveillelaw2_CivilYears.mono_l k
    · intro y0 y1
      unfold reveillelaw2_CivilYears.j0
      repeat' first
      | (with_reducible exact ih0 _ _)
      | (with_reducible exact civil_Days.mono _ _ _ _)
      | (with_reducible exact civil_Is.mono _ _ _ _)
      | (with_reducible exact reveillelaw2_known.mono _)
      | (with_reducible exact LeO.refl _)
      | (with_reducible exact LeO.none _)
      | (with_reducible refine LeO.ite ?_ ?_)
      | (with_reducible refine LeO.bind ?_ (fun _ => ?_))
      | exact ih0 _ _
      | exact civil_Days.mono _ _ _ _
      | exact civil_Is.mono _ _ _ _
      | exact reveillelaw2_known.mono _
      | exact LeO.none _
      | refine LeO.ite ?_ ?_
      | refine LeO.bind ?_ (fun _ => ?_)
theorem reveillelaw2_CivilYears.mono : ∀ a0 k, LeO (reveillelaw2_CivilYears.f k a0) (reveillelaw2_CivilYears.f (k + 1) a0) := by
  intro a0 k
  have ih0 := reveillelaw2_CivilYears.mono_l k
  unfold reveillelaw2_CivilYears.f
  repeat' first
      | (with_reducible exact ih0 _ _)
      | (with_reducible exact civil_Days.mono _ _ _ _)
      | (with_reducible exact civil_Is.mono _ _ _ _)
      | (with_reducible exact reveillelaw2_known.mono _)
      | (with_reducible exact LeO.refl _)
      | (with_reducible exact LeO.none _)
      | (with_reducible refine LeO.ite ?_ ?_)
      | (with_reducible refine LeO.bind ?_ (fun _ => ?_))
      | exact ih0 _ _
      | exact civil_Days.mono _ _ _ _
      | exact civil_Is.mono _ _ _ _
      | exact reveillelaw2_known.mono _
      | exact LeO.none _
      | refine LeO.ite ?_ ?_
      | refine LeO.bind ?_ (fun _ => ?_)
set_option maxHeartbeats 8000000 in
set_option maxRecDepth 100000 in
theorem reveillelaw2_CivilYears.calls (k : Nat) (a0 : Int) (r : Bool) (w : World) (h : reveillelaw2_CivilYears.f k a0 = some r) :
    Calls Try.prog 3 #[.int .i64 a0] w fun e w' => e = .returned (.bool r) ∧ Below w.heap.size w w' := by
  have hu27 := Try.underlying27
  have HB := Aside0.mk (Below.refl w.heap.size w)
  have H : ((reveillelaw2_known.f k).bind fun t116 => (if t116 = true then (if a0 < 1970 then (reveillelaw2_CivilYears.j0 k a0 true) else (reveillelaw2_CivilYears.j0 k a0 (decide (a0 ≥ 2200)))) else (some false))) = some r := h
  clear h
  replace H := Option.bind_eq_some_iff.mp H
  obtain ⟨t116, A20, H⟩ := H
  replace H : (if t116 = true then (if a0 < 1970 then (reveillelaw2_CivilYears.j0 k a0 true) else (reveillelaw2_CivilYears.j0 k a0 (decide (a0 ≥ 2200)))) else (some false)) = some r := H
  have A2 := Aside0.mk A20
  clear A20
  by_cases c3 : t116 = true
  · subst c3
    have H1 : (if a0 < 1970 then (reveillelaw2_CivilYears.j0 k a0 true) else (reveillelaw2_CivilYears.j0 k a0 (decide (a0 ≥ 2200)))) = some r := by rw [if_pos rfl] at H; exact H
    clear H
    have H := H1
    clear H1
    have HC4 := Aside0.mk H
    clear H
    go_enter Try.func3, Try.ntmps3
    go_upto_region 3 with (first | ((with_reducible refine gate_callee (f := 14) rfl ?_); refine goesL_ (some 10) rfl rfl Try.func14 (by kernel_rfl) rfl #[] rfl (by (try simp only [List.map_toArray, List.map_cons, List.map_nil]); first | done | rfl | (simp only [List.length_drop, List.length_take]; rfl)) ?_; (with_reducible refine (reveillelaw2_known.calls k  true _ A2.out).mono ?_); rintro e w5 ⟨rfl, hb⟩; refine ⟨_, rfl, ?_⟩; have n0_ := Aside0.mk (below_step (by repeat (first | (with_reducible first | exact HB.out | apply below_alloc | apply pw_below_drewN | apply below_drew1) | exact HB.out)) hb); clear HB; have HB := n0_; clear n0_; (try clear hb); (try clear hb2); (try clear hk); (try clear hi)))
    (try simp only [Act.put, List.setIfInBounds_toArray, List.set_cons_zero, List.set_cons_succ])
    go_cut [17] (fun v17 wc => ∃ (kq : Nat) (x17_3 : Bool), v17 = .bool x17_3 ∧ Aside0 (reveillelaw2_CivilYears.j0 kq a0 x17_3 = some r) ∧ Aside0 (kq ≤ k) ∧ Aside0 (Below w.heap.size w wc))
    case first =>
      have H := HC4.out
      clear HC4
      by_cases c6 : a0 < 1970
      · rw [if_pos c6] at H
        have c6b0 : decide (a0 < 1970) = true := decide_eq_true c6
        clear c6
        (first | rw [c6b0] | (simp only [i64_w, i32_w]; rw [c6b0]) | skip)
        have H' := Aside0.mk H
        clear H
        go_wp2
        go_meet
        case rel => exact ⟨_, (true), (by first | rfl | (simp; done) | (simp [*]; done)), H', ⟨by first | omega | exact Nat.le_refl _⟩, ⟨by repeat (first | (with_reducible first | exact HB.out | apply below_alloc | apply pw_below_drewN | apply below_drew1) | exact HB.out)⟩⟩
      · rw [if_neg c6] at H
        have c6b0 : decide (a0 < 1970) = false := decide_eq_false c6
        clear c6
        (first | rw [c6b0] | (simp only [i64_w, i32_w]; rw [c6b0]) | skip)
        have H' := Aside0.mk H
        clear H
        go_wp2
        go_meet
        case rel => exact ⟨_, (decide (a0 ≥ 2200)), (by first | rfl | (simp; done) | (simp [*]; done)), H', ⟨by first | omega | exact Nat.le_refl _⟩, ⟨by repeat (first | (with_reducible first | exact HB.out | apply below_alloc | apply pw_below_drewN | apply below_drew1) | exact HB.out)⟩⟩
    case rest =>
      clear HC4
      try clear c1
      try clear p2
      try clear c3
      try clear c6
      try clear c6b0
      obtain ⟨kq, x17_3, rfl, HA, HJ3, HB⟩ := hcut
      cases kq with
      | zero => exact absurd HA.out (by simp [reveillelaw2_CivilYears.j0])
      | succ kj3 =>
        have H := HA.out
        clear HA
        simp only [reveillelaw2_CivilYears.j0] at H
        by_cases c7 : x17_3 = true
        · subst c7
          have H1 : ((civil_Days.f kj3 a0 1 1).bind fun bt117 => (some ((bt117.2 == 0) == (a0 == 2200)))) = some r := by rw [if_pos rfl] at H; exact H
          clear H
          have H := H1
          clear H1
          replace H := Option.bind_eq_some_iff.mp H
          obtain ⟨⟨t117, t118⟩, A80, H⟩ := H
          replace H : (some ((t118 == 0) == (a0 == 2200))) = some r := H
          have A8 := Aside0.mk A80
          clear A80
          obtain rfl := Option.some.inj H
          go_wp2_with (first | ((with_reducible refine gate_callee (f := 15) rfl ?_); refine goesL_ (some 21) rfl rfl Try.func15 (by kernel_rfl) rfl #[.agg #[.int .i64 a0, .int .i64 1, .int .i64 1]] rfl (by (try simp only [List.map_toArray, List.map_cons, List.map_nil]); first | done | rfl | (simp only [List.length_drop, List.length_take]; rfl)) ?_; (with_reducible refine (civil_Days.calls kj3 a0 1 1 t117 t118 _ A8.out).mono ?_); rintro e w9 ⟨rfl, hb⟩; refine ⟨_, rfl, ?_⟩; have n0_ := Aside0.mk (below_step (by repeat (first | (with_reducible first | exact HB.out | apply below_alloc | apply pw_below_drewN | apply below_drew1) | exact HB.out)) hb); clear HB; have HB := n0_; clear n0_; (try clear hb); (try clear hb2); (try clear hk); (try clear hi)))
          go_ret
          exact ⟨by first | rfl | (simp [errW_none, errW_some] <;> rfl) | (simp [*, errW_none, errW_some] <;> rfl), by repeat (first | (with_reducible first | exact HB.out | apply below_alloc | apply pw_below_drewN | apply below_drew1) | exact HB.out)⟩
        · replace c7 := Bool.eq_false_iff.mpr c7
          subst c7
          have H1 : ((civil_Days.f kj3 a0 1 1).bind fun bt119 => ((civil_Days.f kj3 (wrap64 (a0 + 1)) 1 1).bind fun bt121 => (if (Int.tmod a0 4) = 0 then (if (Int.tmod a0 100) = 0 then (if bt119.2 = 0 then (if bt121.2 = 0 then ((reveillelaw2_days.f ((Int.tmod a0 400) == 0)).bind fun t123 => (if (wrap64 (bt121.1 - bt119.1)) = t123 then ((civil_Is.f kj3 a0 2 29).bind fun t124 => (some (t124 == ((Int.tmod a0 400) == 0)))) else (some false))) else (some false)) else (some false)) else (if bt119.2 = 0 then (if bt121.2 = 0 then ((reveillelaw2_days.f true).bind fun t125 => (if (wrap64 (bt121.1 - bt119.1)) = t125 then ((civil_Is.f kj3 a0 2 29).bind fun t126 => (some (t126 == true))) else (some false))) else (some false)) else (some false))) else (if bt119.2 = 0 then (if bt121.2 = 0 then ((reveillelaw2_days.f false).bind fun t127 => (if (wrap64 (bt121.1 - bt119.1)) = t127 then ((civil_Is.f kj3 a0 2 29).bind fun t128 => (some (t128 == false))) else (some false))) else (some false)) else (some false))))) = some r := by rw [if_neg (show ¬ (false = true) by decide)] at H; exact H
          clear H
          have H := H1
          clear H1
          replace H := Option.bind_eq_some_iff.mp H
          obtain ⟨⟨t119, t120⟩, A100, H⟩ := H
          replace H : ((civil_Days.f kj3 (wrap64 (a0 + 1)) 1 1).bind fun bt121 => (if (Int.tmod a0 4) = 0 then (if (Int.tmod a0 100) = 0 then (if t120 = 0 then (if bt121.2 = 0 then ((reveillelaw2_days.f ((Int.tmod a0 400) == 0)).bind fun t123 => (if (wrap64 (bt121.1 - t119)) = t123 then ((civil_Is.f kj3 a0 2 29).bind fun t124 => (some (t124 == ((Int.tmod a0 400) == 0)))) else (some false))) else (some false)) else (some false)) else (if t120 = 0 then (if bt121.2 = 0 then ((reveillelaw2_days.f true).bind fun t125 => (if (wrap64 (bt121.1 - t119)) = t125 then ((civil_Is.f kj3 a0 2 29).bind fun t126 => (some (t126 == true))) else (some false))) else (some false)) else (some false))) else (if t120 = 0 then (if bt121.2 = 0 then ((reveillelaw2_days.f false).bind fun t127 => (if (wrap64 (bt121.1 - t119)) = t127 then ((civil_Is.f kj3 a0 2 29).bind fun t128 => (some (t128 == false))) else (some false))) else (some false)) else (some false)))) = some r := H
          have A10 := Aside0.mk A100
          clear A100
          replace H := Option.bind_eq_some_iff.mp H
          obtain ⟨⟨t121, t122⟩, A110, H⟩ := H
          replace H : (if (Int.tmod a0 4) = 0 then (if (Int.tmod a0 100) = 0 then (if t120 = 0 then (if t122 = 0 then ((reveillelaw2_days.f ((Int.tmod a0 400) == 0)).bind fun t123 => (if (wrap64 (t121 - t119)) = t123 then ((civil_Is.f kj3 a0 2 29).bind fun t124 => (some (t124 == ((Int.tmod a0 400) == 0)))) else (some false))) else (some false)) else (some false)) else (if t120 = 0 then (if t122 = 0 then ((reveillelaw2_days.f true).bind fun t125 => (if (wrap64 (t121 - t119)) = t125 then ((civil_Is.f kj3 a0 2 29).bind fun t126 => (some (t126 == true))) else (some false))) else (some false)) else (some false))) else (if t120 = 0 then (if t122 = 0 then ((reveillelaw2_days.f false).bind fun t127 => (if (wrap64 (t121 - t119)) = t127 then ((civil_Is.f kj3 a0 2 29).bind fun t128 => (some (t128 == false))) else (some false))) else (some false)) else (some false))) = some r := H
          have A11 := Aside0.mk A110
          clear A110
          by_cases c12 : (Int.tmod a0 4) = 0
          · rw [if_pos c12] at H
            have c12b0 : ((Int.tmod a0 4) == 0) = true := beq_iff_eq.mpr c12
            have c12b1 : ((Int.tmod a0 4) != 0) = false := bne_eq_false_iff_eq.mpr c12
            clear c12
            by_cases c13 : (Int.tmod a0 100) = 0
            · rw [if_pos c13] at H
              have c13b0 : ((Int.tmod a0 100) == 0) = true := beq_iff_eq.mpr c13
              have c13b1 : ((Int.tmod a0 100) != 0) = false := bne_eq_false_iff_eq.mpr c13
              clear c13
              by_cases c14 : t120 = 0
              · rw [if_pos c14] at H
                have c14b0 : (t120 == 0) = true := beq_iff_eq.mpr c14
                have c14b1 : (t120 != 0) = false := bne_eq_false_iff_eq.mpr c14
                clear c14
                by_cases c15 : t122 = 0
                · rw [if_pos c15] at H
                  have c15b0 : (t122 == 0) = true := beq_iff_eq.mpr c15
                  have c15b1 : (t122 != 0) = false := bne_eq_false_iff_eq.mpr c15
                  clear c15
                  replace H := Option.bind_eq_some_iff.mp H
                  obtain ⟨t123, A160, H⟩ := H
                  replace H : (if (wrap64 (t121 - t119)) = t123 then ((civil_Is.f kj3 a0 2 29).bind fun t124 => (some (t124 == ((Int.tmod a0 400) == 0)))) else (some false)) = some r := H
                  have A16 := Aside0.mk A160
                  clear A160
                  by_cases c17 : (wrap64 (t121 - t119)) = t123
                  · rw [if_pos c17] at H
                    have c17b0 : ((wrap64 (t121 - t119)) == t123) = true := beq_iff_eq.mpr c17
                    have c17b1 : ((wrap64 (t121 - t119)) != t123) = false := bne_eq_false_iff_eq.mpr c17
                    clear c17
                    replace H := Option.bind_eq_some_iff.mp H
                    obtain ⟨t124, A180, H⟩ := H
                    replace H : (some (t124 == ((Int.tmod a0 400) == 0))) = some r := H
                    have A18 := Aside0.mk A180
                    clear A180
                    obtain rfl := Option.some.inj H
                    go_wp2_with (first | ((with_reducible refine gate_callee (f := 15) rfl ?_); refine goesL_ (some 32) rfl rfl Try.func15 (by kernel_rfl) rfl #[.agg #[.int .i64 a0, .int .i64 1, .int .i64 1]] rfl (by (try simp only [List.map_toArray, List.map_cons, List.map_nil]); first | done | rfl | (simp only [List.length_drop, List.length_take]; rfl)) ?_; (with_reducible refine (civil_Days.calls kj3 a0 1 1 t119 t120 _ A10.out).mono ?_); rintro e w19 ⟨rfl, hb⟩; refine ⟨_, rfl, ?_⟩; have n0_ := Aside0.mk (below_step (by repeat (first | (with_reducible first | exact HB.out | apply below_alloc | apply pw_below_drewN | apply below_drew1) | exact HB.out)) hb); clear HB; have HB := n0_; clear n0_; (try clear hb); (try clear hb2); (try clear hk); (try clear hi)) | ((with_reducible refine gate_callee (f := 15) rfl ?_); refine goesL_ (some 39) rfl rfl Try.func15 (by kernel_rfl) rfl #[.agg #[.int .i64 (wrap64 (a0 + 1)), .int .i64 1, .int .i64 1]] rfl (by (try simp only [List.map_toArray, List.map_cons, List.map_nil]); first | done | rfl | (simp only [List.length_drop, List.length_take]; rfl)) ?_; (with_reducible refine (civil_Days.calls kj3 (wrap64 (a0 + 1)) 1 1 t121 t122 _ A11.out).mono ?_); rintro e w20 ⟨rfl, hb⟩; refine ⟨_, rfl, ?_⟩; have n0_ := Aside0.mk (below_step (by repeat (first | (with_reducible first | exact HB.out | apply below_alloc | apply pw_below_drewN | apply below_drew1) | exact HB.out)) hb); clear HB; have HB := n0_; clear n0_; (try clear hb); (try clear hb2); (try clear hk); (try clear hi)) | (go_at_call 16; (with_reducible refine (reveillelaw2_days.calls ((Int.tmod a0 400) == 0) t123 _ A16.out).mono ?_); rintro e w' ⟨rfl, ⟨nd, rfl⟩⟩) | (go_at_call 17; (with_reducible refine (civil_Is.calls kj3 a0 2 29 t124 _ A18.out).mono ?_); rintro e w21 ⟨rfl, hb⟩; have n0_ := Aside0.mk (below_step (by repeat (first | (with_reducible first | exact HB.out | apply below_alloc | apply pw_below_drewN | apply below_drew1) | exact HB.out)) hb); clear HB; have HB := n0_; clear n0_; (try clear hb); (try clear hb2); (try clear hk); (try clear hi)))
                    go_ret
                    exact ⟨by first | rfl | (simp [errW_none, errW_some] <;> rfl) | (simp [*, errW_none, errW_some] <;> rfl), by repeat (first | (with_reducible first | exact HB.out | apply below_alloc | apply pw_below_drewN | apply below_drew1) | exact HB.out)⟩
                  · rw [if_neg c17] at H
                    have c17b0 : ((wrap64 (t121 - t119)) == t123) = false := beq_eq_false_iff_ne.mpr c17
                    have c17b1 : ((wrap64 (t121 - t119)) != t123) = true := bne_iff_ne.mpr c17
                    obtain rfl := Option.some.inj H
                    go_wp2_with (first | ((with_reducible refine gate_callee (f := 15) rfl ?_); refine goesL_ (some 32) rfl rfl Try.func15 (by kernel_rfl) rfl #[.agg #[.int .i64 a0, .int .i64 1, .int .i64 1]] rfl (by (try simp only [List.map_toArray, List.map_cons, List.map_nil]); first | done | rfl | (simp only [List.length_drop, List.length_take]; rfl)) ?_; (with_reducible refine (civil_Days.calls kj3 a0 1 1 t119 t120 _ A10.out).mono ?_); rintro e w22 ⟨rfl, hb⟩; refine ⟨_, rfl, ?_⟩; have n0_ := Aside0.mk (below_step (by repeat (first | (with_reducible first | exact HB.out | apply below_alloc | apply pw_below_drewN | apply below_drew1) | exact HB.out)) hb); clear HB; have HB := n0_; clear n0_; (try clear hb); (try clear hb2); (try clear hk); (try clear hi)) | ((with_reducible refine gate_callee (f := 15) rfl ?_); refine goesL_ (some 39) rfl rfl Try.func15 (by kernel_rfl) rfl #[.agg #[.int .i64 (wrap64 (a0 + 1)), .int .i64 1, .int .i64 1]] rfl (by (try simp only [List.map_toArray, List.map_cons, List.map_nil]); first | done | rfl | (simp only [List.length_drop, List.length_take]; rfl)) ?_; (with_reducible refine (civil_Days.calls kj3 (wrap64 (a0 + 1)) 1 1 t121 t122 _ A11.out).mono ?_); rintro e w23 ⟨rfl, hb⟩; refine ⟨_, rfl, ?_⟩; have n0_ := Aside0.mk (below_step (by repeat (first | (with_reducible first | exact HB.out | apply below_alloc | apply pw_below_drewN | apply below_drew1) | exact HB.out)) hb); clear HB; have HB := n0_; clear n0_; (try clear hb); (try clear hb2); (try clear hk); (try clear hi)) | (go_at_call 16; (with_reducible refine (reveillelaw2_days.calls ((Int.tmod a0 400) == 0) t123 _ A16.out).mono ?_); rintro e w' ⟨rfl, ⟨nd, rfl⟩⟩))
                    go_ret
                    exact ⟨by first | rfl | (simp [errW_none, errW_some] <;> rfl) | (simp [*, errW_none, errW_some] <;> rfl), by repeat (first | (with_reducible first | exact HB.out | apply below_alloc | apply pw_below_drewN | apply below_drew1) | exact HB.out)⟩
                · rw [if_neg c15] at H
                  have c15b0 : (t122 == 0) = false := beq_eq_false_iff_ne.mpr c15
                  have c15b1 : (t122 != 0) = true := bne_iff_ne.mpr c15
                  obtain rfl := Option.some.inj H
                  go_wp2_with (first | ((with_reducible refine gate_callee (f := 15) rfl ?_); refine goesL_ (some 32) rfl rfl Try.func15 (by kernel_rfl) rfl #[.agg #[.int .i64 a0, .int .i64 1, .int .i64 1]] rfl (by (try simp only [List.map_toArray, List.map_cons, List.map_nil]); first | done | rfl | (simp only [List.length_drop, List.length_take]; rfl)) ?_; (with_reducible refine (civil_Days.calls kj3 a0 1 1 t119 t120 _ A10.out).mono ?_); rintro e w24 ⟨rfl, hb⟩; refine ⟨_, rfl, ?_⟩; have n0_ := Aside0.mk (below_step (by repeat (first | (with_reducible first | exact HB.out | apply below_alloc | apply pw_below_drewN | apply below_drew1) | exact HB.out)) hb); clear HB; have HB := n0_; clear n0_; (try clear hb); (try clear hb2); (try clear hk); (try clear hi)) | ((with_reducible refine gate_callee (f := 15) rfl ?_); refine goesL_ (some 39) rfl rfl Try.func15 (by kernel_rfl) rfl #[.agg #[.int .i64 (wrap64 (a0 + 1)), .int .i64 1, .int .i64 1]] rfl (by (try simp only [List.map_toArray, List.map_cons, List.map_nil]); first | done | rfl | (simp only [List.length_drop, List.length_take]; rfl)) ?_; (with_reducible refine (civil_Days.calls kj3 (wrap64 (a0 + 1)) 1 1 t121 t122 _ A11.out).mono ?_); rintro e w25 ⟨rfl, hb⟩; refine ⟨_, rfl, ?_⟩; have n0_ := Aside0.mk (below_step (by repeat (first | (with_reducible first | exact HB.out | apply below_alloc | apply pw_below_drewN | apply below_drew1) | exact HB.out)) hb); clear HB; have HB := n0_; clear n0_; (try clear hb); (try clear hb2); (try clear hk); (try clear hi)))
                  go_ret
                  exact ⟨by first | rfl | (simp [errW_none, errW_some] <;> rfl) | (simp [*, errW_none, errW_some] <;> rfl), by repeat (first | (with_reducible first | exact HB.out | apply below_alloc | apply pw_below_drewN | apply below_drew1) | exact HB.out)⟩
              · rw [if_neg c14] at H
                have c14b0 : (t120 == 0) = false := beq_eq_false_iff_ne.mpr c14
                have c14b1 : (t120 != 0) = true := bne_iff_ne.mpr c14
                obtain rfl := Option.some.inj H
                go_wp2_with (first | ((with_reducible refine gate_callee (f := 15) rfl ?_); refine goesL_ (some 32) rfl rfl Try.func15 (by kernel_rfl) rfl #[.agg #[.int .i64 a0, .int .i64 1, .int .i64 1]] rfl (by (try simp only [List.map_toArray, List.map_cons, List.map_nil]); first | done | rfl | (simp only [List.length_drop, List.length_take]; rfl)) ?_; (with_reducible refine (civil_Days.calls kj3 a0 1 1 t119 t120 _ A10.out).mono ?_); rintro e w26 ⟨rfl, hb⟩; refine ⟨_, rfl, ?_⟩; have n0_ := Aside0.mk (below_step (by repeat (first | (with_reducible first | exact HB.out | apply below_alloc | apply pw_below_drewN | apply below_drew1) | exact HB.out)) hb); clear HB; have HB := n0_; clear n0_; (try clear hb); (try clear hb2); (try clear hk); (try clear hi)) | ((with_reducible refine gate_callee (f := 15) rfl ?_); refine goesL_ (some 39) rfl rfl Try.func15 (by kernel_rfl) rfl #[.agg #[.int .i64 (wrap64 (a0 + 1)), .int .i64 1, .int .i64 1]] rfl (by (try simp only [List.map_toArray, List.map_cons, List.map_nil]); first | done | rfl | (simp only [List.length_drop, List.length_take]; rfl)) ?_; (with_reducible refine (civil_Days.calls kj3 (wrap64 (a0 + 1)) 1 1 t121 t122 _ A11.out).mono ?_); rintro e w27 ⟨rfl, hb⟩; refine ⟨_, rfl, ?_⟩; have n0_ := Aside0.mk (below_step (by repeat (first | (with_reducible first | exact HB.out | apply below_alloc | apply pw_below_drewN | apply below_drew1) | exact HB.out)) hb); clear HB; have HB := n0_; clear n0_; (try clear hb); (try clear hb2); (try clear hk); (try clear hi)))
                go_ret
                exact ⟨by first | rfl | (simp [errW_none, errW_some] <;> rfl) | (simp [*, errW_none, errW_some] <;> rfl), by repeat (first | (with_reducible first | exact HB.out | apply below_alloc | apply pw_below_drewN | apply below_drew1) | exact HB.out)⟩
            · rw [if_neg c13] at H
              have c13b0 : ((Int.tmod a0 100) == 0) = false := beq_eq_false_iff_ne.mpr c13
              have c13b1 : ((Int.tmod a0 100) != 0) = true := bne_iff_ne.mpr c13
              by_cases c28 : t120 = 0
              · rw [if_pos c28] at H
                have c28b0 : (t120 == 0) = true := beq_iff_eq.mpr c28
                have c28b1 : (t120 != 0) = false := bne_eq_false_iff_eq.mpr c28
                clear c28
                by_cases c29 : t122 = 0
                · rw [if_pos c29] at H
                  have c29b0 : (t122 == 0) = true := beq_iff_eq.mpr c29
                  have c29b1 : (t122 != 0) = false := bne_eq_false_iff_eq.mpr c29
                  clear c29
                  replace H := Option.bind_eq_some_iff.mp H
                  obtain ⟨t125, A300, H⟩ := H
                  replace H : (if (wrap64 (t121 - t119)) = t125 then ((civil_Is.f kj3 a0 2 29).bind fun t126 => (some (t126 == true))) else (some false)) = some r := H
                  have A30 := Aside0.mk A300
                  clear A300
                  by_cases c31 : (wrap64 (t121 - t119)) = t125
                  · rw [if_pos c31] at H
                    have c31b0 : ((wrap64 (t121 - t119)) == t125) = true := beq_iff_eq.mpr c31
                    have c31b1 : ((wrap64 (t121 - t119)) != t125) = false := bne_eq_false_iff_eq.mpr c31
                    clear c31
                    replace H := Option.bind_eq_some_iff.mp H
                    obtain ⟨t126, A320, H⟩ := H
                    replace H : (some (t126 == true)) = some r := H
                    have A32 := Aside0.mk A320
                    clear A320
                    obtain rfl := Option.some.inj H
                    go_wp2_with (first | ((with_reducible refine gate_callee (f := 15) rfl ?_); refine goesL_ (some 32) rfl rfl Try.func15 (by kernel_rfl) rfl #[.agg #[.int .i64 a0, .int .i64 1, .int .i64 1]] rfl (by (try simp only [List.map_toArray, List.map_cons, List.map_nil]); first | done | rfl | (simp only [List.length_drop, List.length_take]; rfl)) ?_; (with_reducible refine (civil_Days.calls kj3 a0 1 1 t119 t120 _ A10.out).mono ?_); rintro e w33 ⟨rfl, hb⟩; refine ⟨_, rfl, ?_⟩; have n0_ := Aside0.mk (below_step (by repeat (first | (with_reducible first | exact HB.out | apply below_alloc | apply pw_below_drewN | apply below_drew1) | exact HB.out)) hb); clear HB; have HB := n0_; clear n0_; (try clear hb); (try clear hb2); (try clear hk); (try clear hi)) | ((with_reducible refine gate_callee (f := 15) rfl ?_); refine goesL_ (some 39) rfl rfl Try.func15 (by kernel_rfl) rfl #[.agg #[.int .i64 (wrap64 (a0 + 1)), .int .i64 1, .int .i64 1]] rfl (by (try simp only [List.map_toArray, List.map_cons, List.map_nil]); first | done | rfl | (simp only [List.length_drop, List.length_take]; rfl)) ?_; (with_reducible refine (civil_Days.calls kj3 (wrap64 (a0 + 1)) 1 1 t121 t122 _ A11.out).mono ?_); rintro e w34 ⟨rfl, hb⟩; refine ⟨_, rfl, ?_⟩; have n0_ := Aside0.mk (below_step (by repeat (first | (with_reducible first | exact HB.out | apply below_alloc | apply pw_below_drewN | apply below_drew1) | exact HB.out)) hb); clear HB; have HB := n0_; clear n0_; (try clear hb); (try clear hb2); (try clear hk); (try clear hi)) | (go_at_call 16; (with_reducible refine (reveillelaw2_days.calls true t125 _ A30.out).mono ?_); rintro e w' ⟨rfl, ⟨nd, rfl⟩⟩) | (go_at_call 17; (with_reducible refine (civil_Is.calls kj3 a0 2 29 t126 _ A32.out).mono ?_); rintro e w35 ⟨rfl, hb⟩; have n0_ := Aside0.mk (below_step (by repeat (first | (with_reducible first | exact HB.out | apply below_alloc | apply pw_below_drewN | apply below_drew1) | exact HB.out)) hb); clear HB; have HB := n0_; clear n0_; (try clear hb); (try clear hb2); (try clear hk); (try clear hi)))
                    go_ret
                    exact ⟨by first | rfl | (simp [errW_none, errW_some] <;> rfl) | (simp [*, errW_none, errW_some] <;> rfl), by repeat (first | (with_reducible first | exact HB.out | apply below_alloc | apply pw_below_drewN | apply below_drew1) | exact HB.out)⟩
                  · rw [if_neg c31] at H
                    have c31b0 : ((wrap64 (t121 - t119)) == t125) = false := beq_eq_false_iff_ne.mpr c31
                    have c31b1 : ((wrap64 (t121 - t119)) != t125) = true := bne_iff_ne.mpr c31
                    obtain rfl := Option.some.inj H
                    go_wp2_with (first | ((with_reducible refine gate_callee (f := 15) rfl ?_); refine goesL_ (some 32) rfl rfl Try.func15 (by kernel_rfl) rfl #[.agg #[.int .i64 a0, .int .i64 1, .int .i64 1]] rfl (by (try simp only [List.map_toArray, List.map_cons, List.map_nil]); first | done | rfl | (simp only [List.length_drop, List.length_take]; rfl)) ?_; (with_reducible refine (civil_Days.calls kj3 a0 1 1 t119 t120 _ A10.out).mono ?_); rintro e w36 ⟨rfl, hb⟩; refine ⟨_, rfl, ?_⟩; have n0_ := Aside0.mk (below_step (by repeat (first | (with_reducible first | exact HB.out | apply below_alloc | apply pw_below_drewN | apply below_drew1) | exact HB.out)) hb); clear HB; have HB := n0_; clear n0_; (try clear hb); (try clear hb2); (try clear hk); (try clear hi)) | ((with_reducible refine gate_callee (f := 15) rfl ?_); refine goesL_ (some 39) rfl rfl Try.func15 (by kernel_rfl) rfl #[.agg #[.int .i64 (wrap64 (a0 + 1)), .int .i64 1, .int .i64 1]] rfl (by (try simp only [List.map_toArray, List.map_cons, List.map_nil]); first | done | rfl | (simp only [List.length_drop, List.length_take]; rfl)) ?_; (with_reducible refine (civil_Days.calls kj3 (wrap64 (a0 + 1)) 1 1 t121 t122 _ A11.out).mono ?_); rintro e w37 ⟨rfl, hb⟩; refine ⟨_, rfl, ?_⟩; have n0_ := Aside0.mk (below_step (by repeat (first | (with_reducible first | exact HB.out | apply below_alloc | apply pw_below_drewN | apply below_drew1) | exact HB.out)) hb); clear HB; have HB := n0_; clear n0_; (try clear hb); (try clear hb2); (try clear hk); (try clear hi)) | (go_at_call 16; (with_reducible refine (reveillelaw2_days.calls true t125 _ A30.out).mono ?_); rintro e w' ⟨rfl, ⟨nd, rfl⟩⟩))
                    go_ret
                    exact ⟨by first | rfl | (simp [errW_none, errW_some] <;> rfl) | (simp [*, errW_none, errW_some] <;> rfl), by repeat (first | (with_reducible first | exact HB.out | apply below_alloc | apply pw_below_drewN | apply below_drew1) | exact HB.out)⟩
                · rw [if_neg c29] at H
                  have c29b0 : (t122 == 0) = false := beq_eq_false_iff_ne.mpr c29
                  have c29b1 : (t122 != 0) = true := bne_iff_ne.mpr c29
                  obtain rfl := Option.some.inj H
                  go_wp2_with (first | ((with_reducible refine gate_callee (f := 15) rfl ?_); refine goesL_ (some 32) rfl rfl Try.func15 (by kernel_rfl) rfl #[.agg #[.int .i64 a0, .int .i64 1, .int .i64 1]] rfl (by (try simp only [List.map_toArray, List.map_cons, List.map_nil]); first | done | rfl | (simp only [List.length_drop, List.length_take]; rfl)) ?_; (with_reducible refine (civil_Days.calls kj3 a0 1 1 t119 t120 _ A10.out).mono ?_); rintro e w38 ⟨rfl, hb⟩; refine ⟨_, rfl, ?_⟩; have n0_ := Aside0.mk (below_step (by repeat (first | (with_reducible first | exact HB.out | apply below_alloc | apply pw_below_drewN | apply below_drew1) | exact HB.out)) hb); clear HB; have HB := n0_; clear n0_; (try clear hb); (try clear hb2); (try clear hk); (try clear hi)) | ((with_reducible refine gate_callee (f := 15) rfl ?_); refine goesL_ (some 39) rfl rfl Try.func15 (by kernel_rfl) rfl #[.agg #[.int .i64 (wrap64 (a0 + 1)), .int .i64 1, .int .i64 1]] rfl (by (try simp only [List.map_toArray, List.map_cons, List.map_nil]); first | done | rfl | (simp only [List.length_drop, List.length_take]; rfl)) ?_; (with_reducible refine (civil_Days.calls kj3 (wrap64 (a0 + 1)) 1 1 t121 t122 _ A11.out).mono ?_); rintro e w39 ⟨rfl, hb⟩; refine ⟨_, rfl, ?_⟩; have n0_ := Aside0.mk (below_step (by repeat (first | (with_reducible first | exact HB.out | apply below_alloc | apply pw_below_drewN | apply below_drew1) | exact HB.out)) hb); clear HB; have HB := n0_; clear n0_; (try clear hb); (try clear hb2); (try clear hk); (try clear hi)))
                  go_ret
                  exact ⟨by first | rfl | (simp [errW_none, errW_some] <;> rfl) | (simp [*, errW_none, errW_some] <;> rfl), by repeat (first | (with_reducible first | exact HB.out | apply below_alloc | apply pw_below_drewN | apply below_drew1) | exact HB.out)⟩
              · rw [if_neg c28] at H
                have c28b0 : (t120 == 0) = false := beq_eq_false_iff_ne.mpr c28
                have c28b1 : (t120 != 0) = true := bne_iff_ne.mpr c28
                obtain rfl := Option.some.inj H
                go_wp2_with (first | ((with_reducible refine gate_callee (f := 15) rfl ?_); refine goesL_ (some 32) rfl rfl Try.func15 (by kernel_rfl) rfl #[.agg #[.int .i64 a0, .int .i64 1, .int .i64 1]] rfl (by (try simp only [List.map_toArray, List.map_cons, List.map_nil]); first | done | rfl | (simp only [List.length_drop, List.length_take]; rfl)) ?_; (with_reducible refine (civil_Days.calls kj3 a0 1 1 t119 t120 _ A10.out).mono ?_); rintro e w40 ⟨rfl, hb⟩; refine ⟨_, rfl, ?_⟩; have n0_ := Aside0.mk (below_step (by repeat (first | (with_reducible first | exact HB.out | apply below_alloc | apply pw_below_drewN | apply below_drew1) | exact HB.out)) hb); clear HB; have HB := n0_; clear n0_; (try clear hb); (try clear hb2); (try clear hk); (try clear hi)) | ((with_reducible refine gate_callee (f := 15) rfl ?_); refine goesL_ (some 39) rfl rfl Try.func15 (by kernel_rfl) rfl #[.agg #[.int .i64 (wrap64 (a0 + 1)), .int .i64 1, .int .i64 1]] rfl (by (try simp only [List.map_toArray, List.map_cons, List.map_nil]); first | done | rfl | (simp only [List.length_drop, List.length_take]; rfl)) ?_; (with_reducible refine (civil_Days.calls kj3 (wrap64 (a0 + 1)) 1 1 t121 t122 _ A11.out).mono ?_); rintro e w41 ⟨rfl, hb⟩; refine ⟨_, rfl, ?_⟩; have n0_ := Aside0.mk (below_step (by repeat (first | (with_reducible first | exact HB.out | apply below_alloc | apply pw_below_drewN | apply below_drew1) | exact HB.out)) hb); clear HB; have HB := n0_; clear n0_; (try clear hb); (try clear hb2); (try clear hk); (try clear hi)))
                go_ret
                exact ⟨by first | rfl | (simp [errW_none, errW_some] <;> rfl) | (simp [*, errW_none, errW_some] <;> rfl), by repeat (first | (with_reducible first | exact HB.out | apply below_alloc | apply pw_below_drewN | apply below_drew1) | exact HB.out)⟩
          · rw [if_neg c12] at H
            have c12b0 : ((Int.tmod a0 4) == 0) = false := beq_eq_false_iff_ne.mpr c12
            have c12b1 : ((Int.tmod a0 4) != 0) = true := bne_iff_ne.mpr c12
            by_cases c42 : t120 = 0
            · rw [if_pos c42] at H
              have c42b0 : (t120 == 0) = true := beq_iff_eq.mpr c42
              have c42b1 : (t120 != 0) = false := bne_eq_false_iff_eq.mpr c42
              clear c42
              by_cases c43 : t122 = 0
              · rw [if_pos c43] at H
                have c43b0 : (t122 == 0) = true := beq_iff_eq.mpr c43
                have c43b1 : (t122 != 0) = false := bne_eq_false_iff_eq.mpr c43
                clear c43
                replace H := Option.bind_eq_some_iff.mp H
                obtain ⟨t127, A440, H⟩ := H
                replace H : (if (wrap64 (t121 - t119)) = t127 then ((civil_Is.f kj3 a0 2 29).bind fun t128 => (some (t128 == false))) else (some false)) = some r := H
                have A44 := Aside0.mk A440
                clear A440
                by_cases c45 : (wrap64 (t121 - t119)) = t127
                · rw [if_pos c45] at H
                  have c45b0 : ((wrap64 (t121 - t119)) == t127) = true := beq_iff_eq.mpr c45
                  have c45b1 : ((wrap64 (t121 - t119)) != t127) = false := bne_eq_false_iff_eq.mpr c45
                  clear c45
                  replace H := Option.bind_eq_some_iff.mp H
                  obtain ⟨t128, A460, H⟩ := H
                  replace H : (some (t128 == false)) = some r := H
                  have A46 := Aside0.mk A460
                  clear A460
                  obtain rfl := Option.some.inj H
                  go_wp2_with (first | ((with_reducible refine gate_callee (f := 15) rfl ?_); refine goesL_ (some 32) rfl rfl Try.func15 (by kernel_rfl) rfl #[.agg #[.int .i64 a0, .int .i64 1, .int .i64 1]] rfl (by (try simp only [List.map_toArray, List.map_cons, List.map_nil]); first | done | rfl | (simp only [List.length_drop, List.length_take]; rfl)) ?_; (with_reducible refine (civil_Days.calls kj3 a0 1 1 t119 t120 _ A10.out).mono ?_); rintro e w47 ⟨rfl, hb⟩; refine ⟨_, rfl, ?_⟩; have n0_ := Aside0.mk (below_step (by repeat (first | (with_reducible first | exact HB.out | apply below_alloc | apply pw_below_drewN | apply below_drew1) | exact HB.out)) hb); clear HB; have HB := n0_; clear n0_; (try clear hb); (try clear hb2); (try clear hk); (try clear hi)) | ((with_reducible refine gate_callee (f := 15) rfl ?_); refine goesL_ (some 39) rfl rfl Try.func15 (by kernel_rfl) rfl #[.agg #[.int .i64 (wrap64 (a0 + 1)), .int .i64 1, .int .i64 1]] rfl (by (try simp only [List.map_toArray, List.map_cons, List.map_nil]); first | done | rfl | (simp only [List.length_drop, List.length_take]; rfl)) ?_; (with_reducible refine (civil_Days.calls kj3 (wrap64 (a0 + 1)) 1 1 t121 t122 _ A11.out).mono ?_); rintro e w48 ⟨rfl, hb⟩; refine ⟨_, rfl, ?_⟩; have n0_ := Aside0.mk (below_step (by repeat (first | (with_reducible first | exact HB.out | apply below_alloc | apply pw_below_drewN | apply below_drew1) | exact HB.out)) hb); clear HB; have HB := n0_; clear n0_; (try clear hb); (try clear hb2); (try clear hk); (try clear hi)) | (go_at_call 16; (with_reducible refine (reveillelaw2_days.calls false t127 _ A44.out).mono ?_); rintro e w' ⟨rfl, ⟨nd, rfl⟩⟩) | (go_at_call 17; (with_reducible refine (civil_Is.calls kj3 a0 2 29 t128 _ A46.out).mono ?_); rintro e w49 ⟨rfl, hb⟩; have n0_ := Aside0.mk (below_step (by repeat (first | (with_reducible first | exact HB.out | apply below_alloc | apply pw_below_drewN | apply below_drew1) | exact HB.out)) hb); clear HB; have HB := n0_; clear n0_; (try clear hb); (try clear hb2); (try clear hk); (try clear hi)))
                  go_ret
                  exact ⟨by first | rfl | (simp [errW_none, errW_some] <;> rfl) | (simp [*, errW_none, errW_some] <;> rfl), by repeat (first | (with_reducible first | exact HB.out | apply below_alloc | apply pw_below_drewN | apply below_drew1) | exact HB.out)⟩
                · rw [if_neg c45] at H
                  have c45b0 : ((wrap64 (t121 - t119)) == t127) = false := beq_eq_false_iff_ne.mpr c45
                  have c45b1 : ((wrap64 (t121 - t119)) != t127) = true := bne_iff_ne.mpr c45
                  obtain rfl := Option.some.inj H
                  go_wp2_with (first | ((with_reducible refine gate_callee (f := 15) rfl ?_); refine goesL_ (some 32) rfl rfl Try.func15 (by kernel_rfl) rfl #[.agg #[.int .i64 a0, .int .i64 1, .int .i64 1]] rfl (by (try simp only [List.map_toArray, List.map_cons, List.map_nil]); first | done | rfl | (simp only [List.length_drop, List.length_take]; rfl)) ?_; (with_reducible refine (civil_Days.calls kj3 a0 1 1 t119 t120 _ A10.out).mono ?_); rintro e w50 ⟨rfl, hb⟩; refine ⟨_, rfl, ?_⟩; have n0_ := Aside0.mk (below_step (by repeat (first | (with_reducible first | exact HB.out | apply below_alloc | apply pw_below_drewN | apply below_drew1) | exact HB.out)) hb); clear HB; have HB := n0_; clear n0_; (try clear hb); (try clear hb2); (try clear hk); (try clear hi)) | ((with_reducible refine gate_callee (f := 15) rfl ?_); refine goesL_ (some 39) rfl rfl Try.func15 (by kernel_rfl) rfl #[.agg #[.int .i64 (wrap64 (a0 + 1)), .int .i64 1, .int .i64 1]] rfl (by (try simp only [List.map_toArray, List.map_cons, List.map_nil]); first | done | rfl | (simp only [List.length_drop, List.length_take]; rfl)) ?_; (with_reducible refine (civil_Days.calls kj3 (wrap64 (a0 + 1)) 1 1 t121 t122 _ A11.out).mono ?_); rintro e w51 ⟨rfl, hb⟩; refine ⟨_, rfl, ?_⟩; have n0_ := Aside0.mk (below_step (by repeat (first | (with_reducible first | exact HB.out | apply below_alloc | apply pw_below_drewN | apply below_drew1) | exact HB.out)) hb); clear HB; have HB := n0_; clear n0_; (try clear hb); (try clear hb2); (try clear hk); (try clear hi)) | (go_at_call 16; (with_reducible refine (reveillelaw2_days.calls false t127 _ A44.out).mono ?_); rintro e w' ⟨rfl, ⟨nd, rfl⟩⟩))
                  go_ret
                  exact ⟨by first | rfl | (simp [errW_none, errW_some] <;> rfl) | (simp [*, errW_none, errW_some] <;> rfl), by repeat (first | (with_reducible first | exact HB.out | apply below_alloc | apply pw_below_drewN | apply below_drew1) | exact HB.out)⟩
              · rw [if_neg c43] at H
                have c43b0 : (t122 == 0) = false := beq_eq_false_iff_ne.mpr c43
                have c43b1 : (t122 != 0) = true := bne_iff_ne.mpr c43
                obtain rfl := Option.some.inj H
                go_wp2_with (first | ((with_reducible refine gate_callee (f := 15) rfl ?_); refine goesL_ (some 32) rfl rfl Try.func15 (by kernel_rfl) rfl #[.agg #[.int .i64 a0, .int .i64 1, .int .i64 1]] rfl (by (try simp only [List.map_toArray, List.map_cons, List.map_nil]); first | done | rfl | (simp only [List.length_drop, List.length_take]; rfl)) ?_; (with_reducible refine (civil_Days.calls kj3 a0 1 1 t119 t120 _ A10.out).mono ?_); rintro e w52 ⟨rfl, hb⟩; refine ⟨_, rfl, ?_⟩; have n0_ := Aside0.mk (below_step (by repeat (first | (with_reducible first | exact HB.out | apply below_alloc | apply pw_below_drewN | apply below_drew1) | exact HB.out)) hb); clear HB; have HB := n0_; clear n0_; (try clear hb); (try clear hb2); (try clear hk); (try clear hi)) | ((with_reducible refine gate_callee (f := 15) rfl ?_); refine goesL_ (some 39) rfl rfl Try.func15 (by kernel_rfl) rfl #[.agg #[.int .i64 (wrap64 (a0 + 1)), .int .i64 1, .int .i64 1]] rfl (by (try simp only [List.map_toArray, List.map_cons, List.map_nil]); first | done | rfl | (simp only [List.length_drop, List.length_take]; rfl)) ?_; (with_reducible refine (civil_Days.calls kj3 (wrap64 (a0 + 1)) 1 1 t121 t122 _ A11.out).mono ?_); rintro e w53 ⟨rfl, hb⟩; refine ⟨_, rfl, ?_⟩; have n0_ := Aside0.mk (below_step (by repeat (first | (with_reducible first | exact HB.out | apply below_alloc | apply pw_below_drewN | apply below_drew1) | exact HB.out)) hb); clear HB; have HB := n0_; clear n0_; (try clear hb); (try clear hb2); (try clear hk); (try clear hi)))
                go_ret
                exact ⟨by first | rfl | (simp [errW_none, errW_some] <;> rfl) | (simp [*, errW_none, errW_some] <;> rfl), by repeat (first | (with_reducible first | exact HB.out | apply below_alloc | apply pw_below_drewN | apply below_drew1) | exact HB.out)⟩
            · rw [if_neg c42] at H
              have c42b0 : (t120 == 0) = false := beq_eq_false_iff_ne.mpr c42
              have c42b1 : (t120 != 0) = true := bne_iff_ne.mpr c42
              obtain rfl := Option.some.inj H
              go_wp2_with (first | ((with_reducible refine gate_callee (f := 15) rfl ?_); refine goesL_ (some 32) rfl rfl Try.func15 (by kernel_rfl) rfl #[.agg #[.int .i64 a0, .int .i64 1, .int .i64 1]] rfl (by (try simp only [List.map_toArray, List.map_cons, List.map_nil]); first | done | rfl | (simp only [List.length_drop, List.length_take]; rfl)) ?_; (with_reducible refine (civil_Days.calls kj3 a0 1 1 t119 t120 _ A10.out).mono ?_); rintro e w54 ⟨rfl, hb⟩; refine ⟨_, rfl, ?_⟩; have n0_ := Aside0.mk (below_step (by repeat (first | (with_reducible first | exact HB.out | apply below_alloc | apply pw_below_drewN | apply below_drew1) | exact HB.out)) hb); clear HB; have HB := n0_; clear n0_; (try clear hb); (try clear hb2); (try clear hk); (try clear hi)) | ((with_reducible refine gate_callee (f := 15) rfl ?_); refine goesL_ (some 39) rfl rfl Try.func15 (by kernel_rfl) rfl #[.agg #[.int .i64 (wrap64 (a0 + 1)), .int .i64 1, .int .i64 1]] rfl (by (try simp only [List.map_toArray, List.map_cons, List.map_nil]); first | done | rfl | (simp only [List.length_drop, List.length_take]; rfl)) ?_; (with_reducible refine (civil_Days.calls kj3 (wrap64 (a0 + 1)) 1 1 t121 t122 _ A11.out).mono ?_); rintro e w55 ⟨rfl, hb⟩; refine ⟨_, rfl, ?_⟩; have n0_ := Aside0.mk (below_step (by repeat (first | (with_reducible first | exact HB.out | apply below_alloc | apply pw_below_drewN | apply below_drew1) | exact HB.out)) hb); clear HB; have HB := n0_; clear n0_; (try clear hb); (try clear hb2); (try clear hk); (try clear hi)))
              go_ret
              exact ⟨by first | rfl | (simp [errW_none, errW_some] <;> rfl) | (simp [*, errW_none, errW_some] <;> rfl), by repeat (first | (with_reducible first | exact HB.out | apply below_alloc | apply pw_below_drewN | apply below_drew1) | exact HB.out)⟩
  · replace c3 := Bool.eq_false_iff.mpr c3
    subst c3
    have H1 : (some false) = some r := by rw [if_neg (show ¬ (false = true) by decide)] at H; exact H
    clear H
    have H := H1
    clear H1
    obtain rfl := Option.some.inj H
    go_enter Try.func3, Try.ntmps3
    go_wp2_with (first | ((with_reducible refine gate_callee (f := 14) rfl ?_); refine goesL_ (some 10) rfl rfl Try.func14 (by kernel_rfl) rfl #[] rfl (by (try simp only [List.map_toArray, List.map_cons, List.map_nil]); first | done | rfl | (simp only [List.length_drop, List.length_take]; rfl)) ?_; (with_reducible refine (reveillelaw2_known.calls k  false _ A2.out).mono ?_); rintro e w56 ⟨rfl, hb⟩; refine ⟨_, rfl, ?_⟩; have n0_ := Aside0.mk (below_step (by repeat (first | (with_reducible first | exact HB.out | apply below_alloc | apply pw_below_drewN | apply below_drew1) | exact HB.out)) hb); clear HB; have HB := n0_; clear n0_; (try clear hb); (try clear hb2); (try clear hk); (try clear hi)))
    go_ret
    exact ⟨by first | rfl | (simp [errW_none, errW_some] <;> rfl) | (simp [*, errW_none, errW_some] <;> rfl), by repeat (first | (with_reducible first | exact HB.out | apply below_alloc | apply pw_below_drewN | apply below_drew1) | exact HB.out)⟩

/-- THE ONE PURE STATEMENT of reveillelaw2_CivilYears: yours. -/
def reveillelaw2_CivilYears.Pure : Prop := ∀ (a0 : Int), (Lit.int .i64 a0).wf = true → ∃ k, reveillelaw2_CivilYears.f k a0 = some true
theorem reveillelaw2_CivilYears.walk (P : reveillelaw2_CivilYears.Pure) (a0 : Int) (w : World) (w0 : (Lit.int .i64 a0).wf = true) :
    Calls Try.prog 3 #[.int .i64 a0] w fun e w' => e = .returned (.bool true) ∧ Below w.heap.size w w' := by
  obtain ⟨k, h⟩ := P a0 w0
  refine (reveillelaw2_CivilYears.calls k a0 true w h).mono ?_
  rintro e w' ⟨rfl, hd⟩
  exact ⟨rfl, hd⟩

end Go.Proofs.Ytjnkfgigpapeaaa.PCivilYears
