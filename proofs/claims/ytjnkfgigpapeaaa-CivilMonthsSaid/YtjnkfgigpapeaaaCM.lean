/- CivilMonths. -/
import Derived.Test.YtjnkfgigpapeaaaCM1Run
import Derived.Test.YtjnkfgigpapeaaaCM2Run
import Derived.Test.YtjnkfgigpapeaaaK2
namespace Go.Proofs.Ytjnkfgigpapeaaa
open Go Go.RowKit
set_option linter.unusedVariables false
set_option linter.unusedSimpArgs false
set_option linter.unnecessarySimpa false
set_option maxHeartbeats 0

theorem dlist_succ (y m : Int) (k : Nat) : dlist y m (k + 1) = dlist y m k ++ [(y, m, (k : Int) + 1)] := by simp [dlist, List.range_succ]
theorem length_dlist (y m : Int) (k : Nat) : (dlist y m k).length = k := by simp [dlist]
theorem dlist_get (y m : Int) (k i : Nat) (h : i < k) : (dlist y m k).getD i ((0 : Int), (0 : Int), (0 : Int)) = (y, m, (i : Int) + 1) := by
  simp [dlist, List.getD, h]
theorem len28 {y m : Int} (h1 : 1970 ≤ y) (h2 : y ≤ 2200) (h3 : 1 ≤ m) (h4 : m ≤ 12) : 28 ≤ lenI y m := by
  unfold lenI; repeat' split <;> omega
theorem len0 {y m : Int} (h : ¬ (1970 ≤ y ∧ y ≤ 2200 ∧ 1 ≤ m ∧ m ≤ 12)) : lenI y m = 0 := by
  unfold lenI; rw [if_pos (by omega)]

theorem cmT1_ok : AllOk Try.prog cmT1 := ⟨inl_ok civ5_ok hm Try.func19 (by kernel_rfl), inl_ok civ5_ok hm Try.func18 (by kernel_rfl), inl_ok civ5_ok hm Try.func70 (by kernel_rfl), civ6_ok⟩

section
variable {stop y m : Int} {b5 b7 bY bm bt bn D l : Nat} {rc : Loop}

theorem cm_days_ok (hY : YOk Try.prog (cmYC stop y m b5 b7 bY bm bt bn D l rc)) : Spec Try.prog 98 (cmHeapR stop y m b5 b7 bY bm bt bn D l rc .ready none 0 none 0) [.func (.yield l) [] [], .ptr 6 bn 0] fun h _ =>
    (∃ ao cap, h = cmHeapR stop y m b5 b7 bY bm bt bn D l rc .ready none (stopI y m stop) ao cap) ∨ (∃ ao cap, h = cmHeapR stop y m b5 b7 bY bm bt bn D l rc .done (some .ret) (stopI y m stop) ao cap) := by
  refine Spec.of_GR 14 Try.func98 (c := bodyOf Try.f98) (by kernel_rfl) (by kernel_rfl) (Nat.le_of_ble_eq_true rfl) fun W F => ?_
  refine runR_sound (kc := true) (ss := []) (fun _ _ h => h) cmT1_ok hY hm Ends.fn 300 _ _ ?_
  rw [cm_d1]
  refine ⟨rfl, ?_⟩
  have hl := lenI_le y m
  refine GR_loopAt (ι := Nat × Option Addr × Nat) [] (bodyOf Try.f98) [1, 0] 14 (fun i => [(0, .func (.yield l) [] []), (4, .int .i64 (lenI y m)), (5, .int .i64 i.1)])
    (fun i => cmHeapR stop y m b5 b7 bY bm bt bn D l rc .ready none i.1 i.2.1 i.2.2) (fun i => (i.1 : Int) ≤ lenI y m ∧ noStop stop i.1) (fun i => 31 - i.1) (0, none, 0) (by kernel_rfl) (fun J => by kernel_rfl)
    ⟨by dsimp only; omega, by unfold noStop; dsimp only; omega⟩ rfl ⟨rfl, rfl, rfl, trivial⟩ (fun w hw => hw) ?_
  rintro ⟨k, ao, cap⟩ ⟨h1, h2⟩ u
  dsimp only at h1 h2 ⊢
  refine runR_sound (kc := true) (ss := []) (fun _ _ h => h) cmT1_ok hY hm Ends.fn 300 _ _ ?_
  simp only [List.nil_append, List.cons_append]
  rw [cm_d2]
  cases hlt : decide ((k : Int) < lenI y m) with
  | true =>
    simp only [decide_eq_true_eq] at hlt
    have e1 : IntKind.wrap .i64 ((k : Int) + 1) = (k : Int) + 1 := IntWalk.i64_in _ (by omega)
    rw [e1]
    refine ⟨rfl, k, ao, cap, by omega, rfl, rfl, fun hne ao' cap' => ?_, fun he ao' cap' => ?_⟩
    · refine GR_back (k + 1, ao', cap') ⟨by dsimp only; omega, by unfold noStop at h2 ⊢; dsimp only; omega⟩ (by dsimp only; omega) rfl ⟨rfl, rfl, by simp [nth, den], trivial⟩ (fun w hw => hw)
    · refine .inr ⟨ao', cap', ?_⟩
      have : stopI y m stop = k + 1 := by unfold stopI; rw [if_pos (by omega)]; omega
      rw [this]
  | false =>
    simp only [decide_eq_false_iff_not] at hlt
    refine .inl ⟨ao, cap, ?_⟩
    have : stopI y m stop = k := by unfold stopI noStop at *; rw [if_neg (by omega)]; omega
    rw [this]

theorem cm_y_ok {T : List SV} (hrt : rc.tmps = (denL T).toArray) (hrp : rc.params = rfP (codeAt (bodyOf Try.f69) [1, 1, 0])) (hra : rc.assign = rfA (codeAt (bodyOf Try.f69) [1, 1, 0]))
    (hrb : rc.body = rfB (codeAt (bodyOf Try.f69) [1, 1, 0])) (hlen : lenN T = 17) (hT : liveOk T [(1, .ptr 2 bY 0), (2, .ptr 3 bm 0), (3, .ptr 5 bt 0)]) (hl : ∀ v, lenN (setMany T [9] [v]) = 17 ∧ liveOk (setMany T [9] [v]) [(1, .ptr 2 bY 0), (2, .ptr 3 bm 0), (3, .ptr 5 bt 0), (9, v)]) :
    YOk Try.prog (cmYC stop y m b5 b7 bY bm bt bn D l rc) := by
  rintro l' args hs N ⟨rfl, k, ao, cap, hk, rfl, rfl, hN1, hN2⟩
  have hll := lenI_le y m
  refine YSpec.up (YSpec.of_GR (p := 8) (T0 := T) (ps := [9]) rfl hrt hrp hra hrb rfl rfl fun W F => ?_)
  refine GR_live 17 [(1, .ptr 2 bY 0), (2, .ptr 3 bm 0), (3, .ptr 5 bt 0), (9, .int .i64 ((k : Int) + 1))] (cmHeapR stop y m b5 b7 bY bm bt bn D l' rc .ready none k ao cap) (hl _).1 (hl _).2 (fun _ h => h) fun u => ?_
  refine runR_sound (kc := true) (ss := []) (fun _ _ h => h) cmT1_ok (noY_ok _) hm Ends.assign 60 _ _ ?_
  rw [cm_asg]
  refine ⟨rfl, ?_⟩
  refine GR_live 17 [(1, .ptr 2 bY 0), (2, .ptr 3 bm 0), (3, .ptr 5 bt 0), (4, .int .i64 ((k : Int) + 1))] (cmHeapR stop y m b5 b7 bY bm bt bn D l' rc .busy none k ao cap) rfl ⟨rfl, rfl, rfl, rfl, trivial⟩ (fun _ h => h) fun u => ?_
  refine runR_sound (kc := true) (ss := []) (fun _ _ h => h) cmT1_ok (noY_ok _) hm (Ends.round (p := 8) (rc := rc) (j := none)) 300 _ _ ?_
  rw [cm_body]
  have hd := (length_dlist y m k).symm
  refine ⟨rfl, rfl, rfl, ⟨rfl, rfl⟩, rfl, rfl, fun b => ⟨rfl, ⟨rfl, rfl⟩, ⟨rfl, rfl, by decide, by decide⟩, fun b1 => ⟨⟨rfl, rfl, hd, rfl, rfl, rfl, rfl, by decide, rfl, by omega, by omega⟩, [(y, m, (k : Int) + 1)], rfl, rfl, fun ao2 cap2 hc => ⟨⟨rfl, rfl, rfl, by decide⟩, rfl, rfl, ?_⟩⟩⟩⟩
  have im : ∀ (s : LoopState) (j : Option Code) (z1 z2 : Ent), ∀ W F w, Rep W F [⟨.blk b5, .cells [.int .i64 stop] 3⟩, ⟨.blk b7, .cells [.vec 4 ao2 (k + 1) cap2] 31⟩, ⟨.blk bY, .cells [.int .i64 y] 3⟩, ⟨.blk bm, .cells [.int .i64 m] 3⟩, ⟨.sl ao2 cap2, .vecL 27 3 encD (dlist y m k ++ [(y, m, (k : Int) + 1)]) ((0 : Int), (0 : Int), (0 : Int))⟩,
      ⟨.blk bt, .cells [cmY b5 b7] 29⟩, ⟨.blk bn, .cells [.int .i64 (lenI y m)] 3⟩, dent D true, lp l' rc s j, z1, z2] w → Rep W F (cmHeapR stop y m b5 b7 bY bm bt bn D l' rc s j (k + 1) ao2 cap2) w := by
    intro s j z1 z2 W F w hw
    unfold cmHeapR
    rw [dlist_succ]
    exact hw.front ⟨rfl, rfl, rfl, rfl, rfl, rfl, rfl, rfl, rfl, trivial⟩
  cases hs : ((↑(k + 1) : Int) != stop) with
  | true =>
    have hs' : (k : Int) + 1 ≠ stop := by simp only [bne_iff_ne, ne_eq] at hs; omega
    refine ⟨rfl, ?_⟩
    cases h40 : !decide ((↑(k + 1) : Int) < 40) with
    | true => simp only [Bool.not_eq_true', decide_eq_false_iff_not] at h40; omega
    | false => exact ⟨rfl, _, _, im _ _ _ _, rfl, hN1 hs' ao2 cap2⟩
  | false =>
    have hs' : (k : Int) + 1 = stop := by simp only [bne_eq_false_iff_eq] at hs; omega
    exact ⟨rfl, _, _, im _ _ _ _, rfl, hN2 hs' ao2 cap2⟩
end

theorem month_ok : CtrOk Try.prog 69 monthC := by
  intro args hs N h
  unfold monthC at h
  split at h
  · rename_i f l7 b7 l5 b5 lY bY lm bm
    obtain ⟨rfl, stop, y, m, rfl, hN⟩ := h
    refine Spec.pre (hs' := cmHeap stop y m b5 b7 bY bm 0 none 0) (args' := [cmY b5 b7, .ptr 2 bY 0, .ptr 3 bm 0]) (fun W F w hw => ?_) rfl (Spec.up ?_)
    · have a1 := Rep.cellsEq (l := 1) (cs' := [.vec 4 none 0 0]) rfl (by rfl) hw
      exact Rep.nilvec 27 (sz := 3) (enc := encD) ((0 : Int), (0 : Int), (0 : Int)) (fun _ => rfl) a1
    · refine Spec.of_GR 17 Try.func69 (c := bodyOf Try.f69) (by kernel_rfl) (by kernel_rfl) (Nat.le_of_ble_eq_true rfl) fun W F => ?_
      refine runR_sound (kc := true) (ss := []) (fun _ _ h => h) cmT1_ok (noY_ok _) hm Ends.fn 300 _ _ ?_
      rw [cm_m1]
      refine ⟨rfl, fun bt => ⟨rfl, rfl, rfl, rfl, rfl, fun bn => ?_⟩⟩
      refine GR_rangeAt [] (bodyOf Try.f69) [1, 1, 0] (f := 98) (first := []) (captured := [.ptr 6 bn 0]) (by kernel_rfl) (by kernel_rfl) (by kernel_rfl) fun D l rc hrt hrp hra hrb => ⟨_, cm_days_ok (cm_y_ok hrt hrp hra hrb rfl ⟨rfl, rfl, rfl, trivial⟩ fun v => ⟨rfl, rfl, rfl, rfl, rfl, trivial⟩), ?_⟩
      have et : (frm [] (bodyOf Try.f69) [1, 1, 0] []).tail = [.blk 0] := by kernel_rfl
      have fin : ∀ (s : LoopState) (j : Option Code) (ao : Option Addr) (cap : Nat), retM Try.prog Try.f69.results.toList D 7 (up N) ⟨[], cmHeapR stop y m b5 b7 bY bm bt bn D l rc s j (stopI y m stop) ao cap⟩ := by
        intro s j ao cap
        exact ⟨rfl, cmHeap stop y m b5 b7 bY bm (stopI y m stop) ao cap, .tuple [], fun W F w hw => hw.front ⟨rfl, rfl, rfl, rfl, rfl, trivial⟩, rfl, hN ao cap⟩
      rintro h' v (⟨ao, cap, rfl⟩ | ⟨ao, cap, rfl⟩)
      · refine ⟨8, .ready, none, by decide, rfl, ?_⟩
        rw [et]
        refine runR_sound (Cs := cmT1) (Y := noY) (kc := true) (ss := []) (K := fun _ _ => False) (fun _ _ h => h.elim) cmT1_ok (noY_ok _) hm (Ends.fnM D 7) 10 _ _ ?_
        exact fin .exhausted none ao cap
      · refine ⟨8, .done, some .ret, by decide, rfl, ?_⟩
        rw [et]
        refine runR_sound (Cs := cmT1) (Y := noY) (kc := true) (ss := []) (K := fun _ _ => False) (fun _ _ h => h.elim) cmT1_ok (noY_ok _) hm (Ends.fnM D 7) 10 _ _ ?_
        exact fin .exhausted (some .ret) ao cap
  · exact h.elim
theorem cmT2_ok : AllOk Try.prog cmT2 := ⟨month_ok, cmT1_ok⟩

theorem cm_ok (y m stop : Int) : Spec Try.prog 4 [] [.int .i64 y, .int .i64 m, .int .i64 stop] fun _ r => r = .bool true := by
  refine Spec.of_G 89 Try.func4 (c := bodyOf Try.f4) (by kernel_rfl) (by kernel_rfl) (Nat.le_of_ble_eq_true rfl) fun W F => ?_
  refine G_run (kc := true) (ss := []) cmT2_ok hm 900 ?_
  rw [cm_start]
  have no : ¬ (1970 ≤ y ∧ y ≤ 2200 ∧ 1 ≤ m ∧ m ≤ 12) → SV.bool ((↑(stopI y m stop) : Int) == (0 : Int)) = .bool true := fun h => by
    have h0 := len0 h
    have : stopI y m stop = 0 := by unfold stopI; rw [if_neg (by omega), h0]; rfl
    rw [this]; rfl
  refine ⟨rfl, fun b5 => ⟨rfl, fun b7 => ⟨rfl, rfl, fun bY => ⟨rfl, fun bm => ⟨rfl, rfl, stop, y, m, rfl, fun ao cap => ?_⟩⟩⟩⟩⟩
  cases h1 : decide (y ≥ 1970) with
  | false => simp only [decide_eq_false_iff_not, ge_iff_le] at h1; exact ⟨rfl, no (by omega)⟩
  | true =>
  cases h2 : decide (y ≤ 2200) with
  | false => simp only [decide_eq_false_iff_not, ge_iff_le] at h2; exact ⟨rfl, no (by omega)⟩
  | true =>
  cases h3 : decide (m ≥ 1) with
  | false => simp only [decide_eq_false_iff_not, ge_iff_le] at h3; exact ⟨rfl, no (by omega)⟩
  | true =>
  cases h4 : !decide (m ≤ 12) with
  | true => simp only [Bool.not_eq_true', decide_eq_false_iff_not] at h4; exact ⟨rfl, no (by omega)⟩
  | false =>
  simp only [decide_eq_true_eq, ge_iff_le, Bool.not_eq_false'] at h1 h2 h3 h4
  have hge := len28 h1 h2 h3 h4
  have hle := lenI_le y m
  have hk1 : (1 ≤ stop ∧ stop ≤ lenI y m) → (stopI y m stop : Int) = stop := fun h => by unfold stopI; rw [if_pos h]; omega
  have hk2 : ¬ (1 ≤ stop ∧ stop ≤ lenI y m) → (stopI y m stop : Int) = lenI y m := fun h => by unfold stopI; rw [if_neg h]; omega
  generalize stopI y m stop = k at hk1 hk2 ⊢
  have hk : (k : Int) ≤ lenI y m := by by_cases h : (1 ≤ stop ∧ stop ≤ lenI y m) <;> first | (have := hk1 h; omega) | (have := hk2 h; omega)
  refine G_loopAt (ι := Nat) [] (bodyOf Try.f4) [1, 1, 1, 1, 1, 1, 0, 1, 0] 89 (fun i => [(0, .int .i64 y), (1, .int .i64 m), (5, .ptr 0 b5 0), (6, .bool false), (7, .ptr 1 b7 0), (9, .int .i64 i)])
    (fun _ => cmHeap stop y m b5 b7 bY bm k ao cap) (fun i => i ≤ k) (fun i => k - i) 0 (by kernel_rfl) (fun J => by kernel_rfl) (Nat.zero_le _) rfl ⟨rfl, rfl, rfl, rfl, rfl, rfl, trivial⟩ (fun w hw => hw) fun i hi u => ?_
  refine G_run (kc := true) (ss := []) cmT2_ok hm 900 ?_
  simp only [List.nil_append, List.cons_append]
  rw [cm_l]
  have hlen := (length_dlist y m k).symm
  cases hlt : decide ((i : Int) < (k : Int)) with
  | true =>
    simp only [decide_eq_true_eq] at hlt
    have e1 : IntKind.wrap .i64 ((i : Int) + 1) = (i : Int) + 1 := IntWalk.i64_in _ (by omega)
    have e2 : (dlist y m k).getD (Int.toNat (i : Int)) ((0 : Int), (0 : Int), (0 : Int)) = (y, m, (i : Int) + 1) := by rw [Int.toNat_natCast]; exact dlist_get _ _ _ _ (by omega)
    rw [e2, e1]
    have e3 : isB y m ((i : Int) + 1) = true := isB_iff.2 ⟨by omega, by omega⟩
    dsimp only
    rw [e3]
    have e4 : (!(y == y && (m == m && ((i : Int) + 1 == (i : Int) + 1 && true)))) = false := by simp
    rw [e4]
    refine ⟨rfl, rfl, ⟨rfl, rfl, hlen, by omega, hlt⟩, ⟨rfl, rfl, rfl, by rw [← hlen]; omega, rfl⟩, ⟨rfl, rfl⟩, rfl, ⟨rfl, rfl, hlen, by omega, hlt⟩, ⟨rfl, rfl, rfl, by rw [← hlen]; omega, rfl⟩, rfl, ?_⟩
    exact G_back (i + 1) (by omega) (by omega) rfl ⟨rfl, rfl, rfl, rfl, rfl, by simp [nth, den], trivial⟩ (fun w hw => hw)
  | false =>
    simp only [decide_eq_false_iff_not] at hlt
    refine ⟨rfl, rfl, ?_⟩
    have a28 : ¬ (1 ≤ stop ∧ stop ≤ 28) → 28 ≤ (k : Int) := fun h => by
      by_cases h' : (1 ≤ stop ∧ stop ≤ lenI y m)
      · have := hk1 h'; omega
      · have := hk2 h'; omega
    cases s1 : decide (stop ≥ 1) with
    | true =>
      refine ⟨rfl, ?_⟩
      cases s2 : decide (stop ≤ 28) with
      | true =>
        simp only [decide_eq_true_eq, ge_iff_le] at s1 s2
        refine ⟨rfl, rfl, ?_⟩
        show SV.bool _ = SV.bool true
        rw [beq_iff_eq.2 (hk1 (by omega))]
      | false =>
        simp only [decide_eq_true_eq, ge_iff_le, decide_eq_false_iff_not] at s1 s2
        have h28 : 28 ≤ (k : Int) := a28 (by omega)
        refine ⟨rfl, ?_⟩
        rw [decide_eq_true (show (k : Int) ≥ 28 from h28)]
        refine ⟨rfl, ?_⟩
        cases s3 : ((k : Int) == stop) with
        | true => exact rfl
        | false =>
          simp only [beq_eq_false_iff_ne, ne_eq] at s3
          have hkl : (k : Int) = lenI y m := hk2 fun h => s3 (hk1 h)
          have e1 : IntKind.wrap .i64 ((k : Int) + 1) = (k : Int) + 1 := IntWalk.i64_in _ (by omega)
          rw [e1]
          have e3 : isB y m ((k : Int) + 1) = false := by
            cases hb : isB y m ((k : Int) + 1) with
            | false => rfl
            | true => have := isB_iff.1 hb; omega
          rw [e3]
          exact ⟨⟨rfl, rfl⟩, rfl, rfl⟩
    | false =>
      simp only [decide_eq_false_iff_not, ge_iff_le] at s1
      have h28 : 28 ≤ (k : Int) := a28 (by omega)
      refine ⟨rfl, ?_⟩
      rw [decide_eq_true (show (k : Int) ≥ 28 from h28)]
      refine ⟨rfl, ?_⟩
      cases s3 : ((k : Int) == stop) with
      | true => exact rfl
      | false =>
        simp only [beq_eq_false_iff_ne, ne_eq] at s3
        have hkl : (k : Int) = lenI y m := hk2 fun h => s3 (hk1 h)
        have e1 : IntKind.wrap .i64 ((k : Int) + 1) = (k : Int) + 1 := IntWalk.i64_in _ (by omega)
        rw [e1]
        have e3 : isB y m ((k : Int) + 1) = false := by
          cases hb : isB y m ((k : Int) + 1) with
          | false => rfl
          | true => have := isB_iff.1 hb; omega
        rw [e3]
        exact ⟨⟨rfl, rfl⟩, rfl, rfl⟩

end Go.Proofs.Ytjnkfgigpapeaaa
