/- The document's table: All, New; rows compared. -/
import Derived.Test.YtihajdkipkfiiaaRt5
namespace Go.Proofs.Ytihajdkipkfiiaa
open Go Go.RowKit
set_option linter.unusedVariables false
set_option linter.unusedSimpArgs false
set_option linter.unnecessarySimpa false
set_option maxHeartbeats 0

theorem rtAll_spec {t : PT} (ho : pOk t) (b : Nat) (ao : Option Addr) (cap : Nat) : Spec Try.prog 49 [⟨.blk b, .cells [.vec 1 ao (rL t).length cap, .int .i64 t.room, .int .i64 t.last] 152⟩, ⟨.sl ao cap, .vecL 149 8 encR (rL t) PR.zero⟩] [.ptr 0 b 0] (fun h' r => ∃ ao' cap', h' = [⟨.blk b, .cells [.vec 1 ao (rL t).length cap, .int .i64 t.room, .int .i64 t.last] 152⟩, ⟨.sl ao cap, .vecL 149 8 encR (rL t) PR.zero⟩, ⟨.sl ao' cap', .vecL 45 6 encP6 (rL t) PR.zero⟩] ∧ r = .vec 2 ao' (rL t).length cap') := by
  refine Spec.up ?_
  refine Spec.of_G 26 Try.func49 (c := bodyOf Try.f49) (by kernel_rfl) (by kernel_rfl) (Nat.le_of_ble_eq_true rfl) fun W F => ?_
  refine G_run (kc := false) (ss := []) (Cs := []) trivial hmP 600 ?_
  rw [rt_all]
  have hlen : (rL t).length ≤ 1000000 := by rw [rL_len]; exact ho.len
  refine G_loopAt (ι := Nat × List PR × Option Addr × Nat) [] (bodyOf Try.f49) [1, 1, 0, 1, 0] 26 (fun x => [(0, .ptr 0 b 0), (3, .vec 2 x.2.2.1 x.2.1.length x.2.2.2), (4, .int .i64 ((x.1 : Nat) : Int))]) (fun x => [⟨.blk b, .cells [.vec 1 ao (rL t).length cap, .int .i64 t.room, .int .i64 t.last] 152⟩, ⟨.sl ao cap, .vecL 149 8 encR (rL t) PR.zero⟩, ⟨.sl x.2.2.1 x.2.2.2, .vecL 45 6 encP6 x.2.1 PR.zero⟩]) (fun x => x.1 ≤ (rL t).length ∧ x.2.1 = (rL t).take x.1) (fun x => (rL t).length - x.1) (0, [], none, 0) (by kernel_rfl) (fun J => by kernel_rfl) ⟨Nat.zero_le _, rfl⟩ rfl ⟨rfl, rfl, rfl, trivial⟩ (fun w hw => Rep.nilvec 45 (sz := 6) (enc := encP6) PR.zero (fun _ => rfl) hw) ?_
  rintro ⟨i, ys, ay, cy⟩ ⟨hi, hv⟩ u
  dsimp only at hi hv
  try dsimp only
  simp only [List.nil_append, List.cons_append]
  refine G_run (kc := false) (ss := []) (Cs := []) trivial hmP 900 ?_
  rw [rt_all1]
  have hyl : ys.length = i := by rw [hv]; simp; omega
  cases hlt : decide ((i : Int) < ((rL t).length : Int)) with
  | false =>
    simp only [decide_eq_false_iff_not] at hlt
    rw [List.take_of_length_le (by omega)] at hv
    subst hv
    have fin : up (fun h' r => ∃ ao' cap', h' = [⟨.blk b, .cells [.vec 1 ao (rL t).length cap, .int .i64 t.room, .int .i64 t.last] 152⟩, ⟨.sl ao cap, .vecL 149 8 encR (rL t) PR.zero⟩, ⟨.sl ao' cap', .vecL 45 6 encP6 (rL t) PR.zero⟩] ∧ r = .vec 2 ao' (rL t).length cap') [⟨.blk b, .cells [.vec 1 ao (rL t).length cap, .int .i64 t.room, .int .i64 t.last] 152⟩, ⟨.sl ao cap, .vecL 149 8 encR (rL t) PR.zero⟩, ⟨.sl ay cy, .vecL 45 6 encP6 (rL t) PR.zero⟩] (.vec 2 ay (rL t).length cy) := ⟨_, _, fun W F w hr => hr, rfl, ay, cy, rfl, rfl⟩
    first
      | exact fin
      | exact ⟨rfl, fin⟩
  | true =>
    simp only [decide_eq_true_eq] at hlt
    have hi2 : i < (rL t).length := by omega
    have w1 : IntKind.wrap .i64 ((i : Int) + 1) = ((i + 1 : Nat) : Int) := IntWalk.i64_in _ (by omega)
    have hg := getD_ltR (rL t) (PR.mk (0 : Int) (0 : Int) (ByteArray.mk #[]) false (0 : Int) (ByteArray.mk #[]) false false) i hi2
    have hnx : ys ++ [(rL t)[i]] = (rL t).take (i + 1) := by rw [List.take_succ_eq_append_getElem hi2, hv]
    rw [Int.toNat_natCast, hg, hyl]
    have hnl : (ys ++ [(rL t)[i]]).length = i + 1 := by simp [hyl]
    have fin : ∀ (tm : List SV) (ao2 : Option Addr) (cap2 : Nat) (x : List Ent), lenN tm = 26 → liveOk tm [(0, .ptr 0 b 0), (3, .vec 2 ao2 (i + 1) cap2), (4, .int .i64 ((i + 1 : Nat) : Int))] → G Try.prog (endQ Try.prog Try.f49 W F (up fun h' r => ∃ ao' cap', h' = [⟨.blk b, .cells [.vec 1 ao (rL t).length cap, .int .i64 t.room, .int .i64 t.last] 152⟩, ⟨.sl ao cap, .vecL 149 8 encR (rL t) PR.zero⟩, ⟨.sl ao' cap', .vecL 45 6 encP6 (rL t) PR.zero⟩] ∧ r = .vec 2 ao' (rL t).length cap')) W F (.loop (Back W F 26 (fun x : Nat × List PR × Option Addr × Nat => [(0, .ptr 0 b 0), (3, .vec 2 x.2.2.1 x.2.1.length x.2.2.2), (4, .int .i64 ((x.1 : Nat) : Int))]) (fun x => [⟨.blk b, .cells [.vec 1 ao (rL t).length cap, .int .i64 t.room, .int .i64 t.last] 152⟩, ⟨.sl ao cap, .vecL 149 8 encR (rL t) PR.zero⟩, ⟨.sl x.2.2.1 x.2.2.2, .vecL 45 6 encP6 x.2.1 PR.zero⟩]) (fun x => x.1 ≤ (rL t).length ∧ x.2.1 = (rL t).take x.1) (fun x => (rL t).length - x.1) ((rL t).length - i)) :: .blk 0 :: frm [] (bodyOf Try.f49) [1, 1, 1] []) ⟨tm, [⟨.blk b, .cells [.vec 1 ao (rL t).length cap, .int .i64 t.room, .int .i64 t.last] 152⟩, ⟨.sl ao cap, .vecL 149 8 encR (rL t) PR.zero⟩, ⟨.sl ao2 cap2, .vecL 45 6 encP6 (ys ++ [(rL t)[i]]) PR.zero⟩] ++ x⟩ := fun tm ao2 cap2 x g1 g2 =>
      G_back (i + 1, ys ++ [(rL t)[i]], ao2, cap2) ⟨by dsimp only; omega, hnx⟩ (by dsimp only; omega) g1 (by dsimp only; rw [hnl]; exact g2) (fun w hw => Rep.dropR hw)
    repeat' first
      | exact rfl
      | exact hi2
      | exact fin _ _ _ [_] rfl ⟨rfl, rfl, congrArg (Value.int .i64) w1, trivial⟩
      | (refine ⟨[(rL t)[i]], rfl, rfl, fun ao2 cap2 _ => ?_⟩)
      | apply And.intro
      | (show _ ≤ _; omega)
      | (show _ < _; omega)
      | (refine fun b1 => ?_)
      | fail
theorem rAll_ok : CtrOk Try.prog 49 rAllC := by
  intro args hs N h
  unfold rAllC at h
  split at h
  case h_2 => exact h.elim
  rename_i l b
  split at h
  case h_2 => exact h.elim
  rename_i b' σ' p s hl
  obtain ⟨rfl, rfl, hp, ho, hN⟩ := h
  cases hp
  simp only [cast_eq] at ho hN
  obtain ⟨t, ao, cap⟩ := s
  refine Spec.at (hp := [pkA b' rtE ⟨t, ao, cap⟩]) (args' := [.ptr 0 b' 0]) (Post' := fun h' r => ∃ ao' cap', h' = [pkA b' rtE ⟨t, ao, cap⟩, ⟨.sl ao' cap', .vecL 45 6 encP6 (rL t) PR.zero⟩] ∧ r = .vec 1 ao' (rL t).length cap') [l] (by simp [distinct]) (by simp [pickE, hl, pkA]) ?_ rfl ?_
  · intro W F w hr
    refine Calls.mono (rtAll_spec ho b' ao cap W F w hr.unpkA1) ?_
    rintro e w' ⟨h', r, ⟨ao', cap', rfl, rfl⟩, rfl, hr'⟩
    exact ⟨_, .vec 1 ao' (rL t).length cap', ⟨ao', cap', rfl, rfl⟩, rfl, Rep.pkA (S := rtE) (s := ⟨t, ao, cap⟩) (t := [⟨.sl ao' cap', .vecL 45 6 encP6 (rL t) PR.zero⟩]) hr'⟩
  · rintro h' r ⟨ao', cap', rfl, rfl⟩
    refine ⟨Nat.le_of_ble_eq_true rfl, .vec (lenN hs) ao' (rL t).length cap', rfl, ?_⟩
    have e0 : setN hs l (pkA b' rtE ⟨t, ao, cap⟩) = hs := setN_selfR hl
    simpa [putBack, appE_eq, snoc_eq, e0] using hN ao' cap'
theorem mnmx (room : Int) : mxI 0 (mnI room 64) = mnI (mxI room 0) 64 := by
  unfold mxI mnI
  repeat' split
  all_goals omega
theorem rNew_ok : CtrOk Try.prog 37 rNewC := by
  intro args hs N h
  unfold rNewC at h
  split at h
  case h_2 => exact h.elim
  rename_i room
  obtain ⟨bm, bp, hN⟩ := h
  refine Spec.at (hp := []) (args' := [.int .i64 room]) (Post' := fun h' r => ∃ b ao cap, h' = [pkA b rtE ⟨pNew room bm bp, ao, cap⟩] ∧ r = .ptr 0 b 0) [] rfl rfl ?_ rfl ?_
  · refine Spec.up ?_
    refine Spec.of_G 11 Try.func37 (c := bodyOf Try.f37) (by kernel_rfl) (by kernel_rfl) (Nat.le_of_ble_eq_true rfl) fun W F => ?_
    refine G_run (kc := false) (ss := []) (Cs := []) trivial hmP 600 ?_
    rw [rt_new, mnmx]
    have fin : ∀ (b0 b : Nat), up (fun h' r => ∃ b ao cap, h' = [pkA b rtE ⟨pNew room bm bp, ao, cap⟩] ∧ r = .ptr 0 b 0) [⟨.blk b0, .cells [.int .i64 1, .int .i64 0, .str ⟨#[]⟩, .bool false, .int .i64 0, .str ⟨#[]⟩, .bool false, .bool false] 149⟩, ⟨.blk b, .cells [.vec 0 (some ⟨b0, 0, none⟩) 1 1, .int .i64 (mnI (mxI room 0) 64), .int .i64 1] 152⟩] (.ptr 1 b 0) := fun b0 b => by
      refine ⟨[pkA b rtE ⟨pNew room bm bp, some ⟨b0, 0, none⟩, 1⟩], .ptr 0 b 0, fun W F w hr => ?_, rfl, b, _, _, rfl, rfl⟩
      have h1 := Rep.arrOf (l := 0) (sz := 8) encR [{ PR.zero with pid := 1 }] PR.zero rfl rfl (fun _ => rfl) hr
      have h2 := Rep.pick (π := [1, 0]) (by decide) rfl h1
      have h3 := Rep.cellsEq (l := 0) (cs' := [.vec 1 (some ⟨b0, 0, none⟩) 1 1, .int .i64 (mnI (mxI room 0) 64), .int .i64 1]) rfl (by rfl) h2
      exact Rep.pkA1 h3
    repeat' first
      | exact rfl
      | exact fin _ _
      | apply And.intro
      | (show _ ≤ _; omega)
      | (show _ < _; omega)
      | (refine fun b1 => ?_)
      | fail
  · rintro h' r ⟨b, ao, cap, rfl, rfl⟩
    refine ⟨Nat.zero_le _, .ptr (lenN hs) b 0, rfl, ?_⟩
    simpa [putBack, appE_eq, snoc_eq] using hN b ao cap
theorem procs_ok : CtrOk Try.prog 48 procsC := by
  intro args hs N h
  unfold procsC at h
  split at h
  case h_2 => exact h.elim
  rename_i l ao n cap l' ao' n' cap'
  obtain ⟨xs, h1, h2, ⟨hne, rfl, rfl, hx⟩, h⟩ := h
  refine Spec.at (hp := [⟨.sl ao cap, .vecL 45 6 encP6 xs PR.zero⟩, ⟨.sl ao' cap', .vecL 45 6 encP6 xs PR.zero⟩]) (args' := [.vec 0 ao xs.length cap, .vec 1 ao' xs.length cap']) (Post' := fun h' r => h' = [⟨.sl ao cap, .vecL 45 6 encP6 xs PR.zero⟩, ⟨.sl ao' cap', .vecL 45 6 encP6 xs PR.zero⟩] ∧ r = .bool true) [l, l'] (by
    have : l ≠ l' := fun e => by
      subst e
      simp at hne
    simpa [distinct] using this) (by simp [pickE, h1, h2]) ?_ rfl ?_
  · refine Spec.up ?_
    refine Spec.of_G 26 Try.func48 (c := bodyOf Try.f48) (by kernel_rfl) (by kernel_rfl) (Nat.le_of_ble_eq_true rfl) fun W F => ?_
    refine G_run (kc := false) (ss := []) (Cs := []) trivial hmP 600 ?_
    rw [rps_run]
    have : ((xs.length : Int) != (xs.length : Int)) = false := by simp
    rw [this]
    refine G_loopAt (ι := Nat) [] (bodyOf Try.f48) [1, 1, 0, 1, 0] 26 (fun i => [(0, .vec 0 ao xs.length cap), (1, .vec 1 ao' xs.length cap'), (5, .int .i64 (i : Int))]) (fun i => [⟨.sl ao cap, .vecL 45 6 encP6 xs PR.zero⟩, ⟨.sl ao' cap', .vecL 45 6 encP6 xs PR.zero⟩]) (fun i => i ≤ xs.length) (fun i => xs.length - i) 0 (by kernel_rfl) (fun J => by kernel_rfl) (Nat.zero_le _) rfl ⟨rfl, rfl, rfl, trivial⟩ (fun w hw => hw) ?_
    intro i hi u
    try dsimp only at hi ⊢
    simp only [List.nil_append, List.cons_append]
    refine G_run (kc := false) (ss := []) (Cs := []) trivial hmP 900 ?_
    rw [rps_body]
    cases hlt : decide ((i : Int) < (xs.length : Int)) with
    | false => exact ⟨_, .bool true, fun W F w hr => hr, rfl, rfl, rfl⟩
    | true =>
      simp only [decide_eq_true_eq] at hlt
      have w1 : IntKind.wrap .i64 ((i : Int) + 1) = ((i + 1 : Nat) : Int) := IntWalk.i64_in _ (by omega)
      have hi2 : i < xs.length := by omega
      rw [Int.toNat_natCast]
      generalize xs.getD i (PR.mk (0 : Int) (0 : Int) (ByteArray.mk #[]) false (0 : Int) (ByteArray.mk #[]) false false) = x
      rw [sEq_self, sEq_self, beq_self_eq_true, beq_self_eq_true, beq_self_eq_true, beq_self_eq_true]
      (repeat first | refine And.intro rfl ?_ | refine And.intro ⟨rfl, rfl, rfl, by omega, by omega⟩ ?_ | refine And.intro ⟨rfl, rfl, rfl, by omega⟩ ?_ | refine And.intro ⟨rfl, rfl, rfl, by omega, rfl⟩ ?_)
      exact G_back (i + 1) (by omega) (by omega) rfl ⟨rfl, rfl, congrArg (Value.int .i64) w1, trivial⟩ (fun w hw => hw)
  · rintro h' r ⟨rfl, rfl⟩
    refine ⟨Nat.le_refl _, _, rfl, ?_⟩
    simpa [putBack, appE_eq, setN_selfR h1, setN_selfR h2] using h
theorem rtT_ok : AllOk Try.prog rtT := ⟨rNew_ok, raSpawn_ok, raFork_ok, raExit_ok, raKill_ok, raSignals_ok, raGet_ok, raLen_ok, raReap_ok, rAll_ok, procs_ok, trivial⟩
end Go.Proofs.Ytihajdkipkfiiaa
