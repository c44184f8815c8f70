/- The document's table: Kill, Get, Signals, Len. -/
import Derived.Test.YtihajdkipkfiiaaRt2
namespace Go.Proofs.Ytihajdkipkfiiaa
open Go Go.RowKit
set_option linter.unusedVariables false
set_option linter.unusedSimpArgs false
set_option linter.unnecessarySimpa false
set_option maxHeartbeats 0

theorem rtKill_spec {t : PT} (ho : pOk t) (b : Nat) (ao : Option Addr) (cap : Nat) (pid sig : Int) : Spec Try.prog 42 [⟨.blk b, .cells [.vec 1 ao (rL t).length cap, .int .i64 t.room, .int .i64 t.last] 152⟩, ⟨.sl ao cap, .vecL 149 8 encR (rL t) PR.zero⟩] [.ptr 0 b 0, .int .i64 pid, .int .i64 sig] (fun h' r => h' = rtE ⟨(pKill t pid sig).1, ao, cap⟩ b ∧ r = .int .i64 (pKill t pid sig).2) := by
  refine Spec.up ?_
  refine Spec.of_G 63 Try.func42 (c := bodyOf Try.f42) (by kernel_rfl) (by kernel_rfl) (Nat.le_of_ble_eq_true rfl) fun W F => ?_
  refine G_run (kc := false) (ss := []) rtLv_ok hmP 900 ?_
  rw [rt_kill]
  refine ⟨rfl, t, 1, ao, cap, rfl, rfl, ⟨rfl, ho⟩, ?_⟩
  have bad : pKill t pid sig = (t, 80) → up (fun h' r => h' = rtE ⟨(pKill t pid sig).1, ao, cap⟩ b ∧ r = .int .i64 (pKill t pid sig).2) (rtE ⟨t, ao, cap⟩ b) (.int .i64 80) := fun h => by
    rw [h]; exact ⟨rtE ⟨t, ao, cap⟩ b, .int .i64 80, fun W F w hr => hr, rfl, rfl, rfl⟩
  cases hl : pLive t pid with
  | false =>
    rw [rLives_dead hl]
    exact ⟨rfl, rfl, bad (by simp only [pKill, hl, Bool.false_and])⟩
  | true =>
    obtain ⟨k, ⟨xb, r⟩, h1, h2, h3, h4, h5, h6⟩ := rLives_live ho hl
    have hd : decide (((k : Nat) : Int) < 0) = false := decide_eq_false (by omega)
    dsimp only at h3 h4 h6
    rw [h1, hd, Int.toNat_natCast, h3]
    cases hp1 : pid == 1 with
    | true => exact ⟨rfl, rfl, bad (by simp [pKill, hp1])⟩
    | false =>
      have good : ∀ (g : PR → PR), pKill t pid sig = ({ t with ps := setP t.ps pid g }, 0) → ∀ e e', e' = g r → up (fun h' r => h' = rtE ⟨(pKill t pid sig).1, ao, cap⟩ b ∧ r = .int .i64 (pKill t pid sig).2) [⟨.blk b, .cells [.vec 1 ao (rL t).length cap, .int .i64 t.room, .int .i64 t.last] 152⟩, ⟨.sl ao cap, .vecL 149 8 encR (((rL t).set k e).set k e') PR.zero⟩] (.int .i64 0) := fun g hg e e' he => by
        rw [hg, List.set_set, he]
        refine ⟨rtE ⟨{ t with ps := setP t.ps pid g }, ao, cap⟩ b, .int .i64 0, fun W F w hr => ?_, rfl, rfl, rfl⟩
        rw [rtE_set b ao cap (h6 g) rfl rfl]
        exact hr
      obtain ⟨p1, p2, p3, p4, p5, p6, p7, p8⟩ := r
      cases hs15 : sig == 15 with
      | true =>
        have hsg : sig = 15 := by simpa using hs15
        subst hsg
        have hk := good (fun r => { r with term := true }) (by simp [pKill, hl, hp1])
        cases p7 <;> cases p8 <;> (
          repeat' first
            | exact rfl
            | exact h2
            | exact hk _ _ rfl
            | (rw [getD_set_self h2])
            | (refine ⟨⟨p1, p2, p3, p4, p5, p6, true, true⟩, rfl, ?_⟩) | (refine ⟨⟨p1, p2, p3, p4, p5, p6, true, false⟩, rfl, ?_⟩) | (refine ⟨⟨p1, p2, p3, p4, p5, p6, false, true⟩, rfl, ?_⟩) | (refine ⟨⟨p1, p2, p3, p4, p5, p6, false, false⟩, rfl, ?_⟩)
            | apply And.intro
            | (rw [List.length_set])
            | (show _ ≤ _; omega)
            | (show _ < _; omega)
            | fail)
      | false =>
        have n15 : (sig != 15) = true := by simp [bne, hs15]
        rw [n15]
        cases hs9 : sig == 9 with
        | true =>
          have hsg : sig = 9 := by simpa using hs9
          subst hsg
          have hk := good (fun r => { r with kill := true }) (by simp [pKill, hl, hp1])
          cases p7 <;> cases p8 <;> (
            repeat' first
              | exact rfl
              | exact h2
              | exact hk _ _ rfl
              | (rw [getD_set_self h2])
              | (refine ⟨⟨p1, p2, p3, p4, p5, p6, true, true⟩, rfl, ?_⟩) | (refine ⟨⟨p1, p2, p3, p4, p5, p6, true, false⟩, rfl, ?_⟩) | (refine ⟨⟨p1, p2, p3, p4, p5, p6, false, true⟩, rfl, ?_⟩) | (refine ⟨⟨p1, p2, p3, p4, p5, p6, false, false⟩, rfl, ?_⟩)
              | apply And.intro
              | (rw [List.length_set])
              | (show _ ≤ _; omega)
              | (show _ < _; omega)
              | fail)
        | false =>
          have n9 : (sig != 9) = true := by simp [bne, hs9]
          rw [n9]
          exact bad (by simp [pKill, hs15, hs9, hl, hp1])
theorem raKill_ok : CtrOk Try.prog 42 (adtC rtE raKillM) := adt_ok fun b s rest N h => by
  obtain ⟨t, ao, cap⟩ := s
  unfold raKillM at h
  split at h
  case h_2 => exact h.elim
  rename_i pid sig
  obtain ⟨ho, h⟩ := h
  intro W F w hr
  refine Calls.mono (rtKill_spec ho b ao cap pid sig W F w hr) ?_
  rintro e w' ⟨h', r, ⟨rfl, rfl⟩, rfl, hr'⟩
  exact ⟨_, _, ⟨_, fun W F w hr => hr, h⟩, rfl, hr'⟩

theorem rtGet_spec {t : PT} (ho : pOk t) (b : Nat) (ao : Option Addr) (cap : Nat) (pid : Int) : Spec Try.prog 44 [⟨.blk b, .cells [.vec 1 ao (rL t).length cap, .int .i64 t.room, .int .i64 t.last] 152⟩, ⟨.sl ao cap, .vecL 149 8 encR (rL t) PR.zero⟩] [.ptr 0 b 0, .int .i64 pid] (fun h' r => h' = rtE ⟨t, ao, cap⟩ b ∧ r = .tuple [.agg (encP6 (pGet t pid)), .bool (pHas t pid)]) := by
  refine Spec.up ?_
  refine Spec.of_G 21 Try.func44 (c := bodyOf Try.f44) (by kernel_rfl) (by kernel_rfl) (Nat.le_of_ble_eq_true rfl) fun W F => ?_
  refine G_run (kc := false) (ss := []) rtL_ok hmP 600 ?_
  rw [rt_get]
  refine fun b1 => ⟨rfl, t, 1, ao, cap, rfl, rfl, ⟨rfl, ho⟩, ?_⟩
  cases hg : getP t.ps pid with
  | none =>
    obtain ⟨e1, e2, _⟩ := pHas_none hg
    have hd : decide ((-1 : Int) < 0) = true := rfl
    rw [rAt_none hg, hd, e1, e2]
    repeat' first
      | exact rfl
      | exact ⟨rtE ⟨t, ao, cap⟩ b, .tuple [.agg (encP6 PR.zero), .bool false], fun W F w hr => Rep.dropR (h := rtE ⟨t, ao, cap⟩ b) hr, rfl, rfl, rfl⟩
      | apply And.intro
      | (show _ ≤ _; omega)
      | fail
  | some x =>
    obtain ⟨k, h1, h2, h3, h4⟩ := rAt_some ho hg
    obtain ⟨e1, e2, _⟩ := pHas_some hg
    have hd : decide (((k : Nat) : Int) < 0) = false := decide_eq_false (by omega)
    rw [h1, hd, Int.toNat_natCast, h3, e1, e2]
    repeat' first
      | exact rfl
      | exact h2
      | exact ⟨rtE ⟨t, ao, cap⟩ b, .tuple [.agg (encP6 x.2), .bool true], fun W F w hr => Rep.dropR (h := rtE ⟨t, ao, cap⟩ b) hr, rfl, rfl, rfl⟩
      | apply And.intro
      | (show _ ≤ _; omega)
      | (show _ < _; omega)
      | fail
theorem rtSig_spec {t : PT} (ho : pOk t) (b : Nat) (ao : Option Addr) (cap : Nat) (pid : Int) : Spec Try.prog 46 [⟨.blk b, .cells [.vec 1 ao (rL t).length cap, .int .i64 t.room, .int .i64 t.last] 152⟩, ⟨.sl ao cap, .vecL 149 8 encR (rL t) PR.zero⟩] [.ptr 0 b 0, .int .i64 pid] (fun h' r => h' = rtE ⟨t, ao, cap⟩ b ∧ r = .tuple [.bool (pGet t pid).term, .bool (pGet t pid).kill]) := by
  refine Spec.up ?_
  refine Spec.of_G 28 Try.func46 (c := bodyOf Try.f46) (by kernel_rfl) (by kernel_rfl) (Nat.le_of_ble_eq_true rfl) fun W F => ?_
  refine G_run (kc := false) (ss := []) rtL_ok hmP 600 ?_
  rw [rt_sig]
  refine ⟨rfl, t, 1, ao, cap, rfl, rfl, ⟨rfl, ho⟩, ?_⟩
  cases hg : getP t.ps pid with
  | none =>
    obtain ⟨e1, e2, _⟩ := pHas_none hg
    have hd : decide ((-1 : Int) < 0) = true := rfl
    rw [rAt_none hg, hd, e2]
    exact ⟨rtE ⟨t, ao, cap⟩ b, .tuple [.bool false, .bool false], fun W F w hr => hr, rfl, rfl, rfl⟩
  | some x =>
    obtain ⟨k, h1, h2, h3, h4⟩ := rAt_some ho hg
    obtain ⟨e1, e2, _⟩ := pHas_some hg
    have hd : decide (((k : Nat) : Int) < 0) = false := decide_eq_false (by omega)
    rw [h1, hd, Int.toNat_natCast, h3, e2]
    repeat' first
      | exact rfl
      | exact h2
      | exact ⟨rtE ⟨t, ao, cap⟩ b, .tuple [.bool x.2.term, .bool x.2.kill], fun W F w hr => hr, rfl, rfl, rfl⟩
      | apply And.intro
      | (show _ ≤ _; omega)
      | (show _ < _; omega)
      | fail
theorem rtLen_spec {t : PT} (ho : pOk t) (b : Nat) (ao : Option Addr) (cap : Nat) : Spec Try.prog 47 [⟨.blk b, .cells [.vec 1 ao (rL t).length cap, .int .i64 t.room, .int .i64 t.last] 152⟩, ⟨.sl ao cap, .vecL 149 8 encR (rL t) PR.zero⟩] [.ptr 0 b 0] (fun h' r => h' = rtE ⟨t, ao, cap⟩ b ∧ r = .int .i64 ((t.ps.length : Int) - 1)) := by
  refine Spec.up ?_
  refine Spec.of_G 9 Try.func47 (c := bodyOf Try.f47) (by kernel_rfl) (by kernel_rfl) (Nat.le_of_ble_eq_true rfl) fun W F => ?_
  refine G_run (kc := false) (ss := []) (Cs := []) trivial hmP 600 ?_
  rw [rt_len]
  have hlen := rL_len t
  have hlen2 := ho.len
  have w1 : IntKind.wrap .i64 (((rL t).length : Int) - 1) = ((t.ps.length : Int) - 1) := by rw [hlen]; exact IntWalk.i64_in _ (by omega)
  rw [w1]
  repeat' first
    | exact rfl
    | exact ⟨rtE ⟨t, ao, cap⟩ b, .int .i64 ((t.ps.length : Int) - 1), fun W F w hr => hr, rfl, rfl, rfl⟩
    | apply And.intro
    | fail
theorem raGet_ok : CtrOk Try.prog 44 (adtC rtE raGetM) := adt_ok fun b s rest N h => by
  obtain ⟨t, ao, cap⟩ := s
  unfold raGetM at h
  split at h
  case h_2 => exact h.elim
  rename_i pid
  obtain ⟨ho, h⟩ := h
  intro W F w hr
  refine Calls.mono (rtGet_spec ho b ao cap pid W F w hr) ?_
  rintro e w' ⟨h', r, ⟨rfl, rfl⟩, rfl, hr'⟩
  exact ⟨_, _, ⟨_, fun W F w hr => hr, h⟩, rfl, hr'⟩
theorem raSignals_ok : CtrOk Try.prog 46 (adtC rtE raSignalsM) := adt_ok fun b s rest N h => by
  obtain ⟨t, ao, cap⟩ := s
  unfold raSignalsM at h
  split at h
  case h_2 => exact h.elim
  rename_i pid
  obtain ⟨ho, h⟩ := h
  intro W F w hr
  refine Calls.mono (rtSig_spec ho b ao cap pid W F w hr) ?_
  rintro e w' ⟨h', r, ⟨rfl, rfl⟩, rfl, hr'⟩
  exact ⟨_, _, ⟨_, fun W F w hr => hr, h⟩, rfl, hr'⟩
theorem raLen_ok : CtrOk Try.prog 47 (adtC rtE raLenM) := adt_ok fun b s rest N h => by
  obtain ⟨t, ao, cap⟩ := s
  unfold raLenM at h
  split at h
  case h_2 => exact h.elim
  obtain ⟨ho, h⟩ := h
  intro W F w hr
  refine Calls.mono (rtLen_spec ho b ao cap W F w hr) ?_
  rintro e w' ⟨h', r, ⟨rfl, rfl⟩, rfl, hr'⟩
  exact ⟨_, _, ⟨_, fun W F w hr => hr, h⟩, rfl, hr'⟩
end Go.Proofs.Ytihajdkipkfiiaa
