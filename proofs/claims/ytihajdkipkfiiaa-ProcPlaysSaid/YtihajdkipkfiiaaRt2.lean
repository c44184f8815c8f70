/- The document's table: Spawn, Fork. -/
import Derived.Test.YtihajdkipkfiiaaRt1
namespace Go.Proofs.Ytihajdkipkfiiaa
open Go Go.RowKit
set_option linter.unusedVariables false
set_option linter.unusedSimpArgs false
set_option linter.unnecessarySimpa false
set_option maxHeartbeats 0

/-- The end of a call that adds one. -/
theorem rtE_add {W w : World} {F : List Ch} {t t' : PT} {r : PR} (b : Nat) (ao : Option Addr) (cap : Nat) {x : List Ent} {last : Int} (h : rL t' = rL t ++ [r]) (h1 : t'.room = t.room) (h2 : t'.last = last) (hr : Rep W F ([⟨.blk b, .cells [.vec 1 ao ((rL t).length + 1) cap, .int .i64 t.room, .int .i64 last] 152⟩, ⟨.sl ao cap, .vecL 149 8 encR (rL t ++ [r]) PR.zero⟩] ++ x) w) : Rep W F (rtE ⟨t', ao, cap⟩ b) w := by
  have e : rtE ⟨t', ao, cap⟩ b = [⟨.blk b, .cells [.vec 1 ao ((rL t).length + 1) cap, .int .i64 t.room, .int .i64 last] 152⟩, ⟨.sl ao cap, .vecL 149 8 encR (rL t ++ [r]) PR.zero⟩] := by simp [rtE, h, h1, h2]
  rw [e]
  exact Rep.dropR hr
theorem rtSpawn_spec {t : PT} (ho : pOk t) (b : Nat) (ao : Option Addr) (cap : Nat) (pid : Int) (g c : ByteArray) (nb : Nat) : Spec Try.prog 38 [⟨.blk b, .cells [.vec 1 ao (rL t).length cap, .int .i64 t.room, .int .i64 t.last] 152⟩, ⟨.sl ao cap, .vecL 149 8 encR (rL t) PR.zero⟩] [.ptr 0 b 0, .int .i64 pid, .str g, .str c] (fun h' r => ∃ ao' cap', h' = rtE ⟨(pSpawn t pid g c nb).1, ao', cap'⟩ b ∧ r = .tuple [.int .i64 (pSpawn t pid g c nb).2.1, .int .i64 (pSpawn t pid g c nb).2.2]) := by
  refine Spec.up ?_
  refine Spec.of_G 56 Try.func38 (c := bodyOf Try.f38) (by kernel_rfl) (by kernel_rfl) (Nat.le_of_ble_eq_true rfl) fun W F => ?_
  refine G_run (kc := false) (ss := []) rtLv_ok hmP 900 ?_
  rw [rt_spawn]
  refine ⟨rfl, t, 1, ao, cap, rfl, rfl, ⟨rfl, ho⟩, ?_⟩
  have hlen : (rL t).length ≤ 1000000 := by rw [rL_len]; exact ho.len
  cases hl : pLive t pid with
  | false =>
    rw [rLives_dead hl]
    have hsp : pSpawn t pid g c nb = (t, 0, 80) := by simp only [pSpawn, hl]
    rw [hsp]
    exact ⟨rtE ⟨t, ao, cap⟩ b, .tuple [.int .i64 0, .int .i64 80], fun W F w hr => hr, rfl, ao, cap, rfl, rfl⟩
  | true =>
    obtain ⟨k, x, h1, h2, h3, h4, h5, h6⟩ := rLives_live ho hl
    have hd : decide (((k : Nat) : Int) < 0) = false := decide_eq_false (by omega)
    rw [h1, hd]
    have hx := ho.le x (List.mem_of_find?_eq_some h5)
    have hla := ho.last
    have w1 : IntKind.wrap .i64 (((rL t).length : Int) - 1) = ((rL t).length : Int) - 1 := IntWalk.i64_in _ (by omega)
    have w2 : IntKind.wrap .i64 (t.last + 1) = t.last + 1 := IntWalk.i64_in _ (by omega)
    rw [w1, w2]
    refine ⟨rfl, rfl, ?_⟩
    cases hc : decide (((rL t).length : Int) - 1 ≥ t.room) with
    | true =>
      have hsp : pSpawn t pid g c nb = (t, 0, 81) := by
        rw [rL_len] at hc
        simp only [pSpawn, hl, pBegins, hc]
      rw [hsp]
      exact ⟨rtE ⟨t, ao, cap⟩ b, .tuple [.int .i64 0, .int .i64 81], fun W F w hr => hr, rfl, ao, cap, rfl, rfl⟩
    | false =>
      obtain ⟨r, hr0⟩ : ∃ r : PR, r = { PR.zero with pid := t.last + 1, parent := pid, group := g, cmd := c } := ⟨_, rfl⟩
      have hsp : pSpawn t pid g c nb = ({ t with ps := t.ps ++ [(nb, r)], last := t.last + 1 }, t.last + 1, 0) := by
        rw [rL_len] at hc
        simp only [pSpawn, hl, pBegins, hc, hr0]
      have hadd : rL { t with ps := t.ps ++ [(nb, r)], last := t.last + 1 } = rL t ++ [r] := by simp [rL]
      rw [hsp]
      have fin : ∀ (ao2 : Option Addr) (cap2 : Nat) (x : List Ent), up (fun h' v => ∃ ao' cap', h' = rtE ⟨{ t with ps := t.ps ++ [(nb, r)], last := t.last + 1 }, ao', cap'⟩ b ∧ v = SV.tuple [.int .i64 (t.last + 1), .int .i64 0]) ([⟨.blk b, .cells [.vec 1 ao2 ((rL t).length + 1) cap2, .int .i64 t.room, .int .i64 (t.last + 1)] 152⟩, ⟨.sl ao2 cap2, .vecL 149 8 encR (rL t ++ [r]) PR.zero⟩] ++ x) (.tuple [.int .i64 (t.last + 1), .int .i64 0]) :=
        fun ao2 cap2 x => ⟨rtE ⟨_, ao2, cap2⟩ b, _, fun W F w hr => rtE_add b ao2 cap2 hadd rfl rfl hr, rfl, ao2, cap2, rfl, rfl⟩
      repeat' first
        | exact rfl
        | exact trivial
        | (show _ ≤ _; omega)
        | (show _ < _; omega)
        | exact fin _ _ _
        | (refine ⟨[r], rfl, by rw [hr0]; rfl, fun ao2 cap2 _ => ?_⟩)
        | apply And.intro
        | (refine fun b1 => ?_)
        | fail
theorem rtSpawnC_ok : CtrOk Try.prog 38 rtSpawnC := by
  intro args hs N h
  unfold rtSpawnC at h
  split at h
  case h_2 => exact h.elim
  rename_i l b pid g c
  obtain ⟨t, l1, ao, cap, h1, h2, ⟨hne, ho⟩, nb, h⟩ := h
  refine Spec.at (hp := [⟨.blk b, .cells [.vec l1 ao (rL t).length cap, .int .i64 t.room, .int .i64 t.last] 152⟩, ⟨.sl ao cap, .vecL 149 8 encR (rL t) PR.zero⟩]) (args' := [.ptr 0 b 0, .int .i64 pid, .str g, .str c]) (Post' := fun h' r => ∃ ao' cap', h' = [⟨.blk b, .cells [.vec l1 ao' (rL (pSpawn t pid g c nb).1).length cap', .int .i64 (pSpawn t pid g c nb).1.room, .int .i64 (pSpawn t pid g c nb).1.last] 152⟩, ⟨.sl ao' cap', .vecL 149 8 encR (rL (pSpawn t pid g c nb).1) PR.zero⟩] ∧ r = .tuple [.int .i64 (pSpawn t pid g c nb).2.1, .int .i64 (pSpawn t pid g c nb).2.2]) [l, l1] (by
    have : l ≠ l1 := fun e => by
      subst e
      simp at hne
    simpa [distinct] using this) (by simp [pickE, h1, h2]) ?_ rfl ?_
  · intro W F w hr
    have q0 := Rep.cellsEq (l := 0) (cs' := [.vec 1 ao (rL t).length cap, .int .i64 t.room, .int .i64 t.last]) rfl (by rfl) hr
    refine Calls.mono (rtSpawn_spec ho b ao cap pid g c nb W F w q0) ?_
    rintro e w' ⟨h', r, ⟨ao', cap', rfl, rfl⟩, rfl, hr'⟩
    have q := Rep.cellsEq (l := 0) (cs' := [.vec l1 ao' (rL (pSpawn t pid g c nb).1).length cap', .int .i64 (pSpawn t pid g c nb).1.room, .int .i64 (pSpawn t pid g c nb).1.last]) rfl (by rfl) hr'
    exact ⟨_, _, ⟨ao', cap', rfl, rfl⟩, rfl, q⟩
  · rintro h' r ⟨ao', cap', rfl, rfl⟩
    refine ⟨Nat.le_refl _, _, rfl, ?_⟩
    simpa [putBack, appE_eq] using h ao' cap'
theorem rtSp_ok : AllOk Try.prog rtSp := ⟨rtSpawnC_ok, rtLv_ok⟩
theorem raSpawn_ok : CtrOk Try.prog 38 (adtC rtE raSpawnM) := adt_ok fun b s rest N h => by
  obtain ⟨t, ao, cap⟩ := s
  unfold raSpawnM at h
  split at h
  case h_2 => exact h.elim
  rename_i pid g c
  obtain ⟨ho, nb, h⟩ := h
  intro W F w hr
  refine Calls.mono (rtSpawn_spec ho b ao cap pid g c nb W F w hr) ?_
  rintro e w' ⟨h', r, ⟨ao', cap', rfl, rfl⟩, rfl, hr'⟩
  exact ⟨_, _, ⟨_, fun W F w hr => hr, h ao' cap'⟩, rfl, hr'⟩
theorem rtFork_spec {t : PT} (ho : pOk t) (b : Nat) (ao : Option Addr) (cap : Nat) (pid : Int) (nb : Nat) : Spec Try.prog 39 [⟨.blk b, .cells [.vec 1 ao (rL t).length cap, .int .i64 t.room, .int .i64 t.last] 152⟩, ⟨.sl ao cap, .vecL 149 8 encR (rL t) PR.zero⟩] [.ptr 0 b 0, .int .i64 pid] (fun h' r => ∃ ao' cap', h' = rtE ⟨(pFork t pid nb).1, ao', cap'⟩ b ∧ r = .tuple [.int .i64 (pFork t pid nb).2.1, .int .i64 (pFork t pid nb).2.2]) := by
  refine Spec.up ?_
  refine Spec.of_G 49 Try.func39 (c := bodyOf Try.f39) (by kernel_rfl) (by kernel_rfl) (Nat.le_of_ble_eq_true rfl) fun W F => ?_
  refine G_run (kc := false) (ss := []) rtSp_ok hmP 1500 ?_
  rw [rt_fork]
  refine ⟨rfl, t, 1, ao, cap, rfl, rfl, ⟨rfl, ho⟩, ?_⟩
  cases hl : pLive t pid with
  | false =>
    rw [rLives_dead hl]
    have hsp : pFork t pid nb = (t, 0, 80) := by simp only [pFork, hl, Bool.false_and]
    rw [hsp]
    exact ⟨rtE ⟨t, ao, cap⟩ b, .tuple [.int .i64 0, .int .i64 80], fun W F w hr => hr, rfl, ao, cap, rfl, rfl⟩
  | true =>
    obtain ⟨k, x, h1, h2, h3, h4, h5, h6⟩ := rLives_live ho hl
    have hd : decide (((k : Nat) : Int) < 0) = false := decide_eq_false (by omega)
    rw [h1, hd, Int.toNat_natCast, h3]
    cases hp1 : pid == 1 with
    | true =>
      have hsp : pFork t pid nb = (t, 0, 80) := by simp [pFork, hp1]
      rw [hsp]
      exact ⟨rtE ⟨t, ao, cap⟩ b, .tuple [.int .i64 0, .int .i64 80], fun W F w hr => hr, rfl, ao, cap, rfl, rfl⟩
    | false =>
      (repeat first | refine And.intro rfl ?_ | refine And.intro ⟨rfl, rfl, rfl, by omega, by omega⟩ ?_ | refine And.intro ⟨rfl, rfl, rfl, by omega⟩ ?_ | refine And.intro ⟨rfl, rfl, rfl, by omega, rfl⟩ ?_)
      cases hk : x.2.kill with
      | true =>
        have hsp : pFork t pid nb = (t, 0, 80) := by simp [pFork, h4, hk]
        rw [hsp]
        exact ⟨rtE ⟨t, ao, cap⟩ b, .tuple [.int .i64 0, .int .i64 80], fun W F w hr => hr, rfl, ao, cap, rfl, rfl⟩
      | false =>
        have hsp : pFork t pid nb = pSpawn t pid x.2.group x.2.cmd nb := by simp [pFork, pSpawn, hl, hp1, h4, hk]
        rw [hsp]
        have fin : ∀ (ao2 : Option Addr) (cap2 : Nat), up (fun h' v => ∃ ao' cap', h' = rtE ⟨(pSpawn t pid x.2.group x.2.cmd nb).1, ao', cap'⟩ b ∧ v = SV.tuple [.int .i64 (pSpawn t pid x.2.group x.2.cmd nb).2.1, .int .i64 (pSpawn t pid x.2.group x.2.cmd nb).2.2]) (rtE ⟨(pSpawn t pid x.2.group x.2.cmd nb).1, ao2, cap2⟩ b) (.tuple [.int .i64 (pSpawn t pid x.2.group x.2.cmd nb).2.1, .int .i64 (pSpawn t pid x.2.group x.2.cmd nb).2.2]) :=
          fun ao2 cap2 => ⟨rtE ⟨_, ao2, cap2⟩ b, _, fun W F w hr => hr, rfl, ao2, cap2, rfl, rfl⟩
        repeat' first
          | exact rfl
          | exact h2
          | (refine ⟨t, 1, ao, cap, rfl, rfl, ⟨rfl, ho⟩, nb, fun ao2 cap2 => fin ao2 cap2⟩)
          | apply And.intro
          | (show _ ≤ _; omega)
          | (show _ < _; omega)
          | fail
theorem raFork_ok : CtrOk Try.prog 39 (adtC rtE raForkM) := adt_ok fun b s rest N h => by
  obtain ⟨t, ao, cap⟩ := s
  unfold raForkM at h
  split at h
  case h_2 => exact h.elim
  rename_i pid
  obtain ⟨ho, nb, h⟩ := h
  intro W F w hr
  refine Calls.mono (rtFork_spec ho b ao cap pid nb W F w hr) ?_
  rintro e w' ⟨h', r, ⟨ao', cap', rfl, rfl⟩, rfl, hr'⟩
  exact ⟨_, _, ⟨_, fun W F w hr => hr, h ao' cap'⟩, rfl, hr'⟩
end Go.Proofs.Ytihajdkipkfiiaa
