/- The document's table: places. -/
import Derived.Test.YtihajdkipkfiiaaRt1Run
import Derived.Test.YtihajdkipkfiiaaPrc1
namespace Go.Proofs.Ytihajdkipkfiiaa
open Go Go.RowKit
set_option linter.unusedVariables false
set_option linter.unusedSimpArgs false
set_option linter.unnecessarySimpa false
set_option maxHeartbeats 0

theorem rtE_is (t : PT) (b : Nat) (ao : Option Addr) (cap : Nat) : rtE ⟨t, ao, cap⟩ b = [⟨.blk b, .cells [.vec 1 ao (rL t).length cap, .int .i64 t.room, .int .i64 t.last] 152⟩, ⟨.sl ao cap, .vecL 149 8 encR (rL t) PR.zero⟩] := rfl
theorem rtE_set {t t' : PT} {k : Nat} {e : PR} (b : Nat) (ao : Option Addr) (cap : Nat) (h : rL t' = (rL t).set k e) (h1 : t'.room = t.room) (h2 : t'.last = t.last) : rtE ⟨t', ao, cap⟩ b = [⟨.blk b, .cells [.vec 1 ao (rL t).length cap, .int .i64 t.room, .int .i64 t.last] 152⟩, ⟨.sl ao cap, .vecL 149 8 encR ((rL t).set k e) PR.zero⟩] := by
  simp [rtE, h, h1, h2]
theorem rL_len (t : PT) : (rL t).length = t.ps.length := by simp [rL]
theorem rAt_none {t : PT} {pid : Int} (h : getP t.ps pid = none) : rAtV t pid = -1 := by
  unfold rAtV
  refine fIdx_none _ _ _ fun r hr => ?_
  obtain ⟨x, hx, rfl⟩ := List.mem_map.1 hr
  have := List.find?_eq_none.1 h x hx
  simpa using this
theorem rAt_some {t : PT} (ho : pOk t) {pid : Int} {x : Nat × PR} (h : getP t.ps pid = some x) : ∃ k : Nat, rAtV t pid = (k : Int) ∧ k < (rL t).length ∧ (rL t).getD k (PR.mk (0 : Int) (0 : Int) (ByteArray.mk #[]) false (0 : Int) (ByteArray.mk #[]) false false) = x.2 ∧ ∀ g, rL { t with ps := setP t.ps pid g } = (rL t).set k (g x.2) := by
  obtain ⟨l1, l2, hs, hp, hset, _⟩ := getP_split ho.asc h
  have e : rL t = l1.map (·.2) ++ x.2 :: l2.map (·.2) := by unfold rL; rw [hs]; simp
  refine ⟨l1.length, ?_, by rw [e]; simp, ?_, fun g => ?_⟩
  · unfold rAtV
    rw [e, fIdx_split _ _ _ (by simp [hp])]
    · simp
    · intro y hy
      obtain ⟨z, hz, rfl⟩ := List.mem_map.1 hy
      have ha := ho.asc
      rw [hs, List.pairwise_append] at ha
      have := ha.2.2 z hz x List.mem_cons_self
      simp; omega
  · rw [e]
    have := getD_mid (l1.map (·.2)) x.2 (l2.map (·.2)) (PR.mk (0 : Int) (0 : Int) (ByteArray.mk #[]) false (0 : Int) (ByteArray.mk #[]) false false)
    rw [List.length_map] at this
    exact this
  · rw [e]
    have := set_mid (l1.map (·.2)) x.2 (g x.2) (l2.map (·.2))
    rw [List.length_map] at this
    rw [this]
    unfold rL
    dsimp only
    rw [hset]
    simp
theorem rLives_dead {t : PT} {pid : Int} (h : pLive t pid = false) : rLivesV t pid = -1 := by simp [rLivesV, h]
theorem rLives_live {t : PT} (ho : pOk t) {pid : Int} (h : pLive t pid = true) : ∃ (k : Nat) (x : Nat × PR), rLivesV t pid = (k : Int) ∧ k < (rL t).length ∧ (rL t).getD k (PR.mk (0 : Int) (0 : Int) (ByteArray.mk #[]) false (0 : Int) (ByteArray.mk #[]) false false) = x.2 ∧ pGet t pid = x.2 ∧ getP t.ps pid = some x ∧ ∀ g, rL { t with ps := setP t.ps pid g } = (rL t).set k (g x.2) := by
  cases hg : getP t.ps pid with
  | none => rw [(pHas_none hg).2.2] at h; cases h
  | some x =>
    obtain ⟨k, h1, h2, h3, h4⟩ := rAt_some ho hg
    exact ⟨k, x, by simp [rLivesV, h, h1], h2, h3, (pHas_some hg).2.1, rfl, h4⟩
theorem getD_set_self {α : Type} {xs : List α} {k : Nat} (h : k < xs.length) (e d : α) : (xs.set k e).getD k d = e := by simp [List.getD, h]
theorem getD_ltR {α : Type} (xs : List α) (d : α) (i : Nat) (h : i < xs.length) : xs.getD i d = xs[i] := by simp [List.getD, h]

theorem rtAt_spec {t : PT} (ho : pOk t) (b : Nat) (ao : Option Addr) (cap : Nat) (pid : Int) : Spec Try.prog 85 [⟨.blk b, .cells [.vec 1 ao (rL t).length cap, .int .i64 t.room, .int .i64 t.last] 152⟩, ⟨.sl ao cap, .vecL 149 8 encR (rL t) PR.zero⟩] [.ptr 0 b 0, .int .i64 pid] fun h' r => h' = [⟨.blk b, .cells [.vec 1 ao (rL t).length cap, .int .i64 t.room, .int .i64 t.last] 152⟩, ⟨.sl ao cap, .vecL 149 8 encR (rL t) PR.zero⟩] ∧ r = .int .i64 (rAtV t pid) := by
  refine Spec.up ?_
  refine Spec.of_G 27 Try.func85 (c := bodyOf Try.f85) (by kernel_rfl) (by kernel_rfl) (Nat.le_of_ble_eq_true rfl) fun W F => ?_
  refine G_run (kc := false) (ss := []) (Cs := []) trivial hmP 600 ?_
  rw [rt_at]
  refine G_loopAt (ι := Nat) [] (bodyOf Try.f85) [1, 0, 1, 0] 27 (fun i => [(0, .ptr 0 b 0), (1, .int .i64 pid), (5, .int .i64 (i : Int))]) (fun _ => [⟨.blk b, .cells [.vec 1 ao (rL t).length cap, .int .i64 t.room, .int .i64 t.last] 152⟩, ⟨.sl ao cap, .vecL 149 8 encR (rL t) PR.zero⟩]) (fun i => i ≤ (rL t).length ∧ rAtV t pid = fIdx (fun r : PR => r.pid == pid) ((rL t).drop i) i) (fun i => (rL t).length - i) 0 (by kernel_rfl) (fun J => by kernel_rfl) ⟨Nat.zero_le _, rfl⟩ rfl ⟨rfl, rfl, rfl, trivial⟩ (fun w hw => hw) ?_
  rintro i ⟨hi, hv⟩ u
  try dsimp only at hi hv ⊢
  simp only [List.nil_append, List.cons_append]
  refine G_run (kc := false) (ss := []) (Cs := []) trivial hmP 900 ?_
  rw [rt_at1]
  have hlen : (rL t).length ≤ 1000000 := by rw [rL_len]; exact ho.len
  cases hlt : decide ((i : Int) < ((rL t).length : Int)) with
  | false =>
    simp only [decide_eq_false_iff_not] at hlt
    rw [List.drop_of_length_le (by omega)] at hv
    exact ⟨rfl, ⟨_, .int .i64 (-1), fun W F w hr => hr, rfl, rfl, by rw [hv]; rfl⟩⟩
  | true =>
    simp only [decide_eq_true_eq] at hlt
    rw [fIdx_drop _ (PR.mk (0 : Int) (0 : Int) (ByteArray.mk #[]) false (0 : Int) (ByteArray.mk #[]) false false) _ _ (by omega)] at hv
    have w1 : IntKind.wrap .i64 ((i : Int) + 1) = ((i + 1 : Nat) : Int) := IntWalk.i64_in _ (by omega)
    rw [Int.toNat_natCast]
    (repeat first | refine And.intro rfl ?_ | refine And.intro ⟨rfl, rfl, rfl, by omega, by omega⟩ ?_ | refine And.intro ⟨rfl, rfl, rfl, by omega⟩ ?_ | refine And.intro ⟨rfl, rfl, rfl, by omega, rfl⟩ ?_)
    cases hc : ((rL t).getD i (PR.mk (0 : Int) (0 : Int) (ByteArray.mk #[]) false (0 : Int) (ByteArray.mk #[]) false false)).pid == pid with
    | true =>
      rw [hc] at hv
      exact ⟨_, .int .i64 (i : Int), fun W F w hr => hr, rfl, rfl, by rw [hv]⟩
    | false =>
      rw [hc] at hv
      exact G_back (i + 1) ⟨by omega, hv⟩ (by omega) rfl ⟨rfl, rfl, congrArg (Value.int .i64) w1, trivial⟩ (fun w hw => hw)
theorem rtIdx_ok {fn : FuncId} {v : PT → Int → Int} (hsp : ∀ (t : PT) (b : Nat) (ao : Option Addr) (cap : Nat) (pid : Int), pOk t → Spec Try.prog fn [⟨.blk b, .cells [.vec 1 ao (rL t).length cap, .int .i64 t.room, .int .i64 t.last] 152⟩, ⟨.sl ao cap, .vecL 149 8 encR (rL t) PR.zero⟩] [.ptr 0 b 0, .int .i64 pid] fun h' r => h' = [⟨.blk b, .cells [.vec 1 ao (rL t).length cap, .int .i64 t.room, .int .i64 t.last] 152⟩, ⟨.sl ao cap, .vecL 149 8 encR (rL t) PR.zero⟩] ∧ r = .int .i64 (v t pid)) : CtrOk Try.prog fn (rtIdxC v) := by
  intro args hs N h
  unfold rtIdxC at h
  split at h
  case h_2 => exact h.elim
  rename_i l b pid
  obtain ⟨t, l1, ao, cap, h1, h2, ⟨hne, ho⟩, h⟩ := h
  refine Spec.at (hp := [⟨.blk b, .cells [.vec l1 ao (rL t).length cap, .int .i64 t.room, .int .i64 t.last] 152⟩, ⟨.sl ao cap, .vecL 149 8 encR (rL t) PR.zero⟩]) (args' := [.ptr 0 b 0, .int .i64 pid]) (Post' := fun h' r => h' = [⟨.blk b, .cells [.vec l1 ao (rL t).length cap, .int .i64 t.room, .int .i64 t.last] 152⟩, ⟨.sl ao cap, .vecL 149 8 encR (rL t) PR.zero⟩] ∧ r = .int .i64 (v t pid)) [l, l1] (by
    have : l ≠ l1 := fun e => by
      subst e
      simp at hne
    simpa [distinct] using this) (by simp [pickE, h1, h2]) ?_ rfl ?_
  · intro W F w hr
    have q0 := Rep.cellsEq (l := 0) (cs' := [.vec 1 ao (rL t).length cap, .int .i64 t.room, .int .i64 t.last]) rfl (by rfl) hr
    refine Calls.mono (hsp t b ao cap pid ho W F w q0) ?_
    rintro e w' ⟨h', r, ⟨rfl, rfl⟩, rfl, hr'⟩
    have q := Rep.cellsEq (l := 0) (cs' := [.vec l1 ao (rL t).length cap, .int .i64 t.room, .int .i64 t.last]) rfl (by rfl) hr'
    exact ⟨_, _, ⟨rfl, rfl⟩, rfl, q⟩
  · rintro h' r ⟨rfl, rfl⟩
    refine ⟨Nat.le_refl _, _, rfl, ?_⟩
    simpa [putBack, appE_eq, setN_selfR h1, setN_selfR h2] using h
theorem rtL_ok : AllOk Try.prog rtL := ⟨rtIdx_ok fun t b ao cap pid ho => rtAt_spec ho b ao cap pid, trivial⟩
theorem rtLives_spec {t : PT} (ho : pOk t) (b : Nat) (ao : Option Addr) (cap : Nat) (pid : Int) : Spec Try.prog 84 [⟨.blk b, .cells [.vec 1 ao (rL t).length cap, .int .i64 t.room, .int .i64 t.last] 152⟩, ⟨.sl ao cap, .vecL 149 8 encR (rL t) PR.zero⟩] [.ptr 0 b 0, .int .i64 pid] fun h' r => h' = [⟨.blk b, .cells [.vec 1 ao (rL t).length cap, .int .i64 t.room, .int .i64 t.last] 152⟩, ⟨.sl ao cap, .vecL 149 8 encR (rL t) PR.zero⟩] ∧ r = .int .i64 (rLivesV t pid) := by
  refine Spec.up ?_
  refine Spec.of_G 23 Try.func84 (c := bodyOf Try.f84) (by kernel_rfl) (by kernel_rfl) (Nat.le_of_ble_eq_true rfl) fun W F => ?_
  refine G_run (kc := false) (ss := []) rtL_ok hmP 600 ?_
  rw [rt_lives]
  refine ⟨rfl, t, 1, ao, cap, rfl, rfl, ⟨rfl, ho⟩, ?_⟩
  cases hg : getP t.ps pid with
  | none =>
    have e : rLivesV t pid = -1 := rLives_dead (pHas_none hg).2.2
    rw [rAt_none hg]
    exact ⟨_, .int .i64 (-1), fun W F w hr => hr, rfl, rfl, by rw [e]⟩
  | some x =>
    obtain ⟨k, h1, h2, h3, h4⟩ := rAt_some ho hg
    have hlv := (pHas_some hg).2.2
    have hd : decide (((k : Nat) : Int) ≥ 0) = true := decide_eq_true (by omega)
    rw [h1, hd, Int.toNat_natCast, h3]
    (repeat first | refine And.intro rfl ?_ | refine And.intro ⟨rfl, rfl, rfl, by omega, by omega⟩ ?_ | refine And.intro ⟨rfl, rfl, rfl, by omega⟩ ?_ | refine And.intro ⟨rfl, rfl, rfl, by omega, rfl⟩ ?_)
    cases hz : x.2.zombie with
    | true =>
      rw [hz] at hlv
      exact ⟨_, .int .i64 (-1), fun W F w hr => hr, rfl, rfl, by rw [rLives_dead hlv]⟩
    | false =>
      rw [hz] at hlv
      exact ⟨_, .int .i64 (k : Int), fun W F w hr => hr, rfl, rfl, by simp [rLivesV, hlv, h1]⟩
theorem rtLv_ok : AllOk Try.prog rtLv := ⟨rtIdx_ok fun t b ao cap pid ho => rtLives_spec ho b ao cap pid, rtL_ok⟩
end Go.Proofs.Ytihajdkipkfiiaa
