import Derived.Test.YtkcmgcoppecfpaaGreatMgKernPlays10
import Derived.Test.YtkcmgcoppecfpaaGreatMgKernPlays7
import Derived.Test.YtkcmgcoppecfpaaGreatMgKernPlays9
import Derived.Test.YtkcmgcoppecfpaaGreatMgKernPlays6
import Derived.Test.YtkcmgcoppecfpaaGreatMgKernPlays5
set_option linter.unusedVariables false
set_option linter.unusedSimpArgs false
set_option linter.unnecessarySimpa false
set_option maxHeartbeats 0
set_option maxRecDepth 100000
/- The document's table: places. -/
namespace Go.Proofs.YtkcmgcoppecfpaaGreat
open Go Go.RowKit

theorem rtE_set {t t' : PT} {k : Nat} {e : PR} (b : Nat) (ao : Option Addr) (cap : Nat) (h : rL t' = (rL t).set k e) (h1 : t'.room = t.room) (h2 : t'.last = t.last) : rtE ⟨t', ao, cap⟩ b = [⟨.blk b, .cells [.vec 1 ao (rL t).length cap, .int .i64 t.room, .int .i64 t.last] 137⟩, ⟨.sl ao cap, .vecL 134 8 encR ((rL t).set k e) PR.zero⟩] := by
  simp [rtE, h, h1, h2]
theorem rL_len (t : PT) : (rL t).length = t.ps.length := by simp [rL]
theorem rAt_none {t : PT} {pid : Int} (h : getP t.ps pid = none) : rAtV t pid = -1 := by
  unfold rAtV
  refine fIdx_none _ _ _ fun r hr => ?_
  obtain ⟨x, hx, rfl⟩ := List.mem_map.1 hr
  have := List.find?_eq_none.1 h x hx
  simpa using this
theorem rAt_some {t : PT} (ho : pOk t) {pid : Int} {x : Nat × PR} (h : getP t.ps pid = some x) : ∃ k : Nat, rAtV t pid = (k : Int) ∧ k < (rL t).length ∧ (rL t).getD k PR.zero = x.2 ∧ ∀ g, rL { t with ps := setP t.ps pid g } = (rL t).set k (g x.2) := by
  obtain ⟨l1, l2, hs, hp, hset, _⟩ := getP_split ho.asc h
  have e : rL t = l1.map (·.2) ++ x.2 :: l2.map (·.2) := by unfold rL; rw [hs]; simp
  refine ⟨l1.length, ?_, by rw [e]; simp, ?_, fun g => ?_⟩
  · unfold rAtV
    rw [e, fIdx_split _ _ _ (by simp [hp])]
    · simp
    · intro y hy
      obtain ⟨z, hz, rfl⟩ := List.mem_map.1 hy
      have ha := ho.asc
      rw [hs, List.pairwise_append] at ha
      have := ha.2.2 z hz x List.mem_cons_self
      simp; omega
  · rw [e]
    have := getD_mid (l1.map (·.2)) x.2 (l2.map (·.2)) PR.zero
    rw [List.length_map] at this
    exact this
  · rw [e]
    have := set_mid (l1.map (·.2)) x.2 (g x.2) (l2.map (·.2))
    rw [List.length_map] at this
    rw [this]
    unfold rL
    dsimp only
    rw [hset]
    simp
theorem rLives_dead {t : PT} {pid : Int} (h : pLive t pid = false) : rLivesV t pid = -1 := by simp [rLivesV, h]
theorem rLives_live {t : PT} (ho : pOk t) {pid : Int} (h : pLive t pid = true) : ∃ (k : Nat) (x : Nat × PR), rLivesV t pid = (k : Int) ∧ k < (rL t).length ∧ (rL t).getD k PR.zero = x.2 ∧ pGet t pid = x.2 ∧ getP t.ps pid = some x ∧ ∀ g, rL { t with ps := setP t.ps pid g } = (rL t).set k (g x.2) := by
  cases hg : getP t.ps pid with
  | none => rw [(pHas_none hg).2.2] at h; cases h
  | some x =>
    obtain ⟨k, h1, h2, h3, h4⟩ := rAt_some ho hg
    exact ⟨k, x, by simp [rLivesV, h, h1], h2, h3, (pHas_some hg).2.1, rfl, h4⟩
theorem getD_set_self {α : Type} {xs : List α} {k : Nat} (h : k < xs.length) (e d : α) : (xs.set k e).getD k d = e := by simp [List.getD, h]
theorem getD_ltR {α : Type} (xs : List α) (d : α) (i : Nat) (h : i < xs.length) : xs.getD i d = xs[i] := by simp [List.getD, h]

theorem rtAt_spec {t : PT} (ho : pOk t) (b : Nat) (ao : Option Addr) (cap : Nat) (pid : Int) : Spec Tryz.prog 90 [⟨.blk b, .cells [.vec 1 ao (rL t).length cap, .int .i64 t.room, .int .i64 t.last] 137⟩, ⟨.sl ao cap, .vecL 134 8 encR (rL t) PR.zero⟩] [.ptr 0 b 0, .int .i64 pid] fun h' r => h' = [⟨.blk b, .cells [.vec 1 ao (rL t).length cap, .int .i64 t.room, .int .i64 t.last] 137⟩, ⟨.sl ao cap, .vecL 134 8 encR (rL t) PR.zero⟩] ∧ r = .int .i64 (rAtV t pid) := by
  refine Spec.up ?_
  refine Spec.of_G 27 Tryz.func90 (c := bodyOf Tryz.f90) (by kernel_rfl) (by kernel_rfl) (Nat.le_of_ble_eq_true rfl) fun W F => ?_
  refine G_run (kc := false) (ss := []) (Cs := []) trivial hmP 600 ?_
  rw [rt_at]
  refine G_loopAt (ι := Nat) [] (bodyOf Tryz.f90) [1, 0, 1, 0] 27 (fun i => [(0, .ptr 0 b 0), (1, .int .i64 pid), (5, .int .i64 (i : Int))]) (fun _ => [⟨.blk b, .cells [.vec 1 ao (rL t).length cap, .int .i64 t.room, .int .i64 t.last] 137⟩, ⟨.sl ao cap, .vecL 134 8 encR (rL t) PR.zero⟩]) (fun i => i ≤ (rL t).length ∧ rAtV t pid = fIdx (fun r : PR => r.pid == pid) ((rL t).drop i) i) (fun i => (rL t).length - i) 0 (by kernel_rfl) (fun J => by kernel_rfl) ⟨Nat.zero_le _, rfl⟩ rfl ⟨rfl, rfl, rfl, trivial⟩ (fun w hw => hw) ?_
  rintro i ⟨hi, hv⟩ u
  try dsimp only at hi hv ⊢
  simp only [List.nil_append, List.cons_append]
  refine G_run (kc := false) (ss := []) (Cs := []) trivial hmP 900 ?_
  rw [rt_at1]
  have hlen : (rL t).length ≤ 1000000 := by rw [rL_len]; exact ho.len
  cases hlt : decide ((i : Int) < ((rL t).length : Int)) with
  | false =>
    simp only [decide_eq_false_iff_not] at hlt
    rw [List.drop_of_length_le (by omega)] at hv
    exact ⟨rfl, ⟨_, .int .i64 (-1), fun W F w hr => hr, rfl, rfl, by rw [hv]; rfl⟩⟩
  | true =>
    simp only [decide_eq_true_eq] at hlt
    rw [fIdx_drop _ PR.zero _ _ (by omega)] at hv
    have w1 : IntKind.wrap .i64 ((i : Int) + 1) = ((i + 1 : Nat) : Int) := IntWalk.i64_in _ (by omega)
    rw [Int.toNat_natCast]
    (repeat first | refine And.intro rfl ?_ | refine And.intro ⟨rfl, rfl, rfl, by omega, by omega⟩ ?_ | refine And.intro ⟨rfl, rfl, rfl, by omega⟩ ?_ | refine And.intro ⟨rfl, rfl, rfl, by omega, rfl⟩ ?_)
    cases hc : ((rL t).getD i PR.zero).pid == pid with
    | true =>
      rw [hc] at hv
      exact ⟨_, .int .i64 (i : Int), fun W F w hr => hr, rfl, rfl, by rw [hv]⟩
    | false =>
      rw [hc] at hv
      exact G_back (i + 1) ⟨by omega, hv⟩ (by omega) rfl ⟨rfl, rfl, congrArg (Value.int .i64) w1, trivial⟩ (fun w hw => hw)
theorem rtIdx_ok {fn : FuncId} {v : PT → Int → Int} (hsp : ∀ (t : PT) (b : Nat) (ao : Option Addr) (cap : Nat) (pid : Int), pOk t → Spec Tryz.prog fn [⟨.blk b, .cells [.vec 1 ao (rL t).length cap, .int .i64 t.room, .int .i64 t.last] 137⟩, ⟨.sl ao cap, .vecL 134 8 encR (rL t) PR.zero⟩] [.ptr 0 b 0, .int .i64 pid] fun h' r => h' = [⟨.blk b, .cells [.vec 1 ao (rL t).length cap, .int .i64 t.room, .int .i64 t.last] 137⟩, ⟨.sl ao cap, .vecL 134 8 encR (rL t) PR.zero⟩] ∧ r = .int .i64 (v t pid)) : CtrOk Tryz.prog fn (rtIdxC v) := by
  intro args hs N h
  unfold rtIdxC at h
  split at h
  case h_2 => exact h.elim
  rename_i l b pid
  obtain ⟨t, l1, ao, cap, h1, h2, ⟨hne, ho⟩, h⟩ := h
  refine Spec.at (hp := [⟨.blk b, .cells [.vec l1 ao (rL t).length cap, .int .i64 t.room, .int .i64 t.last] 137⟩, ⟨.sl ao cap, .vecL 134 8 encR (rL t) PR.zero⟩]) (args' := [.ptr 0 b 0, .int .i64 pid]) (Post' := fun h' r => h' = [⟨.blk b, .cells [.vec l1 ao (rL t).length cap, .int .i64 t.room, .int .i64 t.last] 137⟩, ⟨.sl ao cap, .vecL 134 8 encR (rL t) PR.zero⟩] ∧ r = .int .i64 (v t pid)) [l, l1] (by
    have : l ≠ l1 := fun e => by
      subst e
      simp at hne
    simpa [distinct] using this) (by simp [pickE, h1, h2]) ?_ rfl ?_
  · intro W F w hr
    have q0 := Rep.cellsEq (l := 0) (cs' := [.vec 1 ao (rL t).length cap, .int .i64 t.room, .int .i64 t.last]) rfl (by rfl) hr
    refine Calls.mono (hsp t b ao cap pid ho W F w q0) ?_
    rintro e w' ⟨h', r, ⟨rfl, rfl⟩, rfl, hr'⟩
    have q := Rep.cellsEq (l := 0) (cs' := [.vec l1 ao (rL t).length cap, .int .i64 t.room, .int .i64 t.last]) rfl (by rfl) hr'
    exact ⟨_, _, ⟨rfl, rfl⟩, rfl, q⟩
  · rintro h' r ⟨rfl, rfl⟩
    refine ⟨Nat.le_refl _, _, rfl, ?_⟩
    simpa [putBack, appE_eq, setN_selfR h1, setN_selfR h2] using h
theorem rtL_ok : AllOk Tryz.prog rtL := ⟨rtIdx_ok fun t b ao cap pid ho => rtAt_spec ho b ao cap pid, trivial⟩
theorem rtLives_spec {t : PT} (ho : pOk t) (b : Nat) (ao : Option Addr) (cap : Nat) (pid : Int) : Spec Tryz.prog 74 [⟨.blk b, .cells [.vec 1 ao (rL t).length cap, .int .i64 t.room, .int .i64 t.last] 137⟩, ⟨.sl ao cap, .vecL 134 8 encR (rL t) PR.zero⟩] [.ptr 0 b 0, .int .i64 pid] fun h' r => h' = [⟨.blk b, .cells [.vec 1 ao (rL t).length cap, .int .i64 t.room, .int .i64 t.last] 137⟩, ⟨.sl ao cap, .vecL 134 8 encR (rL t) PR.zero⟩] ∧ r = .int .i64 (rLivesV t pid) := by
  refine Spec.up ?_
  refine Spec.of_G 23 Tryz.func74 (c := bodyOf Tryz.f74) (by kernel_rfl) (by kernel_rfl) (Nat.le_of_ble_eq_true rfl) fun W F => ?_
  refine G_run (kc := false) (ss := []) rtL_ok hmP 600 ?_
  rw [rt_lives]
  refine ⟨rfl, t, 1, ao, cap, rfl, rfl, ⟨rfl, ho⟩, ?_⟩
  cases hg : getP t.ps pid with
  | none =>
    have e : rLivesV t pid = -1 := rLives_dead (pHas_none hg).2.2
    rw [rAt_none hg]
    exact ⟨_, .int .i64 (-1), fun W F w hr => hr, rfl, rfl, by rw [e]⟩
  | some x =>
    obtain ⟨k, h1, h2, h3, h4⟩ := rAt_some ho hg
    have hlv := (pHas_some hg).2.2
    have hd : decide (((k : Nat) : Int) ≥ 0) = true := decide_eq_true (by omega)
    rw [h1, hd, Int.toNat_natCast, h3]
    (repeat first | refine And.intro rfl ?_ | refine And.intro ⟨rfl, rfl, rfl, by omega, by omega⟩ ?_ | refine And.intro ⟨rfl, rfl, rfl, by omega⟩ ?_ | refine And.intro ⟨rfl, rfl, rfl, by omega, rfl⟩ ?_)
    cases hz : x.2.zombie with
    | true =>
      rw [hz] at hlv
      exact ⟨_, .int .i64 (-1), fun W F w hr => hr, rfl, rfl, by rw [rLives_dead hlv]⟩
    | false =>
      rw [hz] at hlv
      exact ⟨_, .int .i64 (k : Int), fun W F w hr => hr, rfl, rfl, by simp [rLivesV, hlv, h1]⟩
theorem rtLv_ok : AllOk Tryz.prog rtLv := ⟨rtIdx_ok fun t b ao cap pid ho => rtLives_spec ho b ao cap pid, rtL_ok⟩
end Go.Proofs.YtkcmgcoppecfpaaGreat

/- The document's table: Spawn, Fork. -/
namespace Go.Proofs.YtkcmgcoppecfpaaGreat
open Go Go.RowKit

theorem rtE_add {W w : World} {F : List Ch} {t t' : PT} {r : PR} (b : Nat) (ao : Option Addr) (cap : Nat) {x : List Ent} {last : Int} (h : rL t' = rL t ++ [r]) (h1 : t'.room = t.room) (h2 : t'.last = last) (hr : Rep W F ([⟨.blk b, .cells [.vec 1 ao ((rL t).length + 1) cap, .int .i64 t.room, .int .i64 last] 137⟩, ⟨.sl ao cap, .vecL 134 8 encR (rL t ++ [r]) PR.zero⟩] ++ x) w) : Rep W F (rtE ⟨t', ao, cap⟩ b) w := by
  have e : rtE ⟨t', ao, cap⟩ b = [⟨.blk b, .cells [.vec 1 ao ((rL t).length + 1) cap, .int .i64 t.room, .int .i64 last] 137⟩, ⟨.sl ao cap, .vecL 134 8 encR (rL t ++ [r]) PR.zero⟩] := by simp [rtE, h, h1, h2]
  rw [e]
  exact Rep.dropR hr
theorem rtSpawn_spec {t : PT} (ho : pOk t) (b : Nat) (ao : Option Addr) (cap : Nat) (pid : Int) (g c : ByteArray) (nb : Nat) : Spec Tryz.prog 66 [⟨.blk b, .cells [.vec 1 ao (rL t).length cap, .int .i64 t.room, .int .i64 t.last] 137⟩, ⟨.sl ao cap, .vecL 134 8 encR (rL t) PR.zero⟩] [.ptr 0 b 0, .int .i64 pid, .str g, .str c] (fun h' r => ∃ ao' cap', h' = rtE ⟨(pSpawn t pid g c nb).1, ao', cap'⟩ b ∧ r = .tuple [.int .i64 (pSpawn t pid g c nb).2.1, .int .i64 (pSpawn t pid g c nb).2.2]) := by
  refine Spec.up ?_
  refine Spec.of_G 56 Tryz.func66 (c := bodyOf Tryz.f66) (by kernel_rfl) (by kernel_rfl) (Nat.le_of_ble_eq_true rfl) fun W F => ?_
  refine G_run (kc := false) (ss := []) rtLv_ok hmP 900 ?_
  rw [rt_spawn]
  refine ⟨rfl, t, 1, ao, cap, rfl, rfl, ⟨rfl, ho⟩, ?_⟩
  have hlen : (rL t).length ≤ 1000000 := by rw [rL_len]; exact ho.len
  cases hl : pLive t pid with
  | false =>
    rw [rLives_dead hl]
    have hsp : pSpawn t pid g c nb = (t, 0, 80) := by simp only [pSpawn, hl]
    rw [hsp]
    exact ⟨rtE ⟨t, ao, cap⟩ b, .tuple [.int .i64 0, .int .i64 80], fun W F w hr => hr, rfl, ao, cap, rfl, rfl⟩
  | true =>
    obtain ⟨k, x, h1, h2, h3, h4, h5, h6⟩ := rLives_live ho hl
    have hd : decide (((k : Nat) : Int) < 0) = false := decide_eq_false (by omega)
    rw [h1, hd]
    have hx := ho.le x (List.mem_of_find?_eq_some h5)
    have hla := ho.last
    have w1 : IntKind.wrap .i64 (((rL t).length : Int) - 1) = ((rL t).length : Int) - 1 := IntWalk.i64_in _ (by omega)
    have w2 : IntKind.wrap .i64 (t.last + 1) = t.last + 1 := IntWalk.i64_in _ (by omega)
    rw [w1, w2]
    refine ⟨rfl, rfl, ?_⟩
    cases hc : decide (((rL t).length : Int) - 1 ≥ t.room) with
    | true =>
      have hsp : pSpawn t pid g c nb = (t, 0, 81) := by
        rw [rL_len] at hc
        simp only [pSpawn, hl, pBegins, hc]
      rw [hsp]
      exact ⟨rtE ⟨t, ao, cap⟩ b, .tuple [.int .i64 0, .int .i64 81], fun W F w hr => hr, rfl, ao, cap, rfl, rfl⟩
    | false =>
      obtain ⟨r, hr0⟩ : ∃ r : PR, r = { PR.zero with pid := t.last + 1, parent := pid, group := g, cmd := c } := ⟨_, rfl⟩
      have hsp : pSpawn t pid g c nb = ({ t with ps := t.ps ++ [(nb, r)], last := t.last + 1 }, t.last + 1, 0) := by
        rw [rL_len] at hc
        simp only [pSpawn, hl, pBegins, hc, hr0]
      have hadd : rL { t with ps := t.ps ++ [(nb, r)], last := t.last + 1 } = rL t ++ [r] := by simp [rL]
      rw [hsp]
      have fin : ∀ (ao2 : Option Addr) (cap2 : Nat) (x : List Ent), up (fun h' v => ∃ ao' cap', h' = rtE ⟨{ t with ps := t.ps ++ [(nb, r)], last := t.last + 1 }, ao', cap'⟩ b ∧ v = SV.tuple [.int .i64 (t.last + 1), .int .i64 0]) ([⟨.blk b, .cells [.vec 1 ao2 ((rL t).length + 1) cap2, .int .i64 t.room, .int .i64 (t.last + 1)] 137⟩, ⟨.sl ao2 cap2, .vecL 134 8 encR (rL t ++ [r]) PR.zero⟩] ++ x) (.tuple [.int .i64 (t.last + 1), .int .i64 0]) :=
        fun ao2 cap2 x => ⟨rtE ⟨_, ao2, cap2⟩ b, _, fun W F w hr => rtE_add b ao2 cap2 hadd rfl rfl hr, rfl, ao2, cap2, rfl, rfl⟩
      repeat' first
        | exact rfl
        | exact trivial
        | (show _ ≤ _; omega)
        | (show _ < _; omega)
        | exact fin _ _ _
        | (refine ⟨[r], rfl, by rw [hr0]; rfl, fun ao2 cap2 _ => ?_⟩)
        | apply And.intro
        | (refine fun b1 => ?_)
        | fail
theorem rtSpawnC_ok : CtrOk Tryz.prog 66 rtSpawnC := by
  intro args hs N h
  unfold rtSpawnC at h
  split at h
  case h_2 => exact h.elim
  rename_i l b pid g c
  obtain ⟨t, l1, ao, cap, h1, h2, ⟨hne, ho⟩, nb, h⟩ := h
  refine Spec.at (hp := [⟨.blk b, .cells [.vec l1 ao (rL t).length cap, .int .i64 t.room, .int .i64 t.last] 137⟩, ⟨.sl ao cap, .vecL 134 8 encR (rL t) PR.zero⟩]) (args' := [.ptr 0 b 0, .int .i64 pid, .str g, .str c]) (Post' := fun h' r => ∃ ao' cap', h' = [⟨.blk b, .cells [.vec l1 ao' (rL (pSpawn t pid g c nb).1).length cap', .int .i64 (pSpawn t pid g c nb).1.room, .int .i64 (pSpawn t pid g c nb).1.last] 137⟩, ⟨.sl ao' cap', .vecL 134 8 encR (rL (pSpawn t pid g c nb).1) PR.zero⟩] ∧ r = .tuple [.int .i64 (pSpawn t pid g c nb).2.1, .int .i64 (pSpawn t pid g c nb).2.2]) [l, l1] (by
    have : l ≠ l1 := fun e => by
      subst e
      simp at hne
    simpa [distinct] using this) (by simp [pickE, h1, h2]) ?_ rfl ?_
  · intro W F w hr
    have q0 := Rep.cellsEq (l := 0) (cs' := [.vec 1 ao (rL t).length cap, .int .i64 t.room, .int .i64 t.last]) rfl (by rfl) hr
    refine Calls.mono (rtSpawn_spec ho b ao cap pid g c nb W F w q0) ?_
    rintro e w' ⟨h', r, ⟨ao', cap', rfl, rfl⟩, rfl, hr'⟩
    have q := Rep.cellsEq (l := 0) (cs' := [.vec l1 ao' (rL (pSpawn t pid g c nb).1).length cap', .int .i64 (pSpawn t pid g c nb).1.room, .int .i64 (pSpawn t pid g c nb).1.last]) rfl (by rfl) hr'
    exact ⟨_, _, ⟨ao', cap', rfl, rfl⟩, rfl, q⟩
  · rintro h' r ⟨ao', cap', rfl, rfl⟩
    refine ⟨Nat.le_refl _, _, rfl, ?_⟩
    simpa [putBack, appE_eq] using h ao' cap'
theorem rtSp_ok : AllOk Tryz.prog rtSp := ⟨rtSpawnC_ok, rtLv_ok⟩
theorem raSpawn_ok : CtrOk Tryz.prog 66 (adtC rtE raSpawnM) := adt_ok fun b s rest N h => by
  obtain ⟨t, ao, cap⟩ := s
  unfold raSpawnM at h
  split at h
  case h_2 => exact h.elim
  rename_i pid g c
  obtain ⟨ho, nb, h⟩ := h
  intro W F w hr
  refine Calls.mono (rtSpawn_spec ho b ao cap pid g c nb W F w hr) ?_
  rintro e w' ⟨h', r, ⟨ao', cap', rfl, rfl⟩, rfl, hr'⟩
  exact ⟨_, _, ⟨_, fun W F w hr => hr, h ao' cap'⟩, rfl, hr'⟩
theorem rtFork_spec {t : PT} (ho : pOk t) (b : Nat) (ao : Option Addr) (cap : Nat) (pid : Int) (nb : Nat) : Spec Tryz.prog 68 [⟨.blk b, .cells [.vec 1 ao (rL t).length cap, .int .i64 t.room, .int .i64 t.last] 137⟩, ⟨.sl ao cap, .vecL 134 8 encR (rL t) PR.zero⟩] [.ptr 0 b 0, .int .i64 pid] (fun h' r => ∃ ao' cap', h' = rtE ⟨(pFork t pid nb).1, ao', cap'⟩ b ∧ r = .tuple [.int .i64 (pFork t pid nb).2.1, .int .i64 (pFork t pid nb).2.2]) := by
  refine Spec.up ?_
  refine Spec.of_G 49 Tryz.func68 (c := bodyOf Tryz.f68) (by kernel_rfl) (by kernel_rfl) (Nat.le_of_ble_eq_true rfl) fun W F => ?_
  refine G_run (kc := false) (ss := []) rtSp_ok hmP 1500 ?_
  rw [rt_fork]
  refine ⟨rfl, t, 1, ao, cap, rfl, rfl, ⟨rfl, ho⟩, ?_⟩
  cases hl : pLive t pid with
  | false =>
    rw [rLives_dead hl]
    have hsp : pFork t pid nb = (t, 0, 80) := by simp only [pFork, hl, Bool.false_and]
    rw [hsp]
    exact ⟨rtE ⟨t, ao, cap⟩ b, .tuple [.int .i64 0, .int .i64 80], fun W F w hr => hr, rfl, ao, cap, rfl, rfl⟩
  | true =>
    obtain ⟨k, x, h1, h2, h3, h4, h5, h6⟩ := rLives_live ho hl
    have hd : decide (((k : Nat) : Int) < 0) = false := decide_eq_false (by omega)
    rw [h1, hd, Int.toNat_natCast, h3]
    cases hp1 : pid == 1 with
    | true =>
      have hsp : pFork t pid nb = (t, 0, 80) := by simp [pFork, hp1]
      rw [hsp]
      exact ⟨rtE ⟨t, ao, cap⟩ b, .tuple [.int .i64 0, .int .i64 80], fun W F w hr => hr, rfl, ao, cap, rfl, rfl⟩
    | false =>
      (repeat first | refine And.intro rfl ?_ | refine And.intro ⟨rfl, rfl, rfl, by omega, by omega⟩ ?_ | refine And.intro ⟨rfl, rfl, rfl, by omega⟩ ?_ | refine And.intro ⟨rfl, rfl, rfl, by omega, rfl⟩ ?_)
      cases hk : x.2.kill with
      | true =>
        have hsp : pFork t pid nb = (t, 0, 80) := by simp [pFork, h4, hk]
        rw [hsp]
        exact ⟨rtE ⟨t, ao, cap⟩ b, .tuple [.int .i64 0, .int .i64 80], fun W F w hr => hr, rfl, ao, cap, rfl, rfl⟩
      | false =>
        have hsp : pFork t pid nb = pSpawn t pid x.2.group x.2.cmd nb := by simp [pFork, pSpawn, hl, hp1, h4, hk]
        rw [hsp]
        have fin : ∀ (ao2 : Option Addr) (cap2 : Nat), up (fun h' v => ∃ ao' cap', h' = rtE ⟨(pSpawn t pid x.2.group x.2.cmd nb).1, ao', cap'⟩ b ∧ v = SV.tuple [.int .i64 (pSpawn t pid x.2.group x.2.cmd nb).2.1, .int .i64 (pSpawn t pid x.2.group x.2.cmd nb).2.2]) (rtE ⟨(pSpawn t pid x.2.group x.2.cmd nb).1, ao2, cap2⟩ b) (.tuple [.int .i64 (pSpawn t pid x.2.group x.2.cmd nb).2.1, .int .i64 (pSpawn t pid x.2.group x.2.cmd nb).2.2]) :=
          fun ao2 cap2 => ⟨rtE ⟨_, ao2, cap2⟩ b, _, fun W F w hr => hr, rfl, ao2, cap2, rfl, rfl⟩
        repeat' first
          | exact rfl
          | exact h2
          | (refine ⟨t, 1, ao, cap, rfl, rfl, ⟨rfl, ho⟩, nb, fun ao2 cap2 => fin ao2 cap2⟩)
          | apply And.intro
          | (show _ ≤ _; omega)
          | (show _ < _; omega)
          | fail
theorem raFork_ok : CtrOk Tryz.prog 68 (adtC rtE raForkM) := adt_ok fun b s rest N h => by
  obtain ⟨t, ao, cap⟩ := s
  unfold raForkM at h
  split at h
  case h_2 => exact h.elim
  rename_i pid
  obtain ⟨ho, nb, h⟩ := h
  intro W F w hr
  refine Calls.mono (rtFork_spec ho b ao cap pid nb W F w hr) ?_
  rintro e w' ⟨h', r, ⟨ao', cap', rfl, rfl⟩, rfl, hr'⟩
  exact ⟨_, _, ⟨_, fun W F w hr => hr, h ao' cap'⟩, rfl, hr'⟩
end Go.Proofs.YtkcmgcoppecfpaaGreat

/- The document's table: Kill, Get, Signals, Len. -/
namespace Go.Proofs.YtkcmgcoppecfpaaGreat
open Go Go.RowKit

theorem rtKill_spec {t : PT} (ho : pOk t) (b : Nat) (ao : Option Addr) (cap : Nat) (pid sig : Int) : Spec Tryz.prog 26 [⟨.blk b, .cells [.vec 1 ao (rL t).length cap, .int .i64 t.room, .int .i64 t.last] 137⟩, ⟨.sl ao cap, .vecL 134 8 encR (rL t) PR.zero⟩] [.ptr 0 b 0, .int .i64 pid, .int .i64 sig] (fun h' r => h' = rtE ⟨(pKill t pid sig).1, ao, cap⟩ b ∧ r = .int .i64 (pKill t pid sig).2) := by
  refine Spec.up ?_
  refine Spec.of_G 63 Tryz.func26 (c := bodyOf Tryz.f26) (by kernel_rfl) (by kernel_rfl) (Nat.le_of_ble_eq_true rfl) fun W F => ?_
  refine G_run (kc := false) (ss := []) rtLv_ok hmP 900 ?_
  rw [rt_kill]
  refine ⟨rfl, t, 1, ao, cap, rfl, rfl, ⟨rfl, ho⟩, ?_⟩
  have bad : pKill t pid sig = (t, 80) → up (fun h' r => h' = rtE ⟨(pKill t pid sig).1, ao, cap⟩ b ∧ r = .int .i64 (pKill t pid sig).2) (rtE ⟨t, ao, cap⟩ b) (.int .i64 80) := fun h => by
    rw [h]; exact ⟨rtE ⟨t, ao, cap⟩ b, .int .i64 80, fun W F w hr => hr, rfl, rfl, rfl⟩
  cases hl : pLive t pid with
  | false =>
    rw [rLives_dead hl]
    exact ⟨rfl, rfl, bad (by simp only [pKill, hl, Bool.false_and])⟩
  | true =>
    obtain ⟨k, ⟨xb, r⟩, h1, h2, h3, h4, h5, h6⟩ := rLives_live ho hl
    have hd : decide (((k : Nat) : Int) < 0) = false := decide_eq_false (by omega)
    dsimp only at h3 h4 h6
    rw [h1, hd, Int.toNat_natCast, h3]
    cases hp1 : pid == 1 with
    | true => exact ⟨rfl, rfl, bad (by simp [pKill, hp1])⟩
    | false =>
      have good : ∀ (g : PR → PR), pKill t pid sig = ({ t with ps := setP t.ps pid g }, 0) → ∀ e e', e' = g r → up (fun h' r => h' = rtE ⟨(pKill t pid sig).1, ao, cap⟩ b ∧ r = .int .i64 (pKill t pid sig).2) [⟨.blk b, .cells [.vec 1 ao (rL t).length cap, .int .i64 t.room, .int .i64 t.last] 137⟩, ⟨.sl ao cap, .vecL 134 8 encR (((rL t).set k e).set k e') PR.zero⟩] (.int .i64 0) := fun g hg e e' he => by
        rw [hg, List.set_set, he]
        refine ⟨rtE ⟨{ t with ps := setP t.ps pid g }, ao, cap⟩ b, .int .i64 0, fun W F w hr => ?_, rfl, rfl, rfl⟩
        rw [rtE_set b ao cap (h6 g) rfl rfl]
        exact hr
      obtain ⟨p1, p2, p3, p4, p5, p6, p7, p8⟩ := r
      cases hs15 : sig == 15 with
      | true =>
        have hsg : sig = 15 := by simpa using hs15
        subst hsg
        have hk := good (fun r => { r with term := true }) (by simp [pKill, hl, hp1])
        cases p7 <;> cases p8 <;> (
          repeat' first
            | exact rfl
            | exact h2
            | exact hk _ _ rfl
            | (rw [getD_set_self h2])
            | (refine ⟨⟨p1, p2, p3, p4, p5, p6, true, true⟩, rfl, ?_⟩) | (refine ⟨⟨p1, p2, p3, p4, p5, p6, true, false⟩, rfl, ?_⟩) | (refine ⟨⟨p1, p2, p3, p4, p5, p6, false, true⟩, rfl, ?_⟩) | (refine ⟨⟨p1, p2, p3, p4, p5, p6, false, false⟩, rfl, ?_⟩)
            | apply And.intro
            | (rw [List.length_set])
            | (show _ ≤ _; omega)
            | (show _ < _; omega)
            | fail)
      | false =>
        have n15 : (sig != 15) = true := by simp [bne, hs15]
        rw [n15]
        cases hs9 : sig == 9 with
        | true =>
          have hsg : sig = 9 := by simpa using hs9
          subst hsg
          have hk := good (fun r => { r with kill := true }) (by simp [pKill, hl, hp1])
          cases p7 <;> cases p8 <;> (
            repeat' first
              | exact rfl
              | exact h2
              | exact hk _ _ rfl
              | (rw [getD_set_self h2])
              | (refine ⟨⟨p1, p2, p3, p4, p5, p6, true, true⟩, rfl, ?_⟩) | (refine ⟨⟨p1, p2, p3, p4, p5, p6, true, false⟩, rfl, ?_⟩) | (refine ⟨⟨p1, p2, p3, p4, p5, p6, false, true⟩, rfl, ?_⟩) | (refine ⟨⟨p1, p2, p3, p4, p5, p6, false, false⟩, rfl, ?_⟩)
              | apply And.intro
              | (rw [List.length_set])
              | (show _ ≤ _; omega)
              | (show _ < _; omega)
              | fail)
        | false =>
          have n9 : (sig != 9) = true := by simp [bne, hs9]
          rw [n9]
          exact bad (by simp [pKill, hs15, hs9, hl, hp1])
theorem raKill_ok : CtrOk Tryz.prog 26 (adtC rtE raKillM) := adt_ok fun b s rest N h => by
  obtain ⟨t, ao, cap⟩ := s
  unfold raKillM at h
  split at h
  case h_2 => exact h.elim
  rename_i pid sig
  obtain ⟨ho, h⟩ := h
  intro W F w hr
  refine Calls.mono (rtKill_spec ho b ao cap pid sig W F w hr) ?_
  rintro e w' ⟨h', r, ⟨rfl, rfl⟩, rfl, hr'⟩
  exact ⟨_, _, ⟨_, fun W F w hr => hr, h⟩, rfl, hr'⟩

theorem rtGet_spec {t : PT} (ho : pOk t) (b : Nat) (ao : Option Addr) (cap : Nat) (pid : Int) : Spec Tryz.prog 69 [⟨.blk b, .cells [.vec 1 ao (rL t).length cap, .int .i64 t.room, .int .i64 t.last] 137⟩, ⟨.sl ao cap, .vecL 134 8 encR (rL t) PR.zero⟩] [.ptr 0 b 0, .int .i64 pid] (fun h' r => h' = rtE ⟨t, ao, cap⟩ b ∧ r = .tuple [.agg (encP6 (pGet t pid)), .bool (pHas t pid)]) := by
  refine Spec.up ?_
  refine Spec.of_G 21 Tryz.func69 (c := bodyOf Tryz.f69) (by kernel_rfl) (by kernel_rfl) (Nat.le_of_ble_eq_true rfl) fun W F => ?_
  refine G_run (kc := false) (ss := []) rtL_ok hmP 600 ?_
  rw [rt_get]
  refine fun b1 => ⟨rfl, t, 1, ao, cap, rfl, rfl, ⟨rfl, ho⟩, ?_⟩
  cases hg : getP t.ps pid with
  | none =>
    obtain ⟨e1, e2, _⟩ := pHas_none hg
    have hd : decide ((-1 : Int) < 0) = true := rfl
    rw [rAt_none hg, hd, e1, e2]
    repeat' first
      | exact rfl
      | exact ⟨rtE ⟨t, ao, cap⟩ b, .tuple [.agg (encP6 PR.zero), .bool false], fun W F w hr => Rep.dropR (h := rtE ⟨t, ao, cap⟩ b) hr, rfl, rfl, rfl⟩
      | apply And.intro
      | (show _ ≤ _; omega)
      | fail
  | some x =>
    obtain ⟨k, h1, h2, h3, h4⟩ := rAt_some ho hg
    obtain ⟨e1, e2, _⟩ := pHas_some hg
    have hd : decide (((k : Nat) : Int) < 0) = false := decide_eq_false (by omega)
    rw [h1, hd, Int.toNat_natCast, h3, e1, e2]
    repeat' first
      | exact rfl
      | exact h2
      | exact ⟨rtE ⟨t, ao, cap⟩ b, .tuple [.agg (encP6 x.2), .bool true], fun W F w hr => Rep.dropR (h := rtE ⟨t, ao, cap⟩ b) hr, rfl, rfl, rfl⟩
      | apply And.intro
      | (show _ ≤ _; omega)
      | (show _ < _; omega)
      | fail
theorem rtSig_spec {t : PT} (ho : pOk t) (b : Nat) (ao : Option Addr) (cap : Nat) (pid : Int) : Spec Tryz.prog 72 [⟨.blk b, .cells [.vec 1 ao (rL t).length cap, .int .i64 t.room, .int .i64 t.last] 137⟩, ⟨.sl ao cap, .vecL 134 8 encR (rL t) PR.zero⟩] [.ptr 0 b 0, .int .i64 pid] (fun h' r => h' = rtE ⟨t, ao, cap⟩ b ∧ r = .tuple [.bool (pGet t pid).term, .bool (pGet t pid).kill]) := by
  refine Spec.up ?_
  refine Spec.of_G 28 Tryz.func72 (c := bodyOf Tryz.f72) (by kernel_rfl) (by kernel_rfl) (Nat.le_of_ble_eq_true rfl) fun W F => ?_
  refine G_run (kc := false) (ss := []) rtL_ok hmP 600 ?_
  rw [rt_sig]
  refine ⟨rfl, t, 1, ao, cap, rfl, rfl, ⟨rfl, ho⟩, ?_⟩
  cases hg : getP t.ps pid with
  | none =>
    obtain ⟨e1, e2, _⟩ := pHas_none hg
    have hd : decide ((-1 : Int) < 0) = true := rfl
    rw [rAt_none hg, hd, e2]
    exact ⟨rtE ⟨t, ao, cap⟩ b, .tuple [.bool false, .bool false], fun W F w hr => hr, rfl, rfl, rfl⟩
  | some x =>
    obtain ⟨k, h1, h2, h3, h4⟩ := rAt_some ho hg
    obtain ⟨e1, e2, _⟩ := pHas_some hg
    have hd : decide (((k : Nat) : Int) < 0) = false := decide_eq_false (by omega)
    rw [h1, hd, Int.toNat_natCast, h3, e2]
    repeat' first
      | exact rfl
      | exact h2
      | exact ⟨rtE ⟨t, ao, cap⟩ b, .tuple [.bool x.2.term, .bool x.2.kill], fun W F w hr => hr, rfl, rfl, rfl⟩
      | apply And.intro
      | (show _ ≤ _; omega)
      | (show _ < _; omega)
      | fail
theorem raGet_ok : CtrOk Tryz.prog 69 (adtC rtE raGetM) := adt_ok fun b s rest N h => by
  obtain ⟨t, ao, cap⟩ := s
  unfold raGetM at h
  split at h
  case h_2 => exact h.elim
  rename_i pid
  obtain ⟨ho, h⟩ := h
  intro W F w hr
  refine Calls.mono (rtGet_spec ho b ao cap pid W F w hr) ?_
  rintro e w' ⟨h', r, ⟨rfl, rfl⟩, rfl, hr'⟩
  exact ⟨_, _, ⟨_, fun W F w hr => hr, h⟩, rfl, hr'⟩
theorem raSignals_ok : CtrOk Tryz.prog 72 (adtC rtE raSignalsM) := adt_ok fun b s rest N h => by
  obtain ⟨t, ao, cap⟩ := s
  unfold raSignalsM at h
  split at h
  case h_2 => exact h.elim
  rename_i pid
  obtain ⟨ho, h⟩ := h
  intro W F w hr
  refine Calls.mono (rtSig_spec ho b ao cap pid W F w hr) ?_
  rintro e w' ⟨h', r, ⟨rfl, rfl⟩, rfl, hr'⟩
  exact ⟨_, _, ⟨_, fun W F w hr => hr, h⟩, rfl, hr'⟩
end Go.Proofs.YtkcmgcoppecfpaaGreat

namespace Go.Proofs.YtkcmgcoppecfpaaGreat
open Go Go.RowKit

theorem rAt_start (K : List Frm → Sy → Prop) (N : List Ent → SV → Prop) (aoL : Option Addr) (capL : Nat) (L : List RGrp) (aoN : Option Addr) (capN : Nat) (nt : List ByteArray) (b : Nat) (rest : List Ent) (name : ByteArray) : (run Tryz.prog [] false [] K (retP Tryz.prog Tryz.f64.results.toList N) 600 [.code (bodyOf Tryz.f64)] ⟨padTo 48 [.ptr 0 b 0, .str name], [⟨.blk b, .cells [.vec 1 aoL (L).length capL, .vec 2 aoN (nt).length capN] 126⟩, ⟨.sl aoL capL, .vecL 131 2 encRg (L) zR⟩, ⟨.sl aoN capN, .vecL 9 1 encS (nt) ByteArray.empty⟩, pk 0 rest]⟩) = ( K (frm [] (bodyOf Tryz.f64) [1, 1, 0, 0] []) (Sy.mk (SV.ptr 0 b 0 :: (SV.str name :: (SV.raw (Value.tuple #[]) :: (SV.raw (Value.tuple #[]) :: (SV.int .i64 (0 : Int) :: (SV.bool false :: (SV.int .i64 (0 : Int) :: (rawE [] 41)))))))) [Ent.mk (Loc.blk b) (SObj.cells [SV.vec 1 aoL (List.length L) capL, SV.vec 2 aoN (List.length nt) capN] 126), Ent.mk (Loc.sl aoL capL) (SObj.vecL 131 2 encRg L (RGrp.mk (ByteArray.mk #[]) (@none Addr) 0 [])), Ent.mk (Loc.sl aoN capN) (SObj.vecL 9 1 encS nt ByteArray.empty), pk 0 rest])) := by kernel_rfl
@[reducible] def rAt_body_z0 (aoL : Option Addr) (capL : Nat) (L : List RGrp) (aoN : Option Addr) (capN : Nat) (nt : List ByteArray) (b : Nat) : Ent := Ent.mk (Loc.blk b) (SObj.cells [SV.vec 1 aoL (List.length L) capL, SV.vec 2 aoN (List.length nt) capN] 126)
@[reducible] def rAt_body_z1 (aoL : Option Addr) (capL : Nat) (L : List RGrp) : Ent := Ent.mk (Loc.sl aoL capL) (SObj.vecL 131 2 encRg L (RGrp.mk (ByteArray.mk #[]) (@none Addr) 0 []))
@[reducible] def rAt_body_z2 (aoN : Option Addr) (capN : Nat) (nt : List ByteArray) : Ent := Ent.mk (Loc.sl aoN capN) (SObj.vecL 9 1 encS nt ByteArray.empty)
theorem rAt_body (K : List Frm → Sy → Prop) (N : List Ent → SV → Prop) (J : Act → World → Prop) (aoL : Option Addr) (capL : Nat) (L : List RGrp) (aoN : Option Addr) (capN : Nat) (nt : List ByteArray) (b : Nat) (rest : List Ent) (name : ByteArray) (i : Nat) (u : Nat → Value) : (run Tryz.prog [] true [] K (retP Tryz.prog Tryz.f64.results.toList N) 900 (frm [J] (bodyOf Tryz.f64) [1, 1, 0, 0, 0] []) ⟨mkT u 48 0 [(0, .ptr 0 b 0), (1, .str name), (6, .int .i64 (i : Int))], [⟨.blk b, .cells [.vec 1 aoL (L).length capL, .vec 2 aoN (nt).length capN] 126⟩, ⟨.sl aoL capL, .vecL 131 2 encRg (L) zR⟩, ⟨.sl aoN capN, .vecL 9 1 encS (nt) ByteArray.empty⟩, pk 0 rest]⟩) = ( b = b ∧ match decide ((↑i : Int) < (↑(List.length L) : Int)) with
 | true => b = b ∧ (aoL = aoL ∧ capL = capL ∧ List.length L = List.length L ∧ (0 : Int) ≤ (↑i : Int) ∧ (↑i : Int) < (↑(List.length L) : Int)) ∧ (Addr.blkD aoL = Addr.blkD aoL ∧ Addr.offD aoL = Addr.offD aoL ∧ 2 = 2 ∧ Int.toNat (↑i : Int) < List.length L) ∧ match sLt (List.getD L (Int.toNat (↑i : Int)) (RGrp.mk (ByteArray.mk #[]) (@none Addr) 0 [])).1 name with
  | true => K (Frm.loop J :: Frm.blk 0 :: frm [] (bodyOf Tryz.f64) [1, 1, 1] []) (Sy.mk (SV.ptr 0 b 0 :: (SV.str name :: (rawR u 2 (SV.int .i64 (IntKind.wrap IntKind.i64 ((↑i : Int) + (1 : Int))) :: (SV.int .i64 (↑i : Int) :: (SV.ptr 0 b 0 :: (SV.ptr 0 b 0 :: (SV.ptr 0 b 0 :: (SV.vec 1 aoL (List.length L) capL :: (SV.int .i64 (↑(List.length L) : Int) :: (SV.bool (decide ((↑i : Int) < (↑(List.length L) : Int))) :: (SV.bool true :: (SV.ptr 0 b 0 :: (SV.ptr 0 b 0 :: (SV.ptr 0 b 0 :: (SV.vec 1 aoL (List.length L) capL :: (SV.int .i64 (↑i : Int) :: (SV.eptr 1 (Addr.blkD aoL) (Addr.offD aoL) 2 (Int.toNat (↑i : Int)) 0 :: (SV.eptr 1 (Addr.blkD aoL) (Addr.offD aoL) 2 (Int.toNat (↑i : Int)) 0 :: (SV.str (List.getD L (Int.toNat (↑i : Int)) (RGrp.mk (ByteArray.mk #[]) (@none Addr) 0 [])).1 :: (SV.str name :: (SV.bool (sLt (List.getD L (Int.toNat (↑i : Int)) (RGrp.mk (ByteArray.mk #[]) (@none Addr) 0 [])).1 name) :: (SV.bool true :: (SV.int .i64 (↑i : Int) :: (SV.int .i64 (IntKind.wrap IntKind.i64 ((↑i : Int) + (1 : Int))) :: (rawR u 28 [] 20))))))))))))))))))))))) 4))) [rAt_body_z0 aoL capL L aoN capN nt b, rAt_body_z1 aoL capL L, rAt_body_z2 aoN capN nt, pk 0 rest])
  | false => b = b ∧ match decide ((↑i : Int) < (↑(List.length L) : Int)) with
   | true => b = b ∧ (aoL = aoL ∧ capL = capL ∧ List.length L = List.length L ∧ (0 : Int) ≤ (↑i : Int) ∧ (↑i : Int) < (↑(List.length L) : Int)) ∧ (Addr.blkD aoL = Addr.blkD aoL ∧ Addr.offD aoL = Addr.offD aoL ∧ 2 = 2 ∧ Int.toNat (↑i : Int) < List.length L) ∧ N [rAt_body_z0 aoL capL L aoN capN nt b, rAt_body_z1 aoL capL L, rAt_body_z2 aoN capN nt, pk 0 rest] (SV.tuple [SV.int .i64 (↑i : Int), SV.bool (sEq (List.getD L (Int.toNat (↑i : Int)) (RGrp.mk (ByteArray.mk #[]) (@none Addr) 0 [])).1 name)])
   | false => N [rAt_body_z0 aoL capL L aoN capN nt b, rAt_body_z1 aoL capL L, rAt_body_z2 aoN capN nt, pk 0 rest] (SV.tuple [SV.int .i64 (↑i : Int), SV.bool false])
 | false => b = b ∧ match decide ((↑i : Int) < (↑(List.length L) : Int)) with
  | true => b = b ∧ (aoL = aoL ∧ capL = capL ∧ List.length L = List.length L ∧ (0 : Int) ≤ (↑i : Int) ∧ (↑i : Int) < (↑(List.length L) : Int)) ∧ (Addr.blkD aoL = Addr.blkD aoL ∧ Addr.offD aoL = Addr.offD aoL ∧ 2 = 2 ∧ Int.toNat (↑i : Int) < List.length L) ∧ N [rAt_body_z0 aoL capL L aoN capN nt b, rAt_body_z1 aoL capL L, rAt_body_z2 aoN capN nt, pk 0 rest] (SV.tuple [SV.int .i64 (↑i : Int), SV.bool (sEq (List.getD L (Int.toNat (↑i : Int)) (RGrp.mk (ByteArray.mk #[]) (@none Addr) 0 [])).1 name)])
  | false => N [rAt_body_z0 aoL capL L aoN capN nt b, rAt_body_z1 aoL capL L, rAt_body_z2 aoN capN nt, pk 0 rest] (SV.tuple [SV.int .i64 (↑i : Int), SV.bool false])) := by kernel_rfl
theorem rMk_start (K : List Frm → Sy → Prop) (N : List Ent → SV → Prop) (r : RG) (b : Nat) (name : ByteArray) : (run Tryz.prog [(64, adtC rgE ratM)] false [6] K (retP Tryz.prog Tryz.f20.results.toList N) 600 [.code (bodyOf Tryz.f20)] ⟨padTo 50 [.ptr 0 b 0, .str name], [pkA b rgE r]⟩) = ( true = true ∧ b = b ∧ ∃ (h : RG = RG), AdtIs (fun (s : RG) (b : Nat) ↦ packs (rgE s b)) rgE ∧ rOk r ∧ match sEq name (ByteArray.mk #[]) with
 | true => N [pkA b rgE r] (SV.int .i64 (90 : Int))
 | false => match rHas r.3 name with
  | true => N [pkA b rgE r] (SV.int .i64 (91 : Int))
  | false => K (frmR [] (bodyOf Tryz.f20) 6) (Sy.mk (SV.ptr 0 b 0 :: (SV.str name :: (SV.raw (Value.tuple #[]) :: (SV.raw (Value.tuple #[]) :: (SV.int .i64 (0 : Int) :: (SV.int .i64 (↑(rAt r.3 name) : Int) :: (SV.bool (rHas r.3 name) :: (SV.tuple [SV.int .i64 (↑(rAt r.3 name) : Int), SV.bool (rHas r.3 name)] :: (SV.ptr 0 b 0 :: (SV.str name :: (SV.tuple [SV.int .i64 (↑(rAt r.3 name) : Int), SV.bool (rHas r.3 name)] :: (SV.int .i64 (↑(rAt r.3 name) : Int) :: (SV.bool (rHas r.3 name) :: (SV.bool false :: (SV.str name :: (SV.bool (sEq name (ByteArray.mk #[])) :: (SV.bool false :: (SV.bool (rHas r.3 name) :: (rawE [] 32))))))))))))))))))) [pkA b rgE r])) := by kernel_rfl
theorem rMk_6 (K : List Frm → Sy → Prop) (N : List Ent → SV → Prop) (aoL : Option Addr) (capL : Nat) (L : List RGrp) (aoN : Option Addr) (capN : Nat) (nt : List ByteArray) (b : Nat) (rest : List Ent) (name : ByteArray) (i : Nat) (u : Nat → Value) : (run Tryz.prog [] true [] K (retP Tryz.prog Tryz.f20.results.toList N) 1500 (frmR [] (bodyOf Tryz.f20) 6) ⟨mkT u 50 0 [(0, .ptr 0 b 0), (1, .str name), (5, .int .i64 (i : Int))], [⟨.blk b, .cells [.vec 1 aoL (L).length capL, .vec 2 aoN (nt).length capN] 126⟩, ⟨.sl aoL capL, .vecL 131 2 encRg (L) zR⟩, ⟨.sl aoN capN, .vecL 9 1 encS (nt) ByteArray.empty⟩, pk 0 rest]⟩) = ( b = b ∧ (true = true ∧ true = true) ∧ (true = true ∧ 2 = 2 ∧ 0 < 2 ∧ 2 ≤ 16777216) ∧ ∀ (b_1 : Nat), (aoL = aoL ∧ capL = capL ∧ List.length L = List.length L ∧ some (Addr.mk b_1 0 (@none Nat)) = some (Addr.mk b_1 0 (@none Nat)) ∧ 131 = 131 ∧ 2 = 2 ∧ 2 = 2 ∧ 0 < 1 ∧ true = true ∧ (List.length L + 1) * 40 ≤ 140737488355328 ∧ List.length L + 1 ≤ 9223372036854775807) ∧ ∃ (es : List RGrp), List.length es = 1 ∧ denL (List.flatMap encRg es) = denL [SV.str (ByteArray.mk #[]), SV.raw (Value.slice (@none Addr) 0 0)] ∧ ∀ (ao2 : Option Addr) (cap2 : Nat), List.length L + 1 ≤ cap2 → (b = b ∧ true = true ∧ 1 = 1 ∧ 1 ≤ 2) ∧ (b = b ∧ ((0 : Int) ≤ IntKind.wrap IntKind.i64 ((↑i : Int) + (1 : Int)) ∧ IntKind.wrap IntKind.i64 ((↑i : Int) + (1 : Int)) ≤ (↑(List.length L + 1) : Int) ∧ List.length L + 1 ≤ cap2) ∧ b = b ∧ ((0 : Int) ≤ (↑i : Int) ∧ (↑i : Int) ≤ (↑(List.length L + 1) : Int) ∧ List.length L + 1 ≤ cap2) ∧ (true = true ∧ ao2 = ao2 ∧ cap2 = cap2 ∧ ao2 = ao2 ∧ cap2 = cap2 ∧ 2 = 2 ∧ 2 = 2 ∧ 2 = 2 ∧ (∀ (y : RGrp), true = true) ∧ Int.toNat (IntKind.wrap IntKind.i64 ((↑i : Int) + (1 : Int))) ≤ List.length L + 1 ∧ List.length L + 1 ≤ List.length (L ++ es) ∧ Int.toNat (↑i : Int) ≤ List.length L + 1 ∧ List.length L + 1 ≤ List.length (L ++ es)) ∧ b = b ∧ (true = true ∧ true = true) ∧ (ao2 = ao2 ∧ cap2 = cap2 ∧ List.length L + 1 = List.length (copyL (L ++ es) (Int.toNat (IntKind.wrap IntKind.i64 ((↑i : Int) + (1 : Int)))) (Int.toNat (↑i : Int)) (Nat.min (List.length L + 1 - Int.toNat (↑i : Int)) (List.length L + 1 - Int.toNat (IntKind.wrap IntKind.i64 ((↑i : Int) + (1 : Int)))))) ∧ (0 : Int) ≤ (↑i : Int) ∧ (↑i : Int) < (↑(List.length L + 1) : Int)) ∧ (Addr.blkD ao2 = Addr.blkD ao2 ∧ Addr.offD ao2 = Addr.offD ao2 ∧ 2 = 2 ∧ Int.toNat (↑i : Int) < List.length (copyL (L ++ es) (Int.toNat (IntKind.wrap IntKind.i64 ((↑i : Int) + (1 : Int)))) (Int.toNat (↑i : Int)) (Nat.min (List.length L + 1 - Int.toNat (↑i : Int)) (List.length L + 1 - Int.toNat (IntKind.wrap IntKind.i64 ((↑i : Int) + (1 : Int)))))) ∧ true = true ∧ 2 = 2 ∧ 2 ≤ 2) ∧ ∃ (e : RGrp), denL [SV.str e.1, SV.vec 4 e.ao (List.length e.4) e.3] = denL [SV.str name, SV.raw (Value.slice (@none Addr) 0 0)] ∧ N [Ent.mk (Loc.blk b) (SObj.cells [SV.vec 1 ao2 (List.length L + 1) cap2, SV.vec 2 aoN (List.length nt) capN] 126), Ent.mk (Loc.sl ao2 cap2) (SObj.vecL 131 2 encRg (List.set (copyL (L ++ es) (Int.toNat (IntKind.wrap IntKind.i64 ((↑i : Int) + (1 : Int)))) (Int.toNat (↑i : Int)) (Nat.min (List.length L + 1 - Int.toNat (↑i : Int)) (List.length L + 1 - Int.toNat (IntKind.wrap IntKind.i64 ((↑i : Int) + (1 : Int)))))) (Int.toNat (↑i : Int)) e) (RGrp.mk (ByteArray.mk #[]) (@none Addr) 0 [])), Ent.mk (Loc.sl aoN capN) (SObj.vecL 9 1 encS nt ByteArray.empty), pk 0 rest, Ent.mk (Loc.blk b_1) (SObj.cells [SV.str (ByteArray.mk #[]), SV.raw (Value.slice (@none Addr) 0 0)] 131)] (SV.int .i64 (0 : Int))) ∧ b = b ∧ ((0 : Int) ≤ (↑i : Int) ∧ (↑i : Int) ≤ (↑(List.length L + 1) : Int) ∧ List.length L + 1 ≤ cap2) ∧ b = b ∧ ((0 : Int) ≤ IntKind.wrap IntKind.i64 ((↑i : Int) + (1 : Int)) ∧ IntKind.wrap IntKind.i64 ((↑i : Int) + (1 : Int)) ≤ (↑(List.length L + 1) : Int) ∧ List.length L + 1 ≤ cap2) ∧ (true = true ∧ ao2 = ao2 ∧ cap2 = cap2 ∧ ao2 = ao2 ∧ cap2 = cap2 ∧ 2 = 2 ∧ 2 = 2 ∧ 2 = 2 ∧ (∀ (y : RGrp), true = true) ∧ Int.toNat (IntKind.wrap IntKind.i64 ((↑i : Int) + (1 : Int))) ≤ List.length L + 1 ∧ List.length L + 1 ≤ List.length (L ++ es) ∧ Int.toNat (↑i : Int) ≤ List.length L + 1 ∧ List.length L + 1 ≤ List.length (L ++ es)) ∧ b = b ∧ (true = true ∧ true = true) ∧ (ao2 = ao2 ∧ cap2 = cap2 ∧ List.length L + 1 = List.length (copyL (L ++ es) (Int.toNat (IntKind.wrap IntKind.i64 ((↑i : Int) + (1 : Int)))) (Int.toNat (↑i : Int)) (Nat.min (List.length L + 1 - Int.toNat (↑i : Int)) (List.length L + 1 - Int.toNat (IntKind.wrap IntKind.i64 ((↑i : Int) + (1 : Int)))))) ∧ (0 : Int) ≤ (↑i : Int) ∧ (↑i : Int) < (↑(List.length L + 1) : Int)) ∧ (Addr.blkD ao2 = Addr.blkD ao2 ∧ Addr.offD ao2 = Addr.offD ao2 ∧ 2 = 2 ∧ Int.toNat (↑i : Int) < List.length (copyL (L ++ es) (Int.toNat (IntKind.wrap IntKind.i64 ((↑i : Int) + (1 : Int)))) (Int.toNat (↑i : Int)) (Nat.min (List.length L + 1 - Int.toNat (↑i : Int)) (List.length L + 1 - Int.toNat (IntKind.wrap IntKind.i64 ((↑i : Int) + (1 : Int)))))) ∧ true = true ∧ 2 = 2 ∧ 2 ≤ 2) ∧ ∃ (e : RGrp), denL [SV.str e.1, SV.vec 4 e.ao (List.length e.4) e.3] = denL [SV.str name, SV.raw (Value.slice (@none Addr) 0 0)] ∧ N [Ent.mk (Loc.blk b) (SObj.cells [SV.vec 1 ao2 (List.length L + 1) cap2, SV.vec 2 aoN (List.length nt) capN] 126), Ent.mk (Loc.sl ao2 cap2) (SObj.vecL 131 2 encRg (List.set (copyL (L ++ es) (Int.toNat (IntKind.wrap IntKind.i64 ((↑i : Int) + (1 : Int)))) (Int.toNat (↑i : Int)) (Nat.min (List.length L + 1 - Int.toNat (↑i : Int)) (List.length L + 1 - Int.toNat (IntKind.wrap IntKind.i64 ((↑i : Int) + (1 : Int)))))) (Int.toNat (↑i : Int)) e) (RGrp.mk (ByteArray.mk #[]) (@none Addr) 0 [])), Ent.mk (Loc.sl aoN capN) (SObj.vecL 9 1 encS nt ByteArray.empty), pk 0 rest, Ent.mk (Loc.blk b_1) (SObj.cells [SV.str (ByteArray.mk #[]), SV.raw (Value.slice (@none Addr) 0 0)] 131)] (SV.int .i64 (0 : Int))) := by kernel_rfl
end Go.Proofs.YtkcmgcoppecfpaaGreat

/- The document's groups: at, Make, forget. -/
namespace Go.Proofs.YtkcmgcoppecfpaaGreat
open Go Go.RowKit

theorem hmR : Tryz.prog.follows .mixedOrders = true := by kernel_rfl
theorem tw_len {α : Type} (p : α → Bool) : ∀ (l : List α) (i : Nat), i ≤ l.length → (∀ x ∈ l.take i, p x = true) → (∀ h : i < l.length, p l[i] = false) → (l.takeWhile p).length = i
  | [], i, h, _, _ => by
    have : i = 0 := by simpa using h
    subst this; rfl
  | x :: l, 0, _, _, h2 => by
    have := h2 (by simp)
    simp only [List.getElem_cons_zero] at this
    rw [List.takeWhile_cons, if_neg (by rw [this]; decide)]
    rfl
  | x :: l, i + 1, h, h1, h2 => by
    have hx : p x = true := h1 x (by simp)
    have ih := tw_len p l i (by simpa using h) (fun y hy => h1 y (by simp [hy])) (fun hlt => by
      have := h2 (by simpa using hlt)
      simpa using this)
    rw [List.takeWhile_cons, if_pos hx, List.length_cons, ih]
theorem tw_le {α : Type} (p : α → Bool) (l : List α) : (l.takeWhile p).length ≤ l.length := (List.takeWhile_prefix _).length_le
theorem rAt_le (L : List RGrp) (n : ByteArray) : rAt L n ≤ L.length := tw_le _ _
theorem copy_ins {α : Type} (L : List α) (z new : α) (i : Nat) (h : i ≤ L.length) : (copyL (L ++ [z]) (i + 1) i (Nat.min (L.length + 1 - i) (L.length + 1 - (i + 1)))).set i new = L.take i ++ new :: L.drop i := by
  have hm : Nat.min (L.length + 1 - i) (L.length + 1 - (i + 1)) = L.length - i := by
    have := Nat.min_eq_right (a := L.length + 1 - i) (b := L.length + 1 - (i + 1)) (by omega)
    have h2 : L.length + 1 - (i + 1) = L.length - i := by omega
    rw [← h2]; exact this
  rw [hm]
  obtain ⟨x, y, rfl, hx⟩ : ∃ x y, L = x ++ y ∧ x.length = i := ⟨L.take i, L.drop i, (List.take_append_drop i L).symm, by simp; omega⟩
  subst hx
  obtain ⟨a, ha⟩ : ∃ a, (y ++ [z]).take 1 = [a] := by cases y <;> exact ⟨_, rfl⟩
  have e1 : ((x ++ y) ++ [z]).take (x.length + 1) = x ++ [a] := by
    rw [List.append_assoc, List.take_append, List.take_of_length_le (by omega), show x.length + 1 - x.length = 1 by omega, ha]
  have e2 : ((x ++ y) ++ [z]).drop x.length = y ++ [z] := by rw [List.append_assoc, List.drop_left]
  have e3 : (x ++ y).length - x.length = y.length := by simp
  have e4 : ((x ++ y) ++ [z]).drop (x.length + 1 + y.length) = [] := List.drop_of_length_le (by simp; omega)
  unfold copyL
  rw [e1, e2, e3, List.take_left, e4, List.append_nil, List.take_left, List.drop_left, List.append_assoc]
  rw [List.set_append_right _ _ (Nat.le_refl _)]
  simp
theorem set_split {α : Type} (l : List α) (i : Nat) (a : α) (h : i < l.length) : l.set i a = l.take i ++ a :: l.drop (i + 1) := List.set_eq_take_append_cons_drop.trans (by rw [if_pos h])
section
variable {W w : World} {F : List Ch} {r : RG} {b i : Nat}
theorem rg_open (hi : i < r.L.length) (hr : Rep W F (rgE r b) w) : Rep W F [⟨.blk b, .cells [.vec 1 r.aoL (r.L).length r.capL, .vec 2 r.aoN (r.notes).length r.capN] 126⟩, ⟨.sl r.aoL r.capL, .vecL 131 2 encRg (r.L) zR⟩, ⟨.sl r.aoN r.capN, .vecL 9 1 encS (r.notes) ByteArray.empty⟩, pk 0 ((r.L.take i).map pidE ++ (r.L.drop (i + 1)).map pidE), pidE r.L[i]] w := by
  have e : r.L.map pidE = (r.L.take i).map pidE ++ pidE r.L[i] :: (r.L.drop (i + 1)).map pidE := by
    rw [← List.map_cons, ← List.map_append]
    congr 1
    rw [← List.drop_eq_getElem_cons hi, List.take_append_drop]
  unfold rgE at hr
  rw [e] at hr
  have h1 := Rep.outP (p := [⟨.blk b, .cells [.vec 1 r.aoL (r.L).length r.capL, .vec 2 r.aoN (r.notes).length r.capN] 126⟩, ⟨.sl r.aoL r.capL, .vecL 131 2 encRg (r.L) zR⟩, ⟨.sl r.aoN r.capN, .vecL 9 1 encS (r.notes) ByteArray.empty⟩]) (t := []) hr
  exact Rep.pick (π := [0, 1, 2, 4, 3]) (by decide) rfl h1
theorem rg_close {a1 a2 a3 : Ent} {g : RGrp} {L : List RGrp} (hi : i < L.length) (hr : Rep W F [a1, a2, a3, pk 0 ((L.take i).map pidE ++ (L.drop (i + 1)).map pidE), pidE g] w) : Rep W F [a1, a2, a3, pk 0 ((L.set i g).map pidE)] w := by
  have h0 := Rep.pick (π := [0, 1, 2, 4, 3]) (by decide) rfl hr
  have h1 := Rep.intoP (p := [a1, a2, a3]) (t := []) (e := pidE g) h0
  have e : (L.set i g).map pidE = (L.take i).map pidE ++ pidE g :: (L.drop (i + 1)).map pidE := by rw [set_split _ _ _ hi]; simp
  rw [e]; exact h1
theorem set_selfL {α : Type} (l : List α) (i : Nat) (h : i < l.length) : l.set i l[i] = l := List.set_getElem_self h
end
theorem rAt_ok : CtrOk Tryz.prog 64 (adtC rgE ratM) := adt_ok fun b r rest N h => by
  unfold ratM at h
  split at h
  case h_2 => exact h.elim
  rename_i name
  obtain ⟨ho, h⟩ := h
  have hL := ho.1
  refine Spec.pre (hs' := [⟨.blk b, .cells [.vec 1 r.aoL (r.L).length r.capL, .vec 2 r.aoN (r.notes).length r.capN] 126⟩, ⟨.sl r.aoL r.capL, .vecL 131 2 encRg (r.L) zR⟩, ⟨.sl r.aoN r.capN, .vecL 9 1 encS (r.notes) ByteArray.empty⟩, pk 0 (r.L.map pidE)]) (args' := [.ptr 0 b 0, .str name]) (fun W F w hr => hr) rfl ?_
  refine Spec.of_G 48 Tryz.func64 (c := bodyOf Tryz.f64) (by kernel_rfl) (by kernel_rfl) (Nat.le_of_ble_eq_true rfl) fun W F => ?_
  refine G_run (kc := false) (ss := []) (Cs := []) trivial hmR 600 ?_
  rw [rAt_start]
  refine G_loopAt (ι := Nat) [] (bodyOf Tryz.f64) [1, 1, 0, 0] 48 (fun i => [(0, .ptr 0 b 0), (1, .str name), (6, .int .i64 (i : Int))]) (fun _ => [⟨.blk b, .cells [.vec 1 r.aoL (r.L).length r.capL, .vec 2 r.aoN (r.notes).length r.capN] 126⟩, ⟨.sl r.aoL r.capL, .vecL 131 2 encRg (r.L) zR⟩, ⟨.sl r.aoN r.capN, .vecL 9 1 encS (r.notes) ByteArray.empty⟩, pk 0 (r.L.map pidE)]) (fun i => i ≤ r.L.length ∧ ∀ g ∈ r.L.take i, sLt g.name name = true) (fun i => r.L.length - i) 0 (by kernel_rfl) (fun J => by kernel_rfl) ⟨Nat.zero_le _, fun g hg => by simp at hg⟩ rfl ⟨rfl, rfl, rfl, trivial⟩ (fun w hw => hw) ?_
  rintro i ⟨hi, hv⟩ u
  try dsimp only at hi hv ⊢
  simp only [List.nil_append, List.cons_append]
  refine G_run (kc := true) (ss := []) (Cs := []) trivial hmR 900 ?_
  rw [rAt_body]
  have w1 : IntKind.wrap .i64 ((i : Int) + 1) = ((i + 1 : Nat) : Int) := IntWalk.i64_in _ (by omega)
  rw [Int.toNat_natCast]
  refine ⟨rfl, ?_⟩
  cases hlt : decide ((i : Int) < (r.L.length : Int)) with
  | false =>
    simp only [decide_eq_false_iff_not] at hlt
    have e : rAt r.L name = i := tw_len _ _ _ hi hv fun h => by omega
    refine ⟨rfl, r, fun W F w hr => hr, ?_⟩
    have h2 : rHas r.L name = false := by
      unfold rHas
      rw [e, decide_eq_false (by omega)]; rfl
    rw [e, h2] at h
    exact h
  | true =>
    simp only [decide_eq_true_eq] at hlt
    have hi2 : i < r.L.length := by omega
    have hg : ∀ d, r.L.getD i d = r.L[i] := fun d => getD_ltR _ _ _ hi2
    rw [hg]
    refine ⟨rfl, ⟨rfl, rfl, rfl, by omega, by omega⟩, ⟨rfl, rfl, rfl, hi2⟩, ?_⟩
    cases hc : sLt r.L[i].name name with
    | true =>
      refine G_back (i + 1) ⟨hi2, fun g hgm => ?_⟩ (by omega) rfl ⟨rfl, rfl, congrArg (Value.int .i64) w1, trivial⟩ (fun w hw => hw)
      rw [List.take_succ_eq_append_getElem hi2] at hgm
      rcases List.mem_append.1 hgm with hgm | hgm
      · exact hv g hgm
      · rw [List.mem_singleton.1 hgm]; exact hc
    | false =>
      have e : rAt r.L name = i := tw_len _ _ _ hi hv fun _ => hc
      have h2 : rHas r.L name = sEq r.L[i].name name := by
        unfold rHas
        rw [e, decide_eq_true hi2, hg]; rfl
      rw [e, h2] at h
      exact ⟨rfl, rfl, ⟨rfl, rfl, rfl, by omega, by omega⟩, ⟨rfl, rfl, rfl, hi2⟩, r, fun W F w hr => hr, h⟩
theorem rMk_ok : CtrOk Tryz.prog 20 (adtC rgE rmakeM) := adt_ok fun b r rest N h => by
  unfold rmakeM at h
  split at h
  case h_2 => exact h.elim
  rename_i name
  obtain ⟨ho, h⟩ := h
  have hL := ho.1
  refine Spec.pre (hs' := [pkA b rgE r]) (args' := [.ptr 0 b 0, .str name]) (fun W F w hr => Rep.pkA1 hr) rfl ?_
  refine Spec.of_G 50 Tryz.func20 (c := bodyOf Tryz.f20) (by kernel_rfl) (by kernel_rfl) (Nat.le_of_ble_eq_true rfl) fun W F => ?_
  refine G_run (kc := false) (ss := [6]) (Cs := [(64, adtC rgE ratM)]) ⟨rAt_ok, trivial⟩ hmR 600 ?_
  rw [rMk_start]
  refine ⟨rfl, rfl, rfl, HEq.rfl, ho, ?_⟩
  unfold rMake at h
  cases hn : sEq name ⟨#[]⟩ with
  | true =>
    rw [hn] at h
    exact ⟨r, fun W F w hr => hr.unpkA1, h none 0⟩
  | false =>
    rw [hn] at h
    cases hh : rHas r.L name with
    | true =>
      rw [hh] at h
      exact ⟨r, fun W F w hr => hr.unpkA1, h none 0⟩
    | false =>
      rw [hh] at h
      dsimp only at h ⊢
      refine G_live 50 [(0, .ptr 0 b 0), (1, .str name), (5, .int .i64 (rAt r.L name : Int))] [⟨.blk b, .cells [.vec 1 r.aoL (r.L).length r.capL, .vec 2 r.aoN (r.notes).length r.capN] 126⟩, ⟨.sl r.aoL r.capL, .vecL 131 2 encRg (r.L) zR⟩, ⟨.sl r.aoN r.capN, .vecL 9 1 encS (r.notes) ByteArray.empty⟩, pk 0 (r.L.map pidE)] rfl ⟨rfl, rfl, rfl, trivial⟩ (fun w hr => hr.unpkA1) fun u => ?_
      refine G_run (kc := true) (ss := []) (Cs := []) trivial hmR 1500 ?_
      rw [rMk_6]
      have hi := rAt_le r.L name
      generalize rAt r.L name = i at hi h ⊢
      have w1 : IntKind.wrap .i64 ((i : Int) + 1) = ((i + 1 : Nat) : Int) := IntWalk.i64_in _ (by omega)
      rw [w1, Int.toNat_natCast, Int.toNat_natCast]
      have hcl := copy_ins r.L zR ⟨name, none, 0, []⟩ i hi
      have hcn : (copyL (r.L ++ [zR]) (i + 1) i (Nat.min (r.L.length + 1 - i) (r.L.length + 1 - (i + 1)))).length = r.L.length + 1 := by
        have := congrArg List.length hcl
        rw [List.length_set] at this
        rw [this]; simp; omega
      have fin : ∀ (ao2 : Option Addr) (cap2 : Nat) (e4 : Ent), (fun h' res => ∃ r', (∀ W F w, Rep W F h' w → Rep W F (rgE r' b) w) ∧ N r' res) [⟨.blk b, .cells [.vec 1 ao2 (r.L.length + 1) cap2, .vec 2 r.aoN r.notes.length r.capN] 126⟩, ⟨.sl ao2 cap2, .vecL 131 2 encRg ((copyL (r.L ++ [zR]) (i + 1) i (Nat.min (r.L.length + 1 - i) (r.L.length + 1 - (i + 1)))).set i ⟨name, none, 0, []⟩) zR⟩, ⟨.sl r.aoN r.capN, .vecL 9 1 encS (r.notes) ByteArray.empty⟩, pk 0 (r.L.map pidE), e4] (.int .i64 0) := fun ao2 cap2 e4 => by
        refine ⟨_, fun W F w hr => ?_, h ao2 cap2⟩
        have h1 := Rep.pick (π := [0, 1, 2, 3]) (by decide) rfl hr
        rw [hcl] at h1
        have em : r.L.map pidE = (r.L.take i).map pidE ++ (r.L.drop i).map pidE := by rw [← List.map_append, List.take_append_drop]
        rw [em] at h1
        have h3 := Rep.nilvec 3 (sz := 1) (enc := encI1) 0 (fun _ => rfl) h1
        have h4 := Rep.pick (π := [0, 1, 2, 4, 3]) (by decide) rfl h3
        have h5 := Rep.intoP (t := []) (e := pidE ⟨name, none, 0, []⟩) (p := [_, _, _]) h4
        unfold rgE
        have e5 : (r.L.take i ++ (⟨name, none, 0, []⟩ : RGrp) :: r.L.drop i).map pidE = (r.L.take i).map pidE ++ pidE ⟨name, none, 0, []⟩ :: (r.L.drop i).map pidE := by simp
        have e6 : (r.L.take i ++ (⟨name, none, 0, []⟩ : RGrp) :: r.L.drop i).length = r.L.length + 1 := by simp; omega
        dsimp only
        rw [e5, e6]
        exact h5
      repeat' first
        | exact rfl
        | exact fin _ _ _
        | (refine ⟨[zR], rfl, rfl, fun ao2 cap2 _ => ?_⟩)
        | (refine ⟨⟨name, none, 0, []⟩, rfl, ?_⟩)
        | exact (hcn.symm)
        | (rw [show (⟨⟨#[]⟩, none, 0, []⟩ : RGrp) = zR from rfl]; rw [hcn]; omega)
        | (rw [List.length_append]; simp; omega)
        | apply And.intro
        | (refine fun _ => ?_)
        | (show _ ≤ _; omega)
        | (show _ < _; omega)
        | fail
end Go.Proofs.YtkcmgcoppecfpaaGreat

namespace Go.Proofs.YtkcmgcoppecfpaaGreat
open Go Go.RowKit

theorem rOf_start (K : List Frm → Sy → Prop) (N : List Ent → SV → Prop) (aoL : Option Addr) (capL : Nat) (L : List RGrp) (aoN : Option Addr) (capN : Nat) (nt : List ByteArray) (b : Nat) (rest : List Ent) (pid : Int) : (run Tryz.prog [] false [] K (retP Tryz.prog Tryz.f89.results.toList N) 600 [.code (bodyOf Tryz.f89)] ⟨padTo 51 [.ptr 0 b 0, .int .i64 pid], [⟨.blk b, .cells [.vec 1 aoL (L).length capL, .vec 2 aoN (nt).length capN] 126⟩, ⟨.sl aoL capL, .vecL 131 2 encRg (L) zR⟩, ⟨.sl aoN capN, .vecL 9 1 encS (nt) ByteArray.empty⟩, pk 0 rest]⟩) = ( K (frm [] (bodyOf Tryz.f89) [1, 0, 1, 0] []) (Sy.mk (SV.ptr 0 b 0 :: (SV.int .i64 pid :: (SV.raw (Value.tuple #[]) :: (SV.raw (Value.tuple #[]) :: (SV.str (ByteArray.mk #[]) :: (SV.bool false :: (SV.int .i64 0 :: (rawE [] 44)))))))) [Ent.mk (Loc.blk b) (SObj.cells [SV.vec 1 aoL (List.length L) capL, SV.vec 2 aoN (List.length nt) capN] 126), Ent.mk (Loc.sl aoL capL) (SObj.vecL 131 2 encRg L (RGrp.mk (ByteArray.mk #[]) (@none Addr) 0 [])), Ent.mk (Loc.sl aoN capN) (SObj.vecL 9 1 encS nt ByteArray.empty), pk 0 rest])) := by kernel_rfl
theorem rOf_1 (K : List Frm → Sy → Prop) (N : List Ent → SV → Prop) (J : Act → World → Prop) (aoL : Option Addr) (capL : Nat) (L : List RGrp) (aoN : Option Addr) (capN : Nat) (nt : List ByteArray) (b : Nat) (rest : List Ent) (pid : Int) (i : Nat) (u : Nat → Value) : (run Tryz.prog [] false [] K (retP Tryz.prog Tryz.f89.results.toList N) 900 (frm [J] (bodyOf Tryz.f89) [1, 0, 1, 0, 0] []) ⟨mkT u 51 0 [(0, .ptr 0 b 0), (1, .int .i64 pid), (6, .int .i64 (i : Int))], [⟨.blk b, .cells [.vec 1 aoL (L).length capL, .vec 2 aoN (nt).length capN] 126⟩, ⟨.sl aoL capL, .vecL 131 2 encRg (L) zR⟩, ⟨.sl aoN capN, .vecL 9 1 encS (nt) ByteArray.empty⟩, pk 0 rest]⟩) = ( b = b ∧ match decide ((↑i : Int) < (↑(List.length L) : Int)) with
 | true => K (frm [J] (bodyOf Tryz.f89) [1, 0, 1, 0, 0, 1, 0, 0, 1, 0] []) (Sy.mk (SV.ptr 0 b 0 :: (SV.int .i64 pid :: (rawR u 2 (SV.int .i64 (↑i : Int) :: (SV.int .i64 0 :: (SV.int .i64 (↑i : Int) :: (SV.ptr 0 b 0 :: (SV.ptr 0 b 0 :: (SV.ptr 0 b 0 :: (SV.vec 1 aoL (List.length L) capL :: (SV.int .i64 (↑(List.length L) : Int) :: (SV.bool true :: (rawR u 15 [] 36)))))))))) 4))) [Ent.mk (Loc.blk b) (SObj.cells [SV.vec 1 aoL (List.length L) capL, SV.vec 2 aoN (List.length nt) capN] 126), Ent.mk (Loc.sl aoL capL) (SObj.vecL 131 2 encRg L (RGrp.mk (ByteArray.mk #[]) (@none Addr) 0 [])), Ent.mk (Loc.sl aoN capN) (SObj.vecL 9 1 encS nt ByteArray.empty), pk 0 rest])
 | false => N [Ent.mk (Loc.blk b) (SObj.cells [SV.vec 1 aoL (List.length L) capL, SV.vec 2 aoN (List.length nt) capN] 126), Ent.mk (Loc.sl aoL capL) (SObj.vecL 131 2 encRg L (RGrp.mk (ByteArray.mk #[]) (@none Addr) 0 [])), Ent.mk (Loc.sl aoN capN) (SObj.vecL 9 1 encS nt ByteArray.empty), pk 0 rest] (SV.tuple [SV.str (ByteArray.mk #[]), SV.bool false])) := by kernel_rfl
@[reducible] def rOf_2_z0 (aoL : Option Addr) (capL : Nat) (L : List RGrp) (aoN : Option Addr) (capN : Nat) (nt : List ByteArray) (b : Nat) : Ent := Ent.mk (Loc.blk b) (SObj.cells [SV.vec 1 aoL (List.length L) capL, SV.vec 2 aoN (List.length nt) capN] 126)
@[reducible] def rOf_2_z1 (aoL : Option Addr) (capL : Nat) (L : List RGrp) : Ent := Ent.mk (Loc.sl aoL capL) (SObj.vecL 131 2 encRg L (RGrp.mk (ByteArray.mk #[]) (@none Addr) 0 []))
@[reducible] def rOf_2_z2 (aoN : Option Addr) (capN : Nat) (nt : List ByteArray) : Ent := Ent.mk (Loc.sl aoN capN) (SObj.vecL 9 1 encS nt ByteArray.empty)
@[reducible] def rOf_2_z3 (g : RGrp) : Ent := Ent.mk (Loc.sl g.ao g.3) (SObj.vecL 3 1 encI1 g.4 (0 : Int))
theorem rOf_2 (K : List Frm → Sy → Prop) (N : List Ent → SV → Prop) (J0 J1 : Act → World → Prop) (aoL : Option Addr) (capL : Nat) (L : List RGrp) (aoN : Option Addr) (capN : Nat) (nt : List ByteArray) (b : Nat) (rest : List Ent) (pid : Int) (i k : Nat) (g : RGrp) (u : Nat → Value) : (run Tryz.prog [] false [] K (retP Tryz.prog Tryz.f89.results.toList N) 900 (frm [J0, J1] (bodyOf Tryz.f89) [1, 0, 1, 0, 0, 1, 0, 0, 1, 0, 0] []) ⟨mkT u 51 0 [(0, .ptr 0 b 0), (1, .int .i64 pid), (6, .int .i64 (i : Int)), (7, .int .i64 (k : Int))], [⟨.blk b, .cells [.vec 1 aoL (L).length capL, .vec 2 aoN (nt).length capN] 126⟩, ⟨.sl aoL capL, .vecL 131 2 encRg (L) zR⟩, ⟨.sl aoN capN, .vecL 9 1 encS (nt) ByteArray.empty⟩, pk 0 rest, ⟨.sl g.ao g.cap, .vecL 3 1 encI1 (g.pids) 0⟩]⟩) = ( b = b ∧ (aoL = aoL ∧ capL = capL ∧ List.length L = List.length L ∧ (0 : Int) ≤ (↑i : Int) ∧ (↑i : Int) < (↑(List.length L) : Int)) ∧ (Addr.blkD aoL = Addr.blkD aoL ∧ Addr.offD aoL = Addr.offD aoL ∧ 2 = 2 ∧ Int.toNat (↑i : Int) < List.length L) ∧ match decide ((↑k : Int) < (↑(List.length (List.getD L (Int.toNat (↑i : Int)) (RGrp.mk (ByteArray.mk #[]) (@none Addr) 0 [])).4) : Int)) with
 | true => b = b ∧ (aoL = aoL ∧ capL = capL ∧ List.length L = List.length L ∧ (0 : Int) ≤ (↑i : Int) ∧ (↑i : Int) < (↑(List.length L) : Int)) ∧ (Addr.blkD aoL = Addr.blkD aoL ∧ Addr.offD aoL = Addr.offD aoL ∧ 2 = 2 ∧ Int.toNat (↑i : Int) < List.length L) ∧ (g.ao = (List.getD L (Int.toNat (↑i : Int)) (RGrp.mk (ByteArray.mk #[]) (@none Addr) 0 [])).ao ∧ g.3 = (List.getD L (Int.toNat (↑i : Int)) (RGrp.mk (ByteArray.mk #[]) (@none Addr) 0 [])).3 ∧ List.length (List.getD L (Int.toNat (↑i : Int)) (RGrp.mk (ByteArray.mk #[]) (@none Addr) 0 [])).4 = List.length g.4 ∧ (0 : Int) ≤ (↑k : Int) ∧ (↑k : Int) < (↑(List.length (List.getD L (Int.toNat (↑i : Int)) (RGrp.mk (ByteArray.mk #[]) (@none Addr) 0 [])).4) : Int)) ∧ (Addr.blkD (List.getD L (Int.toNat (↑i : Int)) (RGrp.mk (ByteArray.mk #[]) (@none Addr) 0 [])).ao = Addr.blkD g.ao ∧ Addr.offD (List.getD L (Int.toNat (↑i : Int)) (RGrp.mk (ByteArray.mk #[]) (@none Addr) 0 [])).ao = Addr.offD g.ao ∧ 1 = 1 ∧ Int.toNat (↑k : Int) < List.length g.4) ∧ match List.getD g.4 (Int.toNat (↑k : Int)) (0 : Int) == pid with
  | true => b = b ∧ (aoL = aoL ∧ capL = capL ∧ List.length L = List.length L ∧ (0 : Int) ≤ (↑i : Int) ∧ (↑i : Int) < (↑(List.length L) : Int)) ∧ (Addr.blkD aoL = Addr.blkD aoL ∧ Addr.offD aoL = Addr.offD aoL ∧ 2 = 2 ∧ Int.toNat (↑i : Int) < List.length L) ∧ N [rOf_2_z0 aoL capL L aoN capN nt b, rOf_2_z1 aoL capL L, rOf_2_z2 aoN capN nt, pk 0 rest, rOf_2_z3 g] (SV.tuple [SV.str (List.getD L (Int.toNat (↑i : Int)) (RGrp.mk (ByteArray.mk #[]) (@none Addr) 0 [])).1, SV.bool true])
  | false => K (Frm.loop J1 :: Frm.blk 2 :: Frm.blk 1 :: frmR [J0] (bodyOf Tryz.f89) 3) (Sy.mk (SV.ptr 0 b 0 :: (SV.int .i64 pid :: (rawR u 2 (SV.int .i64 (↑i : Int) :: (SV.int .i64 (IntKind.wrap IntKind.i64 ((↑k : Int) + (1 : Int))) :: (rawR u 8 (SV.int .i64 (↑k : Int) :: (SV.ptr 0 b 0 :: (SV.ptr 0 b 0 :: (SV.ptr 0 b 0 :: (SV.vec 1 aoL (List.length L) capL :: (SV.int .i64 (↑i : Int) :: (SV.eptr 1 (Addr.blkD aoL) (Addr.offD aoL) 2 (Int.toNat (↑i : Int)) 0 :: (SV.eptr 1 (Addr.blkD aoL) (Addr.offD aoL) 2 (Int.toNat (↑i : Int)) 1 :: (SV.vec 4 (List.getD L (Int.toNat (↑i : Int)) (RGrp.mk (ByteArray.mk #[]) (@none Addr) 0 [])).ao (List.length (List.getD L (Int.toNat (↑i : Int)) (RGrp.mk (ByteArray.mk #[]) (@none Addr) 0 [])).4) (List.getD L (Int.toNat (↑i : Int)) (RGrp.mk (ByteArray.mk #[]) (@none Addr) 0 [])).3 :: (SV.int .i64 (↑(List.length (List.getD L (Int.toNat (↑i : Int)) (RGrp.mk (ByteArray.mk #[]) (@none Addr) 0 [])).4) : Int) :: (SV.bool true :: (SV.int .i64 (↑k : Int) :: (SV.int .i64 (IntKind.wrap IntKind.i64 ((↑k : Int) + (1 : Int))) :: (SV.ptr 0 b 0 :: (SV.ptr 0 b 0 :: (SV.ptr 0 b 0 :: (SV.vec 1 aoL (List.length L) capL :: (SV.int .i64 (↑i : Int) :: (SV.eptr 1 (Addr.blkD aoL) (Addr.offD aoL) 2 (Int.toNat (↑i : Int)) 0 :: (SV.eptr 1 (Addr.blkD aoL) (Addr.offD aoL) 2 (Int.toNat (↑i : Int)) 1 :: (SV.vec 4 (List.getD L (Int.toNat (↑i : Int)) (RGrp.mk (ByteArray.mk #[]) (@none Addr) 0 [])).ao (List.length (List.getD L (Int.toNat (↑i : Int)) (RGrp.mk (ByteArray.mk #[]) (@none Addr) 0 [])).4) (List.getD L (Int.toNat (↑i : Int)) (RGrp.mk (ByteArray.mk #[]) (@none Addr) 0 [])).3 :: (SV.int .i64 (↑k : Int) :: (SV.eptr 4 (Addr.blkD (List.getD L (Int.toNat (↑i : Int)) (RGrp.mk (ByteArray.mk #[]) (@none Addr) 0 [])).ao) (Addr.offD (List.getD L (Int.toNat (↑i : Int)) (RGrp.mk (ByteArray.mk #[]) (@none Addr) 0 [])).ao) 1 (Int.toNat (↑k : Int)) 0 :: (SV.int .i64 (List.getD g.4 (Int.toNat (↑k : Int)) (0 : Int)) :: (SV.int .i64 pid :: (SV.bool false :: (rawR u 43 [] 8))))))))))))))))))))))))))) 9))) 4))) [rOf_2_z0 aoL capL L aoN capN nt b, rOf_2_z1 aoL capL L, rOf_2_z2 aoN capN nt, pk 0 rest, rOf_2_z3 g])
 | false => K (Frm.loop J0 :: Frm.blk 0 :: frm [] (bodyOf Tryz.f89) [1, 1] []) (Sy.mk (SV.ptr 0 b 0 :: (SV.int .i64 pid :: (rawR u 2 (SV.int .i64 (IntKind.wrap IntKind.i64 ((↑i : Int) + (1 : Int))) :: (SV.int .i64 (↑k : Int) :: (rawR u 8 (SV.int .i64 (↑i : Int) :: (SV.int .i64 (IntKind.wrap IntKind.i64 ((↑i : Int) + (1 : Int))) :: (SV.int .i64 (↑k : Int) :: (SV.ptr 0 b 0 :: (SV.ptr 0 b 0 :: (SV.ptr 0 b 0 :: (SV.vec 1 aoL (List.length L) capL :: (SV.int .i64 (↑i : Int) :: (SV.eptr 1 (Addr.blkD aoL) (Addr.offD aoL) 2 (Int.toNat (↑i : Int)) 0 :: (SV.eptr 1 (Addr.blkD aoL) (Addr.offD aoL) 2 (Int.toNat (↑i : Int)) 1 :: (SV.vec 4 (List.getD L (Int.toNat (↑i : Int)) (RGrp.mk (ByteArray.mk #[]) (@none Addr) 0 [])).ao (List.length (List.getD L (Int.toNat (↑i : Int)) (RGrp.mk (ByteArray.mk #[]) (@none Addr) 0 [])).4) (List.getD L (Int.toNat (↑i : Int)) (RGrp.mk (ByteArray.mk #[]) (@none Addr) 0 [])).3 :: (SV.int .i64 (↑(List.length (List.getD L (Int.toNat (↑i : Int)) (RGrp.mk (ByteArray.mk #[]) (@none Addr) 0 [])).4) : Int) :: (SV.bool false :: (rawR u 28 [] 23)))))))))))))) 7))) 4))) [rOf_2_z0 aoL capL L aoN capN nt b, rOf_2_z1 aoL capL L, rOf_2_z2 aoN capN nt, pk 0 rest, rOf_2_z3 g])) := by kernel_rfl
theorem rMb_start (K : List Frm → Sy → Prop) (N : List Ent → SV → Prop) (r : RG) (b : Nat) (name : ByteArray) : (run Tryz.prog [(64, adtC rgE ratM)] false [4] K (retP Tryz.prog Tryz.f45.results.toList N) 600 [.code (bodyOf Tryz.f45)] ⟨padTo 24 [.ptr 0 b 0, .str name], [pkA b rgE r]⟩) = ( true = true ∧ b = b ∧ ∃ (h : RG = RG), AdtIs (fun (s : RG) (b : Nat) ↦ packs (rgE s b)) rgE ∧ rOk r ∧ match !rHas r.3 name with
 | true => N [pkA b rgE r] (SV.raw (Value.slice (@none Addr) 0 0))
 | false => K (frmR [] (bodyOf Tryz.f45) 4) (Sy.mk (SV.ptr 0 b 0 :: (SV.str name :: (SV.raw (Value.tuple #[]) :: (SV.raw (Value.tuple #[]) :: (SV.raw (Value.slice (@none Addr) 0 0) :: (SV.int .i64 (↑(rAt r.3 name) : Int) :: (SV.bool (rHas r.3 name) :: (SV.tuple [SV.int .i64 (↑(rAt r.3 name) : Int), SV.bool (rHas r.3 name)] :: (SV.ptr 0 b 0 :: (SV.str name :: (SV.tuple [SV.int .i64 (↑(rAt r.3 name) : Int), SV.bool (rHas r.3 name)] :: (SV.int .i64 (↑(rAt r.3 name) : Int) :: (SV.bool (rHas r.3 name) :: (SV.bool (rHas r.3 name) :: (SV.bool false :: (rawE [] 9)))))))))))))))) [pkA b rgE r])) := by kernel_rfl
theorem rMb_4 (K : List Frm → Sy → Prop) (N : List Ent → SV → Prop) (aoL : Option Addr) (capL : Nat) (L : List RGrp) (aoN : Option Addr) (capN : Nat) (nt : List ByteArray) (b : Nat) (rest : List Ent) (i : Nat) (g : RGrp) (u : Nat → Value) : (run Tryz.prog [] false [] K (retP Tryz.prog Tryz.f45.results.toList N) 900 (frmR [] (bodyOf Tryz.f45) 4) ⟨mkT u 24 0 [(0, .ptr 0 b 0), (5, .int .i64 (i : Int))], [⟨.blk b, .cells [.vec 1 aoL (L).length capL, .vec 2 aoN (nt).length capN] 126⟩, ⟨.sl aoL capL, .vecL 131 2 encRg (L) zR⟩, ⟨.sl aoN capN, .vecL 9 1 encS (nt) ByteArray.empty⟩, pk 0 rest, ⟨.sl g.ao g.cap, .vecL 3 1 encI1 (g.pids) 0⟩]⟩) = ( b = b ∧ (aoL = aoL ∧ capL = capL ∧ List.length L = List.length L ∧ (0 : Int) ≤ (↑i : Int) ∧ (↑i : Int) < (↑(List.length L) : Int)) ∧ (Addr.blkD aoL = Addr.blkD aoL ∧ Addr.offD aoL = Addr.offD aoL ∧ 2 = 2 ∧ Int.toNat (↑i : Int) < List.length L) ∧ (g.ao = (List.getD L (Int.toNat (↑i : Int)) (RGrp.mk (ByteArray.mk #[]) (@none Addr) 0 [])).ao ∧ List.length (List.getD L (Int.toNat (↑i : Int)) (RGrp.mk (ByteArray.mk #[]) (@none Addr) 0 [])).4 = List.length g.4 ∧ 1 = 1 ∧ List.length (List.getD L (Int.toNat (↑i : Int)) (RGrp.mk (ByteArray.mk #[]) (@none Addr) 0 [])).4 * 8 ≤ 140737488355328 ∧ List.length (List.getD L (Int.toNat (↑i : Int)) (RGrp.mk (ByteArray.mk #[]) (@none Addr) 0 [])).4 ≤ 9223372036854775807) ∧ ∀ (ao2 : Option Addr) (cap2 : Nat), List.length (List.getD L (Int.toNat (↑i : Int)) (RGrp.mk (ByteArray.mk #[]) (@none Addr) 0 [])).4 ≤ cap2 → N [Ent.mk (Loc.blk b) (SObj.cells [SV.vec 1 aoL (List.length L) capL, SV.vec 2 aoN (List.length nt) capN] 126), Ent.mk (Loc.sl aoL capL) (SObj.vecL 131 2 encRg L (RGrp.mk (ByteArray.mk #[]) (@none Addr) 0 [])), Ent.mk (Loc.sl aoN capN) (SObj.vecL 9 1 encS nt ByteArray.empty), pk 0 rest, Ent.mk (Loc.sl g.ao g.3) (SObj.vecL 3 1 encI1 g.4 (0 : Int)), Ent.mk (Loc.sl ao2 cap2) (SObj.vecL 3 1 encI1 g.4 (0 : Int))] (SV.vec 5 ao2 (List.length (List.getD L (Int.toNat (↑i : Int)) (RGrp.mk (ByteArray.mk #[]) (@none Addr) 0 [])).4) cap2)) := by kernel_rfl
theorem rEm_start (K : List Frm → Sy → Prop) (N : List Ent → SV → Prop) (r : RG) (b : Nat) : (run Tryz.prog [] false [] K (retP Tryz.prog Tryz.f47.results.toList N) 600 [.code (bodyOf Tryz.f47)] ⟨padTo 47 [.ptr 0 b 0], [pkA b rgE r]⟩) = ( K (frm [] (bodyOf Tryz.f47) [1, 0, 0] []) (Sy.mk (SV.ptr 0 b 0 :: (SV.raw (Value.tuple #[]) :: (SV.str (ByteArray.mk #[]) :: (SV.bool false :: (rawE [] 43))))) [pkA b rgE r])) := by kernel_rfl
theorem rEm_1 (K : List Frm → Sy → Prop) (N : List Ent → SV → Prop) (J : Act → World → Prop) (aoL : Option Addr) (capL : Nat) (L : List RGrp) (aoN : Option Addr) (capN : Nat) (nt : List ByteArray) (b : Nat) (rest : List Ent) (u : Nat → Value) : (run Tryz.prog [] false [4] K (retP Tryz.prog Tryz.f47.results.toList N) 900 (frm [J] (bodyOf Tryz.f47) [1, 0, 0, 0] []) ⟨mkT u 47 0 [(0, .ptr 0 b 0)], [⟨.blk b, .cells [.vec 1 aoL (L).length capL, .vec 2 aoN (nt).length capN] 126⟩, ⟨.sl aoL capL, .vecL 131 2 encRg (L) zR⟩, ⟨.sl aoN capN, .vecL 9 1 encS (nt) ByteArray.empty⟩, pk 0 rest]⟩) = ( b = b ∧ match decide ((↑(List.length nt) : Int) > (0 : Int)) with
 | true => b = b ∧ (aoN = aoN ∧ capN = capN ∧ List.length nt = List.length nt ∧ (0 : Int) ≤ (0 : Int) ∧ (0 : Int) < (↑(List.length nt) : Int)) ∧ (Addr.blkD aoN = Addr.blkD aoN ∧ Addr.offD aoN = Addr.offD aoN ∧ 1 = 1 ∧ 0 < List.length nt) ∧ b = b ∧ ((0 : Int) ≤ (1 : Int) ∧ (1 : Int) ≤ (↑(List.length nt) : Int) ∧ List.length nt ≤ capN) ∧ (b = b ∧ true = true ∧ 1 = 1 ∧ 2 ≤ 2) ∧ K (frmR [J] (bodyOf Tryz.f47) 4) (Sy.mk (SV.ptr 0 b 0 :: (rawR u 1 (SV.str (List.getD nt 0 ByteArray.empty) :: (SV.raw (u 5) :: (SV.raw (u 6) :: (SV.ptr 0 b 0 :: (SV.ptr 0 b 0 :: (SV.ptr 0 b 1 :: (SV.vec 2 aoN (List.length nt) capN :: (SV.int .i64 (↑(List.length nt) : Int) :: (SV.bool true :: (SV.ptr 0 b 0 :: (SV.ptr 0 b 0 :: (SV.ptr 0 b 1 :: (SV.vec 2 aoN (List.length nt) capN :: (SV.eptr 2 (Addr.blkD aoN) (Addr.offD aoN) 1 0 0 :: (SV.str (List.getD nt 0 ByteArray.empty) :: (SV.ptr 0 b 0 :: (SV.ptr 0 b 0 :: (SV.ptr 0 b 0 :: (SV.ptr 0 b 1 :: (SV.vec 2 aoN (List.length nt) capN :: (SV.sub 2 aoN capN 1 1 (List.length nt) :: (SV.ptr 0 b 0 :: (SV.ptr 0 b 1 :: (rawR u 27 [] 20)))))))))))))))))))))))) 3)) [Ent.mk (Loc.blk b) (SObj.cells [SV.vec 1 aoL (List.length L) capL, SV.sub 2 aoN capN 1 1 (List.length nt)] 126), Ent.mk (Loc.sl aoL capL) (SObj.vecL 131 2 encRg L (RGrp.mk (ByteArray.mk #[]) (@none Addr) 0 [])), Ent.mk (Loc.sl aoN capN) (SObj.vecL 9 1 encS nt ByteArray.empty), pk 0 rest])
 | false => N [Ent.mk (Loc.blk b) (SObj.cells [SV.vec 1 aoL (List.length L) capL, SV.vec 2 aoN (List.length nt) capN] 126), Ent.mk (Loc.sl aoL capL) (SObj.vecL 131 2 encRg L (RGrp.mk (ByteArray.mk #[]) (@none Addr) 0 [])), Ent.mk (Loc.sl aoN capN) (SObj.vecL 9 1 encS nt ByteArray.empty), pk 0 rest] (SV.tuple [SV.str (ByteArray.mk #[]), SV.bool false])) := by kernel_rfl
theorem rEm_4 (K : List Frm → Sy → Prop) (N : List Ent → SV → Prop) (J0 : Act → World → Prop) (r : RG) (b : Nat) (n : ByteArray) (u : Nat → Value) : (run Tryz.prog [(64, adtC rgE ratM)] false [5] K (retP Tryz.prog Tryz.f47.results.toList N) 900 (frmR [J0] (bodyOf Tryz.f47) 4) ⟨mkT u 47 0 [(0, .ptr 0 b 0), (4, .str n)], [pkA b rgE r]⟩) = ( true = true ∧ b = b ∧ ∃ (h : RG = RG), AdtIs (fun (s : RG) (b : Nat) ↦ packs (rgE s b)) rgE ∧ rOk r ∧ K (frmR [J0] (bodyOf Tryz.f47) 5) (Sy.mk (SV.ptr 0 b 0 :: (rawR u 1 (SV.str n :: (SV.int .i64 (↑(rAt r.3 n) : Int) :: (SV.bool (rHas r.3 n) :: (rawR u 7 (SV.tuple [SV.int .i64 (↑(rAt r.3 n) : Int), SV.bool (rHas r.3 n)] :: (SV.ptr 0 b 0 :: (SV.str n :: (SV.tuple [SV.int .i64 (↑(rAt r.3 n) : Int), SV.bool (rHas r.3 n)] :: (SV.int .i64 (↑(rAt r.3 n) : Int) :: (SV.bool (rHas r.3 n) :: (rawR u 33 [] 14))))))) 20)))) 3)) [pkA b rgE r])) := by kernel_rfl
@[reducible] def rEm_5_z0 (aoL : Option Addr) (capL : Nat) (L : List RGrp) (aoN : Option Addr) (capN : Nat) (nt : List ByteArray) (b : Nat) : Ent := Ent.mk (Loc.blk b) (SObj.cells [SV.vec 1 aoL (List.length L) capL, SV.vec 2 aoN (List.length nt) capN] 126)
@[reducible] def rEm_5_z1 (aoL : Option Addr) (capL : Nat) (L : List RGrp) : Ent := Ent.mk (Loc.sl aoL capL) (SObj.vecL 131 2 encRg L (RGrp.mk (ByteArray.mk #[]) (@none Addr) 0 []))
@[reducible] def rEm_5_z2 (aoN : Option Addr) (capN : Nat) (nt : List ByteArray) : Ent := Ent.mk (Loc.sl aoN capN) (SObj.vecL 9 1 encS nt ByteArray.empty)
theorem rEm_5 (K : List Frm → Sy → Prop) (N : List Ent → SV → Prop) (J0 : Act → World → Prop) (aoL : Option Addr) (capL : Nat) (L : List RGrp) (aoN : Option Addr) (capN : Nat) (nt : List ByteArray) (b : Nat) (rest : List Ent) (n : ByteArray) (i : Nat) (ok : Bool) (u : Nat → Value) : (run Tryz.prog [] false [] K (retP Tryz.prog Tryz.f47.results.toList N) 900 (frmR [J0] (bodyOf Tryz.f47) 5) ⟨mkT u 47 0 [(0, .ptr 0 b 0), (4, .str n), (5, .int .i64 (i : Int)), (6, .bool ok)], [⟨.blk b, .cells [.vec 1 aoL (L).length capL, .vec 2 aoN (nt).length capN] 126⟩, ⟨.sl aoL capL, .vecL 131 2 encRg (L) zR⟩, ⟨.sl aoN capN, .vecL 9 1 encS (nt) ByteArray.empty⟩, pk 0 rest]⟩) = ( match ok with
 | true => b = b ∧ (aoL = aoL ∧ capL = capL ∧ List.length L = List.length L ∧ (0 : Int) ≤ (↑i : Int) ∧ (↑i : Int) < (↑(List.length L) : Int)) ∧ (Addr.blkD aoL = Addr.blkD aoL ∧ Addr.offD aoL = Addr.offD aoL ∧ 2 = 2 ∧ Int.toNat (↑i : Int) < List.length L) ∧ match (↑(List.length (List.getD L (Int.toNat (↑i : Int)) (RGrp.mk (ByteArray.mk #[]) (@none Addr) 0 [])).4) : Int) == (0 : Int) with
  | true => N [rEm_5_z0 aoL capL L aoN capN nt b, rEm_5_z1 aoL capL L, rEm_5_z2 aoN capN nt, pk 0 rest] (SV.tuple [SV.str n, SV.bool true])
  | false => K (Frm.loop J0 :: Frm.blk 0 :: frm [] (bodyOf Tryz.f47) [1, 1] []) (Sy.mk (SV.ptr 0 b 0 :: (rawR u 1 (SV.str n :: (SV.int .i64 (↑i : Int) :: (SV.bool ok :: (rawR u 7 (SV.bool ok :: (SV.bool true :: (SV.ptr 0 b 0 :: (SV.ptr 0 b 0 :: (SV.ptr 0 b 0 :: (SV.vec 1 aoL (List.length L) capL :: (SV.int .i64 (↑i : Int) :: (SV.eptr 1 (Addr.blkD aoL) (Addr.offD aoL) 2 (Int.toNat (↑i : Int)) 0 :: (SV.eptr 1 (Addr.blkD aoL) (Addr.offD aoL) 2 (Int.toNat (↑i : Int)) 1 :: (SV.vec 4 (List.getD L (Int.toNat (↑i : Int)) (RGrp.mk (ByteArray.mk #[]) (@none Addr) 0 [])).ao (List.length (List.getD L (Int.toNat (↑i : Int)) (RGrp.mk (ByteArray.mk #[]) (@none Addr) 0 [])).4) (List.getD L (Int.toNat (↑i : Int)) (RGrp.mk (ByteArray.mk #[]) (@none Addr) 0 [])).3 :: (SV.int .i64 (↑(List.length (List.getD L (Int.toNat (↑i : Int)) (RGrp.mk (ByteArray.mk #[]) (@none Addr) 0 [])).4) : Int) :: ((SV.bool ((↑(List.length (List.getD L (Int.toNat (↑i : Int)) (RGrp.mk (ByteArray.mk #[]) (@none Addr) 0 [])).4) : Int) == (0 : Int))) :: (SV.bool false :: (SV.raw (u 46) :: [])))))))))))))) 26)))) 3)) [rEm_5_z0 aoL capL L aoN capN nt b, rEm_5_z1 aoL capL L, rEm_5_z2 aoN capN nt, pk 0 rest])
 | false => K (Frm.loop J0 :: Frm.blk 0 :: frm [] (bodyOf Tryz.f47) [1, 1] []) (Sy.mk (SV.ptr 0 b 0 :: (rawR u 1 (SV.str n :: (SV.int .i64 (↑i : Int) :: (SV.bool ok :: (rawR u 7 (SV.bool ok :: (SV.bool false :: (rawE (SV.bool false :: (SV.raw (u 46) :: [])) 10))) 26)))) 3)) [rEm_5_z0 aoL capL L aoN capN nt b, rEm_5_z1 aoL capL L, rEm_5_z2 aoN capN nt, pk 0 rest])) := by kernel_rfl
end Go.Proofs.YtkcmgcoppecfpaaGreat

/- The document's groups: Remove, Of, Members, Emptied. -/
namespace Go.Proofs.YtkcmgcoppecfpaaGreat
open Go Go.RowKit
theorem setN_selfR2 {α : Type 1} {l : Nat} {v : α} : ∀ {h : List α}, nth h l = some v → setN h l v = h := by
  induction l with
  | zero => intro h hl; cases h <;> simp [nth, setN] at hl ⊢; exact hl.symm
  | succ l ih => intro h hl; cases h <;> simp [nth, setN] at hl ⊢; exact ih hl
theorem rOf_ok : CtrOk Tryz.prog 89 (adtC rgE rofM) := adt_ok fun b r rest N h => by
  unfold rofM at h
  split at h
  case h_2 => exact h.elim
  rename_i pid
  obtain ⟨ho, h⟩ := h
  have hL := ho.1
  refine Spec.pre (hs' := [⟨.blk b, .cells [.vec 1 r.aoL (r.L).length r.capL, .vec 2 r.aoN (r.notes).length r.capN] 126⟩, ⟨.sl r.aoL r.capL, .vecL 131 2 encRg (r.L) zR⟩, ⟨.sl r.aoN r.capN, .vecL 9 1 encS (r.notes) ByteArray.empty⟩, pk 0 (r.L.map pidE)]) (args' := [.ptr 0 b 0, .int .i64 pid]) (fun W F w hr => hr) rfl ?_
  refine Spec.of_G 51 Tryz.func89 (c := bodyOf Tryz.f89) (by kernel_rfl) (by kernel_rfl) (Nat.le_of_ble_eq_true rfl) fun W F => ?_
  refine G_run (kc := false) (ss := []) (Cs := []) trivial hmR 600 ?_
  rw [rOf_start]
  refine G_loopAt (ι := Nat) [] (bodyOf Tryz.f89) [1, 0, 1, 0] 51 (fun i : Nat => [(0, .ptr 0 b 0), (1, .int .i64 pid), (6, .int .i64 (i : Int))]) (fun _ : Nat => [⟨.blk b, .cells [.vec 1 r.aoL (r.L).length r.capL, .vec 2 r.aoN (r.notes).length r.capN] 126⟩, ⟨.sl r.aoL r.capL, .vecL 131 2 encRg (r.L) zR⟩, ⟨.sl r.aoN r.capN, .vecL 9 1 encS (r.notes) ByteArray.empty⟩, pk 0 (r.L.map pidE)]) (fun i : Nat => i ≤ r.L.length ∧ rOf r.L pid = rOf (r.L.drop i) pid) (fun i : Nat => r.L.length - i) 0 (by kernel_rfl) (fun J => by kernel_rfl) ⟨Nat.zero_le _, rfl⟩ rfl ⟨rfl, rfl, rfl, trivial⟩ (fun w hw => hw) ?_
  rintro i ⟨hi, hv⟩ u
  try dsimp only at hi hv ⊢
  simp only [List.nil_append, List.cons_append]
  refine G_run (kc := false) (ss := []) (Cs := []) trivial hmR 900 ?_
  rw [rOf_1]
  have w1 : IntKind.wrap .i64 ((i : Int) + 1) = ((i + 1 : Nat) : Int) := IntWalk.i64_in _ (by omega)
  refine ⟨rfl, ?_⟩
  cases hlt : decide ((i : Int) < (r.L.length : Int)) with
  | false =>
    simp only [decide_eq_false_iff_not] at hlt
    have e : rOf r.L pid = none := by rw [hv, List.drop_of_length_le (by omega)]; rfl
    rw [e] at h
    exact ⟨r, fun W F w hr => hr, h⟩
  | true =>
    simp only [decide_eq_true_eq] at hlt
    have hi2 : i < r.L.length := by omega
    have hg : ∀ d, r.L.getD i d = r.L[i] := fun d => getD_ltR _ _ _ hi2
    have hpl := ho.2.2 _ (List.getElem_mem hi2)
    have hdc : r.L.drop i = r.L[i] :: r.L.drop (i + 1) := List.drop_eq_getElem_cons hi2
    refine G_loopAt (ι := Nat) [(Back W F 51 (fun i : Nat => [(0, .ptr 0 b 0), (1, .int .i64 pid), (6, .int .i64 (i : Int))]) (fun _ : Nat => [⟨.blk b, .cells [.vec 1 r.aoL (r.L).length r.capL, .vec 2 r.aoN (r.notes).length r.capN] 126⟩, ⟨.sl r.aoL r.capL, .vecL 131 2 encRg (r.L) zR⟩, ⟨.sl r.aoN r.capN, .vecL 9 1 encS (r.notes) ByteArray.empty⟩, pk 0 (r.L.map pidE)]) (fun i : Nat => i ≤ r.L.length ∧ rOf r.L pid = rOf (r.L.drop i) pid) (fun i : Nat => r.L.length - i) (r.L.length - i))] (bodyOf Tryz.f89) [1, 0, 1, 0, 0, 1, 0, 0, 1, 0] 51 (fun k : Nat => [(0, .ptr 0 b 0), (1, .int .i64 pid), (6, .int .i64 (i : Int)), (7, .int .i64 (k : Int))]) (fun _ : Nat => [⟨.blk b, .cells [.vec 1 r.aoL (r.L).length r.capL, .vec 2 r.aoN (r.notes).length r.capN] 126⟩, ⟨.sl r.aoL r.capL, .vecL 131 2 encRg (r.L) zR⟩, ⟨.sl r.aoN r.capN, .vecL 9 1 encS (r.notes) ByteArray.empty⟩, pk 0 ((r.L.take i).map pidE ++ (r.L.drop (i + 1)).map pidE), pidE r.L[i]]) (fun k : Nat => k ≤ r.L[i].pids.length ∧ ∀ p ∈ r.L[i].pids.take k, p ≠ pid) (fun k : Nat => r.L[i].pids.length - k) 0 (by kernel_rfl) (fun J => by kernel_rfl) ⟨Nat.zero_le _, fun p hp => by simp at hp⟩ rfl ⟨rfl, rfl, rfl, rfl, trivial⟩ (fun w hw => rg_open hi2 hw) ?_
    rintro k ⟨hk, hp⟩ u
    try dsimp only at hk hp ⊢
    simp only [List.nil_append, List.cons_append]
    refine G_run (kc := false) (ss := []) (Cs := []) trivial hmR 900 ?_
    unfold pidE
    rw [rOf_2]
    have w2 : IntKind.wrap .i64 ((k : Int) + 1) = ((k + 1 : Nat) : Int) := IntWalk.i64_in _ (by omega)
    have close : ∀ W F w, Rep W F [⟨.blk b, .cells [.vec 1 r.aoL (r.L).length r.capL, .vec 2 r.aoN (r.notes).length r.capN] 126⟩, ⟨.sl r.aoL r.capL, .vecL 131 2 encRg (r.L) zR⟩, ⟨.sl r.aoN r.capN, .vecL 9 1 encS (r.notes) ByteArray.empty⟩, pk 0 ((r.L.take i).map pidE ++ (r.L.drop (i + 1)).map pidE), ⟨.sl r.L[i].ao r.L[i].cap, .vecL 3 1 encI1 r.L[i].pids 0⟩] w → Rep W F (rgE r b) w := fun W F w hr => by
      have h1 := rg_close (g := r.L[i]) hi2 hr
      rw [set_selfL _ _ hi2] at h1
      exact h1
    rw [Int.toNat_natCast i, hg]
    refine ⟨rfl, ⟨rfl, rfl, rfl, by omega, by omega⟩, ⟨rfl, rfl, rfl, hi2⟩, ?_⟩
    cases hlt2 : decide ((k : Int) < (r.L[i].pids.length : Int)) with
    | false =>
      simp only [decide_eq_false_iff_not] at hlt2
      rw [List.take_of_length_le (by omega)] at hp
      have hnc : r.L[i].pids.contains pid = false := by
        rw [List.contains_eq_any_beq, List.any_eq_false]
        intro p hpm
        simpa using fun e => hp p hpm e.symm
      refine G_back (i + 1) ⟨hi2, ?_⟩ (by omega) rfl ⟨rfl, rfl, congrArg (Value.int .i64) w1, trivial⟩ (fun w hr => close _ _ w hr)
      rw [hv, hdc]
      unfold rOf
      rw [List.find?_cons, hnc]
    | true =>
      simp only [decide_eq_true_eq] at hlt2
      have hk2 : k < r.L[i].pids.length := by omega
      have hgk : r.L[i].pids.getD k 0 = r.L[i].pids[k] := getD_ltR _ _ _ hk2
      rw [Int.toNat_natCast k, hgk]
      refine ⟨rfl, ⟨rfl, rfl, rfl, by omega, by omega⟩, ⟨rfl, rfl, rfl, hi2⟩, ⟨rfl, rfl, rfl, by omega, by omega⟩, ⟨rfl, rfl, rfl, hk2⟩, ?_⟩
      cases hc : r.L[i].pids[k] == pid with
      | true =>
        have hcc : r.L[i].pids.contains pid = true := by
          rw [List.contains_iff_mem, ← (beq_iff_eq.1 hc)]
          exact List.getElem_mem hk2
        have e : rOf r.L pid = some r.L[i].name := by
          rw [hv, hdc]
          unfold rOf
          rw [List.find?_cons, hcc]
          rfl
        rw [e] at h
        exact ⟨rfl, ⟨rfl, rfl, rfl, by omega, by omega⟩, ⟨rfl, rfl, rfl, hi2⟩, r, close, h⟩
      | false =>
        refine G_back (k + 1) ⟨hk2, fun p hpm => ?_⟩ (by omega) rfl ⟨rfl, rfl, rfl, congrArg (Value.int .i64) w2, trivial⟩ (fun w hr => hr)
        rw [List.take_succ_eq_append_getElem hk2] at hpm
        rcases List.mem_append.1 hpm with hpm | hpm
        · exact hp p hpm
        · rw [List.mem_singleton.1 hpm]
          exact beq_eq_false_iff_ne.1 hc
theorem rMem_ok : CtrOk Tryz.prog 45 rmembersC := by
  intro args hs N h
  unfold rmembersC at h
  split at h
  case h_2 => exact h.elim
  rename_i l b name
  split at h
  case h_2 => exact h.elim
  rename_i b' σ' p r hl
  obtain ⟨rfl, rfl, hp, ho, hN⟩ := h
  obtain rfl := eq_of_heq hp
  simp only [cast_eq] at ho hN
  have hL := ho.1
  refine Spec.at (hp := [pkA b' rgE r]) (args' := [.ptr 0 b' 0, .str name]) (Post' := fun h' res => ∃ ao cap, h' = [pkA b' rgE r, ⟨.sl ao cap, .vecL 3 1 encI1 (rMem r.L name) 0⟩] ∧ res = .vec 1 ao (rMem r.L name).length cap) [l] (by simp [distinct]) (by
    have hl' : nth hs l = some (pkA b' rgE r) := hl
    simp [pickE, hl']) ?_ rfl ?_
  · refine Spec.up ?_
    refine Spec.of_G 24 Tryz.func45 (c := bodyOf Tryz.f45) (by kernel_rfl) (by kernel_rfl) (Nat.le_of_ble_eq_true rfl) fun W F => ?_
    refine G_run (kc := false) (ss := [4]) (Cs := [(64, adtC rgE ratM)]) ⟨rAt_ok, trivial⟩ hmR 600 ?_
    rw [rMb_start]
    refine ⟨rfl, rfl, rfl, HEq.rfl, ho, ?_⟩
    unfold rMem
    cases hh : rHas r.L name with
    | false =>
      rw [Bool.not_false]
      exact ⟨[pkA b' rgE r, ⟨.sl none 0, .vecL 3 1 encI1 [] 0⟩], .vec 1 none 0 0, fun W F w hr => Rep.nilvec 3 (sz := 1) (enc := encI1) 0 (fun _ => rfl) hr, rfl, none, 0, rfl, rfl⟩
    | true =>
      rw [Bool.not_true]
      have hi : rAt r.L name < r.L.length := by
        unfold rHas at hh
        simp only [Bool.and_eq_true, decide_eq_true_eq] at hh
        exact hh.1
      generalize rAt r.L name = i at hi ⊢
      have hg : ∀ d, r.L.getD i d = r.L[i] := fun d => getD_ltR _ _ _ hi
      have hpl := ho.2.2 _ (List.getElem_mem hi)
      refine G_live 24 [(0, .ptr 0 b' 0), (5, .int .i64 (i : Int))] [⟨.blk b', .cells [.vec 1 r.aoL (r.L).length r.capL, .vec 2 r.aoN (r.notes).length r.capN] 126⟩, ⟨.sl r.aoL r.capL, .vecL 131 2 encRg (r.L) zR⟩, ⟨.sl r.aoN r.capN, .vecL 9 1 encS (r.notes) ByteArray.empty⟩, pk 0 ((r.L.take i).map pidE ++ (r.L.drop (i + 1)).map pidE), ⟨.sl r.L[i].ao r.L[i].cap, .vecL 3 1 encI1 r.L[i].pids 0⟩] rfl ⟨rfl, rfl, trivial⟩ (fun w hr => rg_open hi hr.unpkA1) fun u => ?_
      refine G_run (kc := false) (ss := []) (Cs := []) trivial hmR 900 ?_
      rw [rMb_4, Int.toNat_natCast, hg]
      rw [hg]
      refine ⟨rfl, ⟨rfl, rfl, rfl, by omega, by omega⟩, ⟨rfl, rfl, rfl, hi⟩, ⟨rfl, rfl, rfl, by omega, by omega⟩, fun ao2 cap2 _ => ?_⟩
      refine ⟨[pkA b' rgE r, ⟨.sl ao2 cap2, .vecL 3 1 encI1 r.L[i].pids 0⟩], .vec 1 ao2 r.L[i].pids.length cap2, fun W F w hr => ?_, rfl, ao2, cap2, rfl, rfl⟩
      have h0 := Rep.pick (π := [0, 1, 2, 4, 3, 5]) (by decide) rfl hr
      have h1 := Rep.intoP (p := [⟨.blk b', .cells [.vec 1 r.aoL (r.L).length r.capL, .vec 2 r.aoN (r.notes).length r.capN] 126⟩, ⟨.sl r.aoL r.capL, .vecL 131 2 encRg (r.L) zR⟩, ⟨.sl r.aoN r.capN, .vecL 9 1 encS (r.notes) ByteArray.empty⟩]) (t := [⟨.sl ao2 cap2, .vecL 3 1 encI1 r.L[i].pids 0⟩]) (e := pidE r.L[i]) h0
      have em : (r.L.take i).map pidE ++ pidE r.L[i] :: (r.L.drop (i + 1)).map pidE = r.L.map pidE := by
        rw [← List.map_cons, ← List.map_append]
        congr 1
        rw [← List.drop_eq_getElem_cons hi, List.take_append_drop]
      rw [em] at h1
      exact Rep.pkA (S := rgE) (s := r) (t := [⟨.sl ao2 cap2, .vecL 3 1 encI1 r.L[i].pids 0⟩]) h1
  · rintro h' res ⟨ao, cap, rfl, rfl⟩
    refine ⟨Nat.le_of_ble_eq_true rfl, .vec (lenN hs) ao (rMem r.L name).length cap, rfl, ?_⟩
    have e0 : setN hs l (pkA b' rgE r) = hs := setN_selfR2 hl
    simpa [putBack, appE_eq, snoc_eq, e0] using hN ao cap
theorem rEm_ok : CtrOk Tryz.prog 47 (adtC rgE remptiedM) := adt_ok fun b r rest N h => by
  unfold remptiedM at h
  split at h
  case h_2 => exact h.elim
  obtain ⟨ho, h⟩ := h
  refine Spec.pre (hs' := [pkA b rgE r]) (args' := [.ptr 0 b 0]) (fun W F w hr => Rep.pkA1 hr) rfl ?_
  refine Spec.of_G 47 Tryz.func47 (c := bodyOf Tryz.f47) (by kernel_rfl) (by kernel_rfl) (Nat.le_of_ble_eq_true rfl) fun W F => ?_
  refine G_run (kc := false) (ss := []) (Cs := []) trivial hmR 600 ?_
  rw [rEm_start]
  refine G_loopAt (ι := List ByteArray × Option Addr × Nat) [] (bodyOf Tryz.f47) [1, 0, 0] 47 (fun _ => [(0, .ptr 0 b 0)]) (fun i => [pkA b rgE { r with notes := i.1, aoN := i.2.1, capN := i.2.2 }]) (fun i => rFirst r.L i.1 = rFirst r.L r.notes ∧ i.1.length ≤ r.notes.length) (fun i => i.1.length) (r.notes, r.aoN, r.capN) (by kernel_rfl) (fun J => by kernel_rfl) ⟨rfl, Nat.le_refl _⟩ rfl ⟨rfl, trivial⟩ (fun w hw => hw) ?_
  rintro ⟨notes, ao, cap⟩ ⟨hfe, hnl⟩ u
  dsimp only at hfe hnl
  try dsimp only
  simp only [List.nil_append, List.cons_append]
  have hfin := h
  simp only [← hfe] at hfin
  clear h
  have hN := ho.2.1
  refine G_live 47 [(0, .ptr 0 b 0)] [⟨.blk b, .cells [.vec 1 r.aoL (r.L).length r.capL, .vec 2 ao (notes).length cap] 126⟩, ⟨.sl r.aoL r.capL, .vecL 131 2 encRg (r.L) zR⟩, ⟨.sl ao cap, .vecL 9 1 encS (notes) ByteArray.empty⟩, pk 0 (r.L.map pidE)] rfl ⟨rfl, trivial⟩ (fun w hr => hr.unpkA1) fun u => ?_
  refine G_vec (l := 2) rfl fun hcap _ => ?_
  refine G_run (kc := false) (ss := [4]) (Cs := []) trivial hmR 900 ?_
  rw [rEm_1]
  refine ⟨rfl, ?_⟩
  cases notes with
  | nil =>
    have hd : decide ((([] : List ByteArray).length : Int) > 0) = false := rfl
    rw [hd]
    exact ⟨{ r with notes := [], aoN := ao, capN := cap }, fun W F w hr => hr, hfin ao cap⟩
  | cons n notes =>
    have hd : decide ((((n :: notes).length : Nat) : Int) > 0) = true := by simp
    rw [hd]
    simp only [List.length_cons] at hnl hcap
    refine ⟨rfl, ⟨rfl, rfl, rfl, by omega, by simp⟩, ⟨rfl, rfl, rfl, by simp⟩, rfl, ⟨by omega, by simp only [List.length_cons]; omega, by simp only [List.length_cons]; omega⟩, ⟨rfl, rfl, rfl, Nat.le_refl _⟩, ?_⟩
    refine G_live 47 [(0, .ptr 0 b 0), (4, .str n)] [pkA b rgE { r with notes := notes, aoN := cutA ao cap 1 1, capN := cap - 1 }] rfl ⟨rfl, rfl, trivial⟩ (fun w hw => ?_) fun u => ?_
    · have a1 := Rep.cut (l := 2) (k := 1) rfl (by simp) hw
      have a2 := Rep.cellsEq (l := 0) (cs' := [.vec 1 r.aoL r.L.length r.capL, .vec 2 (cutA ao cap 1 1) notes.length (cap - 1)]) rfl (by simp [denL, den_cut]) a1
      exact Rep.pkA1 a2
    have ho2 : rOk { r with notes := notes, aoN := cutA ao cap 1 1, capN := cap - 1 } := ⟨ho.1, by dsimp only; omega, ho.2.2⟩
    have hL := ho.1
    refine G_run (kc := false) (ss := [5]) (Cs := [(64, adtC rgE ratM)]) ⟨rAt_ok, trivial⟩ hmR 900 ?_
    rw [rEm_4]
    refine ⟨rfl, rfl, rfl, HEq.rfl, ho2, ?_⟩
    refine G_live 47 [(0, .ptr 0 b 0), (4, .str n), (5, .int .i64 (rAt r.L n : Int)), (6, .bool (rHas r.L n))] [⟨.blk b, .cells [.vec 1 r.aoL (r.L).length r.capL, .vec 2 (cutA ao cap 1 1) (notes).length (cap - 1)] 126⟩, ⟨.sl r.aoL r.capL, .vecL 131 2 encRg (r.L) zR⟩, ⟨.sl (cutA ao cap 1 1) (cap - 1), .vecL 9 1 encS (notes) ByteArray.empty⟩, pk 0 (r.L.map pidE)] rfl ⟨rfl, rfl, rfl, rfl, trivial⟩ (fun w hr => hr.unpkA1) fun u => ?_
    refine G_run (kc := false) (ss := []) (Cs := []) trivial hmR 900 ?_
    rw [rEm_5]
    have back : ∀ (tm : List SV), rFirst r.L (n :: notes) = rFirst r.L notes → lenN tm = 47 → liveOk tm [(0, .ptr 0 b 0)] → G Tryz.prog (endQ Tryz.prog Tryz.f47 W F (fun h' res => ∃ r', (∀ W F w, Rep W F h' w → Rep W F (rgE r' b) w) ∧ N r' res)) W F (.loop (Back W F 47 (fun _ : List ByteArray × Option Addr × Nat => [(0, .ptr 0 b 0)]) (fun i => [pkA b rgE { r with notes := i.1, aoN := i.2.1, capN := i.2.2 }]) (fun i => rFirst r.L i.1 = rFirst r.L r.notes ∧ i.1.length ≤ r.notes.length) (fun i => i.1.length) ((n :: notes).length)) :: .blk 0 :: frm [] (bodyOf Tryz.f47) [1, 1] []) ⟨tm, [⟨.blk b, .cells [.vec 1 r.aoL (r.L).length r.capL, .vec 2 (cutA ao cap 1 1) (notes).length (cap - 1)] 126⟩, ⟨.sl r.aoL r.capL, .vecL 131 2 encRg (r.L) zR⟩, ⟨.sl (cutA ao cap 1 1) (cap - 1), .vecL 9 1 encS (notes) ByteArray.empty⟩, pk 0 (r.L.map pidE)]⟩ := fun tm e g1 g2 =>
      G_back (notes, cutA ao cap 1 1, cap - 1) ⟨by dsimp only; rw [← e]; exact hfe, by dsimp only; omega⟩ (by simp) g1 g2 (fun w hr => Rep.pkA1 hr)
    cases hh : rHas r.L n with
    | false =>
      refine back _ ?_ rfl ⟨rfl, trivial⟩
      simp only [rFirst, hh, Bool.false_and]
    | true =>
      have hi : rAt r.L n < r.L.length := by
        unfold rHas at hh
        simp only [Bool.and_eq_true, decide_eq_true_eq] at hh
        exact hh.1
      have hg : ∀ d, r.L.getD (rAt r.L n) d = r.L[rAt r.L n] := fun d => getD_ltR _ _ _ hi
      rw [Int.toNat_natCast, hg]
      refine ⟨rfl, ⟨rfl, rfl, rfl, by omega, by omega⟩, ⟨rfl, rfl, rfl, hi⟩, ?_⟩
      have hc0 : (((r.L[rAt r.L n].pids.length : Nat) : Int) == 0) = (r.L[rAt r.L n].pids.length == 0) := by rw [Bool.eq_iff_iff]; simp
      rw [hc0]
      cases hc : r.L[rAt r.L n].pids.length == 0 with
      | true =>
        have e : rFirst r.L (n :: notes) = (notes, some n) := by simp only [rFirst, hh, hg, hc, Bool.and_self]
        have hf := hfin (cutA ao cap 1 1) (cap - 1)
        rw [e] at hf
        exact ⟨{ r with notes := notes, aoN := cutA ao cap 1 1, capN := cap - 1 }, fun W F w hr => hr, hf⟩
      | false =>
        refine back _ ?_ rfl ⟨rfl, trivial⟩
        simp only [rFirst, hh, hg, hc, Bool.and_false]
end Go.Proofs.YtkcmgcoppecfpaaGreat

