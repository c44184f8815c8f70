/- The document's table: Exit. -/
import Derived.Test.YtihajdkipkfiiaaRt3
namespace Go.Proofs.Ytihajdkipkfiiaa
open Go Go.RowKit
set_option linter.unusedVariables false
set_option linter.unusedSimpArgs false
set_option linter.unnecessarySimpa false
set_option maxHeartbeats 0

def curX (pid : Int) (xs : List PR) (i : Nat) : List PR := (xs.take i).map (orphan pid) ++ xs.drop i
theorem curX_len (pid : Int) (xs : List PR) (i : Nat) : (curX pid xs i).length = xs.length := by
  simp [curX]; omega
theorem curX_at (pid : Int) {xs : List PR} {i : Nat} (h : i < xs.length) (d : PR) : (curX pid xs i).getD i d = xs[i] ∧ (∀ v, (curX pid xs i).set i v = (xs.take i).map (orphan pid) ++ v :: xs.drop (i + 1)) ∧ curX pid xs (i + 1) = (xs.take i).map (orphan pid) ++ orphan pid xs[i] :: xs.drop (i + 1) := by
  have e : curX pid xs i = (xs.take i).map (orphan pid) ++ xs[i] :: xs.drop (i + 1) := by unfold curX; rw [← List.drop_eq_getElem_cons h]
  have hl : ((xs.take i).map (orphan pid)).length = i := by simp; omega
  refine ⟨?_, fun v => ?_, ?_⟩
  · rw [e]
    have := getD_mid ((xs.take i).map (orphan pid)) xs[i] (xs.drop (i + 1)) d
    rwa [hl] at this
  · rw [e]
    have := set_mid ((xs.take i).map (orphan pid)) xs[i] v (xs.drop (i + 1))
    rwa [hl] at this
  · unfold curX
    rw [List.take_succ_eq_append_getElem h, List.map_append, List.append_assoc]
    rfl
theorem rtExit_loop {W : World} {F : List Ch} {N : List Ent → SV → Prop} {room last pid : Int} {b : Nat} {ao : Option Addr} {cap : Nat} {xs : List PR} (hx : xs.length ≤ 1000000) {tm : List SV} (h1 : lenN tm = 69) (h2 : liveOk tm [(0, .ptr 0 b 0), (1, .int .i64 pid), (8, .int .i64 (0 : Int))]) (hN : N [⟨.blk b, .cells [.vec 1 ao (xs.map (orphan pid)).length cap, .int .i64 room, .int .i64 last] 152⟩, ⟨.sl ao cap, .vecL 149 8 encR (xs.map (orphan pid)) PR.zero⟩] (.int .i64 0)) :
    G Try.prog (endQ Try.prog Try.f40 W F N) W F (frm [] (bodyOf Try.f40) [1, 1, 1, 1, 1, 0, 1, 0] []) ⟨tm, [⟨.blk b, .cells [.vec 1 ao (xs).length cap, .int .i64 room, .int .i64 last] 152⟩, ⟨.sl ao cap, .vecL 149 8 encR (xs) PR.zero⟩]⟩ := by
  refine G_loopAt (ι := Nat × List PR) [] (bodyOf Try.f40) [1, 1, 1, 1, 1, 0, 1, 0] 69 (fun x => [(0, .ptr 0 b 0), (1, .int .i64 pid), (8, .int .i64 ((x.1 : Nat) : Int))]) (fun x => [⟨.blk b, .cells [.vec 1 ao (x.2).length cap, .int .i64 room, .int .i64 last] 152⟩, ⟨.sl ao cap, .vecL 149 8 encR (x.2) PR.zero⟩]) (fun x => x.1 ≤ xs.length ∧ x.2 = curX pid xs x.1) (fun x => xs.length - x.1) (0, xs) (by kernel_rfl) (fun J => by kernel_rfl) ⟨Nat.zero_le _, rfl⟩ h1 h2 (fun w hw => hw) ?_
  rintro ⟨i, ys⟩ ⟨hi, hv⟩ u
  dsimp only at hi hv
  try dsimp only
  simp only [List.nil_append, List.cons_append]
  refine G_run (kc := false) (ss := []) (Cs := []) trivial hmP 900 ?_
  rw [rt_exit1]
  have hyl : ys.length = xs.length := by rw [hv]; exact curX_len _ _ _
  cases hlt : decide ((i : Int) < (ys.length : Int)) with
  | false =>
    simp only [decide_eq_false_iff_not] at hlt
    have e : ys = xs.map (orphan pid) := by
      rw [hv]
      unfold curX
      rw [List.take_of_length_le (by omega), List.drop_of_length_le (by omega), List.append_nil]
    rw [e]
    exact ⟨rfl, hN⟩
  | true =>
    simp only [decide_eq_true_eq] at hlt
    have hi2 : i < xs.length := by omega
    obtain ⟨q1, q2, q3⟩ := curX_at pid hi2 (PR.mk (0 : Int) (0 : Int) (ByteArray.mk #[]) false (0 : Int) (ByteArray.mk #[]) false false)
    rw [← hv] at q1 q2
    have w1 : IntKind.wrap .i64 ((i : Int) + 1) = ((i + 1 : Nat) : Int) := IntWalk.i64_in _ (by omega)
    rw [Int.toNat_natCast, q1]
    (repeat first | refine And.intro rfl ?_ | refine And.intro ⟨rfl, rfl, rfl, by omega, by omega⟩ ?_ | refine And.intro ⟨rfl, rfl, rfl, by omega⟩ ?_ | refine And.intro ⟨rfl, rfl, rfl, by omega, rfl⟩ ?_)
    cases hc : xs[i].parent == pid with
    | false =>
      have e : orphan pid xs[i] = xs[i] := by simp only [orphan, hc]
      refine G_back (i + 1, ys) ⟨by dsimp only; omega, ?_⟩ (by dsimp only; omega) rfl ⟨rfl, rfl, congrArg (Value.int .i64) w1, trivial⟩ (fun w hw => hw)
      dsimp only
      rw [q3, e, ← q2, ← q1]
      exact (set_sameR (by omega)).symm
    | true =>
      have e : orphan pid xs[i] = { xs[i] with parent := 1 } := by simp only [orphan, hc]
      have hyi : i < ys.length := by omega
      have hln : (ys.set i { xs[i] with parent := 1 }).length = ys.length := List.length_set
      have fin : ∀ (tm : List SV) (e' : PR), e' = { xs[i] with parent := 1 } → lenN tm = 69 → liveOk tm [(0, .ptr 0 b 0), (1, .int .i64 pid), (8, .int .i64 (((i + 1 : Nat) : Int) : Int))] → G Try.prog (endQ Try.prog Try.f40 W F N) W F (.loop (Back W F 69 (fun x : Nat × List PR => [(0, .ptr 0 b 0), (1, .int .i64 pid), (8, .int .i64 ((x.1 : Nat) : Int))]) (fun x => [⟨.blk b, .cells [.vec 1 ao (x.2).length cap, .int .i64 room, .int .i64 last] 152⟩, ⟨.sl ao cap, .vecL 149 8 encR (x.2) PR.zero⟩]) (fun x => x.1 ≤ xs.length ∧ x.2 = curX pid xs x.1) (fun x => xs.length - x.1) (xs.length - i)) :: .blk 0 :: frm [] (bodyOf Try.f40) [1, 1, 1, 1, 1, 1] []) ⟨tm, [⟨.blk b, .cells [.vec 1 ao ys.length cap, .int .i64 room, .int .i64 last] 152⟩, ⟨.sl ao cap, .vecL 149 8 encR (ys.set i e') PR.zero⟩]⟩ := fun tm e' he g1 g2 => by
        subst he
        refine G_back (i + 1, ys.set i { xs[i] with parent := 1 }) ⟨by dsimp only; omega, ?_⟩ (by dsimp only; omega) g1 g2 (fun w hw => ?_)
        · dsimp only
          rw [q3, e, ← q2]
        · dsimp only
          rw [hln]
          exact hw
      repeat' first
        | exact rfl
        | exact hyi
        | exact fin _ _ rfl rfl ⟨rfl, rfl, congrArg (Value.int .i64) w1, trivial⟩
        | (refine ⟨{ xs[i] with parent := 1 }, rfl, ?_⟩)
        | apply And.intro
        | (show _ ≤ _; omega)
        | (show _ < _; omega)
        | fail
theorem rtExit_spec {t : PT} (ho : pOk t) (b : Nat) (ao : Option Addr) (cap : Nat) (pid status : Int) : Spec Try.prog 40 [⟨.blk b, .cells [.vec 1 ao (rL t).length cap, .int .i64 t.room, .int .i64 t.last] 152⟩, ⟨.sl ao cap, .vecL 149 8 encR (rL t) PR.zero⟩] [.ptr 0 b 0, .int .i64 pid, .int .i64 status] (fun h' r => h' = rtE ⟨(pExit t pid status).1, ao, cap⟩ b ∧ r = .int .i64 (pExit t pid status).2) := by
  refine Spec.up ?_
  refine Spec.of_G 69 Try.func40 (c := bodyOf Try.f40) (by kernel_rfl) (by kernel_rfl) (Nat.le_of_ble_eq_true rfl) fun W F => ?_
  refine G_run (kc := false) (ss := []) rtLv_ok hmP 900 ?_
  rw [rt_exit]
  refine ⟨rfl, t, 1, ao, cap, rfl, rfl, ⟨rfl, ho⟩, ?_⟩
  have bad : pExit t pid status = (t, 80) → up (fun h' r => h' = rtE ⟨(pExit t pid status).1, ao, cap⟩ b ∧ r = .int .i64 (pExit t pid status).2) (rtE ⟨t, ao, cap⟩ b) (.int .i64 80) := fun h => by
    rw [h]; exact ⟨rtE ⟨t, ao, cap⟩ b, .int .i64 80, fun W F w hr => hr, rfl, rfl, rfl⟩
  cases hl : pLive t pid with
  | false =>
    rw [rLives_dead hl]
    have := bad (by simp only [pExit, hl, Bool.false_and])
    first
      | exact this
      | exact ⟨rfl, this⟩
      | exact ⟨rfl, rfl, this⟩
  | true =>
    obtain ⟨k, ⟨xb, r⟩, h1, h2, h3, h4, h5, h6⟩ := rLives_live ho hl
    have hd : decide (((k : Nat) : Int) < 0) = false := decide_eq_false (by omega)
    dsimp only at h3 h4 h6
    have hlen : (rL t).length ≤ 1000000 := by rw [rL_len]; exact ho.len
    rw [h1, hd, Int.toNat_natCast, h3]
    cases hp1 : pid == 1 with
    | true =>
      have := bad (by simp [pExit, hp1])
      first
        | exact this
        | exact ⟨rfl, this⟩
        | exact ⟨rfl, rfl, this⟩
    | false =>
      have good : ∀ (st : Int), stOf status = st → ∀ (tm : List SV) (e e' : PR), e' = { r with zombie := true, status := st } → lenN tm = 69 → liveOk tm [(0, .ptr 0 b 0), (1, .int .i64 pid), (8, .int .i64 (0 : Int))] → G Try.prog (endQ Try.prog Try.f40 W F (up fun h' r => h' = rtE ⟨(pExit t pid status).1, ao, cap⟩ b ∧ r = .int .i64 (pExit t pid status).2)) W F (frm [] (bodyOf Try.f40) [1, 1, 1, 1, 1, 0, 1, 0] []) ⟨tm, [⟨.blk b, .cells [.vec 1 ao (rL t).length cap, .int .i64 t.room, .int .i64 t.last] 152⟩, ⟨.sl ao cap, .vecL 149 8 encR (((rL t).set k e).set k e') PR.zero⟩]⟩ := fun st hst tm e e' he g1 g2 => by
        rw [List.set_set, he]
        have hl2 : (rL t).length = ((rL t).set k { r with zombie := true, status := st }).length := List.length_set.symm
        rw [hl2]
        refine rtExit_loop (by rw [List.length_set]; exact hlen) g1 g2 ?_
        have hsp : pExit t pid status = ({ t with ps := (setP t.ps pid fun r => { r with zombie := true, status := stOf status }).map fun x => (x.1, orphan pid x.2) }, 0) := by simp only [pExit, hl, hp1]; rfl
        have hL : rL (pExit t pid status).1 = ((rL t).set k { r with zombie := true, status := st }).map (orphan pid) := by
          rw [hsp]
          have := h6 (fun r => { r with zombie := true, status := stOf status })
          rw [hst] at this
          rw [← this, hst]
          simp [rL]
        refine ⟨rtE ⟨(pExit t pid status).1, ao, cap⟩ b, .int .i64 0, fun W F w hr => ?_, rfl, rfl, by rw [hsp]⟩
        have e1 : rtE ⟨(pExit t pid status).1, ao, cap⟩ b = [⟨.blk b, .cells [.vec 1 ao (((rL t).set k { r with zombie := true, status := st }).map (orphan pid)).length cap, .int .i64 t.room, .int .i64 t.last] 152⟩, ⟨.sl ao cap, .vecL 149 8 encR (((rL t).set k { r with zombie := true, status := st }).map (orphan pid)) PR.zero⟩] := by
          have hr1 : (pExit t pid status).1.room = t.room := by rw [hsp]
          have hr2 : (pExit t pid status).1.last = t.last := by rw [hsp]
          unfold rtE
          dsimp only
          rw [hL, hr1, hr2]
        rw [e1]
        exact hr
      obtain ⟨p1, p2, p3, p4, p5, p6, p7, p8⟩ := r
      cases c1 : decide (status < -64) with
      | true =>
        have hst : stOf status = 255 := by simp only [stOf, c1, Bool.true_or]
        have hk := good _ hst
        repeat' first
          | exact rfl
          | exact h2
          | exact hk _ _ _ rfl rfl ⟨rfl, rfl, rfl, trivial⟩
          | (rw [getD_set_self h2])
          | (refine ⟨⟨p1, p2, p3, true, p5, p6, p7, p8⟩, rfl, ?_⟩)
          | (refine ⟨⟨p1, p2, p3, true, 255, p6, p7, p8⟩, rfl, ?_⟩)
          | apply And.intro
          | (rw [List.length_set])
          | (show _ ≤ _; omega)
          | (show _ < _; omega)
          | fail
      | false =>
        cases c2 : decide (status > 255) with
        | true =>
          have hst : stOf status = 255 := by simp only [stOf, c1, c2, Bool.or_true]
          have hk := good _ hst
          repeat' first
            | exact rfl
            | exact h2
            | exact hk _ _ _ rfl rfl ⟨rfl, rfl, rfl, trivial⟩
            | (rw [getD_set_self h2])
            | (refine ⟨⟨p1, p2, p3, true, p5, p6, p7, p8⟩, rfl, ?_⟩)
            | (refine ⟨⟨p1, p2, p3, true, 255, p6, p7, p8⟩, rfl, ?_⟩)
            | apply And.intro
            | (rw [List.length_set])
            | (show _ ≤ _; omega)
            | (show _ < _; omega)
            | fail
        | false =>
          have hst : stOf status = status := by simp only [stOf, c1, c2, Bool.or_false]
          have hk := good _ hst
          repeat' first
            | exact rfl
            | exact h2
            | exact hk _ _ _ rfl rfl ⟨rfl, rfl, rfl, trivial⟩
            | (rw [getD_set_self h2])
            | (refine ⟨⟨p1, p2, p3, true, p5, p6, p7, p8⟩, rfl, ?_⟩)
            | (refine ⟨⟨p1, p2, p3, true, status, p6, p7, p8⟩, rfl, ?_⟩)
            | apply And.intro
            | (rw [List.length_set])
            | (show _ ≤ _; omega)
            | (show _ < _; omega)
            | fail
theorem raExit_ok : CtrOk Try.prog 40 (adtC rtE raExitM) := adt_ok fun b s rest N h => by
  obtain ⟨t, ao, cap⟩ := s
  unfold raExitM at h
  split at h
  case h_2 => exact h.elim
  rename_i pid status
  obtain ⟨ho, h⟩ := h
  intro W F w hr
  refine Calls.mono (rtExit_spec ho b ao cap pid status W F w hr) ?_
  rintro e w' ⟨h', r, ⟨rfl, rfl⟩, rfl, hr'⟩
  exact ⟨_, _, ⟨_, fun W F w hr => hr, h⟩, rfl, hr'⟩

end Go.Proofs.Ytihajdkipkfiiaa
