/- ProcPlays: what its calls do. -/
import Derived.Test.YtihajdkipkfiiaaRmP
import Derived.Test.YtihajdkipkfiiaaPpC
namespace Go.Proofs.Ytihajdkipkfiiaa
open Go Go.RowKit
set_option linter.unusedVariables false
set_option linter.unusedSimpArgs false
set_option linter.unnecessarySimpa false
set_option maxHeartbeats 0

/-- Process 1 is there and lives; numbers and processes: n at most. -/
structure PI (s : PT) (n : Nat) : Prop where
  ok : pOk s
  root : ∃ x ∈ s.ps, x.2.pid = 1 ∧ x.2.zombie = false
  last : s.last ≤ n
  len : s.ps.length ≤ n
theorem PI.up {s : PT} {n m : Nat} (h : PI s n) (hm : n ≤ m) : PI s m := ⟨h.ok, h.root, by have := h.last; omega, by have := h.len; omega⟩
theorem PI.last1 {s : PT} {n : Nat} (h : PI s n) : 1 ≤ s.last := by
  obtain ⟨x, hx, h1, _⟩ := h.root
  have := (h.ok.le x hx).2
  omega
theorem PI.pos {s : PT} {n : Nat} (h : PI s n) : 0 < s.ps.length := by
  obtain ⟨x, hx, _⟩ := h.root
  exact List.length_pos_of_mem hx
theorem PI.new (room : Int) (bm bp : Nat) : PI (pNew room bm bp) 1 := by
  refine ⟨⟨?_, ?_, ?_, ?_, ?_⟩, ⟨(bp, { PR.zero with pid := 1 }), List.mem_cons_self, rfl, rfl⟩, Int.le_refl 1, Nat.le_refl 1⟩
  · exact List.pairwise_singleton _ _
  · intro x hx
    simp only [pNew, List.mem_singleton] at hx
    subst hx
    exact ⟨Int.le_refl 1, Int.le_refl 1⟩
  · show (1 : Int) ≤ _; omega
  · show (1 : Nat) ≤ _; omega
  · show 0 ≤ mnI (mxI room 0) 64 ∧ mnI (mxI room 0) 64 ≤ 64
    unfold mnI mxI
    repeat' split
    all_goals omega
theorem PI.begins {s : PT} {n : Nat} (h : PI s n) (hn : n < 1000000) (r : PR) (nb : Nat) : PI (pBegins s r nb).1 (n + 1) := by
  unfold pBegins
  have h1 := h.last
  have h2 := h.len
  have h3 := h.last1
  cases decide ((s.ps.length : Int) - 1 ≥ s.room) with
  | true => exact h.up (by omega)
  | false =>
    obtain ⟨x, hx, e1, e2⟩ := h.root
    exact ⟨h.ok.add (by omega) (by omega) (by omega) rfl nb, ⟨x, List.mem_append_left _ hx, e1, e2⟩, by dsimp only; omega, by simp; omega⟩
theorem PI.spawn {s : PT} {n : Nat} (h : PI s n) (hn : n < 1000000) (p : Int) (g c : ByteArray) (nb : Nat) : PI (pSpawn s p g c nb).1 (n + 1) := by
  unfold pSpawn
  cases pLive s p with
  | true => exact h.begins hn _ nb
  | false => exact h.up (by omega)
theorem PI.fork {s : PT} {n : Nat} (h : PI s n) (hn : n < 1000000) (p : Int) (nb : Nat) : PI (pFork s p nb).1 (n + 1) := by
  unfold pFork
  cases pLive s p && !(p == 1) && !(pGet s p).kill with
  | true => exact h.begins hn _ nb
  | false => exact h.up (by omega)
theorem PI.mapP {s : PT} {n : Nat} (h : PI s n) (f : Nat × PR → Nat × PR) (hf : ∀ z, (f z).2.pid = z.2.pid) (hz : ∀ z, z.2.pid = 1 → z.2.zombie = false → (f z).2.zombie = false) : PI { s with ps := s.ps.map f } n := by
  refine ⟨⟨?_, fun z hz => ?_, h.ok.last, by have := h.ok.len; simpa using this, h.ok.room⟩, ?_, h.last, by have := h.len; simpa using this⟩
  · dsimp only
    rw [List.pairwise_map]
    refine h.ok.asc.imp fun {u v} huv => ?_
    rw [hf, hf]; exact huv
  · dsimp only at hz ⊢
    obtain ⟨u, hu, rfl⟩ := List.mem_map.1 hz
    rw [hf]; exact h.ok.le u hu
  · obtain ⟨x, hx, e1, e2⟩ := h.root
    exact ⟨f x, List.mem_map.2 ⟨x, hx, rfl⟩, by rw [hf]; exact e1, hz x e1 e2⟩
theorem orphan_pid (p : Int) (r : PR) : (orphan p r).pid = r.pid ∧ (orphan p r).zombie = r.zombie := by
  unfold orphan
  cases r.parent == p <;> exact ⟨rfl, rfl⟩
theorem PI.exit {s : PT} {n : Nat} (h : PI s n) (p st : Int) : PI (pExit s p st).1 n := by
  unfold pExit
  cases hc : (pLive s p && !(p == 1)) with
  | false => exact h
  | true =>
    simp only [Bool.and_eq_true] at hc
    have hp : p ≠ 1 := by simpa using hc.2
    unfold setP
    dsimp only
    rw [List.map_map]
    refine h.mapP _ (fun z => ?_) (fun z h1 h2 => ?_)
    · simp only [Function.comp, (orphan_pid p _).1, setOne]
      cases z.2.pid == p <;> rfl
    · simp only [Function.comp, (orphan_pid p _).2, setOne]
      have : (z.2.pid == p) = false := by rw [h1]; simpa using fun e => hp e.symm
      rw [this]; exact h2
theorem PI.setP {s : PT} {n : Nat} (h : PI s n) (p : Int) (g : PR → PR) (hg : ∀ r, (g r).pid = r.pid ∧ (g r).zombie = r.zombie) : PI { s with ps := Go.Proofs.Ytihajdkipkfiiaa.setP s.ps p g } n := by
  unfold Go.Proofs.Ytihajdkipkfiiaa.setP
  refine h.mapP _ (fun z => ?_) (fun z h1 h2 => ?_)
  · simp only [setOne]
    cases z.2.pid == p
    · rfl
    · exact (hg _).1
  · simp only [setOne]
    cases z.2.pid == p
    · exact h2
    · exact ((hg _).2).trans h2
theorem PI.kill {s : PT} {n : Nat} (h : PI s n) (p sig : Int) : PI (pKill s p sig).1 n := by
  unfold pKill
  cases pLive s p && !(p == 1) with
  | false => exact h
  | true =>
    dsimp only
    cases sig == 15 with
    | true => exact h.setP p _ fun r => ⟨rfl, rfl⟩
    | false =>
      cases sig == 9 with
      | true => exact h.setP p _ fun r => ⟨rfl, rfl⟩
      | false => exact h
theorem PI.reap {s : PT} {n : Nat} (h : PI s n) (p : Int) : PI (pReap s p).1 n := by
  unfold pReap
  cases hd : deadOf s p with
  | none => exact h
  | some x =>
    obtain ⟨h1, l1, l2, hs, _⟩ := List.find?_eq_some_iff_append.1 hd
    simp only [Bool.and_eq_true, beq_iff_eq] at h1
    obtain ⟨y, hy, e1, e2⟩ := h.root
    have hne : y.2.pid ≠ x.2.pid := fun e => by
      have ha := h.ok.asc
      rw [hs] at ha hy
      rw [List.pairwise_append, List.pairwise_cons] at ha
      rcases List.mem_append.1 hy with hy | hy
      · have := ha.2.2 y hy x List.mem_cons_self; omega
      · rcases List.mem_cons.1 hy with rfl | hy
        · rw [h1.1] at e2; cases e2
        · have := ha.2.1.1 y hy; omega
    refine ⟨⟨h.ok.asc.sublist List.filter_sublist, fun z hz => h.ok.le z ((List.mem_filter.1 hz).1), h.ok.last, Nat.le_trans (List.length_filter_le _ _) h.ok.len, h.ok.room⟩, ⟨y, List.mem_filter.2 ⟨hy, by simpa using hne⟩, e1, e2⟩, h.last, Nat.le_trans (List.length_filter_le _ _) h.len⟩
end Go.Proofs.Ytihajdkipkfiiaa
