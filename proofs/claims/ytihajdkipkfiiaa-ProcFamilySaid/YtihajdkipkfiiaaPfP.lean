/- ProcFamily: what its calls do to the processes. -/
import Derived.Test.YtihajdkipkfiiaaRmP
namespace Go.Proofs.Ytihajdkipkfiiaa
open Go Go.RowKit
set_option linter.unusedVariables false
set_option linter.unusedSimpArgs false
set_option linter.unnecessarySimpa false
set_option maxHeartbeats 0

def parP : PR := { PR.zero with pid := 2, parent := 1, group := ByteArray.mk #[(103 : UInt8)], cmd := ByteArray.mk #[(99 : UInt8)] }
/-- One of the family: ls: the kids' numbers; want: whose children the kids are. -/
structure Fam (ls : List Int) (want : Int) (r : PR) : Prop where
  z : r.zombie = false
  k : r.kill = false
  g : r.group = ByteArray.mk #[(103 : UInt8)]
  c : r.cmd = ByteArray.mk #[(99 : UInt8)]
  lt : 2 < r.pid
  p : r.pid ∈ ls ∧ r.parent = want ∨ r.pid ∉ ls ∧ r.parent ∈ ls
structure FI (s : PT) (b0 : Nat) (ls : List Int) (m : Nat) : Prop where
  ok : pOk s
  room : s.room = 60
  last : s.last = 2 + m
  shape : ∃ bp L, s.ps = (b0, rootP) :: (bp, parP) :: L ∧ L.length = m ∧ (∀ x ∈ L, Fam ls 2 x.2) ∧ ∀ y ∈ ls, 2 < y ∧ y ≤ s.last ∧ ∃ x ∈ L, x.2.pid = y

theorem fork_of {s : PT} {pid : Int} {x : Nat × PR} (hg : getP s.ps pid = some x) (hz : x.2.zombie = false) (hk : x.2.kill = false) (hp : pid ≠ 1) (hroom : ((s.ps.length : Int) - 1 < s.room)) (nb : Nat) :
    pFork s pid nb = ({ s with ps := s.ps ++ [(nb, { PR.zero with parent := pid, group := x.2.group, cmd := x.2.cmd, pid := s.last + 1 })], last := s.last + 1 }, s.last + 1, 0) := by
  obtain ⟨e1, e2, e3⟩ := pHas_some hg
  unfold pFork
  have h1 : (pid == 1) = false := by simpa using hp
  rw [e3, e2, hz, hk, h1]
  show pBegins _ _ _ = _
  unfold pBegins
  have : decide ((s.ps.length : Int) - 1 ≥ s.room) = false := decide_eq_false (by omega)
  rw [this]
theorem FI.len {s : PT} {b0 m : Nat} {ls : List Int} (h : FI s b0 ls m) : s.ps.length = m + 2 := by
  obtain ⟨bp, L, e, hl, _⟩ := h.shape
  rw [e]; simp [hl]
/-- A kid. -/
theorem FI.kid {s : PT} {b0 m : Nat} {ls : List Int} (h : FI s b0 ls m) (hm : m ≤ 50) (nb : Nat) : ∃ s', pFork s 2 nb = (s', s.last + 1, 0) ∧ FI s' b0 (ls ++ [s.last + 1]) (m + 1) := by
  obtain ⟨bp, L, e, hl, hL, hls⟩ := h.shape
  have hlen := h.len
  have hlast := h.last
  have hroom := h.room
  have hg : getP s.ps 2 = some (bp, parP) := by simp [getP, e, rootP, parP, PR.zero]
  refine ⟨_, fork_of hg rfl rfl (by decide) (by omega) nb, h.ok.add (by omega) (by omega) (by omega) rfl nb, h.room, by show s.last + 1 = _; omega, bp, L ++ [_], by dsimp only; rw [e]; rfl, by simp [hl], fun x hx => ?_, fun y hy => ?_⟩
  · rcases List.mem_append.1 hx with hx | hx
    · have hf := hL x hx
      have hle := (h.ok.le x (by rw [e]; simp [hx])).2
      refine ⟨hf.z, hf.k, hf.g, hf.c, hf.lt, ?_⟩
      rcases hf.p with ⟨h1, h2⟩ | ⟨h1, h2⟩
      · exact .inl ⟨by simp [h1], h2⟩
      · refine .inr ⟨?_, by simp [h2]⟩
        simp only [List.mem_append, List.mem_singleton, not_or]
        exact ⟨h1, by omega⟩
    · simp only [List.mem_singleton] at hx
      subst hx
      exact ⟨rfl, rfl, rfl, rfl, by show 2 < s.last + 1; omega, .inl ⟨by simp, rfl⟩⟩
  · rcases List.mem_append.1 hy with hy | hy
    · obtain ⟨h1, h2, x, h3, h4⟩ := hls y hy
      exact ⟨h1, by show y ≤ s.last + 1; omega, x, by simp [h3], h4⟩
    · simp only [List.mem_singleton] at hy
      subst hy
      exact ⟨by omega, Int.le_refl _, _, List.mem_append_right _ (List.mem_singleton.2 rfl), rfl⟩
/-- A kid's child. -/
theorem FI.grand {s : PT} {b0 m : Nat} {ls : List Int} (h : FI s b0 ls m) (hm : m ≤ 50) {k : Int} (hk : k ∈ ls) (nb : Nat) : ∃ s', pFork s k nb = (s', s.last + 1, 0) ∧ FI s' b0 ls (m + 1) := by
  obtain ⟨bp, L, e, hl, hL, hls⟩ := h.shape
  have hlen := h.len
  have hlast := h.last
  have hroom := h.room
  obtain ⟨h1, h2, x, h3, h4⟩ := hls k hk
  have hf := hL x h3
  have hg : getP s.ps k = some x := by
    obtain ⟨j, hj, hje⟩ := List.mem_iff_getElem.1 (show x ∈ s.ps by rw [e]; simp [h3])
    have := getP_at h.ok.asc hj
    rw [hje, h4] at this
    exact this
  refine ⟨_, fork_of hg hf.z hf.k (by omega) (by omega) nb, h.ok.add (by omega) (by omega) (by omega) rfl nb, h.room, by show s.last + 1 = _; omega, bp, L ++ [_], by dsimp only; rw [e]; rfl, by simp [hl], fun y hy => ?_, fun y hy => ?_⟩
  · rcases List.mem_append.1 hy with hy | hy
    · exact hL y hy
    · simp only [List.mem_singleton] at hy
      subst hy
      refine ⟨rfl, rfl, hf.g, hf.c, by show 2 < s.last + 1; omega, .inr ⟨fun hc => ?_, hk⟩⟩
      have := (hls _ hc).2.1
      have : s.last + 1 ≤ s.last := this
      omega
  · obtain ⟨g1, g2, x', g3, g4⟩ := hls y hy
    exact ⟨g1, by show y ≤ s.last + 1; omega, x', by simp [g3], g4⟩
/-- What the law sees in the end: want: whose children the kids are. -/
structure FE (A : List PR) (ls : List Int) (want : Int) (m : Nat) : Prop where
  len : A.length = m + 2
  low : ∀ i, (h : i < A.length) → i < 2 → A[i].pid ≤ 2
  hi : ∀ i, (h : i < A.length) → 2 ≤ i → Fam ls want A[i]
  gt : ∀ y ∈ ls, 2 < y
theorem FE.of {r0 r1 : PR} {L : List PR} {ls : List Int} {want : Int} {m : Nat} (h0 : r0.pid ≤ 2) (h1 : r1.pid ≤ 2) (hl : L.length = m) (hL : ∀ x ∈ L, Fam ls want x) (hg : ∀ y ∈ ls, 2 < y) : FE (r0 :: r1 :: L) ls want m := by
  refine ⟨by simp [hl], fun i h hi => ?_, fun i h hi => ?_, hg⟩
  · match i, h, hi with
    | 0, _, _ => exact h0
    | 1, _, _ => exact h1
  · obtain ⟨k, rfl⟩ : ∃ k, i = k + 2 := ⟨i - 2, by omega⟩
    simp only [List.getElem_cons_succ]
    exact hL _ (List.getElem_mem _)
theorem FI.stay {s : PT} {b0 m : Nat} {ls : List Int} (h : FI s b0 ls m) : FE (s.ps.map (·.2)) ls 2 m := by
  obtain ⟨bp, L, e, hl, hL, hls⟩ := h.shape
  rw [e]
  exact FE.of (show (1 : Int) ≤ 2 by decide) (show (2 : Int) ≤ 2 by decide) (by simp [hl]) (fun x hx => by obtain ⟨y, hy, rfl⟩ := List.mem_map.1 hx; exact hL y hy) fun y hy => (hls y hy).1
theorem FI.exit {s : PT} {b0 m : Nat} {ls : List Int} (h : FI s b0 ls m) : ∃ s', pExit s 2 0 = (s', 0) ∧ pOk s' ∧ s'.ps.length = s.ps.length ∧ FE (s'.ps.map (·.2)) ls 1 m := by
  obtain ⟨bp, L, e, hl, hL, hls⟩ := h.shape
  have hg : getP s.ps 2 = some (bp, parP) := by simp [getP, e, rootP, parP, PR.zero]
  obtain ⟨e1, e2, e3⟩ := pHas_some hg
  refine ⟨_, by unfold pExit; rw [e3]; rfl, ?_, by dsimp only; simp [setP], ?_⟩
  · have hpid : ∀ (pid : Int) (g : PR → PR) (hg : ∀ r, (g r).pid = r.pid) (ps : List (Nat × PR)), ((setP ps pid g).map fun x => (x.1, orphan pid x.2)).map (·.2.pid) = ps.map (·.2.pid) := fun pid g hg ps => by
      unfold setP
      rw [List.map_map, List.map_map]
      refine List.map_congr_left fun x _ => ?_
      simp only [Function.comp, setOne, orphan]
      cases x.2.pid == pid <;> simp only <;> split <;> simp [hg]
    have hm := hpid 2 (fun r => { r with zombie := true, status := stOf 0 }) (fun _ => rfl) s.ps
    refine ⟨?_, fun x hx => ?_, h.ok.last, by have := h.ok.len; dsimp only; simpa [setP] using this, h.ok.room⟩
    · have ha := h.ok.asc
      have ha' : (s.ps.map (·.2.pid)).Pairwise (· < ·) := by rw [List.pairwise_map]; exact ha
      rw [← hm, List.pairwise_map] at ha'
      exact ha'
    · dsimp only at hx
      have : x.2.pid ∈ ((setP s.ps 2 fun r => { r with zombie := true, status := stOf 0 }).map fun x => (x.1, orphan 2 x.2)).map (·.2.pid) := List.mem_map.2 ⟨x, hx, rfl⟩
      rw [hm] at this
      obtain ⟨y, hy, hyx⟩ := List.mem_map.1 this
      have := h.ok.le y hy
      rw [hyx] at this
      exact this
  · dsimp only
    have hset : (setP s.ps 2 fun r => { r with zombie := true, status := stOf 0 }) = (b0, rootP) :: (bp, { parP with zombie := true, status := stOf 0 }) :: L := by
      rw [e]
      unfold setP
      rw [List.map_cons, List.map_cons, map_same fun y hy => ?_]
      · rfl
      · have := (hL y hy).lt
        have : (y.2.pid == 2) = false := by simp; omega
        simp only [setOne, this]
    rw [hset, List.map_cons, List.map_cons, List.map_cons, List.map_cons]
    refine FE.of (show (1 : Int) ≤ 2 by decide) (show (2 : Int) ≤ 2 from Int.le_refl _) (by simp [hl]) (fun x hx => ?_) fun y hy => (hls y hy).1
    obtain ⟨y, hy, rfl⟩ := List.mem_map.1 hx
    obtain ⟨z, hz, rfl⟩ := List.mem_map.1 hy
    have hf := hL z hz
    dsimp only
    unfold orphan
    cases hq : z.2.parent == 2 with
    | true =>
      refine ⟨hf.z, hf.k, hf.g, hf.c, hf.lt, ?_⟩
      rcases hf.p with ⟨h1, h2⟩ | ⟨h1, h2⟩
      · exact .inl ⟨h1, rfl⟩
      · have := (hls _ h2).1
        have h3 : z.2.parent = 2 := by simpa using hq
        omega
    | false =>
      refine ⟨hf.z, hf.k, hf.g, hf.c, hf.lt, ?_⟩
      rcases hf.p with ⟨h1, h2⟩ | ⟨h1, h2⟩
      · rw [h2] at hq; cases hq
      · exact .inr ⟨h1, h2⟩
end Go.Proofs.Ytihajdkipkfiiaa
