/- ProcTree: what its calls do to the tree. -/
import Derived.Test.YtihajdkipkfiiaaRmP
namespace Go.Proofs.Ytihajdkipkfiiaa
open Go Go.RowKit
set_option linter.unusedVariables false
set_option linter.unusedSimpArgs false
set_option linter.unnecessarySimpa false
set_option maxHeartbeats 0

/-- A tree: the root first; each other one has a parent that is there and hasn't ended, of a lower number. -/
structure TI (s : PT) (b0 : Nat) : Prop where
  ok : pOk s
  room : s.room = 40
  shape : ∃ L, s.ps = (b0, rootP) :: L ∧ ∀ x ∈ L, x.2.parent < x.2.pid ∧ ∃ y ∈ s.ps, y.2.pid = x.2.parent ∧ y.2.zombie = false
theorem TI.last0 {s : PT} {b0 : Nat} (h : TI s b0) : 1 ≤ s.last := by
  obtain ⟨L, e, _⟩ := h.shape
  exact (h.ok.le (b0, rootP) (by rw [e]; exact List.mem_cons_self)).2
theorem TI.new (bm b0 : Nat) : TI (pNew 40 bm b0) b0 ∧ (pNew 40 bm b0).last = 1 := ⟨⟨pOk_lit rfl rfl rfl, rfl, [], rfl, by simp⟩, rfl⟩
/-- A new one, of a parent that lives. -/
theorem TI.add {s : PT} {b0 : Nat} (h : TI s b0) (hl : s.last < 1000000) (hn : s.ps.length < 1000000) {r : PR} (hr : r.pid = s.last + 1) {y : Nat × PR} (hy : y ∈ s.ps) (hp : y.2.pid = r.parent) (hz : y.2.zombie = false) (nb : Nat) : TI { s with ps := s.ps ++ [(nb, r)], last := s.last + 1 } b0 := by
  obtain ⟨L, e, hL⟩ := h.shape
  refine ⟨h.ok.add hl hn (by have := h.last0; omega) hr nb, h.room, L ++ [(nb, r)], by dsimp only; rw [e]; rfl, fun x hx => ?_⟩
  rcases List.mem_append.1 hx with hx | hx
  · obtain ⟨h1, z, h2, h3⟩ := hL x hx
    exact ⟨h1, z, List.mem_append_left _ h2, h3⟩
  · simp only [List.mem_singleton] at hx
    subst hx
    have := (h.ok.le y hy).2
    exact ⟨by dsimp only; omega, y, List.mem_append_left _ hy, hp, hz⟩
theorem TI.spawn {s : PT} {b0 : Nat} (h : TI s b0) (hl : s.last < 1000000) (hn : s.ps.length < 1000000) (g c : ByteArray) (nb : Nat) : (∃ s', pSpawn s 1 g c nb = (s', s.last + 1, 0) ∧ TI s' b0 ∧ s'.last = s.last + 1 ∧ s'.ps.length = s.ps.length + 1) ∨ pSpawn s 1 g c nb = (s, 0, 81) := by
  obtain ⟨L, e, hL⟩ := h.shape
  rw [spawn_if e]
  cases decide ((L.length : Int) ≥ s.room) with
  | true => exact .inr rfl
  | false => exact .inl ⟨_, rfl, h.add hl hn rfl (y := (b0, rootP)) (by rw [e]; exact List.mem_cons_self) rfl rfl nb, rfl, by simp⟩
theorem TI.fork {s : PT} {b0 : Nat} (h : TI s b0) (hl : s.last < 1000000) (hn : s.ps.length < 1000000) (x : Int) (nb : Nat) : (∃ s', pFork s x nb = (s', s.last + 1, 0) ∧ TI s' b0 ∧ s'.last = s.last + 1 ∧ s'.ps.length = s.ps.length + 1) ∨ ∃ er, er ≠ 0 ∧ pFork s x nb = (s, 0, er) := by
  unfold pFork
  cases hc : (pLive s x && !(x == 1) && !(pGet s x).kill) with
  | false => exact .inr ⟨80, by decide, rfl⟩
  | true =>
    dsimp only
    unfold pBegins
    cases decide ((s.ps.length : Int) - 1 ≥ s.room) with
    | true => exact .inr ⟨81, by decide, rfl⟩
    | false =>
      simp only [Bool.and_eq_true] at hc
      obtain ⟨⟨h1, _⟩, _⟩ := hc
      cases hg : getP s.ps x with
      | none => rw [(pHas_none hg).2.2] at h1; cases h1
      | some y =>
        obtain ⟨_, _, e3⟩ := pHas_some hg
        rw [e3] at h1
        obtain ⟨l1, l2, hs, hp, _⟩ := getP_split h.ok.asc hg
        exact .inl ⟨_, rfl, h.add hl hn rfl (y := y) (by rw [hs]; simp) hp (by simpa using h1) nb, rfl, by simp⟩
theorem TI.exit {s : PT} {b0 : Nat} (h : TI s b0) (x st : Int) : ∃ s' er, pExit s x st = (s', er) ∧ TI s' b0 ∧ s'.last = s.last ∧ s'.ps.length = s.ps.length := by
  unfold pExit
  cases hc : (pLive s x && !(x == 1)) with
  | false => exact ⟨s, 80, rfl, h, rfl, rfl⟩
  | true =>
    simp only [Bool.and_eq_true] at hc
    obtain ⟨hlv, hx1⟩ := hc
    have hx1 : x ≠ 1 := by simpa using hx1
    have hx0 : 1 ≤ x := by
      cases hg : getP s.ps x with
      | none => rw [(pHas_none hg).2.2] at hlv; cases hlv
      | some y =>
        obtain ⟨l1, l2, hs, hp, _⟩ := getP_split h.ok.asc hg
        have := (h.ok.le y (by rw [hs]; simp)).1
        omega
    obtain ⟨L, e, hL⟩ := h.shape
    have hf : ∀ z : Nat × PR, ((fun x_1 : Nat × PR => (x_1.1, orphan x x_1.2)) (setOne x (fun r => { r with zombie := true, status := stOf st }) z)).2.pid = z.2.pid := fun z => by
      simp only [setOne, orphan]
      cases z.2.pid == x <;> simp only <;> split <;> rfl
    refine ⟨_, 0, rfl, ⟨⟨?_, fun z hz => ?_, h.ok.last, by have := h.ok.len; simpa [setP] using this, h.ok.room⟩, h.room, (setP L x fun r => { r with zombie := true, status := stOf st }).map (fun y => (y.1, orphan x y.2)), ?_, fun z hz => ?_⟩, rfl, by simp [setP]⟩
    · dsimp only
      unfold setP
      rw [List.map_map, List.pairwise_map]
      refine h.ok.asc.imp fun {u v} huv => ?_
      simp only [Function.comp]
      have h1 := hf u
      have h2 := hf v
      dsimp only at h1 h2
      rw [h1, h2]; exact huv
    · dsimp only at hz ⊢
      unfold setP at hz
      rw [List.map_map] at hz
      obtain ⟨u, hu, rfl⟩ := List.mem_map.1 hz
      have h1 := hf u
      simp only [Function.comp]
      dsimp only at h1
      rw [h1]; exact h.ok.le u hu
    · dsimp only
      rw [e]
      unfold setP
      rw [List.map_cons, List.map_cons]
      have : (rootP.pid == x) = false := by show ((1 : Int) == x) = false; simpa using fun h => hx1 h.symm
      have h2 : (rootP.parent == x) = (0 == x) := rfl
      simp only [setOne, this, orphan]
      split
      · rename_i h0
        have h5 : rootP.parent = x := by simpa using h0
        have : (0 : Int) = x := h5
        omega
      · rfl
    · obtain ⟨v, hv, rfl⟩ := List.mem_map.1 hz
      obtain ⟨u, hu, rfl⟩ := List.mem_map.1 hv
      obtain ⟨h1, y, h2, h3, h4⟩ := hL u hu
      have hpid := hf u
      dsimp only at hpid ⊢
      rw [hpid]
      have hmem : ∀ w ∈ s.ps, (fun q : Nat × PR => (q.1, orphan x q.2)) (setOne x (fun r => { r with zombie := true, status := stOf st }) w) ∈ (setP s.ps x fun r => { r with zombie := true, status := stOf st }).map (fun q => (q.1, orphan x q.2)) := fun w hw => List.mem_map.2 ⟨_, List.mem_map.2 ⟨w, hw, rfl⟩, rfl⟩
      have hz0 : ∀ w : Nat × PR, w.2.pid ≠ x → ((fun q : Nat × PR => (q.1, orphan x q.2)) (setOne x (fun r => { r with zombie := true, status := stOf st }) w)).2.zombie = w.2.zombie := fun w hw => by
        have : (w.2.pid == x) = false := by simpa using hw
        simp only [setOne, this, orphan]
        split <;> rfl
      have hpar : (setOne x (fun r => { r with zombie := true, status := stOf st }) u).2.parent = u.2.parent := by
        simp only [setOne]
        cases u.2.pid == x <;> rfl
      unfold orphan
      rw [hpar]
      cases hq : u.2.parent == x with
      | true =>
        have hq : u.2.parent = x := by simpa using hq
        refine ⟨by show (1 : Int) < _; omega, _, hmem (b0, rootP) (by rw [e]; exact List.mem_cons_self), hf (b0, rootP), ?_⟩
        rw [hz0 (b0, rootP) (show (1 : Int) ≠ x from fun h => hx1 h.symm)]; rfl
      | false =>
        have hq : u.2.parent ≠ x := by simpa using hq
        dsimp only
        rw [hpar]
        exact ⟨h1, _, hmem y h2, (hf y).trans h3, (hz0 y (by omega)).trans h4⟩
/-- Reaping: a dead child of the root goes. -/
theorem TI.reap {s : PT} {b0 : Nat} (h : TI s b0) : (∃ s' r, pReap s 1 = (s', r, 0) ∧ TI s' b0 ∧ s'.last = s.last ∧ s'.ps.length ≤ s.ps.length ∧ r.zombie = true ∧ r.parent = 1 ∧ pHas s' r.pid = false) ∨ pReap s 1 = (s, PR.zero, 80) := by
  unfold pReap
  cases hd : deadOf s 1 with
  | none => exact .inr rfl
  | some x =>
    refine .inl ⟨_, _, rfl, ?_⟩
    obtain ⟨L, e, hL⟩ := h.shape
    obtain ⟨h1, l1, l2, hs, _⟩ := List.find?_eq_some_iff_append.1 hd
    simp only [Bool.and_eq_true, beq_iff_eq] at h1
    have hxm : x ∈ s.ps := by rw [hs]; simp
    have huniq : ∀ y ∈ s.ps, y.2.pid = x.2.pid → y = x := fun y hy hp => by
      have ha := h.ok.asc
      rw [hs] at ha hy
      rw [List.pairwise_append, List.pairwise_cons] at ha
      rcases List.mem_append.1 hy with hy | hy
      · have := ha.2.2 y hy x List.mem_cons_self; omega
      · rcases List.mem_cons.1 hy with rfl | hy
        · rfl
        · have := ha.2.1.1 y hy; omega
    have hkeep : ∀ y ∈ s.ps, y.2.zombie = false → y ∈ s.ps.filter fun y => !(y.2.pid == x.2.pid) := fun y hy hz => by
      rw [List.mem_filter]
      refine ⟨hy, ?_⟩
      simp only [Bool.not_eq_true', beq_eq_false_iff_ne, ne_eq]
      intro hp
      rw [huniq y hy hp, h1.1] at hz
      cases hz
    refine ⟨⟨⟨h.ok.asc.sublist List.filter_sublist, fun y hy => h.ok.le y ((List.mem_filter.1 hy).1), h.ok.last, Nat.le_trans (List.length_filter_le _ _) h.ok.len, h.ok.room⟩, h.room, L.filter fun y => !(y.2.pid == x.2.pid), ?_, fun y hy => ?_⟩, rfl, List.length_filter_le _ _, h1.1, h1.2, ?_⟩
    · dsimp only
      have hroot := hkeep (b0, rootP) (by rw [e]; exact List.mem_cons_self) rfl
      have := (List.mem_filter.1 hroot).2
      rw [e, List.filter_cons]
      rw [if_pos this]
    · obtain ⟨g1, z, g2, g3, g4⟩ := hL y ((List.mem_filter.1 hy).1)
      exact ⟨g1, z, hkeep z g2 g4, g3, g4⟩
    · unfold pHas getP
      rw [List.find?_eq_none.2]
      · rfl
      · intro y hy
        have := (List.mem_filter.1 hy).2
        simpa using this
end Go.Proofs.Ytihajdkipkfiiaa
