/- ProcRoom: what its calls do to the processes. -/
import Derived.Test.YtihajdkipkfiiaaPrc6
namespace Go.Proofs.Ytihajdkipkfiiaa
open Go Go.RowKit
set_option linter.unusedVariables false
set_option linter.unusedSimpArgs false
set_option linter.unnecessarySimpa false
set_option maxHeartbeats 0

def rootP : PR := { PR.zero with pid := 1 }
def kid (r : PR) : Prop := r.parent = 1 ∧ r.zombie = false
/-- A root, and k live children. -/
structure RI (s : PT) (b0 : Nat) (k : Nat) : Prop where
  ok : pOk s
  shape : ∃ L, s.ps = (b0, rootP) :: L ∧ L.length = k ∧ ∀ x ∈ L, kid x.2

theorem live1 {s : PT} {b0 : Nat} {M : List (Nat × PR)} (h : s.ps = (b0, rootP) :: M) : pLive s 1 = true := by
  simp [pLive, pHas, pGet, getP, h, rootP, PR.zero]
theorem spawn_if {s : PT} {b0 : Nat} {M : List (Nat × PR)} (h : s.ps = (b0, rootP) :: M) (g c : ByteArray) (nb : Nat) : pSpawn s 1 g c nb = match decide ((M.length : Int) ≥ s.room) with
    | true => (s, 0, 81)
    | false => ({ s with ps := s.ps ++ [(nb, { PR.zero with parent := 1, group := g, cmd := c, pid := s.last + 1 })], last := s.last + 1 }, s.last + 1, 0) := by
  unfold pSpawn
  rw [live1 h]
  dsimp only
  unfold pBegins
  have : ((s.ps.length : Int) - 1) = (M.length : Int) := by rw [h]; simp
  rw [this]
  cases decide ((M.length : Int) ≥ s.room) <;> rfl
theorem pOk.add {s : PT} (ho : pOk s) (h1 : s.last < 1000000) (h2 : s.ps.length < 1000000) (h3 : 0 ≤ s.last) {r : PR} (hr : r.pid = s.last + 1) (nb : Nat) : pOk { s with ps := s.ps ++ [(nb, r)], last := s.last + 1 } := by
  refine ⟨?_, fun x hx => ?_, by dsimp only; omega, by simp; omega, ho.room⟩
  · dsimp only
    rw [List.pairwise_append]
    refine ⟨ho.asc, by simp, fun x hx y hy => ?_⟩
    simp only [List.mem_singleton] at hy
    subst hy
    have := (ho.le x hx).2
    dsimp only
    omega
  · dsimp only at hx ⊢
    rcases List.mem_append.1 hx with hx | hx
    · have := ho.le x hx; omega
    · simp only [List.mem_singleton] at hx
      subst hx
      dsimp only
      omega
theorem RI.last0 {s : PT} {b0 k : Nat} (h : RI s b0 k) : 1 ≤ s.last := by
  obtain ⟨L, e, _⟩ := h.shape
  have := (h.ok.le (b0, rootP) (by rw [e]; exact List.mem_cons_self)).2
  exact this
theorem RI.len {s : PT} {b0 k : Nat} (h : RI s b0 k) : s.ps.length = k + 1 := by
  obtain ⟨L, e, h2, _⟩ := h.shape
  rw [e]; simp [h2]
theorem RI.spawn {s : PT} {b0 k : Nat} (h : RI s b0 k) (h1 : (k : Int) < s.room) (h2 : s.last < 1000000) (h3 : k < 999999) (g c : ByteArray) (nb : Nat) : ∃ s', pSpawn s 1 g c nb = (s', s.last + 1, 0) ∧ RI s' b0 (k + 1) ∧ s'.room = s.room ∧ s'.last = s.last + 1 := by
  obtain ⟨L, e, hl, hk⟩ := h.shape
  have : decide ((L.length : Int) ≥ s.room) = false := decide_eq_false (by omega)
  refine ⟨_, by rw [spawn_if e, this], ⟨h.ok.add h2 (by have := h.len; omega) (by have := h.last0; omega) rfl nb, L ++ [_], by dsimp only; rw [e]; rfl, by simp [hl], fun x hx => ?_⟩, rfl, rfl⟩
  rcases List.mem_append.1 hx with hx | hx
  · exact hk x hx
  · simp only [List.mem_singleton] at hx
    subst hx
    exact ⟨rfl, rfl⟩
theorem RI.full {s : PT} {b0 k : Nat} (h : RI s b0 k) (h1 : (k : Int) = s.room) (g c : ByteArray) (nb : Nat) : pSpawn s 1 g c nb = (s, 0, 81) := by
  obtain ⟨L, e, hl, hk⟩ := h.shape
  have : decide ((L.length : Int) ≥ s.room) = true := decide_eq_true (by omega)
  rw [spawn_if e, this]
theorem RI.new (room : Int) (b0 bm : Nat) : RI (pNew room bm b0) b0 0 ∧ (pNew room bm b0).last = 1 := by
  refine ⟨⟨⟨by simp [pNew], fun x hx => ?_, by simp [pNew], by simp [pNew], ?_⟩, [], rfl, rfl, by simp⟩, rfl⟩
  · simp only [pNew, List.mem_singleton] at hx
    subst hx
    exact (show (1 : Int) ≤ 1 ∧ (1 : Int) ≤ 1 from ⟨Int.le_refl _, Int.le_refl _⟩)
  · show 0 ≤ mnI (mxI room 0) 64 ∧ mnI (mxI room 0) 64 ≤ 64
    unfold mnI mxI
    constructor <;> (repeat' split) <;> omega
/-- One ends, and is reaped. -/
theorem RI.round {s : PT} {b0 k : Nat} (h : RI s b0 k) {j : Nat} (hj : 1 ≤ j) (hj2 : j < s.ps.length) {st : Int} (hst : 0 ≤ st ∧ st ≤ 255) :
    ∃ s1, pExit s s.ps[j].2.pid st = (s1, 0) ∧ pOk s1 ∧ (∃ M, s1.ps = (b0, rootP) :: M ∧ M.length = k) ∧ s1.room = s.room ∧ s1.last = s.last ∧
      ∃ s2 r, pReap s1 1 = (s2, r, 0) ∧ r.pid = s.ps[j].2.pid ∧ r.status = st ∧ RI s2 b0 (k - 1) ∧ s2.room = s.room ∧ s2.last = s.last := by
  obtain ⟨L, e, hl, hk⟩ := h.shape
  have hg := getP_at h.ok.asc hj2
  obtain ⟨e1, e2, e3⟩ := pHas_some hg
  have hm : s.ps[j] ∈ L := by
    have : s.ps[j] = L[j - 1]'(by rw [e] at hj2; simp at hj2; omega) := by
      simp only [e]
      rw [List.getElem_cons]
      rw [dif_neg (by omega)]
    rw [this]; exact List.getElem_mem _
  have hkx := hk _ hm
  have hpos : 1 < s.ps[j].2.pid := by
    have := List.pairwise_iff_getElem.1 h.ok.asc 0 j (by omega) hj2 (by omega)
    simp only [e, List.getElem_cons_zero] at this
    simp only [e]
    exact this
  generalize s.ps[j] = x at hg e1 e2 e3 hm hkx hpos ⊢
  obtain ⟨l1, l2, hs, _, hset, hf⟩ := getP_split h.ok.asc hg
  have hnz : ∀ y ∈ s.ps, y.2.zombie = false ∧ y.2.parent ≠ x.2.pid := fun y hy => by
    rw [e] at hy
    rcases List.mem_cons.1 hy with rfl | hy
    · exact ⟨rfl, by show (0 : Int) ≠ _; omega⟩
    · have := hk y hy
      exact ⟨this.2, by rw [this.1]; omega⟩
  let x' : Nat × PR := (x.1, { x.2 with zombie := true, status := st })
  have hstO : stOf st = st := by
    unfold stOf
    rw [decide_eq_false (by omega : ¬ st < -64), decide_eq_false (by omega : ¬ st > 255)]
    rfl
  have hps : ((setP s.ps x.2.pid fun r => { r with zombie := true, status := stOf st }).map fun y => (y.1, orphan x.2.pid y.2)) = l1 ++ x' :: l2 := by
    rw [hset, hstO, List.map_append, List.map_cons]
    have hid : ∀ y ∈ s.ps, (y.1, orphan x.2.pid y.2) = y := fun y hy => by
      have : (y.2.parent == x.2.pid) = false := by simpa using (hnz y hy).2
      simp only [orphan, this]
    rw [map_same fun y hy => hid y (by rw [hs]; simp [hy]), map_same fun y hy => hid y (by rw [hs]; simp [hy])]
    have : (x.2.parent == x.2.pid) = false := by simpa using (hnz x (by rw [hs]; simp)).2
    simp only [orphan, this]
    rfl
  have hex : pExit s x.2.pid st = ({ s with ps := l1 ++ x' :: l2 }, 0) := by
    unfold pExit
    have : (x.2.pid == 1) = false := by simp; omega
    rw [e3, hkx.2, this]
    rw [hps]
    rfl
  -- the first is the root
  obtain ⟨l1', hl1⟩ : ∃ l1', l1 = (b0, rootP) :: l1' := by
    cases l1 with
    | nil =>
      rw [e] at hs
      simp only [List.nil_append, List.cons.injEq] at hs
      rw [← hs.1] at hpos
      exact absurd hpos (show ¬ (1 : Int) < 1 from Int.lt_irrefl _)
    | cons a l1 =>
      rw [e] at hs
      simp only [List.cons_append, List.cons.injEq] at hs
      exact ⟨l1, by rw [← hs.1]⟩
  have hL : L = l1' ++ x :: l2 := by
    rw [e, hl1] at hs
    simpa using hs
  have hok : pOk { s with ps := l1 ++ x' :: l2 } := by
    refine ⟨?_, fun y hy => ?_, h.ok.last, ?_, h.ok.room⟩
    · have ha := h.ok.asc
      rw [hs] at ha
      dsimp only
      simpa only [List.pairwise_append, List.pairwise_cons, List.mem_cons, forall_eq_or_imp, x'] using ha
    · dsimp only at hy
      rcases List.mem_append.1 hy with hy | hy
      · exact h.ok.le y (by rw [hs]; simp [hy])
      · rcases List.mem_cons.1 hy with rfl | hy
        · exact h.ok.le x (by rw [hs]; simp)
        · exact h.ok.le y (by rw [hs]; simp [hy])
    · have := h.ok.len
      rw [hs] at this
      simpa using this
  have hdead : deadOf { s with ps := l1 ++ x' :: l2 } 1 = some x' := by
    unfold deadOf
    rw [List.find?_eq_some_iff_append]
    refine ⟨by simp [x', hkx.1], l1, l2, rfl, fun y hy => ?_⟩
    rw [(hnz y (by rw [hs]; simp [hy])).1]; rfl
  have hfil : ((l1 ++ x' :: l2).filter fun y => !(y.2.pid == x'.2.pid)) = l1 ++ l2 := by
    have ha := hok.asc
    dsimp only at ha
    rw [List.pairwise_append, List.pairwise_cons] at ha
    rw [List.filter_append, List.filter_cons]
    rw [List.filter_eq_self.2 fun y hy => ?_, List.filter_eq_self.2 fun y hy => ?_]
    · simp
    · have := ha.2.1.1 y hy
      simp; omega
    · have := ha.2.2 y hy x' List.mem_cons_self
      simp; omega
  refine ⟨_, hex, hok, ⟨l1' ++ x' :: l2, by dsimp only; rw [hl1]; rfl, by rw [← hl, hL]; simp⟩, rfl, rfl, { s with ps := l1 ++ l2 }, x'.2, ?_, rfl, rfl, ⟨?_, l1' ++ l2, by dsimp only; rw [hl1]; rfl, by rw [hL] at hl; simp at hl ⊢; omega, fun y hy => hk y ?_⟩, rfl, rfl⟩
  · unfold pReap
    rw [hdead]
    dsimp only
    rw [hfil]
  · refine ⟨?_, fun y hy => h.ok.le y ?_, h.ok.last, ?_, h.ok.room⟩
    · have ha := h.ok.asc
      rw [hs] at ha
      exact List.Pairwise.sublist (by simp) ha
    · dsimp only at hy
      rw [hs]
      rcases List.mem_append.1 hy with hy | hy <;> simp [hy]
    · have := h.ok.len
      rw [hs] at this
      simp at this ⊢
      omega
  · rw [hL]
    rcases List.mem_append.1 hy with hy | hy <;> simp [hy]
end Go.Proofs.Ytihajdkipkfiiaa
