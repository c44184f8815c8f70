import Derived.Test.YtkcmgcoppecfpaaGreatMgKernHolds11
import Derived.Test.YtkcmgcoppecfpaaGreatMgKernHolds9
/- YtkcmgcoppecfpaaGreatKhQ -/
/- KernHolds: what its calls keep, and a count (plain law). -/
namespace Go.Proofs.YtkcmgcoppecfpaaGreat
open Go Go.RowKit
set_option linter.unusedVariables false
set_option linter.unusedSimpArgs false
set_option linter.unnecessarySimpa false
set_option maxHeartbeats 0

structure HK (pt : PT) (gr : Grp) (r : RG) (k : Nat) : Prop where
  kh : KH pt gr r k
  nm : r.L.map (·.name) = names3
theorem HK.up {pt : PT} {gr : Grp} {r : RG} {k k' : Nat} (h : HK pt gr r k) (hk : k ≤ k') : HK pt gr r k' := ⟨h.kh.up hk, h.nm⟩
theorem HK.at_ {pt : PT} {gr : Grp} {r : RG} {k : Nat} (h : HK pt gr r k) {n : ByteArray} (hn : n ∈ names3) : ∃ g ∈ r.L, g.name = n := by
  rw [← h.nm] at hn
  obtain ⟨g, hg, e⟩ := List.mem_map.1 hn
  exact ⟨g, hg, e⟩
theorem HK.add {pt : PT} {gr : Grp} {r : RG} {k : Nat} (h : HK pt gr r k) (hk : k < 900) {x : PR} {nb : Nat} (hx : x.zombie = false) (hg : ∃ g ∈ r.L, g.name = x.group) (ao : Option Addr) (cap : Nat) :
    ∃ r', HK { pt with ps := pt.ps ++ [(nb, { x with pid := pt.last + 1 })], last := pt.last + 1 } (gPut gr (pt.last + 1) x.group ao cap).1 r' (k + 1) := by
  obtain ⟨q1, q2, q3, L1, g, L2, hs, he, hL⟩ := h.kh.add (nb := nb) hk hx hg ao cap
  refine ⟨_, q2, ?_⟩
  have := h.nm
  rw [hs] at this
  rw [hL]
  simpa using this
theorem pBegins_or (s : PT) (r : PR) (nb : Nat) : pBegins s r nb = (s, 0, 81) ∨ pBegins s r nb = ({ s with ps := s.ps ++ [(nb, { r with pid := s.last + 1 })], last := s.last + 1 }, s.last + 1, 0) := by
  unfold pBegins
  cases decide ((s.ps.length : Int) - 1 ≥ s.room)
  · exact .inr rfl
  · exact .inl rfl
theorem HK.spawn {pt : PT} {gr : Grp} {r : RG} {k : Nat} (h : HK pt gr r k) (hk : k < 900) {n : ByteArray} (hn : n ∈ names3) (c : ByteArray) (nb : Nat) :
    pSpawn pt 1 n c nb = (pt, 0, 81) ∨ ∃ pt', pSpawn pt 1 n c nb = (pt', pt.last + 1, 0) ∧ pt'.last = pt.last + 1 ∧ ∀ ao cap, ∃ r', HK pt' (gPut gr (pt.last + 1) n ao cap).1 r' (k + 1) := by
  unfold pSpawn
  rw [h.kh.root]
  dsimp only
  rcases pBegins_or pt { PR.zero with parent := 1, group := n, cmd := c } nb with e | e
  · exact .inl e
  · exact .inr ⟨_, e, rfl, fun ao cap => h.add (x := { PR.zero with parent := 1, group := n, cmd := c }) hk rfl (h.at_ hn) ao cap⟩
theorem HK.fork {pt : PT} {gr : Grp} {r : RG} {k : Nat} (h : HK pt gr r k) (hk : k < 900) (p : Int) (nb : Nat) :
    (∃ e, e ≠ 0 ∧ pFork pt p nb = (pt, 0, e)) ∨ ∃ pt' n, pFork pt p nb = (pt', pt.last + 1, 0) ∧ mget gr.of (.i .i64 p) = some n ∧ sEq n ⟨#[]⟩ = false ∧ pt'.last = pt.last + 1 ∧ ∀ ao cap, ∃ r', HK pt' (gPut gr (pt.last + 1) n ao cap).1 r' (k + 1) := by
  unfold pFork
  cases hc : pLive pt p && !(p == 1) && !(pGet pt p).kill with
  | false => exact .inl ⟨80, by decide, rfl⟩
  | true =>
    dsimp only
    simp only [Bool.and_eq_true, Bool.not_eq_true', beq_eq_false_iff_ne, ne_eq] at hc
    obtain ⟨⟨h1, h2⟩, h3⟩ := hc
    have hi := h.kh.of_iff h2
    have hl : (mget gr.of (.i .i64 p)).isSome = true := hi.1.trans h1
    obtain ⟨n, hn⟩ := Option.isSome_iff_exists.1 hl
    have hng := hi.2 n hn
    obtain ⟨g, hg, e0, hq⟩ := (h.kh.gl.of p n).1 hn
    rcases pBegins_or pt { PR.zero with parent := p, group := (pGet pt p).group, cmd := (pGet pt p).cmd } nb with e | e
    · exact .inl ⟨81, by decide, e⟩
    · refine .inr ⟨_, n, e, hn, ?_, rfl, fun ao cap => ?_⟩
      · rw [← e0]; exact sE_ne (h.kh.ne g hg)
      · rw [hng]
        exact h.add (x := { PR.zero with parent := p, group := (pGet pt p).group, cmd := (pGet pt p).cmd }) hk rfl ⟨g, hg, e0.trans hng⟩ ao cap
theorem HK.exit {pt : PT} {gr : Grp} {r : RG} {k : Nat} (h : HK pt gr r k) (p st : Int) :
    pExit pt p st = (pt, 80) ∨ ∃ pt', pExit pt p st = (pt', 0) ∧ pt'.last = pt.last ∧ ∀ ao cap, ∃ r', HK pt' (gGone gr p ao cap).1 r' (k + 1) := by
  cases hl : pLive pt p && !(p == 1) with
  | false =>
    left
    unfold pExit
    rw [hl]
  | true =>
    right
    have e := pExit_live (st := st) hl
    refine ⟨_, e, rfl, fun ao cap => ?_⟩
    have hK := h.kh.exit st hl ao cap
    rw [e] at hK
    refine ⟨_, hK, ?_⟩
    have hl2 := hl
    simp only [Bool.and_eq_true, Bool.not_eq_true', beq_eq_false_iff_ne, ne_eq] at hl2
    obtain ⟨x, hx, rfl, hz⟩ := (pLive_iff h.kh.pi.ok p).1 hl2.1
    obtain ⟨g, hg, e1, e2⟩ := h.kh.liv x hx hz hl2.2
    obtain ⟨L1, L2, hs, hL, _⟩ := gone_in h.kh.gl hg e2 none 0 none 0
    have := h.nm
    rw [hs] at this
    rw [hL]
    simpa using this
theorem kill_last (pt : PT) (p sig : Int) : (pKill pt p sig).1.last = pt.last := by
  unfold pKill
  cases pLive pt p && !(p == 1)
  · rfl
  · dsimp only
    cases sig == 15
    · cases sig == 9 <;> rfl
    · rfl
theorem killAll_last (sig : Int) : ∀ (ms : List Int) (pt : PT) (n : Int), (ms.foldl (kgF sig) (pt, n)).1.last = pt.last
  | [], _, _ => rfl
  | p :: ms, pt, n => (killAll_last sig ms _ _).trans (kill_last pt p sig)
theorem HK.killAll {pt : PT} {gr : Grp} {r : RG} {k : Nat} (h : HK pt gr r k) (sig : Int) (ms : List Int) : HK (kgAll pt sig ms).1 gr r k ∧ (kgAll pt sig ms).1.last = pt.last := ⟨⟨KH.killAll sig ms 0 h.kh, h.nm⟩, killAll_last sig ms pt 0⟩
theorem HK.reap {pt : PT} {gr : Grp} {r : RG} {k : Nat} (h : HK pt gr r k) (p : Int) : HK (pReap pt p).1 gr r k ∧ (pReap pt p).1.last = pt.last := by
  refine ⟨⟨h.kh.reap p, h.nm⟩, ?_⟩
  unfold pReap
  cases deadOf pt p <;> rfl
/-- So many numbers from 2 up to below p are in a group. -/
def inG (gr : Grp) (p : Int) : Bool := (mget gr.of (.i .i64 p)).isSome
def cnt (gr : Grp) (p : Nat) : Nat := ((List.range (p - 2)).filter fun j => inG gr ((j + 2 : Nat) : Int)).length
theorem cnt_two (gr : Grp) : cnt gr 2 = 0 := rfl
theorem cnt_succ (gr : Grp) {p : Nat} (hp : 2 ≤ p) : cnt gr (p + 1) = cnt gr p + (match inG gr (p : Int) with | true => 1 | false => 0) := by
  unfold cnt
  have e : p + 1 - 2 = (p - 2) + 1 := by omega
  rw [e, List.range_succ, List.filter_append, List.length_append]
  have e2 : p - 2 + 2 = p := by omega
  simp only [List.filter_cons, List.filter_nil, e2]
  cases inG gr (p : Int) <;> rfl
theorem cnt_le (gr : Grp) (p : Nat) : cnt gr p ≤ p := by
  unfold cnt
  have := List.length_filter_le (fun j => inG gr ((j + 2 : Nat) : Int)) (List.range (p - 2))
  rw [List.length_range] at this
  omega
theorem perm_len {l1 l2 : List Int} (h1 : l1.Nodup) (h2 : l2.Nodup) (h : ∀ x, x ∈ l1 ↔ x ∈ l2) : l1.length = l2.length := by
  exact Nat.le_antisymm (nodup_len h1 fun x hx => (h x).1 hx) (nodup_len h2 fun x hx => (h x).2 hx)
theorem HK.count {pt : PT} {gr : Grp} {r : RG} {k : Nat} (h : HK pt gr r k) {q : Nat} (hq : (q : Int) = pt.last + 1) :
    (memQ gr ⟨#[97]⟩).length + (memQ gr ⟨#[98]⟩).length + (memQ gr ⟨#[99]⟩).length = cnt gr q := by
  have hnm := h.nm
  rcases hL : r.L with _ | ⟨g1, _ | ⟨g2, _ | ⟨g3, _ | ⟨g4, l⟩⟩⟩⟩
  case cons.cons.cons.nil =>
    rw [hL] at hnm
    simp only [List.map_cons, List.map_nil, names3, List.cons.injEq, and_true] at hnm
    obtain ⟨n1, n2, n3⟩ := hnm
    have i1 : g1 ∈ r.L := by rw [hL]; simp
    have i2 : g2 ∈ r.L := by rw [hL]; simp
    have i3 : g3 ∈ r.L := by rw [hL]; simp
    have m1 := h.kh.gl.memg i1
    have m2 := h.kh.gl.memg i2
    have m3 := h.kh.gl.memg i3
    rw [n1] at m1
    rw [n2] at m2
    rw [n3] at m3
    rw [memQ_eq, memQ_eq, memQ_eq, m1, m2, m3, ← List.length_append, ← List.length_append]
    unfold cnt
    rw [← List.length_map (fun j : Nat => ((j + 2 : Nat) : Int))]
    have nd : ∀ g ∈ r.L, g.pids.Nodup := fun g hg => by
      obtain ⟨_, _, hms⟩ := h.kh.gl.ex g hg
      exact hms.asc.imp (by intro a b hab; omega)
    have dj : ∀ g ∈ r.L, ∀ g' ∈ r.L, g.name ≠ g'.name → ∀ x ∈ g.pids, ∀ y ∈ g'.pids, x ≠ y := fun g hg g' hg' hne x hx y hy e => by
      subst e
      exact hne (by rw [h.kh.gl.uniq hg hg' hx hy])
    have e12 : g1.name ≠ g2.name := by rw [n1, n2]; decide
    have e13 : g1.name ≠ g3.name := by rw [n1, n3]; decide
    have e23 : g2.name ≠ g3.name := by rw [n2, n3]; decide
    refine perm_len ?_ ?_ fun x => ?_
    · refine List.nodup_append.2 ⟨List.nodup_append.2 ⟨nd g1 i1, nd g2 i2, dj g1 i1 g2 i2 e12⟩, nd g3 i3, fun x hx y hy => ?_⟩
      rcases List.mem_append.1 hx with hx | hx
      · exact dj g1 i1 g3 i3 e13 x hx y hy
      · exact dj g2 i2 g3 i3 e23 x hx y hy
    · have : (List.range (q - 2)).Nodup := List.nodup_range
      have h2 := this.filter (fun j => inG gr ((j + 2 : Nat) : Int))
      refine (List.pairwise_map).2 (h2.imp ?_)
      intro a b hab e
      exact hab (by omega)
    · have hiff : (∃ g ∈ r.L, x ∈ g.pids) ↔ inG gr x = true := by
        unfold inG
        rw [Option.isSome_iff_exists]
        constructor
        · rintro ⟨g, hg, hx⟩
          exact ⟨g.name, (h.kh.gl.of x g.name).2 ⟨g, hg, rfl, hx⟩⟩
        · rintro ⟨n, hn⟩
          obtain ⟨g, hg, _, hx⟩ := (h.kh.gl.of x n).1 hn
          exact ⟨g, hg, hx⟩
      have hmem : x ∈ g1.pids ++ g2.pids ++ g3.pids ↔ ∃ g ∈ r.L, x ∈ g.pids := by
        rw [hL]
        simp [or_assoc]
      rw [hmem]
      constructor
      · rintro ⟨g, hg, hx⟩
        have hin := hiff.1 ⟨g, hg, hx⟩
        obtain ⟨a, z, hz, rfl, _, _⟩ := h.kh.mem g hg x hx
        have hb := h.kh.pi.ok.le z hz
        refine List.mem_map.2 ⟨z.2.pid.toNat - 2, List.mem_filter.2 ⟨List.mem_range.2 (by omega), ?_⟩, by omega⟩
        have e : ((z.2.pid.toNat - 2 + 2 : Nat) : Int) = z.2.pid := by omega
        rw [e]; exact hin
      · intro hx
        obtain ⟨j, hj, rfl⟩ := List.mem_map.1 hx
        exact hiff.2 (List.mem_filter.1 hj).2
  all_goals (rw [hL] at hnm; simp [names3] at hnm)
def rN3 : RG := ⟨none, 0, [⟨⟨#[97]⟩, none, 0, []⟩, ⟨⟨#[98]⟩, none, 0, []⟩, ⟨⟨#[99]⟩, none, 0, []⟩], none, 0, []⟩
def gN3 (bg bo n1 n2 n3 : Nat) : Grp := (gMake (gMake (gMake ⟨bg, bo, none, 0, [], [], []⟩ ⟨#[97]⟩ n1).1 ⟨#[98]⟩ n2).1 ⟨#[99]⟩ n3).1
theorem HK0 (bm bp bg bo n1 n2 n3 : Nat) : HK (pNew 30 bm bp) (gN3 bg bo n1 n2 n3) rN3 3 := by
  have g1 := ((GL.empty bg bo).make ⟨#[97]⟩ (by decide) n1 none 0).2
  have g2 := (g1.make ⟨#[98]⟩ (by decide) n2 none 0).2
  have g3 := (g2.make ⟨#[99]⟩ (by decide) n3 none 0).2
  have e3 : (rMake (rMake (rMake ⟨none, 0, [], none, 0, []⟩ ⟨#[97]⟩ none 0).1 ⟨#[98]⟩ none 0).1 ⟨#[99]⟩ none 0).1 = rN3 := by kernel_rfl
  rw [e3] at g3
  refine ⟨⟨g3, (PI.new 30 bm bp).up (by omega), ?_, ?_, ?_⟩, rfl⟩
  · intro g hg
    simp only [rN3, List.mem_cons, List.not_mem_nil, or_false] at hg
    rcases hg with rfl | rfl | rfl <;> decide
  · intro g hg p hp
    simp only [rN3, List.mem_cons, List.not_mem_nil, or_false] at hg
    rcases hg with rfl | rfl | rfl <;> cases hp
  · intro x hx _ h1
    rw [List.mem_singleton.1 hx] at h1
    exact absurd rfl h1
end Go.Proofs.YtkcmgcoppecfpaaGreat

