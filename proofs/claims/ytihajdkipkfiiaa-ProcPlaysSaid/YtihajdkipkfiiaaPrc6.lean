/- proc.Table: known. -/
import Derived.Test.YtihajdkipkfiiaaPrc5
import Derived.Test.YtihajdkipkfiiaaPr9Run
namespace Go.Proofs.Ytihajdkipkfiiaa
open Go Go.RowKit
set_option linter.unusedVariables false
set_option linter.unusedSimpArgs false
set_option linter.unnecessarySimpa false
set_option maxHeartbeats 0

theorem adtC_mono {σ : Type} {S : σ → Nat → List Ent} {m m' : σ → List SV → (σ → SV → Prop) → Prop} (h : ∀ s rest N, m' s rest N → m s rest N) {args : List SV} {hs : List Ent} {N : List Ent → SV → Prop} (hc : adtC S m' args hs N) : adtC S m args hs N := by
  unfold adtC at hc ⊢
  split at hc
  · rename_i l b rest
    split at hc
    · rename_i b' σ' p s hl
      obtain ⟨h1, h2, h3, h4⟩ := hc
      exact ⟨h1, h2, h3, h _ _ _ h4⟩
    · exact hc.elim
  · exact hc.elim
theorem pKill2_ok : CtrOk Try.prog 41 (adtC ptE killByM) := fun args hs N h => pKill_ok args hs N (adtC_mono (fun s rest N h => by
  unfold killByM at h
  split at h
  case h_2 => exact h.elim
  rename_i pid sig
  obtain ⟨ho, h⟩ := h
  refine ⟨ho, ?_⟩
  cases h1 : sig == 15 with
  | true =>
    simp only [h1] at h
    have : sig = 15 := by simpa using h1
    subst this; exact h
  | false =>
    simp only [h1] at h
    cases h2 : sig == 9 with
    | true =>
      simp only [h2] at h
      have : sig = 9 := by simpa using h2
      subst this; exact h
    | false =>
      simp only [h2] at h
      have e : pKill s pid sig = (s, 80) := by
        unfold pKill
        simp only [h1, h2]
        split <;> rfl
      rw [e]; exact h) h)
theorem ptT_ok : AllOk Try.prog ptT := ⟨pNew_ok, pSpawn_ok, pFork_ok, pExit_ok, pKill2_ok, pSig_ok, pGet_ok, pLen_ok, pReap_ok, allPC_ok, trivial⟩
def ascB : List Int → Bool
  | [] => true
  | a :: l => l.all (fun b => decide (a < b)) && ascB l
theorem asc_of : ∀ {l : List Int}, ascB l = true → l.Pairwise (· < ·)
  | [], _ => .nil
  | a :: l, h => by
    simp only [ascB, Bool.and_eq_true, List.all_eq_true, decide_eq_true_eq] at h
    exact .cons h.1 (asc_of h.2)
theorem pOk_lit {s : PT} (h1 : ascB (s.ps.map (·.2.pid)) = true) (h2 : (s.ps.map (·.2.pid)).all (fun p => decide (1 ≤ p) && decide (p ≤ s.last)) = true) (h3 : (decide (s.last ≤ 1000000) && Nat.ble s.ps.length 1000000 && decide (0 ≤ s.room) && decide (s.room ≤ 64)) = true) : pOk s := by
  simp only [Bool.and_eq_true, decide_eq_true_eq, Nat.ble_eq] at h3
  refine ⟨by simpa [List.pairwise_map] using asc_of h1, fun x hx => ?_, h3.1.1.1, h3.1.1.2, h3.1.2, h3.2⟩
  have := List.all_eq_true.1 h2 x.2.pid (List.mem_map.2 ⟨x, hx, rfl⟩)
  simpa using this
theorem known8_ok : CtrOk Try.prog 20 trueC := by
  intro args hs N h
  unfold trueC at h
  split at h
  · refine Spec.lift (Φ := fun r => r = .bool true) ?_ (fun r hr => by rw [hr]; exact h)
    refine Spec.of_G 82 Try.func20 (c := bodyOf Try.f20) (by kernel_rfl) (by kernel_rfl) (Nat.le_of_ble_eq_true rfl) fun W F => ?_
    refine G_run (kc := false) (ss := []) ptT_ok hmP 3000 ?_
    rw [known8]
    repeat' first
      | apply And.intro
      | exact rfl
      | exact HEq.rfl
      | exact pOk_lit rfl rfl rfl
      | (show _ ≤ _; decide)
      | (refine fun _ => ?_)
      | (refine ⟨rfl, ?_⟩)
  · exact h.elim
end Go.Proofs.Ytihajdkipkfiiaa
