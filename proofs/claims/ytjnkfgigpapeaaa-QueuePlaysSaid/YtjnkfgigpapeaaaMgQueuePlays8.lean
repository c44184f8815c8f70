import Derived.Test.YtjnkfgigpapeaaaMgQueuePlays7
import Derived.Test.YtjnkfgigpapeaaaMgQueuePlays5
import Derived.Test.YtjnkfgigpapeaaaMgQueuePlays6
set_option linter.unusedVariables false
set_option linter.unusedSimpArgs false
set_option linter.unnecessarySimpa false
set_option maxHeartbeats 0
set_option maxRecDepth 100000
/- queue.Queue[reveille/reveillelaw13.Item]: what is dropped. -/
namespace Go.Proofs.Ytjnkfgigpapeaaa
open Go Go.RowKit

theorem qDP0_ok : AllOk Try.prog qDP0 := ⟨inl_ok ⟨inl_ok trivial hmQP Try.func62 (by kernel_rfl), trivial⟩ hmQP Try.func91 (by kernel_rfl), trivial⟩
theorem specDelP {fid : FuncId} {hs : List Ent} {args args' : List SV} {Post : List Ent → SV → Prop} {l lm lr : Nat} {ao : Option Addr} {cap : Nat} {xs : List (IT × Int)} {bm br : Nat} {md : Int}  (xs' : List (IT × Int)) (r0 : SV) (h1 : nth hs l = some ⟨.sl ao cap, .vecL 168 3 encItP xs ((⟨0, 0⟩ : IT), (0 : Int))⟩) (h2 : nth hs lm = some ⟨.blk bm, .cells [.func (.func 62) [] [.ptr lr br 0]] 106⟩) (h3 : nth hs lr = some ⟨.blk br, .cells [.int .i64 md] 3⟩) (hd : distinct [l, lm, lr] = true)
    (hs0 : Spec Try.prog fid [⟨.sl ao cap, .vecL 168 3 encItP xs ((⟨0, 0⟩ : IT), (0 : Int))⟩, ⟨.blk bm, .cells [.func (.func 62) [] [.ptr 2 br 0]] 106⟩, ⟨.blk br, .cells [.int .i64 md] 3⟩] args' (up (fun (h' : List Ent) (r : SV) => h' = [⟨.sl ao cap, .vecL 168 3 encItP xs' ((⟨0, 0⟩ : IT), (0 : Int))⟩, ⟨.blk bm, .cells [.func (.func 62) [] [.ptr 2 br 0]] 106⟩, ⟨.blk br, .cells [.int .i64 md] 3⟩] ∧ den r = den r0))) (ha : denL args = denL args') (hN : Post (setN hs l ⟨.sl ao cap, .vecL 168 3 encItP xs' ((⟨0, 0⟩ : IT), (0 : Int))⟩) r0) : Spec Try.prog fid hs args Post := by
  refine Spec.at (hp := [⟨.sl ao cap, .vecL 168 3 encItP xs ((⟨0, 0⟩ : IT), (0 : Int))⟩, ⟨.blk bm, .cells [.func (.func 62) [] [.ptr lr br 0]] 106⟩, ⟨.blk br, .cells [.int .i64 md] 3⟩]) (args' := args') (Post' := fun h' r => h' = [⟨.sl ao cap, .vecL 168 3 encItP xs' ((⟨0, 0⟩ : IT), (0 : Int))⟩, ⟨.blk bm, .cells [.func (.func 62) [] [.ptr lr br 0]] 106⟩, ⟨.blk br, .cells [.int .i64 md] 3⟩] ∧ den r = den r0) [l, lm, lr] hd (by simp [pickE, h1, h2, h3]) ?_ ha ?_
  · intro W F w hr
    refine Calls.mono (hs0 W F w (Rep.cellsEq (l := 1) (cs' := [.func (.func 62) [] [.ptr 2 br 0]]) rfl (by rfl) hr)) ?_
    rintro e w' ⟨h', r, ⟨h'', r', hi, hr1, rfl, hr2⟩, rfl, hr'⟩
    refine ⟨[⟨.sl ao cap, .vecL 168 3 encItP xs' ((⟨0, 0⟩ : IT), (0 : Int))⟩, ⟨.blk bm, .cells [.func (.func 62) [] [.ptr lr br 0]] 106⟩, ⟨.blk br, .cells [.int .i64 md] 3⟩], r', ⟨rfl, hr2⟩, by rw [hr1], ?_⟩
    exact Rep.cellsEq (l := 1) (cs' := [.func (.func 62) [] [.ptr lr br 0]]) rfl (by rfl) (hi _ _ _ hr')
  · rintro h' r ⟨rfl, hr⟩
    refine ⟨Nat.le_refl _, r0, hr, ?_⟩
    simp only [distinct, Bool.and_eq_true] at hd
    have n1 : l ≠ lm := by rintro rfl; simp at hd
    have n2 : l ≠ lr := by rintro rfl; simp at hd
    have e2 : nth (setN hs l ⟨.sl ao cap, .vecL 168 3 encItP xs' ((⟨0, 0⟩ : IT), (0 : Int))⟩) lm = some ⟨.blk bm, .cells [.func (.func 62) [] [.ptr lr br 0]] 106⟩ := by rw [nth_eq, setN_eq, List.getElem?_set_ne n1, ← nth_eq]; exact h2
    have e3 : nth (setN hs l ⟨.sl ao cap, .vecL 168 3 encItP xs' ((⟨0, 0⟩ : IT), (0 : Int))⟩) lr = some ⟨.blk br, .cells [.int .i64 md] 3⟩ := by rw [nth_eq, setN_eq, List.getElem?_set_ne n2, ← nth_eq]; exact h3
    have : putBack [l, lm, lr] hs [⟨.sl ao cap, .vecL 168 3 encItP xs' ((⟨0, 0⟩ : IT), (0 : Int))⟩, ⟨.blk bm, .cells [.func (.func 62) [] [.ptr lr br 0]] 106⟩, ⟨.blk br, .cells [.int .i64 md] 3⟩] = setN hs l ⟨.sl ao cap, .vecL 168 3 encItP xs' ((⟨0, 0⟩ : IT), (0 : Int))⟩ := by
      simp only [putBack, appE_eq, List.append_nil]
      rw [setN_selfD e2, setN_selfD e3]
    rw [this]; exact hN
theorem ixfP_spec (ao : Option Addr) (cap : Nat) (xs : List (IT × Int)) (bm br : Nat) (md : Int) (hx : xs.length ≤ 1000000000) : Spec Try.prog 105 [⟨.sl ao cap, .vecL 168 3 encItP xs ((⟨0, 0⟩ : IT), (0 : Int))⟩, ⟨.blk bm, .cells [.func (.func 62) [] [.ptr 2 br 0]] 106⟩, ⟨.blk br, .cells [.int .i64 md] 3⟩] [.vec 0 ao xs.length cap, .func (.func 91) [] [.ptr 1 bm 0]] (up fun h' r => h' = [⟨.sl ao cap, .vecL 168 3 encItP xs ((⟨0, 0⟩ : IT), (0 : Int))⟩, ⟨.blk bm, .cells [.func (.func 62) [] [.ptr 2 br 0]] 106⟩, ⟨.blk br, .cells [.int .i64 md] 3⟩] ∧ den r = den (.int .i64 (dIx (fun x : IT × Int => qPpred md x.1) xs 0))) := by
  refine Spec.of_G 19 Try.func105 (c := bodyOf Try.f105) (by kernel_rfl) (by kernel_rfl) (Nat.le_of_ble_eq_true rfl) fun W F => ?_
  refine G_run (kc := false) (ss := []) qDP0_ok hmQP 300 ?_
  rw [qPix_start]
  refine G_loopAt (ι := Nat) [] (bodyOf Try.f105) [1, 0, 1, 0] 19 (fun i => [(0, .vec 0 ao xs.length cap), (1, .func (.func 91) [] [.ptr 1 bm 0]), (7, .int .i64 (xs.length : Int)), (8, .int .i64 (i : Int))]) (fun _ => [⟨.sl ao cap, .vecL 168 3 encItP xs ((⟨0, 0⟩ : IT), (0 : Int))⟩, ⟨.blk bm, .cells [.func (.func 62) [] [.ptr 2 br 0]] 106⟩, ⟨.blk br, .cells [.int .i64 md] 3⟩]) (fun i => i ≤ xs.length ∧ dIx (fun x : IT × Int => qPpred md x.1) (xs.drop i) i = dIx (fun x : IT × Int => qPpred md x.1) xs 0) (fun i => xs.length - i) 0 (by kernel_rfl) (fun J => by kernel_rfl) ⟨Nat.zero_le _, rfl⟩ rfl ⟨rfl, rfl, rfl, rfl, trivial⟩ (fun w hw => hw) fun i hi u => ?_
  obtain ⟨h1, h2⟩ := hi
  simp only [List.nil_append, List.cons_append]
  refine G_run (kc := false) (ss := []) qDP0_ok hmQP 900 ?_
  rw [qPix_body]
  cases hlt : decide ((i : Int) < (xs.length : Int)) with
  | false =>
    simp only [decide_eq_false_iff_not] at hlt
    have hi : i = xs.length := by omega
    subst hi
    rw [List.drop_length] at h2
    exact ⟨_, _, fun W F w hr => hr, rfl, rfl, by rw [← h2]; rfl⟩
  | true =>
    simp only [decide_eq_true_eq] at hlt
    have hlt' : i < xs.length := by omega
    rw [dIx_drop _ ((⟨0, 0⟩ : IT), (0 : Int)) _ _ hlt'] at h2
    have e1 : Int.toNat (i : Int) = i := by omega
    have e2 : IntKind.wrap .i64 ((i : Int) + 1) = ((i + 1 : Nat) : Int) := IntWalk.i64_in _ (by omega)
    rw [e1, e2]
    cases hp : qPpred md (xs.getD i ((⟨0, 0⟩ : IT), (0 : Int))).1 with
    | true =>
      simp only [hp] at h2
      unfold qPpred at hp
      try simp only [hp]
      have fin : ∀ t : List Ent, (up fun h' r => h' = [⟨.sl ao cap, .vecL 168 3 encItP xs ((⟨0, 0⟩ : IT), (0 : Int))⟩, ⟨.blk bm, .cells [.func (.func 62) [] [.ptr 2 br 0]] 106⟩, ⟨.blk br, .cells [.int .i64 md] 3⟩] ∧ den r = den (.int .i64 (dIx (fun x : IT × Int => qPpred md x.1) xs 0))) (⟨.sl ao cap, .vecL 168 3 encItP xs ((⟨0, 0⟩ : IT), (0 : Int))⟩ :: ⟨.blk bm, .cells [.func (.func 62) [] [.ptr 2 br 0]] 106⟩ :: ⟨.blk br, .cells [.int .i64 md] 3⟩ :: t) (.int .i64 (i : Int)) := fun t =>
        ⟨[⟨.sl ao cap, .vecL 168 3 encItP xs ((⟨0, 0⟩ : IT), (0 : Int))⟩, ⟨.blk bm, .cells [.func (.func 62) [] [.ptr 2 br 0]] 106⟩, ⟨.blk br, .cells [.int .i64 md] 3⟩], _, fun W F w hr => Rep.dropR (h := [_, _, _]) hr, rfl, rfl, by rw [← h2]⟩
      repeat' first
        | exact rfl
        | exact trivial
        | exact fin _
        | apply And.intro
        | (show _ ≤ _; omega)
        | (show _ < _; omega)
        | decide
        | (refine fun _ => ?_)
        | fail
    | false =>
      simp only [hp] at h2
      unfold qPpred at hp
      try simp only [hp]
      repeat' first
        | exact rfl
        | exact trivial
        | (exact G_back (i + 1) ⟨by omega, h2⟩ (by omega) rfl ⟨rfl, rfl, rfl, rfl, trivial⟩ (fun w hw => Rep.dropR (h := [_, _, _]) hw))
        | apply And.intro
        | (show _ ≤ _; omega)
        | (show _ < _; omega)
        | decide
        | (refine fun _ => ?_)
        | fail

theorem ixfP_ok : CtrOk Try.prog 105 ixfPC := by
  intro args hs N h
  unfold ixfPC at h
  split at h
  case h_2 => exact h.elim
  rename_i l ao n cap g lm bm
  obtain ⟨rfl, xs, lr, br, md, h1, h2, h3, ⟨hd, rfl, hx⟩, hN⟩ := h
  refine specDelP xs (.int .i64 (dIx (fun x : IT × Int => qPpred md x.1) xs 0)) h1 h2 h3 hd (args' := [.vec 0 ao xs.length cap, .func (.func 91) [] [.ptr 1 bm 0]]) (ixfP_spec ao cap xs bm br md hx) rfl ?_
  rw [setN_selfD h1]
  exact hN
theorem qDP1_ok : AllOk Try.prog qDP1 := ⟨ixfP_ok, qDP0_ok⟩
theorem dlfP_spec (ao : Option Addr) (cap : Nat) (xs : List (IT × Int)) (bm br : Nat) (md : Int) (hx : xs.length ≤ 1000000000) : Spec Try.prog 90 [⟨.sl ao cap, .vecL 168 3 encItP xs ((⟨0, 0⟩ : IT), (0 : Int))⟩, ⟨.blk bm, .cells [.func (.func 62) [] [.ptr 2 br 0]] 106⟩, ⟨.blk br, .cells [.int .i64 md] 3⟩] [.vec 0 ao xs.length cap, .func (.func 91) [] [.ptr 1 bm 0]] (up fun h' r => h' = [⟨.sl ao cap, .vecL 168 3 encItP (xs.filter (fun x : IT × Int => !qPpred md x.1)) ((⟨0, 0⟩ : IT), (0 : Int))⟩, ⟨.blk bm, .cells [.func (.func 62) [] [.ptr 2 br 0]] 106⟩, ⟨.blk br, .cells [.int .i64 md] 3⟩] ∧ den r = den (.vec 0 ao (xs.filter (fun x : IT × Int => !qPpred md x.1)).length cap)) := by
  refine Spec.of_G 42 Try.func90 (c := bodyOf Try.f90) (by kernel_rfl) (by kernel_rfl) (Nat.le_of_ble_eq_true rfl) fun W F => ?_
  refine G_vec (l := 0) rfl fun hcap _ => ?_
  refine G_run (kc := false) (ss := []) qDP1_ok hmQP 600 ?_
  rw [qPde_start]
  refine ⟨rfl, rfl, xs, 2, br, md, rfl, rfl, rfl, ⟨rfl, rfl, hx⟩, ?_⟩
  have hm : (dIx (fun x : IT × Int => qPpred md x.1) xs 0 == -1) = true ∨ ∃ i0 : Nat, dIx (fun x : IT × Int => qPpred md x.1) xs 0 = i0 ∧ i0 < xs.length ∧ (fun x : IT × Int => qPpred md x.1) (xs.getD i0 ((⟨0, 0⟩ : IT), (0 : Int))) = true ∧ ∀ x ∈ xs.take i0, (fun x : IT × Int => qPpred md x.1) x = false := by
    rcases dIx_lt (fun x : IT × Int => qPpred md x.1) xs 0 with h | h
    · exact .inl (by rw [h]; rfl)
    · obtain ⟨i0, hi0⟩ := Int.eq_ofNat_of_zero_le h.1
      obtain ⟨h1, h2, h3⟩ := dIx_first (fun x : IT × Int => qPpred md x.1) ((⟨0, 0⟩ : IT), (0 : Int)) xs 0 i0 (by rw [hi0]; simp) (by omega)
      exact .inr ⟨i0, hi0, h1, h2, h3⟩
  rcases hm with hm | ⟨i0, hi0, hlt0, hp0, hall⟩
  · rw [hm]
    have hno := (dIx_none (fun x : IT × Int => qPpred md x.1) xs 0 (by omega)).1 (by simpa using hm)
    have : xs.filter (fun x : IT × Int => !qPpred md x.1) = xs := List.filter_eq_self.2 fun x hx => by have := hno x hx; (try dsimp only at this ⊢); rw [this]; rfl
    rw [this]
    exact ⟨_, _, fun W F w hr => hr, rfl, rfl, rfl⟩
  · have hne : (dIx (fun x : IT × Int => qPpred md x.1) xs 0 == -1) = false := by rw [hi0]; simp
    rw [hne, hi0]
    have e1 : IntKind.wrap .i64 ((i0 : Int) + 1) = ((i0 + 1 : Nat) : Int) := IntWalk.i64_in _ (by omega)
    rw [e1]
    have hf0 : (xs.take i0).filter (fun x : IT × Int => !qPpred md x.1) = xs.take i0 := List.filter_eq_self.2 fun x hx => by have := hall x hx; (try dsimp only at this ⊢); rw [this]; rfl
    refine G_loopAt (ι := List (IT × Int) × Nat × Nat) [] (bodyOf Try.f90) [1, 1, 1, 0, 1, 0] 42 (fun s => [(0, .vec 0 ao s.1.length cap), (1, .func (.func 91) [] [.ptr 1 bm 0]), (5, .int .i64 (s.2.1 : Int)), (6, .int .i64 (s.2.2 : Int))]) (fun s => [⟨.sl ao cap, .vecL 168 3 encItP s.1 ((⟨0, 0⟩ : IT), (0 : Int))⟩, ⟨.blk bm, .cells [.func (.func 62) [] [.ptr 2 br 0]] 106⟩, ⟨.blk br, .cells [.int .i64 md] 3⟩])
      (fun s => s.1.length = xs.length ∧ s.2.1 < s.2.2 ∧ s.2.2 ≤ xs.length ∧ s.1.take s.2.1 = (xs.take s.2.2).filter (fun x : IT × Int => !qPpred md x.1) ∧ s.1.drop s.2.2 = xs.drop s.2.2) (fun s => xs.length - s.2.2) (xs, i0, i0 + 1) (by kernel_rfl) (fun J => by kernel_rfl)
      ⟨rfl, by dsimp only; omega, by dsimp only; omega, by (try dsimp only at hp0 ⊢); rw [filter_takeD _ ((⟨0, 0⟩ : IT), (0 : Int)) _ _ hlt0, hf0, hp0]; simp, rfl⟩ rfl ⟨rfl, rfl, rfl, rfl, trivial⟩ (fun w hw => hw) ?_
    rintro ⟨ys, i, j⟩ ⟨h1, h2, h3, h4, h5⟩ u
    dsimp only at h1 h2 h3 h4 h5 ⊢
    simp only [List.nil_append, List.cons_append]
    refine G_run (kc := false) (ss := []) qDP1_ok hmQP 900 ?_
    rw [qPde_body]
    have t1 : Int.toNat (i : Int) = i := by omega
    have t2 : Int.toNat (j : Int) = j := by omega
    have t3 : IntKind.wrap .i64 ((i : Int) + 1) = ((i + 1 : Nat) : Int) := IntWalk.i64_in _ (by omega)
    have t4 : IntKind.wrap .i64 ((j : Int) + 1) = ((j + 1 : Nat) : Int) := IntWalk.i64_in _ (by omega)
    rw [t1, t2, t3, t4]
    cases hlt : decide ((j : Int) < (ys.length : Int)) with
    | true =>
      simp only [decide_eq_true_eq] at hlt
      have hj : ys.getD j ((⟨0, 0⟩ : IT), (0 : Int)) = xs.getD j ((⟨0, 0⟩ : IT), (0 : Int)) := by
        have := congrArg (fun l => l.getD 0 ((⟨0, 0⟩ : IT), (0 : Int))) h5
        simpa [List.getD, List.getElem?_drop] using this
      have hdr : ys.drop (j + 1) = xs.drop (j + 1) := by
        have := congrArg (List.drop 1) h5
        simpa [List.drop_drop, Nat.add_comm] using this
      have hft := filter_takeD (fun x : IT × Int => !qPpred md x.1) ((⟨0, 0⟩ : IT), (0 : Int)) xs j (by omega)
      rw [hj]
      cases hq : qPpred md (xs.getD j ((⟨0, 0⟩ : IT), (0 : Int))).1 with
      | false =>
        try dsimp only at hft
        rw [hq] at hft
        unfold qPpred at hq
        simp only [hq, Bool.not_false]
        repeat' first
          | exact rfl
          | exact trivial
          | (refine ⟨xs.getD j ((⟨0, 0⟩ : IT), (0 : Int)), rfl, ?_⟩)
          | (refine G_back (ys.set i (xs.getD j ((⟨0, 0⟩ : IT), (0 : Int))), i + 1, j + 1) ⟨by simp [h1], by dsimp only; omega, by dsimp only; omega, ?_, ?_⟩ (by dsimp only; omega) rfl ⟨(by show Value.slice ao ys.length cap = Value.slice ao _ cap; rw [List.length_set]), rfl, rfl, rfl, trivial⟩ (fun w hw => Rep.dropR (h := [_, _, _]) hw))
          | apply And.intro
          | (show _ ≤ _; omega)
          | (show _ < _; omega)
          | decide
          | (refine fun _ => ?_)
          | fail
        · dsimp only
          rw [hft, ← h4, List.take_succ_eq_append_getElem (by simp; omega), List.take_set_of_le (Nat.le_refl _)]
          simp
        · dsimp only
          rw [List.drop_set_of_lt (by omega)]
          exact hdr
      | true =>
        try dsimp only at hft
        rw [hq] at hft
        unfold qPpred at hq
        simp only [hq, Bool.not_true]
        repeat' first
          | exact rfl
          | exact trivial
          | (refine G_back (ys, i, j + 1) ⟨h1, by dsimp only; omega, by dsimp only; omega, ?_, hdr⟩ (by dsimp only; omega) rfl ⟨rfl, rfl, rfl, rfl, trivial⟩ (fun w hw => Rep.dropR (h := [_, _, _]) hw))
          | apply And.intro
          | (show _ ≤ _; omega)
          | (show _ < _; omega)
          | decide
          | (refine fun _ => ?_)
          | fail
        dsimp only
        rw [hft, h4]; simp
    | false =>
      simp only [decide_eq_false_iff_not] at hlt
      have hje : j = xs.length := by omega
      subst hje
      rw [List.take_length] at h4
      refine ⟨⟨by omega, by omega, by omega⟩, ⟨rfl, rfl, rfl, rfl, rfl, by omega, Nat.le_refl _⟩, ⟨by omega, by omega⟩, ?_⟩
      refine ⟨_, _, fun W F w hr => hr, rfl, by rw [h4], ?_⟩
      rw [← h4]
      have : (ys.take i).length = i := by simp; omega
      rw [this]
      simp only [den, Nat.sub_zero]
      by_cases hc : cap = 0
      · simp [hc]
      · rw [if_neg hc]
        cases ao with
        | none => rfl
        | some a => simp [Addr.add]
theorem dlfP_ok : CtrOk Try.prog 90 dlfPC := by
  intro args hs N h
  unfold dlfPC at h
  split at h
  case h_2 => exact h.elim
  rename_i l ao n cap g lm bm
  obtain ⟨rfl, xs, lr, br, md, h1, h2, h3, ⟨hd, rfl, hx⟩, hN⟩ := h
  exact specDelP (xs.filter (fun x : IT × Int => !qPpred md x.1)) (.vec l ao (xs.filter (fun x : IT × Int => !qPpred md x.1)).length cap) h1 h2 h3 hd (args' := [.vec 0 ao xs.length cap, .func (.func 91) [] [.ptr 1 bm 0]]) (dlfP_spec ao cap xs bm br md hx) rfl hN
end Go.Proofs.Ytjnkfgigpapeaaa

namespace Go.Proofs.Ytjnkfgigpapeaaa
open Go Go.RowKit

theorem qPnew_run (K : List Frm → Sy → Prop) (N : List Ent → SV → Prop) : (run Try.prog [] true [] K (retP Try.prog Try.f57.results.toList N) 600 [.code (bodyOf Try.f57)] ⟨padTo 7 [.func (.func 58) [] []], []⟩) = (
(true = true ∧ true = true) ∧
 (true = true ∧ true = true) ∧
  true = true ∧
   ∀ (b : Nat),
    N [Ent.mk (Loc.blk b) (SObj.cells [SV.raw (Value.slice (@none Addr) 0 0), SV.func (Fn.func 58) [] [], SV.int IntKind.i64 (0 : Int)] 165)]
     (SV.ptr 0 b 0)) := by kernel_rfl


theorem qPpush_run (K : List Frm → Sy → Prop) (N : List Ent → SV → Prop) (q : Nat) (ao : Option Addr) (cap : Nat) (xs : List (IT × Int)) (n : Nat) (v : IT) : (run Try.prog qTP3 false [] K (retP Try.prog Try.f59.results.toList N) 600 [.code (bodyOf Try.f59)] ⟨padTo 23 [.ptr 0 q 0, .agg (encIT v)], [⟨.blk q, .cells [.vec 1 ao xs.length cap, .func (.func 58) [] [], .int .i64 (n : Int)] 165⟩, ⟨.sl ao cap, .vecL 168 3 encItP xs ((⟨0, 0⟩ : IT), (0 : Int))⟩]⟩) = (
true = true ∧
 ∀ (b : Nat),
  ((b = b ∧ 2 = 2) ∧
   q = q ∧
    (true = true ∧ true = true) ∧
     true = true ∧
      ∃ (xs_1 : List (IT × Int)),
       (Ent.mk (Loc.sl ao cap) (SObj.vecL (168 : TypeId) 3 encItP xs (IT.mk (0 : Int) (0 : Int), (0 : Int))) =
        Ent.mk (Loc.sl ao cap) (SObj.vecL (168 : TypeId) 3 encItP xs_1 (IT.mk (0 : Int) (0 : Int), (0 : Int))) ∧
        q = q ∧ List.length xs = List.length xs_1 ∧ false = false) ∧
        ∃ (x : IT × Int),
         (166 = (166 : TypeId) ∧
          168 = (168 : TypeId) ∧
           [SV.int IntKind.i64 x.1.1, SV.int IntKind.i64 x.1.2, SV.int IntKind.i64 x.2] = [SV.int IntKind.i64 v.1, SV.int IntKind.i64 v.2, SV.int IntKind.i64 (↑n : Int)] ∧
            (List.length xs_1 + 1) * 24 ≤ 140737488355328 ∧ List.length xs_1 < 2305843009213693952) ∧
          ∃ (bef : IT → IT → Bool),
           RP (58 : FuncId) bef ∧
            ∀ (ao2 : Option Addr) (cap2 : Nat),
             q = q ∧
              (q = q ∧ true = true ∧ 1 = 1 ∧ 3 ≤ 3) ∧
               N
                [Ent.mk (Loc.blk q)
                 (SObj.cells
                  [SV.vec 1 ao2 (List.length (pushL (lessI bef) (IT.mk (0 : Int) (0 : Int), (0 : Int)) xs_1 x)) cap2, SV.func (Fn.func (58 : FuncId)) [] [],
                   SV.int IntKind.i64 (IntKind.wrap IntKind.i64 ((↑n : Int) + (1 : Int)))]
                  (165 : TypeId)),
                 Ent.mk (Loc.sl ao2 cap2)
                  (SObj.vecL (168 : TypeId) 3 encItP (pushL (lessI bef) (IT.mk (0 : Int) (0 : Int), (0 : Int)) xs_1 x) (IT.mk (0 : Int) (0 : Int), (0 : Int))),
                 Ent.mk (Loc.blk b) (SObj.cells [SV.int IntKind.i64 v.1, SV.int IntKind.i64 v.2] 98)]
                (SV.tuple [])) ∧
   q = q ∧
    (b = b ∧ 2 = 2) ∧
     (true = true ∧ true = true) ∧
      true = true ∧
       ∃ (xs_1 : List (IT × Int)),
        (Ent.mk (Loc.sl ao cap) (SObj.vecL (168 : TypeId) 3 encItP xs (IT.mk (0 : Int) (0 : Int), (0 : Int))) =
         Ent.mk (Loc.sl ao cap) (SObj.vecL (168 : TypeId) 3 encItP xs_1 (IT.mk (0 : Int) (0 : Int), (0 : Int))) ∧
         q = q ∧ List.length xs = List.length xs_1 ∧ false = false) ∧
         ∃ (x : IT × Int),
          (166 = (166 : TypeId) ∧
           168 = (168 : TypeId) ∧
            [SV.int IntKind.i64 x.1.1, SV.int IntKind.i64 x.1.2, SV.int IntKind.i64 x.2] = [SV.int IntKind.i64 v.1, SV.int IntKind.i64 v.2, SV.int IntKind.i64 (↑n : Int)] ∧
             (List.length xs_1 + 1) * 24 ≤ 140737488355328 ∧ List.length xs_1 < 2305843009213693952) ∧
           ∃ (bef : IT → IT → Bool),
            RP (58 : FuncId) bef ∧
             ∀ (ao2 : Option Addr) (cap2 : Nat),
              q = q ∧
               (q = q ∧ true = true ∧ 1 = 1 ∧ 3 ≤ 3) ∧
                N
                 [Ent.mk (Loc.blk q)
                  (SObj.cells
                   [SV.vec 1 ao2 (List.length (pushL (lessI bef) (IT.mk (0 : Int) (0 : Int), (0 : Int)) xs_1 x)) cap2, SV.func (Fn.func (58 : FuncId)) [] [],
                    SV.int IntKind.i64 (IntKind.wrap IntKind.i64 ((↑n : Int) + (1 : Int)))]
                   (165 : TypeId)),
                  Ent.mk (Loc.sl ao2 cap2)
                   (SObj.vecL (168 : TypeId) 3 encItP (pushL (lessI bef) (IT.mk (0 : Int) (0 : Int), (0 : Int)) xs_1 x) (IT.mk (0 : Int) (0 : Int), (0 : Int))),
                  Ent.mk (Loc.blk b) (SObj.cells [SV.int IntKind.i64 v.1, SV.int IntKind.i64 v.2] 98)]
                 (SV.tuple [])) := by kernel_rfl


theorem qPpop_run (K : List Frm → Sy → Prop) (N : List Ent → SV → Prop) (q : Nat) (ao : Option Addr) (cap : Nat) (xs : List (IT × Int)) (n : Nat) : (run Try.prog qTP3 false [] K (retP Try.prog Try.f60.results.toList N) 600 [.code (bodyOf Try.f60)] ⟨padTo 16 [.ptr 0 q 0], [⟨.blk q, .cells [.vec 1 ao xs.length cap, .func (.func 58) [] [], .int .i64 (n : Int)] 165⟩, ⟨.sl ao cap, .vecL 168 3 encItP xs ((⟨0, 0⟩ : IT), (0 : Int))⟩]⟩) = (
∀ (b : Nat),
 true = true ∧
  q = q ∧
   match (↑(List.length xs) : Int) == (0 : Int) with
   | true =>
    ∀ (b_1 : Nat),
     (b_1 = b_1 ∧ 2 = 2) ∧
      (b = b ∧ true = true ∧ 2 = 2 ∧ 2 ≤ 2) ∧
       (b = b ∧ 2 = 2) ∧
        N
         [Ent.mk (Loc.blk q) (SObj.cells [SV.vec 1 ao (List.length xs) cap, SV.func (Fn.func (58 : FuncId)) [] [], SV.int IntKind.i64 (↑n : Int)] (165 : TypeId)),
          Ent.mk (Loc.sl ao cap) (SObj.vecL (168 : TypeId) 3 encItP xs (IT.mk (0 : Int) (0 : Int), (0 : Int))),
          Ent.mk (Loc.blk b) (SObj.cells [SV.int IntKind.i64 (0 : Int), SV.int IntKind.i64 (0 : Int)] 98),
          Ent.mk (Loc.blk b_1) (SObj.cells [SV.int IntKind.i64 (0 : Int), SV.int IntKind.i64 (0 : Int)] 98)]
         (SV.tuple [SV.agg [SV.int IntKind.i64 (0 : Int), SV.int IntKind.i64 (0 : Int)], SV.int IntKind.i64 (130 : Int)])
   | false =>
    true = true ∧
     ∃ (xs_1 : List (IT × Int)),
      (Ent.mk (Loc.sl ao cap) (SObj.vecL (168 : TypeId) 3 encItP xs (IT.mk (0 : Int) (0 : Int), (0 : Int))) =
       Ent.mk (Loc.sl ao cap) (SObj.vecL (168 : TypeId) 3 encItP xs_1 (IT.mk (0 : Int) (0 : Int), (0 : Int))) ∧
       q = q ∧ List.length xs = List.length xs_1 ∧ false = false) ∧
       (166 = (166 : TypeId) ∧ 0 < List.length xs_1 ∧ List.length xs_1 ≤ 2305843009213693952) ∧
        ∃ (bef : IT → IT → Bool),
         RP (58 : FuncId) bef ∧
          (b = b ∧ true = true ∧ 2 = 2 ∧ 2 ≤ 2) ∧
           (b = b ∧ 2 = 2) ∧
            N
             [Ent.mk (Loc.blk q)
              (SObj.cells
               [SV.vec 1 ao (List.length (popL (lessI bef) (IT.mk (0 : Int) (0 : Int), (0 : Int)) xs_1)) cap, SV.func (Fn.func (58 : FuncId)) [] [],
                SV.int IntKind.i64 (↑n : Int)]
               (165 : TypeId)),
              Ent.mk (Loc.sl ao cap) (SObj.vecL (168 : TypeId) 3 encItP (popL (lessI bef) (IT.mk (0 : Int) (0 : Int), (0 : Int)) xs_1) (IT.mk (0 : Int) (0 : Int), (0 : Int))),
              Ent.mk (Loc.blk b)
               (SObj.cells
                [SV.int IntKind.i64 (List.getD xs_1 0 (IT.mk (0 : Int) (0 : Int), (0 : Int))).1.1,
                 SV.int IntKind.i64 (List.getD xs_1 0 (IT.mk (0 : Int) (0 : Int), (0 : Int))).1.2]
                98)]
             (SV.tuple
              [SV.agg
               [SV.int IntKind.i64 (List.getD xs_1 0 (IT.mk (0 : Int) (0 : Int), (0 : Int))).1.1,
                SV.int IntKind.i64 (List.getD xs_1 0 (IT.mk (0 : Int) (0 : Int), (0 : Int))).1.2],
               SV.int IntKind.i64 (0 : Int)])) := by kernel_rfl


theorem qPpeek_run (K : List Frm → Sy → Prop) (N : List Ent → SV → Prop) (q : Nat) (ao : Option Addr) (cap : Nat) (xs : List (IT × Int)) (n : Nat) : (run Try.prog qTP3 true [] K (retP Try.prog Try.f63.results.toList N) 600 [.code (bodyOf Try.f63)] ⟨padTo 17 [.ptr 0 q 0], [⟨.blk q, .cells [.vec 1 ao xs.length cap, .func (.func 58) [] [], .int .i64 (n : Int)] 165⟩, ⟨.sl ao cap, .vecL 168 3 encItP xs ((⟨0, 0⟩ : IT), (0 : Int))⟩]⟩) = (
∀ (b : Nat),
 true = true ∧
  q = q ∧
   match (↑(List.length xs) : Int) == (0 : Int) with
   | true =>
    ∀ (b_1 : Nat),
     (b_1 = b_1 ∧ 2 = 2) ∧
      (b = b ∧ true = true ∧ 2 = 2 ∧ 2 ≤ 2) ∧
       (b = b ∧ 2 = 2) ∧
        N
         [Ent.mk (Loc.blk q) (SObj.cells [SV.vec 1 ao (List.length xs) cap, SV.func (Fn.func (58 : FuncId)) [] [], SV.int IntKind.i64 (↑n : Int)] (165 : TypeId)),
          Ent.mk (Loc.sl ao cap) (SObj.vecL (168 : TypeId) 3 encItP xs (IT.mk (0 : Int) (0 : Int), (0 : Int))),
          Ent.mk (Loc.blk b) (SObj.cells [SV.int IntKind.i64 (0 : Int), SV.int IntKind.i64 (0 : Int)] 98),
          Ent.mk (Loc.blk b_1) (SObj.cells [SV.int IntKind.i64 (0 : Int), SV.int IntKind.i64 (0 : Int)] 98)]
         (SV.tuple [SV.agg [SV.int IntKind.i64 (0 : Int), SV.int IntKind.i64 (0 : Int)], SV.bool false])
   | false =>
    q = q ∧
     (ao = ao ∧ cap = cap ∧ List.length xs = List.length xs ∧ (0 : Int) ≤ (0 : Int) ∧ (0 : Int) < (↑(List.length xs) : Int)) ∧
      (Addr.blkD ao = Addr.blkD ao ∧ Addr.offD ao = Addr.offD ao ∧ 3 = 3 ∧ 0 < List.length xs ∧ 2 = 2) ∧
       (b = b ∧ true = true ∧ 2 = 2 ∧ 2 ≤ 2) ∧
        (b = b ∧ 2 = 2) ∧
         N
          [Ent.mk (Loc.blk q) (SObj.cells [SV.vec 1 ao (List.length xs) cap, SV.func (Fn.func (58 : FuncId)) [] [], SV.int IntKind.i64 (↑n : Int)] (165 : TypeId)),
           Ent.mk (Loc.sl ao cap) (SObj.vecL (168 : TypeId) 3 encItP xs (IT.mk (0 : Int) (0 : Int), (0 : Int))),
           Ent.mk (Loc.blk b)
            (SObj.cells
             [SV.int IntKind.i64 (List.getD xs 0 (IT.mk (0 : Int) (0 : Int), (0 : Int))).1.1,
              SV.int IntKind.i64 (List.getD xs 0 (IT.mk (0 : Int) (0 : Int), (0 : Int))).1.2]
             98)]
          (SV.tuple
           [SV.agg
            [SV.int IntKind.i64 (List.getD xs 0 (IT.mk (0 : Int) (0 : Int), (0 : Int))).1.1,
             SV.int IntKind.i64 (List.getD xs 0 (IT.mk (0 : Int) (0 : Int), (0 : Int))).1.2],
            SV.bool true])) := by kernel_rfl


theorem qPlen_run (K : List Frm → Sy → Prop) (N : List Ent → SV → Prop) (q : Nat) (ao : Option Addr) (cap : Nat) (xs : List (IT × Int)) (n : Nat) : (run Try.prog [] true [] K (retP Try.prog Try.f64.results.toList N) 600 [.code (bodyOf Try.f64)] ⟨padTo 9 [.ptr 0 q 0], [⟨.blk q, .cells [.vec 1 ao xs.length cap, .func (.func 58) [] [], .int .i64 (n : Int)] 165⟩, ⟨.sl ao cap, .vecL 168 3 encItP xs ((⟨0, 0⟩ : IT), (0 : Int))⟩]⟩) = (
q = q ∧
 N
  [Ent.mk (Loc.blk q) (SObj.cells [SV.vec 1 ao (List.length xs) cap, SV.func (Fn.func (58 : FuncId)) [] [], SV.int IntKind.i64 (↑n : Int)] (165 : TypeId)),
   Ent.mk (Loc.sl ao cap) (SObj.vecL (168 : TypeId) 3 encItP xs (IT.mk (0 : Int) (0 : Int), (0 : Int)))]
  (SV.int IntKind.i64 (↑(List.length xs) : Int))) := by kernel_rfl


theorem qPdrop_run (K : List Frm → Sy → Prop) (N : List Ent → SV → Prop) (q : Nat) (ao : Option Addr) (cap : Nat) (xs : List (IT × Int)) (n : Nat) (br : Nat) (md : Int) : (run Try.prog qTP4 false [] K (retP Try.prog Try.f61.results.toList N) 900 [.code (bodyOf Try.f61)] ⟨padTo 28 [.ptr 0 q 0, .func (.func 62) [] [.ptr 2 br 0]], [⟨.blk q, .cells [.vec 1 ao xs.length cap, .func (.func 58) [] [], .int .i64 (n : Int)] 165⟩, ⟨.sl ao cap, .vecL 168 3 encItP xs ((⟨0, 0⟩ : IT), (0 : Int))⟩, ⟨.blk br, .cells [.int .i64 md] 3⟩]⟩) = (
true = true ∧
 ∀ (b : Nat),
  true = true ∧
   q = q ∧
    q = q ∧
     true = true ∧
      91 = (91 : FuncId) ∧
       ∃ (xs_1 : List (IT × Int)),
        ∃ (lr : Nat),
         ∃ (br_1 : Nat),
          ∃ (md_1 : Int),
           some (Ent.mk (Loc.sl ao cap) (SObj.vecL (168 : TypeId) 3 encItP xs (IT.mk (0 : Int) (0 : Int), (0 : Int)))) =
            some (Ent.mk (Loc.sl ao cap) (SObj.vecL (168 : TypeId) 3 encItP xs_1 (IT.mk (0 : Int) (0 : Int), (0 : Int)))) ∧
            some (Ent.mk (Loc.blk b) (SObj.cells [SV.func (Fn.func (62 : FuncId)) [] [SV.ptr 2 br 0]] 106)) =
             some (Ent.mk (Loc.blk b) (SObj.cells [SV.func (Fn.func (62 : FuncId)) [] [SV.ptr lr br_1 0]] (106 : TypeId))) ∧
             nth
              [Ent.mk (Loc.blk q) (SObj.cells [SV.vec 1 ao (List.length xs) cap, SV.func (Fn.func (58 : FuncId)) [] [], SV.int IntKind.i64 (↑n : Int)] (165 : TypeId)),
               Ent.mk (Loc.sl ao cap) (SObj.vecL (168 : TypeId) 3 encItP xs (IT.mk (0 : Int) (0 : Int), (0 : Int))),
               Ent.mk (Loc.blk br) (SObj.cells [SV.int IntKind.i64 md] (3 : TypeId)),
               Ent.mk (Loc.blk b) (SObj.cells [SV.func (Fn.func (62 : FuncId)) [] [SV.ptr 2 br 0]] 106)]
              lr =
              some (Ent.mk (Loc.blk br_1) (SObj.cells [SV.int IntKind.i64 md_1] (3 : TypeId))) ∧
              (distinct [1, 3, lr] = true ∧ List.length xs = List.length xs_1 ∧ List.length xs_1 ≤ 1000000000) ∧
               (q = q ∧ true = true ∧ 1 = 1 ∧ 1 ≤ 3) ∧
                true = true ∧
                 ∃ (xs_2 : List (IT × Int)),
                  (Ent.mk (Loc.sl ao cap)
                   (SObj.vecL (168 : TypeId) 3 encItP (List.filter (fun (x : IT × Int) ↦ !qPpred md_1 x.fst) xs_1) (IT.mk (0 : Int) (0 : Int), (0 : Int))) =
                   Ent.mk (Loc.sl ao cap) (SObj.vecL (168 : TypeId) 3 encItP xs_2 (IT.mk (0 : Int) (0 : Int), (0 : Int))) ∧
                   q = q ∧ List.length (List.filter (fun (x : IT × Int) ↦ !qPpred md_1 x.fst) xs_1) = List.length xs_2 ∧ false = false) ∧
                   (166 = (166 : TypeId) ∧ List.length xs_2 ≤ 1000000000) ∧
                    ∃ (bef : IT → IT → Bool),
                     RP (58 : FuncId) bef ∧
                      true = true ∧
                       q = q ∧
                        N
                         [Ent.mk (Loc.blk q)
                          (SObj.cells
                           [SV.vec 1 ao (List.length (initL (lessI bef) (IT.mk (0 : Int) (0 : Int), (0 : Int)) (List.length xs_2 / 2) xs_2)) cap,
                            SV.func (Fn.func (58 : FuncId)) [] [], SV.int IntKind.i64 (↑n : Int)]
                           (165 : TypeId)),
                          Ent.mk (Loc.sl ao cap)
                           (SObj.vecL (168 : TypeId) 3 encItP (initL (lessI bef) (IT.mk (0 : Int) (0 : Int), (0 : Int)) (List.length xs_2 / 2) xs_2)
                            (IT.mk (0 : Int) (0 : Int), (0 : Int))),
                          Ent.mk (Loc.blk br) (SObj.cells [SV.int IntKind.i64 md] (3 : TypeId)),
                          Ent.mk (Loc.blk b) (SObj.cells [SV.func (Fn.func (62 : FuncId)) [] [SV.ptr 2 br 0]] 106)]
                         (SV.int IntKind.i64
                          (IntKind.wrap IntKind.i64
                           ((↑(List.length xs) : Int) -
                            (↑(List.length (initL (lessI bef) (IT.mk (0 : Int) (0 : Int), (0 : Int)) (List.length xs_2 / 2) xs_2)) : Int))))) := by kernel_rfl
end Go.Proofs.Ytjnkfgigpapeaaa

/- queue.Queue[reveille/reveillelaw13.Item]: what its methods do. -/
namespace Go.Proofs.Ytjnkfgigpapeaaa
open Go Go.RowKit

theorem ordP : Ordered (lessI (fun a b : IT => decide (a.n < b.n))) := ordL (key := IT.n)
theorem qTP3_ok : AllOk Try.prog qTP3 := ⟨qPhpush_ok, qPhpop_ok, inl_ok trivial hmQP Try.func64 (by kernel_rfl), trivial⟩
theorem qTP4_ok : AllOk Try.prog qTP4 := ⟨inl_ok trivial hmQP Try.func64 (by kernel_rfl), dlfP_ok, qPhinit_ok, trivial⟩
theorem qu_inP {W w : World} {F : List Ch} {q : Nat} {ao : Option Addr} {cap : Nat} {xs : List (IT × Int)} {l : List IT} {n : Nat} {t : List Ent} (h : QRep (fun a b : IT => decide (a.n < b.n)) ((⟨0, 0⟩ : IT), (0 : Int)) xs l n) (hr : Rep W F (quFP q ao cap xs n ++ t) w) : Rep W F (quEP ⟨l, n⟩ q ++ t) w :=
  Rep.ex (f := fun i : quIP ⟨l, n⟩ => quFP q i.1.1.1 i.1.1.2 i.1.2 n) ⟨((ao, cap), xs), h⟩ hr
theorem qu_dropP {W w : World} {F : List Ch} {q : Nat} {ao : Option Addr} {cap : Nat} {xs : List (IT × Int)} {l : List IT} {n : Nat} {t : List Ent} (h : QRep (fun a b : IT => decide (a.n < b.n)) ((⟨0, 0⟩ : IT), (0 : Int)) xs l n) (hr : Rep W F (quFP q ao cap xs n ++ t) w) : Rep W F (quEP ⟨l, n⟩ q) w :=
  Rep.dropR (t := t) (qu_inP h hr)
theorem qPnew_ok : CtrOk Try.prog 57 qnewPC := by
  intro args hs N h
  unfold qnewPC at h
  split at h
  case h_2 => exact h.elim
  rename_i g
  obtain ⟨rfl, hN⟩ := h
  refine Spec.at (hp := []) (args' := [.func (.func 58) [] []]) (Post' := fun h' r => ∃ q, h' = [pkA q quEP ⟨[], 0⟩] ∧ r = .ptr 0 q 0) [] rfl rfl ?_ rfl ?_
  · refine Spec.up ?_
    refine Spec.of_G 7 Try.func57 (c := bodyOf Try.f57) (by kernel_rfl) (by kernel_rfl) (Nat.le_of_ble_eq_true rfl) fun W F => ?_
    refine G_run (kc := true) (ss := []) (Cs := []) trivial hmQP 600 ?_
    rw [qPnew_run]
    refine ⟨⟨rfl, rfl⟩, ⟨rfl, rfl⟩, rfl, fun q => ⟨[pkA q quEP ⟨[], 0⟩], .ptr 0 q 0, fun W F w hr => ?_, rfl, q, rfl, rfl⟩⟩
    have h1 := Rep.cellsEq (l := 0) (cs' := [.vec 1 none 0 0, .func (.func 58) [] [], .int .i64 0]) rfl (by rfl) hr
    have h2 := Rep.nilvec 168 (sz := 3) (enc := encItP) ((⟨0, 0⟩ : IT), (0 : Int)) (fun _ => rfl) h1
    exact Rep.pkA1 (qu_dropP (t := []) QRep.nil h2)
  · rintro h' r ⟨q, rfl, rfl⟩
    refine ⟨Nat.zero_le _, .ptr (lenN hs) q 0, rfl, ?_⟩
    have := hN q
    simpa [putBack, appE_eq, snoc_eq] using this
theorem qPpush_ok : CtrOk Try.prog 59 (adtC quEP qpushPM) := adt_ok fun b s rest N h => by
  unfold qpushPM at h
  split at h
  case h_2 => exact h.elim
  rename_i cs
  obtain ⟨ho, v, rfl, hN⟩ := h
  refine Spec.ex (ι := quIP s) (hs' := fun i => quFP b i.1.1.1 i.1.1.2 i.1.2 s.n) (fun W F w hr => by obtain ⟨i, hi⟩ := Rep.unex (t := []) hr; exact ⟨i, by simpa using hi⟩) ?_
  rintro ⟨⟨⟨ao, cap⟩, xs⟩, hq⟩
  have hq : QRep (fun a b : IT => decide (a.n < b.n)) ((⟨0, 0⟩ : IT), (0 : Int)) xs s.l s.n := hq
  have hlen := hq.length
  have hn1 := ho.n
  have hl1 := ho.l
  show Spec _ _ (quFP b ao cap xs s.n) _ _
  refine Spec.of_G 23 Try.func59 (c := bodyOf Try.f59) (by kernel_rfl) (by kernel_rfl) (Nat.le_of_ble_eq_true rfl) fun W F => ?_
  refine G_run (kc := false) (ss := []) qTP3_ok hmQP 600 ?_
  rw [qPpush_run]
  have w1 : IntKind.wrap .i64 ((s.n : Int) + 1) = ((s.n + 1 : Nat) : Int) := IntWalk.i64_in _ (by omega)
  rw [w1]
  have hq2 := hq.push ordP v
  have fin : ∀ (ao2 : Option Addr) (cap2 : Nat) (t : List Ent), (fun h' r => ∃ s', (∀ W F w, Rep W F h' w → Rep W F (quEP s' b) w) ∧ N s' r) (⟨.blk b, .cells [.vec 1 ao2 (pushL (lessI (fun a b : IT => decide (a.n < b.n))) ((⟨0, 0⟩ : IT), (0 : Int)) xs (v, (s.n : Int))).length cap2, .func (.func 58) [] [], .int .i64 ((s.n + 1 : Nat) : Int)] 165⟩ :: ⟨.sl ao2 cap2, .vecL 168 3 encItP (pushL (lessI (fun a b : IT => decide (a.n < b.n))) ((⟨0, 0⟩ : IT), (0 : Int)) xs (v, (s.n : Int))) ((⟨0, 0⟩ : IT), (0 : Int))⟩ :: t) (.tuple []) := fun ao2 cap2 t =>
    ⟨_, fun W F w hr => qu_dropP hq2 hr, hN⟩
  repeat' first
    | exact rfl
    | exact trivial
    | exact fin _ _ _
    | (refine ⟨xs, ⟨rfl, rfl, rfl, rfl⟩, (v, (s.n : Int)), ⟨rfl, rfl, rfl, by omega, by omega⟩, _, ⟨rfl, rfl⟩, fun ao2 cap2 => ?_⟩)
    | apply And.intro
    | (show _ ≤ _; omega)
    | (show _ < _; omega)
    | decide
    | (refine fun _ => ?_)
    | fail
theorem qPpop_ok : CtrOk Try.prog 60 (adtC quEP qpopPM) := adt_ok fun b s rest N h => by
  unfold qpopPM at h
  split at h
  case h_2 => exact h.elim
  obtain ⟨ho, hN⟩ := h
  refine Spec.ex (ι := quIP s) (hs' := fun i => quFP b i.1.1.1 i.1.1.2 i.1.2 s.n) (fun W F w hr => by obtain ⟨i, hi⟩ := Rep.unex (t := []) hr; exact ⟨i, by simpa using hi⟩) ?_
  rintro ⟨⟨⟨ao, cap⟩, xs⟩, hq⟩
  have hq : QRep (fun a b : IT => decide (a.n < b.n)) ((⟨0, 0⟩ : IT), (0 : Int)) xs s.l s.n := hq
  have hlen := hq.length
  have hn1 := ho.n
  have hl1 := ho.l
  show Spec _ _ (quFP b ao cap xs s.n) _ _
  refine Spec.of_G 16 Try.func60 (c := bodyOf Try.f60) (by kernel_rfl) (by kernel_rfl) (Nat.le_of_ble_eq_true rfl) fun W F => ?_
  refine G_run (kc := false) (ss := []) qTP3_ok hmQP 600 ?_
  rw [qPpop_run]
  cases hc : s.l with
  | nil =>
    rw [hc] at hlen hq hN hl1
    have h0 : ((xs.length : Int) == 0) = true := by rw [hlen]; rfl
    rw [h0]
    have fin : ∀ (t : List Ent), (fun h' r => ∃ s', (∀ W F w, Rep W F h' w → Rep W F (quEP s' b) w) ∧ N s' r) (⟨.blk b, .cells [.vec 1 ao xs.length cap, .func (.func 58) [] [], .int .i64 (s.n : Int)] 165⟩ :: ⟨.sl ao cap, .vecL 168 3 encItP (xs) ((⟨0, 0⟩ : IT), (0 : Int))⟩ :: t) (.tuple [.agg (encIT IT.zero), .int .i64 130]) := fun t => ⟨⟨[], s.n⟩, fun W F w hr => qu_dropP hq hr, hN⟩
    repeat' first
      | exact rfl
      | exact trivial
      | exact fin _
      | apply And.intro
      | (show _ ≤ _; omega)
      | (show _ < _; omega)
      | decide
      | (refine fun _ => ?_)
      | fail
  | cons v l =>
    rw [hc] at hlen hq hN hl1
    have h0 : ((xs.length : Int) == 0) = false := by rw [hlen]; simp; omega
    rw [h0]
    obtain ⟨g1, g2, g3⟩ := hq.top ordP
    have fin : ∀ (t : List Ent), (fun h' r => ∃ s', (∀ W F w, Rep W F h' w → Rep W F (quEP s' b) w) ∧ N s' r) (⟨.blk b, .cells [.vec 1 ao (popL (lessI (fun a b : IT => decide (a.n < b.n))) ((⟨0, 0⟩ : IT), (0 : Int)) xs).length cap, .func (.func 58) [] [], .int .i64 (s.n : Int)] 165⟩ :: ⟨.sl ao cap, .vecL 168 3 encItP (popL (lessI (fun a b : IT => decide (a.n < b.n))) ((⟨0, 0⟩ : IT), (0 : Int)) xs) ((⟨0, 0⟩ : IT), (0 : Int))⟩ :: t) (.tuple [.agg (encIT (xs.getD 0 ((⟨0, 0⟩ : IT), (0 : Int))).1), .int .i64 0]) := fun t => ⟨⟨l, s.n⟩, fun W F w hr => qu_dropP g3 hr, by rw [g1]; exact hN⟩
    repeat' first
      | exact rfl
      | exact trivial
      | exact fin _
      | (refine ⟨xs, ⟨rfl, rfl, rfl, rfl⟩, ⟨rfl, by omega, by omega⟩, _, ⟨rfl, rfl⟩, ?_⟩)
      | apply And.intro
      | (show _ ≤ _; omega)
      | (show _ < _; omega)
      | decide
      | (refine fun _ => ?_)
      | fail
theorem qPpeek_ok : CtrOk Try.prog 63 (adtC quEP qpeekPM) := adt_ok fun b s rest N h => by
  unfold qpeekPM at h
  split at h
  case h_2 => exact h.elim
  obtain ⟨ho, hN⟩ := h
  refine Spec.ex (ι := quIP s) (hs' := fun i => quFP b i.1.1.1 i.1.1.2 i.1.2 s.n) (fun W F w hr => by obtain ⟨i, hi⟩ := Rep.unex (t := []) hr; exact ⟨i, by simpa using hi⟩) ?_
  rintro ⟨⟨⟨ao, cap⟩, xs⟩, hq⟩
  have hq : QRep (fun a b : IT => decide (a.n < b.n)) ((⟨0, 0⟩ : IT), (0 : Int)) xs s.l s.n := hq
  have hlen := hq.length
  have hn1 := ho.n
  have hl1 := ho.l
  show Spec _ _ (quFP b ao cap xs s.n) _ _
  refine Spec.of_G 17 Try.func63 (c := bodyOf Try.f63) (by kernel_rfl) (by kernel_rfl) (Nat.le_of_ble_eq_true rfl) fun W F => ?_
  refine G_run (kc := true) (ss := []) qTP3_ok hmQP 600 ?_
  rw [qPpeek_run]
  cases hc : s.l with
  | nil =>
    rw [hc] at hlen hN hl1; have hq0 := hq; rw [hc] at hq
    have h0 : ((xs.length : Int) == 0) = true := by rw [hlen]; rfl
    rw [h0]
    have fin : ∀ (t : List Ent), (fun h' r => ∃ s', (∀ W F w, Rep W F h' w → Rep W F (quEP s' b) w) ∧ N s' r) (⟨.blk b, .cells [.vec 1 ao xs.length cap, .func (.func 58) [] [], .int .i64 (s.n : Int)] 165⟩ :: ⟨.sl ao cap, .vecL 168 3 encItP (xs) ((⟨0, 0⟩ : IT), (0 : Int))⟩ :: t) (.tuple [.agg (encIT IT.zero), .bool false]) := fun t => ⟨s, fun W F w hr => qu_dropP hq0 hr, hN⟩
    repeat' first
      | exact rfl
      | exact trivial
      | exact fin _
      | apply And.intro
      | (show _ ≤ _; omega)
      | (show _ < _; omega)
      | decide
      | (refine fun _ => ?_)
      | fail
  | cons v l =>
    rw [hc] at hlen hN hl1; have hq0 := hq; rw [hc] at hq
    have h0 : ((xs.length : Int) == 0) = false := by rw [hlen]; simp; omega
    rw [h0]
    obtain ⟨g1, g2, g3⟩ := hq.top ordP
    have fin : ∀ (t : List Ent), (fun h' r => ∃ s', (∀ W F w, Rep W F h' w → Rep W F (quEP s' b) w) ∧ N s' r) (⟨.blk b, .cells [.vec 1 ao xs.length cap, .func (.func 58) [] [], .int .i64 (s.n : Int)] 165⟩ :: ⟨.sl ao cap, .vecL 168 3 encItP (xs) ((⟨0, 0⟩ : IT), (0 : Int))⟩ :: t) (.tuple [.agg (encIT (xs.getD 0 ((⟨0, 0⟩ : IT), (0 : Int))).1), .bool true]) := fun t => ⟨s, fun W F w hr => qu_dropP hq0 hr, by rw [g1]; exact hN⟩
    repeat' first
      | exact rfl
      | exact trivial
      | exact fin _
      | apply And.intro
      | (show _ ≤ _; omega)
      | (show _ < _; omega)
      | decide
      | (refine fun _ => ?_)
      | fail
theorem qPlen_ok : CtrOk Try.prog 64 (adtC quEP qlenPM) := adt_ok fun b s rest N h => by
  unfold qlenPM at h
  split at h
  case h_2 => exact h.elim
  obtain ⟨ho, hN⟩ := h
  refine Spec.ex (ι := quIP s) (hs' := fun i => quFP b i.1.1.1 i.1.1.2 i.1.2 s.n) (fun W F w hr => by obtain ⟨i, hi⟩ := Rep.unex (t := []) hr; exact ⟨i, by simpa using hi⟩) ?_
  rintro ⟨⟨⟨ao, cap⟩, xs⟩, hq⟩
  have hq : QRep (fun a b : IT => decide (a.n < b.n)) ((⟨0, 0⟩ : IT), (0 : Int)) xs s.l s.n := hq
  have hlen := hq.length
  have hn1 := ho.n
  have hl1 := ho.l
  show Spec _ _ (quFP b ao cap xs s.n) _ _
  refine Spec.of_G 9 Try.func64 (c := bodyOf Try.f64) (by kernel_rfl) (by kernel_rfl) (Nat.le_of_ble_eq_true rfl) fun W F => ?_
  refine G_run (kc := true) (ss := []) (Cs := []) trivial hmQP 600 ?_
  rw [qPlen_run]
  have hN2 : N s (.int .i64 (xs.length : Int)) := by rw [hlen]; exact hN
  exact ⟨rfl, s, fun W F w hr => qu_dropP (t := []) hq hr, hN2⟩
theorem qPdrop_ok : CtrOk Try.prog 61 qdropPC := by
  intro args hs N h
  unfold qdropPC at h
  split at h
  case h_2 => exact h.elim
  rename_i l b g lr br
  obtain ⟨rfl, h⟩ := h
  split at h
  case h_2 => exact h.elim
  rename_i b' σ' p s hl
  obtain ⟨rfl, rfl, hp, md, hlr, hne, ho, hN⟩ := h
  cases hp
  simp only [cast_eq] at ho hN
  have hne' := ne_of_beqD hne
  refine Spec.at (hp := [pkA b' quEP s, ⟨.blk br, .cells [.int .i64 md] 3⟩]) (args' := [.ptr 0 b' 0, .func (.func 62) [] [.ptr 1 br 0]]) (Post' := fun h' r => h' = [pkA b' quEP ⟨s.l.filter (fun x => !qPpred md x), s.n⟩, ⟨.blk br, .cells [.int .i64 md] 3⟩] ∧ r = .int .i64 ((s.l.length : Int) - ((s.l.filter (fun x => !qPpred md x)).length : Int))) [l, lr] (by simpa [distinct] using hne') (by simp [pickE, hl, hlr, pkA]) ?_ rfl ?_
  · refine Spec.up ?_
    refine Spec.ex (ι := quIP s) (hs' := fun i => quFP b' i.1.1.1 i.1.1.2 i.1.2 s.n ++ [⟨.blk br, .cells [.int .i64 md] 3⟩]) (fun W F w hr => Rep.unex (t := [⟨.blk br, .cells [.int .i64 md] 3⟩]) hr.unpkA) ?_
    rintro ⟨⟨⟨ao, cap⟩, xs⟩, hq⟩
    have hq : QRep (fun a b : IT => decide (a.n < b.n)) ((⟨0, 0⟩ : IT), (0 : Int)) xs s.l s.n := hq
    have hlen := hq.length
    have hn1 := ho.n
    have hl1 := ho.l
    refine Spec.pre (hs' := [⟨.blk b', .cells [.vec 1 ao xs.length cap, .func (.func 58) [] [], .int .i64 (s.n : Int)] 165⟩, ⟨.sl ao cap, .vecL 168 3 encItP xs ((⟨0, 0⟩ : IT), (0 : Int))⟩, ⟨.blk br, .cells [.int .i64 md] 3⟩]) (args' := [.ptr 0 b' 0, .func (.func 62) [] [.ptr 2 br 0]]) (fun W F w hr => hr) rfl ?_
    refine Spec.of_G 28 Try.func61 (c := bodyOf Try.f61) (by kernel_rfl) (by kernel_rfl) (Nat.le_of_ble_eq_true rfl) fun W F => ?_
    refine G_run (kc := false) (ss := []) qTP4_ok hmQP 900 ?_
    rw [qPdrop_run]
    have hq2 := hq.drop ordP (fun x => !qPpred md x)
    have hl2 := hq2.length
    have hfl : (s.l.filter (fun x => !qPpred md x)).length ≤ s.l.length := List.length_filter_le _ _
    have hfx : (xs.filter (fun x : IT × Int => !qPpred md x.1)).length ≤ xs.length := List.length_filter_le _ _
    have w1 : IntKind.wrap .i64 ((xs.length : Int) - ((initL (lessI (fun a b : IT => decide (a.n < b.n))) ((⟨0, 0⟩ : IT), (0 : Int)) ((xs.filter (fun x : IT × Int => !qPpred md x.1)).length / 2) (xs.filter (fun x : IT × Int => !qPpred md x.1))).length : Int)) = (s.l.length : Int) - ((s.l.filter (fun x => !qPpred md x)).length : Int) := by
      rw [hl2, hlen]
      exact IntWalk.i64_in _ (by omega)
    refine ⟨rfl, fun bm => ⟨rfl, rfl, rfl, rfl, rfl, xs, 2, br, md, rfl, rfl, rfl, ⟨rfl, rfl, by omega⟩, ⟨rfl, rfl, rfl, by decide⟩, rfl, xs.filter (fun x : IT × Int => !qPpred md x.1), ⟨rfl, rfl, rfl, rfl⟩, ⟨rfl, by omega⟩, _, ⟨rfl, rfl⟩, rfl, rfl, ?_⟩⟩
    rw [w1]
    refine ⟨[pkA b' quEP ⟨s.l.filter (fun x => !qPpred md x), s.n⟩, ⟨.blk br, .cells [.int .i64 md] 3⟩], _, fun W F w hr => ?_, rfl, rfl, rfl⟩
    have h1 := qu_inP (t := [_, _]) hq2 hr
    have h2 := Rep.pkA (S := quEP) (t := [_, _]) h1
    exact Rep.dropR (h := [_, _]) (t := [_]) h2
  · rintro h' r ⟨rfl, rfl⟩
    refine ⟨Nat.le_refl _, _, rfl, ?_⟩
    have e2 : nth (setN hs l (pkA b' quEP ⟨s.l.filter (fun x => !qPpred md x), s.n⟩)) lr = some ⟨.blk br, .cells [.int .i64 md] 3⟩ := by rw [nth_eq, setN_eq, List.getElem?_set_ne hne', ← nth_eq]; exact hlr
    have : putBack [l, lr] hs [pkA b' quEP ⟨s.l.filter (fun x => !qPpred md x), s.n⟩, ⟨.blk br, .cells [.int .i64 md] 3⟩] = setN hs l (pkA b' quEP ⟨s.l.filter (fun x => !qPpred md x), s.n⟩) := by
      simp only [putBack, appE_eq, List.append_nil]
      rw [setN_selfD e2]
    rw [this]; exact hN
theorem qTP5_ok : AllOk Try.prog qTP5 := ⟨qPnew_ok, qPpush_ok, qPpop_ok, qPpeek_ok, qPlen_ok, qPdrop_ok, trivial⟩
end Go.Proofs.Ytjnkfgigpapeaaa

/- queue.Queue[reveille/reveillelaw13.Item]: All. -/
namespace Go.Proofs.Ytjnkfgigpapeaaa
open Go Go.RowKit

def popsYP (fv : Value) (es : List IT) (R : Nat → List Ent) (Stop : List Ent → Prop) : YCtr := fun v args hs N => v = fv ∧ match hs with
  | e0 :: e1 :: e2 :: e3 :: rest => ∃ i x, es[i]? = some x ∧ args = [.agg (encIT x)] ∧ e3 = pk 0 (R i) ∧ N (e0 :: e1 :: e2 :: pk 0 (R (i + 1)) :: rest) (.bool true) ∧ ∀ R', Stop R' → N (e0 :: e1 :: e2 :: pk 0 R' :: rest) (.bool false)
  | _ => False
def qallYP (fv : Value) (es : List IT) (R : Nat → List Ent) (Stop : List Ent → Prop) : YCtr := fun v args hs N => v = fv ∧ match hs with
  | e0 :: e1 :: e2 :: e3 :: e4 :: rest => ∃ i x, es[i]? = some x ∧ args = [.agg (encIT x)] ∧ e4 = pk 0 (R i) ∧ N (e0 :: e1 :: e2 :: e3 :: pk 0 (R (i + 1)) :: rest) (.bool true) ∧ ∀ R', Stop R' → N (e0 :: e1 :: e2 :: e3 :: pk 0 R' :: rest) (.bool false)
  | _ => False
def qTP6 : Tbl := [(81, hpopC 168 3 encItP ((⟨0, 0⟩ : IT), (0 : Int)) 166 RP), (107, inl Try.prog [] true Try.f107 300)]
def qTP7 : Tbl := [(94, cloneC 168 3 24), (95, inl Try.prog [] true Try.f95 300)]
end Go.Proofs.Ytjnkfgigpapeaaa

namespace Go.Proofs.Ytjnkfgigpapeaaa
open Go Go.RowKit

theorem qPpo_start (K : List Frm → Sy → Prop) (X : Code → Sy → Prop) (E : Sy → Prop) (fv : Value) (es : List IT) (R : Nat → List Ent) (Stop : List Ent → Prop) (bP : Nat) (aoc : Option Addr) (capc : Nat) (bp : Nat) (xs : List (IT × Int)) : (runR Try.prog qTP6 (popsYP fv es R Stop) true [] K X E 10 [.code (bodyOf Try.f106)] ⟨padTo 14 [.raw fv, .ptr 2 bp 0], [⟨.blk bP, .cells [.vec 1 aoc (xs).length capc, .func (.func 58) [] []] 163⟩, ⟨.sl aoc capc, .vecL 168 3 encItP (xs) ((⟨0, 0⟩ : IT), (0 : Int))⟩, ⟨.blk bp, .cells [.ptr 0 bP 0] 166⟩, pk 0 (R 0)]⟩) = (
K (frm [] (bodyOf Try.f106) [0] [])
 (Sy.mk (SV.raw fv :: (SV.ptr 2 bp 0 :: (rawE [] 12)))
  [Ent.mk (Loc.blk bP) (SObj.cells [SV.vec 1 aoc (List.length xs) capc, SV.func (Fn.func (58 : FuncId)) [] []] (163 : TypeId)),
   Ent.mk (Loc.sl aoc capc) (SObj.vecL (168 : TypeId) 3 encItP xs (IT.mk (0 : Int) (0 : Int), (0 : Int))), Ent.mk (Loc.blk bp) (SObj.cells [SV.ptr 0 bP 0] (166 : TypeId)),
   pk 0 (R 0)])) := by kernel_rfl


theorem qPpo_body (K : List Frm → Sy → Prop) (X : Code → Sy → Prop) (E : Sy → Prop) (J : Act → World → Prop) (fv : Value) (es : List IT) (R : Nat → List Ent) (Stop : List Ent → Prop) (bP : Nat) (aoc : Option Addr) (capc : Nat) (bp : Nat) (xs : List (IT × Int)) (i : Nat) (u : Nat → Value) : (runR Try.prog qTP6 (popsYP fv es R Stop) true [] K X E 600 (frm [J] (bodyOf Try.f106) [0, 0] []) ⟨mkT u 14 0 [(0, .raw fv), (1, .ptr 2 bp 0)], [⟨.blk bP, .cells [.vec 1 aoc (xs).length capc, .func (.func 58) [] []] 163⟩, ⟨.sl aoc capc, .vecL 168 3 encItP (xs) ((⟨0, 0⟩ : IT), (0 : Int))⟩, ⟨.blk bp, .cells [.ptr 0 bP 0] 166⟩, pk 0 (R i)]⟩) = (
bp = bp ∧
 true = true ∧
  bP = bP ∧
   match decide ((↑(List.length xs) : Int) > (0 : Int)) with
   | true =>
    bp = bp ∧
     true = true ∧
      ∃ (xs_1 : List (IT × Int)),
       (Ent.mk (Loc.sl aoc capc) (SObj.vecL (168 : TypeId) 3 encItP xs (IT.mk (0 : Int) (0 : Int), (0 : Int))) =
        Ent.mk (Loc.sl aoc capc) (SObj.vecL (168 : TypeId) 3 encItP xs_1 (IT.mk (0 : Int) (0 : Int), (0 : Int))) ∧
        bP = bP ∧ List.length xs = List.length xs_1 ∧ false = false) ∧
        (166 = (166 : TypeId) ∧ 0 < List.length xs_1 ∧ List.length xs_1 ≤ 2305843009213693952) ∧
         ∃ (bef : IT → IT → Bool),
          RP (58 : FuncId) bef ∧
           fv = fv ∧
            ∃ (i_1 : Nat),
             ∃ (x : IT),
              es[i_1]? = some x ∧
               [SV.agg
                [SV.int IntKind.i64 (List.getD xs_1 0 (IT.mk (0 : Int) (0 : Int), (0 : Int))).1.1,
                 SV.int IntKind.i64 (List.getD xs_1 0 (IT.mk (0 : Int) (0 : Int), (0 : Int))).1.2]] =
                [SV.agg [SV.int IntKind.i64 x.1, SV.int IntKind.i64 x.2]] ∧
                pk 0 (R i) = pk 0 (R i_1) ∧
                 K [Frm.loop J, Frm.blk 0]
                  (Sy.mk (SV.raw fv :: (SV.ptr 2 bp 0 :: (SV.raw (u 2) :: (SV.ptr 0 bP 0 :: (SV.int IntKind.i64 (↑(List.length xs) : Int) :: (SV.bool true :: (SV.raw fv :: (SV.ptr 0 bP 0 :: (SV.iface 166 (SV.ptr 0 bP 0) :: (SV.iface (168 : TypeId) (SV.agg [SV.int IntKind.i64 (List.getD xs_1 0 (IT.mk (0 : Int) (0 : Int), (0 : Int))).1.1, SV.int IntKind.i64 (List.getD xs_1 0 (IT.mk (0 : Int) (0 : Int), (0 : Int))).1.2, SV.int IntKind.i64 (List.getD xs_1 0 (IT.mk (0 : Int) (0 : Int), (0 : Int))).2]) :: (SV.agg [SV.int IntKind.i64 (List.getD xs_1 0 (IT.mk (0 : Int) (0 : Int), (0 : Int))).1.1, SV.int IntKind.i64 (List.getD xs_1 0 (IT.mk (0 : Int) (0 : Int), (0 : Int))).1.2, SV.int IntKind.i64 (List.getD xs_1 0 (IT.mk (0 : Int) (0 : Int), (0 : Int))).2] :: (SV.agg [SV.int IntKind.i64 (List.getD xs_1 0 (IT.mk (0 : Int) (0 : Int), (0 : Int))).1.1, SV.int IntKind.i64 (List.getD xs_1 0 (IT.mk (0 : Int) (0 : Int), (0 : Int))).1.2] :: (SV.bool true :: (SV.bool false :: []))))))))))))))
                   [Ent.mk (Loc.blk bP)
                    (SObj.cells [SV.vec 1 aoc (List.length (popL (lessI bef) (IT.mk (0 : Int) (0 : Int), (0 : Int)) xs_1)) capc, SV.func (Fn.func (58 : FuncId)) [] []]
                     (163 : TypeId)),
                    Ent.mk (Loc.sl aoc capc)
                     (SObj.vecL (168 : TypeId) 3 encItP (popL (lessI bef) (IT.mk (0 : Int) (0 : Int), (0 : Int)) xs_1) (IT.mk (0 : Int) (0 : Int), (0 : Int))),
                    Ent.mk (Loc.blk bp) (SObj.cells [SV.ptr 0 bP 0] (166 : TypeId)), pk 0 (R (i_1 + 1))]) ∧
                  ∀ (R' : List Ent),
                   Stop R' →
                    X Code.ret
                     (Sy.mk (SV.raw fv :: (SV.ptr 2 bp 0 :: (SV.raw (u 2) :: (SV.ptr 0 bP 0 :: (SV.int IntKind.i64 (↑(List.length xs) : Int) :: (SV.bool true :: (SV.raw fv :: (SV.ptr 0 bP 0 :: (SV.iface 166 (SV.ptr 0 bP 0) :: (SV.iface (168 : TypeId) (SV.agg [SV.int IntKind.i64 (List.getD xs_1 0 (IT.mk (0 : Int) (0 : Int), (0 : Int))).1.1, SV.int IntKind.i64 (List.getD xs_1 0 (IT.mk (0 : Int) (0 : Int), (0 : Int))).1.2, SV.int IntKind.i64 (List.getD xs_1 0 (IT.mk (0 : Int) (0 : Int), (0 : Int))).2]) :: (SV.agg [SV.int IntKind.i64 (List.getD xs_1 0 (IT.mk (0 : Int) (0 : Int), (0 : Int))).1.1, SV.int IntKind.i64 (List.getD xs_1 0 (IT.mk (0 : Int) (0 : Int), (0 : Int))).1.2, SV.int IntKind.i64 (List.getD xs_1 0 (IT.mk (0 : Int) (0 : Int), (0 : Int))).2] :: (SV.agg [SV.int IntKind.i64 (List.getD xs_1 0 (IT.mk (0 : Int) (0 : Int), (0 : Int))).1.1, SV.int IntKind.i64 (List.getD xs_1 0 (IT.mk (0 : Int) (0 : Int), (0 : Int))).1.2] :: (SV.bool false :: (SV.bool true :: []))))))))))))))
                      [Ent.mk (Loc.blk bP)
                       (SObj.cells
                        [SV.vec 1 aoc (List.length (popL (lessI bef) (IT.mk (0 : Int) (0 : Int), (0 : Int)) xs_1)) capc, SV.func (Fn.func (58 : FuncId)) [] []]
                        (163 : TypeId)),
                       Ent.mk (Loc.sl aoc capc)
                        (SObj.vecL (168 : TypeId) 3 encItP (popL (lessI bef) (IT.mk (0 : Int) (0 : Int), (0 : Int)) xs_1) (IT.mk (0 : Int) (0 : Int), (0 : Int))),
                       Ent.mk (Loc.blk bp) (SObj.cells [SV.ptr 0 bP 0] (166 : TypeId)), pk 0 R'])
   | false =>
    E
     (Sy.mk (SV.raw fv :: (SV.ptr 2 bp 0 :: (SV.raw (u 2) :: (SV.ptr 0 bP 0 :: (SV.int IntKind.i64 (↑(List.length xs) : Int) :: (SV.bool false :: (rawR u 6 [] 8)))))))
      [Ent.mk (Loc.blk bP) (SObj.cells [SV.vec 1 aoc (List.length xs) capc, SV.func (Fn.func (58 : FuncId)) [] []] (163 : TypeId)),
       Ent.mk (Loc.sl aoc capc) (SObj.vecL (168 : TypeId) 3 encItP xs (IT.mk (0 : Int) (0 : Int), (0 : Int))),
       Ent.mk (Loc.blk bp) (SObj.cells [SV.ptr 0 bP 0] (166 : TypeId)), pk 0 (R i)])) := by kernel_rfl


theorem qPal_start (K : List Frm → Sy → Prop) (X : Code → Sy → Prop) (E : Sy → Prop) (q : Nat) (ao : Option Addr) (cap : Nat) (xs : List (IT × Int)) (n : Nat) (bx : Nat) (fv : Value) (rr : List Ent) : (runR Try.prog qTP7 (noY) true [] K X E 600 [.code (bodyOf Try.f93)] ⟨padTo 25 [.raw fv, .ptr 2 bx 0], [⟨.blk q, .cells [.vec 1 ao xs.length cap, .func (.func 58) [] [], .int .i64 (n : Int)] 165⟩, ⟨.sl ao cap, .vecL 168 3 encItP xs ((⟨0, 0⟩ : IT), (0 : Int))⟩, ⟨.blk bx, .cells [.ptr 0 q 0] 95⟩, pk 0 rr]⟩) = (
((match SV.raw fv with
 | SV.agg cs => false
 | SV.tuple cs => false
 | SV.raw (Value.agg cells) => false
 | SV.raw (Value.tuple vs) => false
 | SV.raw (Value.int k n) => true
 | SV.raw (Value.bool b) => true
 | SV.raw (Value.string s) => true
 | SV.raw (Value.pointer a) => true
 | SV.raw (Value.slice a len cap) => true
 | SV.raw (Value.map r) => true
 | SV.raw (Value.func fn first captured) => true
 | SV.raw Value.nilFunc => true
 | SV.raw (Value.iface t v) => true
 | SV.raw Value.nilIface => true
 | SV.raw v => false
 | x => true) &&
 true) =
 true ∧
 ∀ (b : Nat),
  bx = bx ∧
   q = q ∧
    bx = bx ∧
     q = q ∧
      true = true ∧
       (ao = ao ∧
        cap = cap ∧
         List.length xs = List.length xs ∧
          (168 : TypeId) = (168 : TypeId) ∧ 3 = 3 ∧ List.length xs * 24 ≤ 140737488355328 ∧ List.length xs ≤ 9223372036854775807) ∧
        ∀ (ao2 : Option Addr) (cap2 : Nat),
         List.length xs ≤ cap2 →
          (Ent.mk (Loc.blk q) (SObj.cells [SV.vec 1 ao (List.length xs) cap, SV.func (Fn.func (58 : FuncId)) [] [], SV.int IntKind.i64 (↑n : Int)] (165 : TypeId)) =
           Ent.mk (Loc.blk q) (SObj.cells [SV.vec 1 ao (List.length xs) cap, SV.func (Fn.func (58 : FuncId)) [] [], SV.int IntKind.i64 (↑n : Int)] (165 : TypeId)) ∧
           Ent.mk (Loc.sl ao cap) (SObj.vecL (168 : TypeId) 3 encItP xs (IT.mk (0 : Int) (0 : Int), (0 : Int))) =
            Ent.mk (Loc.sl ao cap) (SObj.vecL (168 : TypeId) 3 encItP xs (IT.mk (0 : Int) (0 : Int), (0 : Int))) ∧
            Ent.mk (Loc.blk bx) (SObj.cells [SV.ptr 0 q 0] (95 : TypeId)) = Ent.mk (Loc.blk bx) (SObj.cells [SV.ptr 0 q 0] (95 : TypeId)) ∧
             pk 0 rr = pk 0 rr ∧ Ent.mk (Loc.blk b) (SObj.cells [SV.raw fv] 106) = Ent.mk (Loc.blk b) (SObj.cells [SV.raw fv] 106) ∧ True) ∧
           (true = true ∧ true = true) ∧
            true = true ∧
             ∀ (b_1 : Nat),
              (Ent.mk (Loc.blk q) (SObj.cells [SV.vec 1 ao (List.length xs) cap, SV.func (Fn.func (58 : FuncId)) [] [], SV.int IntKind.i64 (↑n : Int)] (165 : TypeId)) =
               Ent.mk (Loc.blk q) (SObj.cells [SV.vec 1 ao (List.length xs) cap, SV.func (Fn.func (58 : FuncId)) [] [], SV.int IntKind.i64 (↑n : Int)] (165 : TypeId)) ∧
               Ent.mk (Loc.sl ao cap) (SObj.vecL (168 : TypeId) 3 encItP xs (IT.mk (0 : Int) (0 : Int), (0 : Int))) =
                Ent.mk (Loc.sl ao cap) (SObj.vecL (168 : TypeId) 3 encItP xs (IT.mk (0 : Int) (0 : Int), (0 : Int))) ∧
                Ent.mk (Loc.blk bx) (SObj.cells [SV.ptr 0 q 0] (95 : TypeId)) = Ent.mk (Loc.blk bx) (SObj.cells [SV.ptr 0 q 0] (95 : TypeId)) ∧
                 pk 0 rr = pk 0 rr ∧ Ent.mk (Loc.blk b) (SObj.cells [SV.raw fv] 106) = Ent.mk (Loc.blk b) (SObj.cells [SV.raw fv] 106) ∧ True) ∧
               true = true ∧
                true = true ∧
                 ∀ (b_2 : Nat),
                  K (frm [] (bodyOf Try.f93) [1, 1, 1, 0] [])
                   (Sy.mk (SV.raw fv :: (SV.ptr 2 bx 0 :: (SV.ptr 4 b 0 :: (SV.ptr 6 b_1 0 :: (SV.raw (Value.tuple #[]) :: (SV.ptr 0 q 0 :: (SV.ptr 0 q 0 :: (SV.ptr 0 q 0 :: (SV.ptr 0 q 0 :: (SV.vec 1 ao (List.length xs) cap :: (SV.vec 5 ao2 (List.length xs) cap2 :: (SV.ptr 0 q 0 :: (SV.ptr 0 q 0 :: (SV.ptr 0 q 0 :: (SV.ptr 0 q 1 :: (SV.func (Fn.func 58) [] [] :: (SV.agg [SV.vec 5 ao2 (List.length xs) cap2, SV.func (Fn.func 58) [] []] :: (SV.ptr 6 b_1 0 :: (SV.ptr 6 b_1 0 :: (SV.func (Fn.func 106) [] [SV.ptr 7 b_2 0] :: (rawE [] 5)))))))))))))))))))))
                    [Ent.mk (Loc.blk q)
                     (SObj.cells [SV.vec 1 ao (List.length xs) cap, SV.func (Fn.func (58 : FuncId)) [] [], SV.int IntKind.i64 (↑n : Int)] (165 : TypeId)),
                     Ent.mk (Loc.sl ao cap) (SObj.vecL (168 : TypeId) 3 encItP xs (IT.mk (0 : Int) (0 : Int), (0 : Int))),
                     Ent.mk (Loc.blk bx) (SObj.cells [SV.ptr 0 q 0] (95 : TypeId)), pk 0 rr, Ent.mk (Loc.blk b) (SObj.cells [SV.raw fv] 106),
                     Ent.mk (Loc.sl ao2 cap2) (SObj.vecL (168 : TypeId) 3 encItP xs (IT.mk (0 : Int) (0 : Int), (0 : Int))),
                     Ent.mk (Loc.blk b_1) (SObj.cells [SV.vec 5 ao2 (List.length xs) cap2, SV.func (Fn.func 58) [] []] 163),
                     Ent.mk (Loc.blk b_2) (SObj.cells [SV.ptr 6 b_1 0] 166)])) := by kernel_rfl


theorem qPal_asg (K : List Frm → Sy → Prop) (X : Code → Sy → Prop) (E : Sy → Prop) (q : Nat) (ao : Option Addr) (cap : Nat) (xs : List (IT × Int)) (n : Nat) (bx : Nat) (fv : Value) (by_ D l : Nat) (rc : Loop) (rr : List Ent) (x : IT) (u : Nat → Value) : (runR Try.prog [] (noY) true [] K X E 60 ([.code (rfA (codeAt (bodyOf Try.f93) [1, 1, 1, 0]))]) ⟨mkT u 25 0 [(2, .ptr 3 by_ 0), (20, .agg (encIT x))], [⟨.blk q, .cells [.vec 1 ao xs.length cap, .func (.func 58) [] [], .int .i64 (n : Int)] 165⟩, ⟨.sl ao cap, .vecL 168 3 encItP xs ((⟨0, 0⟩ : IT), (0 : Int))⟩, ⟨.blk bx, .cells [.ptr 0 q 0] 95⟩, ⟨.blk by_, .cells [.raw fv] 106⟩, pk 0 (rr), dent D true, lp l rc .ready none]⟩) = (
∀ (b : Nat),
 (b = b ∧ true = true ∧ 2 = 2 ∧ 2 ≤ 2) ∧
  E
   (Sy.mk (SV.raw (u 0) :: (SV.raw (u 1) :: (SV.ptr 3 by_ 0 :: (SV.raw (u 3) :: (SV.ptr 7 b 0 :: (rawR u 5 (SV.agg [SV.int IntKind.i64 x.1, SV.int IntKind.i64 x.2] :: (rawR u 21 [] 4)) 15))))))
    [Ent.mk (Loc.blk q) (SObj.cells [SV.vec 1 ao (List.length xs) cap, SV.func (Fn.func (58 : FuncId)) [] [], SV.int IntKind.i64 (↑n : Int)] (165 : TypeId)),
     Ent.mk (Loc.sl ao cap) (SObj.vecL (168 : TypeId) 3 encItP xs (IT.mk (0 : Int) (0 : Int), (0 : Int))), Ent.mk (Loc.blk bx) (SObj.cells [SV.ptr 0 q 0] (95 : TypeId)),
     Ent.mk (Loc.blk by_) (SObj.cells [SV.raw fv] (106 : TypeId)), pk 0 rr, dent D true, lp l rc LoopState.ready (@none Code),
     Ent.mk (Loc.blk b) (SObj.cells [SV.int IntKind.i64 x.1, SV.int IntKind.i64 x.2] 98)])) := by kernel_rfl


theorem qPal_body (K : List Frm → Sy → Prop) (X : Code → Sy → Prop) (E : Sy → Prop) (q : Nat) (ao : Option Addr) (cap : Nat) (xs : List (IT × Int)) (n : Nat) (bx : Nat) (fv : Value) (by_ D l : Nat) (rc : Loop) (R : Nat → List Ent) (Stop : List Ent → Prop) (es : List IT) (i : Nat) (x : IT) (b6 : Nat) (u : Nat → Value) : (runR Try.prog [] (qallYP fv es R Stop) true [] K X E 600 ([.code (rfB (codeAt (bodyOf Try.f93) [1, 1, 1, 0]))]) ⟨mkT u 25 0 [(2, .ptr 3 by_ 0), (4, .ptr 7 b6 0)], [⟨.blk q, .cells [.vec 1 ao xs.length cap, .func (.func 58) [] [], .int .i64 (n : Int)] 165⟩, ⟨.sl ao cap, .vecL 168 3 encItP xs ((⟨0, 0⟩ : IT), (0 : Int))⟩, ⟨.blk bx, .cells [.ptr 0 q 0] 95⟩, ⟨.blk by_, .cells [.raw fv] 106⟩, pk 0 (R i), dent D true, lp l rc .busy none, ⟨.blk b6, .cells (encIT x) 98⟩]⟩) = (
by_ = by_ ∧
 (b6 = b6 ∧ 2 = 2) ∧
  fv = fv ∧
   ∃ (i_1 : Nat),
    ∃ (x_1 : IT),
     es[i_1]? = some x_1 ∧
      [SV.agg [SV.int IntKind.i64 x.1, SV.int IntKind.i64 x.2]] = [SV.agg [SV.int IntKind.i64 x_1.1, SV.int IntKind.i64 x_1.2]] ∧
       pk 0 (R i) = pk 0 (R i_1) ∧
        E
         (Sy.mk (SV.raw (u 0) :: (SV.raw (u 1) :: (SV.ptr 3 by_ 0 :: (SV.raw (u 3) :: (SV.ptr 7 b6 0 :: (rawR u 5 (SV.raw fv :: (SV.agg [SV.int IntKind.i64 x.1, SV.int IntKind.i64 x.2] :: (SV.bool true :: (SV.bool false :: [])))) 16))))))
          [Ent.mk (Loc.blk q) (SObj.cells [SV.vec 1 ao (List.length xs) cap, SV.func (Fn.func (58 : FuncId)) [] [], SV.int IntKind.i64 (↑n : Int)] (165 : TypeId)),
           Ent.mk (Loc.sl ao cap) (SObj.vecL (168 : TypeId) 3 encItP xs (IT.mk (0 : Int) (0 : Int), (0 : Int))),
           Ent.mk (Loc.blk bx) (SObj.cells [SV.ptr 0 q 0] (95 : TypeId)), Ent.mk (Loc.blk by_) (SObj.cells [SV.raw fv] (106 : TypeId)), pk 0 (R (i_1 + 1)),
           dent D true, lp l rc LoopState.busy (@none Code), Ent.mk (Loc.blk b6) (SObj.cells [SV.int IntKind.i64 x.1, SV.int IntKind.i64 x.2] (98 : TypeId))]) ∧
         ∀ (R' : List Ent),
          Stop R' →
           X Code.ret
            (Sy.mk (SV.raw (u 0) :: (SV.raw (u 1) :: (SV.ptr 3 by_ 0 :: (SV.raw (u 3) :: (SV.ptr 7 b6 0 :: (rawR u 5 (SV.raw fv :: (SV.agg [SV.int IntKind.i64 x.1, SV.int IntKind.i64 x.2] :: (SV.bool false :: (SV.bool true :: [])))) 16))))))
             [Ent.mk (Loc.blk q) (SObj.cells [SV.vec 1 ao (List.length xs) cap, SV.func (Fn.func (58 : FuncId)) [] [], SV.int IntKind.i64 (↑n : Int)] (165 : TypeId)),
              Ent.mk (Loc.sl ao cap) (SObj.vecL (168 : TypeId) 3 encItP xs (IT.mk (0 : Int) (0 : Int), (0 : Int))),
              Ent.mk (Loc.blk bx) (SObj.cells [SV.ptr 0 q 0] (95 : TypeId)), Ent.mk (Loc.blk by_) (SObj.cells [SV.raw fv] (106 : TypeId)), pk 0 R', dent D true,
              lp l rc LoopState.busy (@none Code), Ent.mk (Loc.blk b6) (SObj.cells [SV.int IntKind.i64 x.1, SV.int IntKind.i64 x.2] (98 : TypeId))])) := by kernel_rfl


theorem qPal_end (K : List Frm → Sy → Prop) (E : Sy → Prop) (N : List Ent → SV → Prop) (q : Nat) (ao : Option Addr) (cap : Nat) (xs : List (IT × Int)) (n : Nat) (bx : Nat) (fv : Value) (by_ D l : Nat) (rc : Loop) (rr : List Ent) (u : Nat → Value) : (runR Try.prog [] (noY) true [] K (endMX Try.prog Try.f93.results.toList D 5 N) E 900 ((frm [] (bodyOf Try.f93) [1, 1, 1, 0] []).tail) ⟨mkT u 25 0 [(2, .ptr 3 by_ 0)], [⟨.blk q, .cells [.vec 1 ao xs.length cap, .func (.func 58) [] [], .int .i64 (n : Int)] 165⟩, ⟨.sl ao cap, .vecL 168 3 encItP xs ((⟨0, 0⟩ : IT), (0 : Int))⟩, ⟨.blk bx, .cells [.ptr 0 q 0] 95⟩, ⟨.blk by_, .cells [.raw fv] 106⟩, pk 0 (rr), dent D true, lp l rc .exhausted none]⟩) = (
E
 (Sy.mk (SV.raw (u 0) :: (SV.raw (u 1) :: (SV.ptr 3 by_ 0 :: (rawR u 3 [] 22))))
  [Ent.mk (Loc.blk q) (SObj.cells [SV.vec 1 ao (List.length xs) cap, SV.func (Fn.func (58 : FuncId)) [] [], SV.int IntKind.i64 (↑n : Int)] (165 : TypeId)),
   Ent.mk (Loc.sl ao cap) (SObj.vecL (168 : TypeId) 3 encItP xs (IT.mk (0 : Int) (0 : Int), (0 : Int))), Ent.mk (Loc.blk bx) (SObj.cells [SV.ptr 0 q 0] (95 : TypeId)),
   Ent.mk (Loc.blk by_) (SObj.cells [SV.raw fv] (106 : TypeId)), pk 0 rr, dent D true, lp l rc LoopState.exhausted (@none Code)])) := by kernel_rfl


theorem qPal_ret (K : List Frm → Sy → Prop) (E : Sy → Prop) (N : List Ent → SV → Prop) (q : Nat) (ao : Option Addr) (cap : Nat) (xs : List (IT × Int)) (n : Nat) (bx : Nat) (fv : Value) (by_ D l : Nat) (rc : Loop) (rr : List Ent) (u : Nat → Value) : (runR Try.prog [] (noY) true [] K (endMX Try.prog Try.f93.results.toList D 5 N) E 900 (Frm.code .ret :: (frm [] (bodyOf Try.f93) [1, 1, 1, 0] []).tail) ⟨mkT u 25 0 [(2, .ptr 3 by_ 0)], [⟨.blk q, .cells [.vec 1 ao xs.length cap, .func (.func 58) [] [], .int .i64 (n : Int)] 165⟩, ⟨.sl ao cap, .vecL 168 3 encItP xs ((⟨0, 0⟩ : IT), (0 : Int))⟩, ⟨.blk bx, .cells [.ptr 0 q 0] 95⟩, ⟨.blk by_, .cells [.raw fv] 106⟩, pk 0 (rr), dent D true, lp l rc .exhausted (some .ret)]⟩) = (
some (dent D true) = some (dent D true) ∧
 N
  [Ent.mk (Loc.blk q) (SObj.cells [SV.vec 1 ao (List.length xs) cap, SV.func (Fn.func (58 : FuncId)) [] [], SV.int IntKind.i64 (↑n : Int)] (165 : TypeId)),
   Ent.mk (Loc.sl ao cap) (SObj.vecL (168 : TypeId) 3 encItP xs (IT.mk (0 : Int) (0 : Int), (0 : Int))), Ent.mk (Loc.blk bx) (SObj.cells [SV.ptr 0 q 0] (95 : TypeId)),
   Ent.mk (Loc.blk by_) (SObj.cells [SV.raw fv] (106 : TypeId)), pk 0 rr, dent D false, lp l rc LoopState.exhausted (some Code.ret)]
  (SV.tuple [])) := by kernel_rfl


theorem qPclone_run (K : List Frm → Sy → Prop) (N : List Ent → SV → Prop) (α : Type) (enc : α → List SV) (xs : List α) (d : α) (ao : Option Addr) (cap : Nat) : (run Try.prog [] false [] K (retP Try.prog Try.f94.results.toList N) 300 [.code (bodyOf Try.f94)] ⟨padTo 8 [.vec 0 ao xs.length cap], [⟨.sl ao cap, .vecL 168 3 enc xs d⟩]⟩) = (
match Option.isNone ao with
| true => N [Ent.mk (Loc.sl ao cap) (SObj.vecL (168 : TypeId) 3 enc xs d)] (SV.raw (Value.slice (@none Addr) 0 0))
| false =>
 ∀ (b : Nat),
  (some (Addr.mk b 0 (@none Nat)) = some (Addr.mk b 0 (@none Nat)) ∧
   0 = 0 ∧
    0 = 0 ∧
     0 = 0 ∧
      0 = 0 ∧
       ao = ao ∧
        168 = 168 ∧
         3 = 3 ∧
          3 = 3 ∧ List.length xs = List.length xs ∧ List.length xs * 24 ≤ 140737488355328 ∧ List.length xs ≤ 9223372036854775807) ∧
   ∀ (ao2 : Option Addr) (cap2 : Nat),
    List.length xs ≤ cap2 →
     N [Ent.mk (Loc.sl ao cap) (SObj.vecL (168 : TypeId) 3 enc xs d), Ent.mk (Loc.sl ao2 cap2) (SObj.vecL 168 3 enc xs d)] (SV.vec 1 ao2 (List.length xs) cap2)) := by kernel_rfl
end Go.Proofs.Ytjnkfgigpapeaaa

/- queue.Queue[reveille/reveillelaw13.Item]: All. -/
namespace Go.Proofs.Ytjnkfgigpapeaaa
open Go Go.RowKit

theorem qTP6_ok : AllOk Try.prog qTP6 := ⟨qPhpop_ok, inl_ok trivial hmQP Try.func107 (by kernel_rfl), trivial⟩
theorem qPclone_ok : CtrOk Try.prog 94 (cloneC 168 3 24) := by
  refine clone_ok fun α enc xs d ao cap g1 g2 => ?_
  refine Spec.of_G 8 Try.func94 (c := bodyOf Try.f94) (by kernel_rfl) (by kernel_rfl) (Nat.le_of_ble_eq_true rfl) fun W F => ?_
  refine G_run (Cs := []) (kc := false) (ss := []) trivial hmQP 300 ?_
  rw [qPclone_run]
  split <;> rename_i hh
  · exact .inl ⟨hh, rfl, rfl⟩
  · intro b
    refine ⟨⟨rfl, rfl, rfl, rfl, rfl, rfl, rfl, rfl, rfl, rfl, g1, g2⟩, fun ao2 cap2 h => .inr ⟨ao2, cap2, h, rfl, rfl⟩⟩
theorem qTP7_ok : AllOk Try.prog qTP7 := ⟨qPclone_ok, inl_ok trivial hmQP Try.func95 (by kernel_rfl), trivial⟩
def OneQP (fv : Value) (es : List IT) (R : Nat → List Ent) (Stop : List Ent → Prop) : Prop := ∀ i x, es[i]? = some x → VSpec Try.prog fv [pk 0 (R i)] [.agg (encIT x)] fun h r => (h = [pk 0 (R (i + 1))] ∧ r = .bool true) ∨ ∃ R', Stop R' ∧ h = [pk 0 R'] ∧ r = .bool false
theorem popsYP_ok {fv : Value} {es : List IT} {R : Nat → List Ent} {Stop : List Ent → Prop} (hV : OneQP fv es R Stop) : YOk Try.prog (popsYP fv es R Stop) := by
  rintro v args hs N ⟨rfl, h⟩
  split at h
  case h_2 => exact h.elim
  rename_i e0 e1 e2 e3 rest
  obtain ⟨i, x, hx, rfl, rfl, hN1, hN2⟩ := h
  refine VSpec.at [3] rfl rfl (hV i x hx) fun h' r hp => ?_
  rcases hp with ⟨rfl, rfl⟩ | ⟨R', hs, rfl, rfl⟩
  · exact ⟨Nat.le_refl _, by simpa [putBack, setN, appE_eq] using hN1⟩
  · exact ⟨Nat.le_refl _, by simpa [putBack, setN, appE_eq] using hN2 R' hs⟩
theorem qallYP_ok {fv : Value} {es : List IT} {R : Nat → List Ent} {Stop : List Ent → Prop} (hV : OneQP fv es R Stop) : YOk Try.prog (qallYP fv es R Stop) := by
  rintro v args hs N ⟨rfl, h⟩
  split at h
  case h_2 => exact h.elim
  rename_i e0 e1 e2 e3 e4 rest
  obtain ⟨i, x, hx, rfl, rfl, hN1, hN2⟩ := h
  refine VSpec.at [4] rfl rfl (hV i x hx) fun h' r hp => ?_
  rcases hp with ⟨rfl, rfl⟩ | ⟨R', hs, rfl, rfl⟩
  · exact ⟨Nat.le_refl _, by simpa [putBack, setN, appE_eq] using hN1⟩
  · exact ⟨Nat.le_refl _, by simpa [putBack, setN, appE_eq] using hN2 R' hs⟩
theorem popsP_iter {fv : Value} {es : List IT} {n : Nat} {bP : Nat} {aoc : Option Addr} {capc bp : Nat} {xs0 : List (IT × Int)} {R : Nat → List Ent} {Stop : List Ent → Prop} (hx : es.length ≤ 1000000) (hq : QRep (fun a b : IT => decide (a.n < b.n)) ((⟨0, 0⟩ : IT), (0 : Int)) xs0 es n) (hV : OneQP fv es R Stop) :
    Spec Try.prog 106 [⟨.blk bP, .cells [.vec 1 aoc (xs0).length capc, .func (.func 58) [] []] 163⟩, ⟨.sl aoc capc, .vecL 168 3 encItP (xs0) ((⟨0, 0⟩ : IT), (0 : Int))⟩, ⟨.blk bp, .cells [.ptr 0 bP 0] 166⟩, pk 0 (R 0)] [.raw fv, .ptr 2 bp 0] fun h' r => r = .tuple [] ∧ ∃ xs', (h' = [⟨.blk bP, .cells [.vec 1 aoc (xs').length capc, .func (.func 58) [] []] 163⟩, ⟨.sl aoc capc, .vecL 168 3 encItP (xs') ((⟨0, 0⟩ : IT), (0 : Int))⟩, ⟨.blk bp, .cells [.ptr 0 bP 0] 166⟩, pk 0 (R es.length)] ∨ ∃ R', Stop R' ∧ h' = [⟨.blk bP, .cells [.vec 1 aoc (xs').length capc, .func (.func 58) [] []] 163⟩, ⟨.sl aoc capc, .vecL 168 3 encItP (xs') ((⟨0, 0⟩ : IT), (0 : Int))⟩, ⟨.blk bp, .cells [.ptr 0 bP 0] 166⟩, pk 0 (R')]) := by
  refine Spec.up ?_
  refine Spec.of_GR 14 Try.func106 (c := bodyOf Try.f106) (by kernel_rfl) (by kernel_rfl) (Nat.le_of_ble_eq_true rfl) fun W F => ?_
  refine runR_sound (kc := true) (ss := []) (fun _ _ h => h) qTP6_ok (popsYP_ok hV) hmQP Ends.fn 10 _ _ ?_
  rw [qPpo_start]
  refine GR_loopAt (ι := Nat × List (IT × Int)) [] (bodyOf Try.f106) [0] 14 (fun i => [(0, .raw fv), (1, .ptr 2 bp 0)]) (fun i => [⟨.blk bP, .cells [.vec 1 aoc (i.2).length capc, .func (.func 58) [] []] 163⟩, ⟨.sl aoc capc, .vecL 168 3 encItP (i.2) ((⟨0, 0⟩ : IT), (0 : Int))⟩, ⟨.blk bp, .cells [.ptr 0 bP 0] 166⟩, pk 0 (R i.1)]) (fun i => i.1 ≤ es.length ∧ QRep (fun a b : IT => decide (a.n < b.n)) ((⟨0, 0⟩ : IT), (0 : Int)) i.2 (es.drop i.1) n) (fun i => es.length - i.1) (0, xs0) (by kernel_rfl) (fun J => by kernel_rfl) ⟨Nat.zero_le _, hq⟩ rfl ⟨rfl, rfl, trivial⟩ (fun w hw => hw) ?_
  rintro ⟨i, xs⟩ ⟨h1, h2⟩ u
  dsimp only at h1 h2 ⊢
  simp only [List.nil_append, List.cons_append]
  refine runR_sound (kc := true) (ss := []) (fun _ _ h => h) qTP6_ok (popsYP_ok hV) hmQP Ends.fn 600 _ _ ?_
  rw [qPpo_body]
  have hlen := h2.length
  rw [List.length_drop] at hlen
  refine ⟨rfl, rfl, rfl, ?_⟩
  cases hlt : decide ((xs.length : Int) > 0) with
  | false =>
    simp only [decide_eq_false_iff_not] at hlt
    obtain rfl : i = es.length := by omega
    exact ⟨_, _, fun W F w hr => hr, rfl, rfl, xs, .inl rfl⟩
  | true =>
    simp only [decide_eq_true_eq] at hlt
    have hi : i < es.length := by omega
    have hd : es.drop i = es[i] :: es.drop (i + 1) := List.drop_eq_getElem_cons hi
    rw [hd] at h2
    obtain ⟨g1, g2, g3⟩ := h2.top ordP
    have e1 : [SV.agg (encIT (xs.getD 0 ((⟨0, 0⟩ : IT), (0 : Int))).1)] = [SV.agg (encIT es[i])] := by rw [g1]
    refine ⟨rfl, rfl, xs, ⟨rfl, rfl, rfl, rfl⟩, ⟨rfl, by omega, by omega⟩, _, ⟨rfl, rfl⟩, rfl, i, es[i], List.getElem?_eq_getElem hi, e1, rfl, ?_, fun R' hst => ?_⟩
    · exact GR_back (i + 1, popL (lessI (fun a b : IT => decide (a.n < b.n))) ((⟨0, 0⟩ : IT), (0 : Int)) xs) ⟨by dsimp only; omega, g3⟩ (by dsimp only; omega) rfl ⟨rfl, rfl, trivial⟩ (fun w hr => hr)
    · exact ⟨_, _, fun W F w hr => hr, rfl, rfl, popL (lessI (fun a b : IT => decide (a.n < b.n))) ((⟨0, 0⟩ : IT), (0 : Int)) xs, .inr ⟨R', hst, rfl⟩⟩
def qaRP (q : Nat) (ao : Option Addr) (cap : Nat) (xs : List (IT × Int)) (n bx by_ : Nat) (fv : Value) (D l : Nat) (rc : Loop) (R : Nat → List Ent) (i : Nat) : List Ent := [⟨.blk q, .cells [.vec 1 ao xs.length cap, .func (.func 58) [] [], .int .i64 (n : Int)] 165⟩, ⟨.sl ao cap, .vecL 168 3 encItP xs ((⟨0, 0⟩ : IT), (0 : Int))⟩, ⟨.blk bx, .cells [.ptr 0 q 0] 95⟩, ⟨.blk by_, .cells [.raw fv] 106⟩, pk 0 (R i), dent D true, lp l rc .ready none]
section
variable {q : Nat} {ao : Option Addr} {cap : Nat} {xs : List (IT × Int)} {n bx by_ D l : Nat} {fv : Value} {rc : Loop} {R : Nat → List Ent} {Stop : List Ent → Prop} {T : List SV}
theorem qa_VP {es : List IT} (hV : OneQP fv es R Stop) (hrt : rc.tmps = (denL T).toArray) (hrp : rc.params = rfP (codeAt (bodyOf Try.f93) [1, 1, 1, 0])) (hra : rc.assign = rfA (codeAt (bodyOf Try.f93) [1, 1, 1, 0])) (hrb : rc.body = rfB (codeAt (bodyOf Try.f93) [1, 1, 1, 0]))
    (hl : ∀ v, lenN (setMany T [20] [v]) = 25 ∧ liveOk (setMany T [20] [v]) [(2, .ptr 3 by_ 0), (20, v)]) :
    OneQP (.func (.yield l) #[] #[]) es (qaRP q ao cap xs n bx by_ fv D l rc R) (fun R' => ∃ R'', Stop R'' ∧ R' = [⟨.blk q, .cells [.vec 1 ao xs.length cap, .func (.func 58) [] [], .int .i64 (n : Int)] 165⟩, ⟨.sl ao cap, .vecL 168 3 encItP xs ((⟨0, 0⟩ : IT), (0 : Int))⟩, ⟨.blk bx, .cells [.ptr 0 q 0] 95⟩, ⟨.blk by_, .cells [.raw fv] 106⟩, pk 0 (R''), dent D true, lp l rc .done (some .ret)]) := by
  intro i x hxi
  refine VSpec.conv (hs' := qaRP q ao cap xs n bx by_ fv D l rc R i) (args' := [.agg (encIT x)]) (Post' := fun h r => (h = qaRP q ao cap xs n bx by_ fv D l rc R (i + 1) ∧ r = .bool true) ∨ ∃ R'', Stop R'' ∧ h = [⟨.blk q, .cells [.vec 1 ao xs.length cap, .func (.func 58) [] [], .int .i64 (n : Int)] 165⟩, ⟨.sl ao cap, .vecL 168 3 encItP xs ((⟨0, 0⟩ : IT), (0 : Int))⟩, ⟨.blk bx, .cells [.ptr 0 q 0] 95⟩, ⟨.blk by_, .cells [.raw fv] 106⟩, pk 0 (R''), dent D true, lp l rc .done (some .ret)] ∧ r = .bool false) (fun W F w hr => by have := Rep.unpk hr; simpa using this) rfl (.inr ⟨l, rfl, ?_⟩) ?_
  · unfold qaRP
    refine YSpec.up (YSpec.of_GR (p := 6) (T0 := T) (ps := [20]) rfl hrt hrp hra hrb rfl rfl fun W F => ?_)
    refine GR_live 25 [(2, .ptr 3 by_ 0), (20, .agg (encIT x))] [⟨.blk q, .cells [.vec 1 ao xs.length cap, .func (.func 58) [] [], .int .i64 (n : Int)] 165⟩, ⟨.sl ao cap, .vecL 168 3 encItP xs ((⟨0, 0⟩ : IT), (0 : Int))⟩, ⟨.blk bx, .cells [.ptr 0 q 0] 95⟩, ⟨.blk by_, .cells [.raw fv] 106⟩, pk 0 (R i), dent D true, lp l rc .ready none] (hl _).1 (hl _).2 (fun _ h => h) fun u => ?_
    refine runR_sound (kc := true) (ss := []) (Cs := []) (Y := noY) (K := fun _ _ => False) (fun _ _ h => h.elim) trivial (noY_ok _) hmQP Ends.assign 60 _ _ ?_
    rw [qPal_asg]
    refine fun b6 => ⟨⟨rfl, rfl, rfl, Nat.le_refl _⟩, rfl, ?_⟩
    refine GR_live 25 [(2, .ptr 3 by_ 0), (4, .ptr 7 b6 0)] [⟨.blk q, .cells [.vec 1 ao xs.length cap, .func (.func 58) [] [], .int .i64 (n : Int)] 165⟩, ⟨.sl ao cap, .vecL 168 3 encItP xs ((⟨0, 0⟩ : IT), (0 : Int))⟩, ⟨.blk bx, .cells [.ptr 0 q 0] 95⟩, ⟨.blk by_, .cells [.raw fv] 106⟩, pk 0 (R i), dent D true, lp l rc .busy none, ⟨.blk b6, .cells (encIT x) 98⟩] rfl ⟨rfl, rfl, trivial⟩ (fun w hr => hr) fun u => ?_
    refine runR_sound (kc := true) (ss := []) (Cs := []) (Y := qallYP fv es R Stop) (K := fun _ _ => False) (fun _ _ h => h.elim) trivial (qallYP_ok hV) hmQP (Ends.round (p := 6) (rc := rc) (j := none)) 600 _ _ ?_
    rw [qPal_body]
    have c1 : ∀ (tm : List SV), roundE l 6 rc none (up fun h r => (h = [⟨.blk q, .cells [.vec 1 ao xs.length cap, .func (.func 58) [] [], .int .i64 (n : Int)] 165⟩, ⟨.sl ao cap, .vecL 168 3 encItP xs ((⟨0, 0⟩ : IT), (0 : Int))⟩, ⟨.blk bx, .cells [.ptr 0 q 0] 95⟩, ⟨.blk by_, .cells [.raw fv] 106⟩, pk 0 (R (i + 1)), dent D true, lp l rc .ready none] ∧ r = .bool true) ∨ ∃ R'', Stop R'' ∧ h = [⟨.blk q, .cells [.vec 1 ao xs.length cap, .func (.func 58) [] [], .int .i64 (n : Int)] 165⟩, ⟨.sl ao cap, .vecL 168 3 encItP xs ((⟨0, 0⟩ : IT), (0 : Int))⟩, ⟨.blk bx, .cells [.ptr 0 q 0] 95⟩, ⟨.blk by_, .cells [.raw fv] 106⟩, pk 0 (R''), dent D true, lp l rc .done (some .ret)] ∧ r = .bool false) ⟨tm, [⟨.blk q, .cells [.vec 1 ao xs.length cap, .func (.func 58) [] [], .int .i64 (n : Int)] 165⟩, ⟨.sl ao cap, .vecL 168 3 encItP xs ((⟨0, 0⟩ : IT), (0 : Int))⟩, ⟨.blk bx, .cells [.ptr 0 q 0] 95⟩, ⟨.blk by_, .cells [.raw fv] 106⟩, pk 0 (R (i + 1)), dent D true, lp l rc .busy none, ⟨.blk b6, .cells (encIT x) 98⟩]⟩ := fun tm =>
      ⟨rfl, [⟨.blk q, .cells [.vec 1 ao xs.length cap, .func (.func 58) [] [], .int .i64 (n : Int)] 165⟩, ⟨.sl ao cap, .vecL 168 3 encItP xs ((⟨0, 0⟩ : IT), (0 : Int))⟩, ⟨.blk bx, .cells [.ptr 0 q 0] 95⟩, ⟨.blk by_, .cells [.raw fv] 106⟩, pk 0 (R (i + 1)), dent D true, lp l rc .ready none], .bool true, fun W F w hr => Rep.dropR (h := [_, _, _, _, _, _, _]) (t := [_]) hr, rfl, .inl ⟨rfl, rfl⟩⟩
    have c2 : ∀ (tm : List SV) (R' : List Ent), Stop R' → roundX l 6 rc none (up fun h r => (h = [⟨.blk q, .cells [.vec 1 ao xs.length cap, .func (.func 58) [] [], .int .i64 (n : Int)] 165⟩, ⟨.sl ao cap, .vecL 168 3 encItP xs ((⟨0, 0⟩ : IT), (0 : Int))⟩, ⟨.blk bx, .cells [.ptr 0 q 0] 95⟩, ⟨.blk by_, .cells [.raw fv] 106⟩, pk 0 (R (i + 1)), dent D true, lp l rc .ready none] ∧ r = .bool true) ∨ ∃ R'', Stop R'' ∧ h = [⟨.blk q, .cells [.vec 1 ao xs.length cap, .func (.func 58) [] [], .int .i64 (n : Int)] 165⟩, ⟨.sl ao cap, .vecL 168 3 encItP xs ((⟨0, 0⟩ : IT), (0 : Int))⟩, ⟨.blk bx, .cells [.ptr 0 q 0] 95⟩, ⟨.blk by_, .cells [.raw fv] 106⟩, pk 0 (R''), dent D true, lp l rc .done (some .ret)] ∧ r = .bool false) .ret ⟨tm, [⟨.blk q, .cells [.vec 1 ao xs.length cap, .func (.func 58) [] [], .int .i64 (n : Int)] 165⟩, ⟨.sl ao cap, .vecL 168 3 encItP xs ((⟨0, 0⟩ : IT), (0 : Int))⟩, ⟨.blk bx, .cells [.ptr 0 q 0] 95⟩, ⟨.blk by_, .cells [.raw fv] 106⟩, pk 0 (R'), dent D true, lp l rc .busy none, ⟨.blk b6, .cells (encIT x) 98⟩]⟩ := fun tm R' hs =>
      ⟨rfl, [⟨.blk q, .cells [.vec 1 ao xs.length cap, .func (.func 58) [] [], .int .i64 (n : Int)] 165⟩, ⟨.sl ao cap, .vecL 168 3 encItP xs ((⟨0, 0⟩ : IT), (0 : Int))⟩, ⟨.blk bx, .cells [.ptr 0 q 0] 95⟩, ⟨.blk by_, .cells [.raw fv] 106⟩, pk 0 (R'), dent D true, lp l rc .done (some .ret)], .bool false, fun W F w hr => Rep.dropR (h := [_, _, _, _, _, _, _]) (t := [_]) hr, rfl, .inr ⟨R', hs, rfl, rfl⟩⟩
    exact ⟨rfl, ⟨rfl, rfl⟩, rfl, i, x, hxi, rfl, rfl, c1 _, fun R' hst => c2 _ R' hst⟩
  · rintro h' r (⟨rfl, rfl⟩ | ⟨R'', hs, rfl, rfl⟩)
    · exact ⟨[pk 0 (qaRP q ao cap xs n bx by_ fv D l rc R (i + 1))], .bool true, fun W F w hr => Rep.pk (t := []) 0 (by simpa using hr), rfl, .inl ⟨rfl, rfl⟩⟩
    · exact ⟨[pk 0 [⟨.blk q, .cells [.vec 1 ao xs.length cap, .func (.func 58) [] [], .int .i64 (n : Int)] 165⟩, ⟨.sl ao cap, .vecL 168 3 encItP xs ((⟨0, 0⟩ : IT), (0 : Int))⟩, ⟨.blk bx, .cells [.ptr 0 q 0] 95⟩, ⟨.blk by_, .cells [.raw fv] 106⟩, pk 0 (R''), dent D true, lp l rc .done (some .ret)]], .bool false, fun W F w hr => Rep.pk (t := []) 0 (by simpa using hr), rfl, .inr ⟨_, ⟨R'', hs, rfl⟩, rfl, rfl⟩⟩
end
theorem qfinP {W w : World} {F : List Ch} {q : Nat} {ao : Option Addr} {cap : Nat} {xs : List (IT × Int)} {l : List IT} {n bx : Nat} {r : List Ent} (hq : QRep (fun a b : IT => decide (a.n < b.n)) ((⟨0, 0⟩ : IT), (0 : Int)) xs l n) (hr : Rep W F [⟨.blk q, .cells [.vec 1 ao xs.length cap, .func (.func 58) [] [], .int .i64 (n : Int)] 165⟩, ⟨.sl ao cap, .vecL 168 3 encItP xs ((⟨0, 0⟩ : IT), (0 : Int))⟩, ⟨.blk bx, .cells [.ptr 0 q 0] 95⟩, pk 0 r] w) : Rep W F [pkA q quEP ⟨l, n⟩, ⟨.blk bx, .cells [.ptr 0 q 0] 95⟩, pk 0 r] w :=
  Rep.pkA (S := quEP) (s := ⟨l, n⟩) (t := [_, _]) (qu_inP (t := [_, _]) hq hr)
theorem qallP_iter {fv : Value} {s : QUP} {q bx : Nat} {R : Nat → List Ent} {Stop : List Ent → Prop} (hf : ∃ fn first cap, fv = .func fn first cap) (ho : qOkP s) (hV : OneQP fv s.l R Stop) :
    Spec Try.prog 93 [pkA q quEP s, ⟨.blk bx, .cells [.ptr 0 q 0] 95⟩, pk 0 (R 0)] [.raw fv, .ptr 1 bx 0] fun h' r => r = .tuple [] ∧ (h' = [pkA q quEP s, ⟨.blk bx, .cells [.ptr 0 q 0] 95⟩, pk 0 (R s.l.length)] ∨ ∃ R', Stop R' ∧ h' = [pkA q quEP s, ⟨.blk bx, .cells [.ptr 0 q 0] 95⟩, pk 0 R']) := by
  refine Spec.up ?_
  refine Spec.ex (ι := quIP s) (hs' := fun i => quFP q i.1.1.1 i.1.1.2 i.1.2 s.n ++ [⟨.blk bx, .cells [.ptr 0 q 0] 95⟩, pk 0 (R 0)]) (fun W F w hr => Rep.unex (t := [_, _]) hr.unpkA) ?_
  rintro ⟨⟨⟨ao, cap⟩, xs⟩, hq⟩
  have hq : QRep (fun a b : IT => decide (a.n < b.n)) ((⟨0, 0⟩ : IT), (0 : Int)) xs s.l s.n := hq
  have hlen := hq.length
  have hl1 := ho.l
  obtain ⟨l, n⟩ := s
  dsimp only at hq hlen hl1 hV ⊢
  refine Spec.pre (hs' := [⟨.blk q, .cells [.vec 1 ao xs.length cap, .func (.func 58) [] [], .int .i64 (n : Int)] 165⟩, ⟨.sl ao cap, .vecL 168 3 encItP xs ((⟨0, 0⟩ : IT), (0 : Int))⟩, ⟨.blk bx, .cells [.ptr 0 q 0] 95⟩, pk 0 (R 0)]) (args' := [.raw fv, .ptr 2 bx 0]) (fun W F w hr => hr) rfl ?_
  refine Spec.of_GR 25 Try.func93 (c := bodyOf Try.f93) (by kernel_rfl) (by kernel_rfl) (Nat.le_of_ble_eq_true rfl) fun W F => ?_
  refine runR_sound (kc := true) (ss := []) (fun _ _ h => h) qTP7_ok (noY_ok _) hmQP Ends.fn 600 _ _ ?_
  rw [qPal_start]
  obtain ⟨ff, f1, f2, rfl⟩ := hf
  refine ⟨rfl, fun by_ => ⟨rfl, rfl, rfl, rfl, rfl, ⟨rfl, rfl, rfl, rfl, rfl, by omega, by omega⟩, fun aoc capc hcap => ?_⟩⟩
  generalize Value.func ff f1 f2 = fv at hV ⊢
  refine ⟨⟨rfl, rfl, rfl, rfl, rfl, trivial⟩, ⟨rfl, rfl⟩, rfl, fun bP => ⟨⟨rfl, rfl, rfl, rfl, rfl, trivial⟩, rfl, rfl, fun bp => ?_⟩⟩
  refine GR_rangeAt [] (bodyOf Try.f93) [1, 1, 1, 0] (f := 106) (first := []) (captured := [.ptr 7 bp 0]) (by kernel_rfl) (by kernel_rfl) (by kernel_rfl) fun D l' rc hrt hrp hra hrb =>
    ⟨fun h _ => ∃ xs', h = [⟨.blk bP, .cells [.vec 1 aoc (xs').length capc, .func (.func 58) [] []] 163⟩, ⟨.sl aoc capc, .vecL 168 3 encItP (xs') ((⟨0, 0⟩ : IT), (0 : Int))⟩, ⟨.blk bp, .cells [.ptr 0 bP 0] 166⟩, ⟨.blk q, .cells [.vec 1 ao xs.length cap, .func (.func 58) [] [], .int .i64 (n : Int)] 165⟩, ⟨.sl ao cap, .vecL 168 3 encItP xs ((⟨0, 0⟩ : IT), (0 : Int))⟩, ⟨.blk bx, .cells [.ptr 0 q 0] 95⟩, ⟨.blk by_, .cells [.raw fv] 106⟩, pk 0 (R l.length), dent D true, lp l' rc .ready none] ∨ ∃ R'', Stop R'' ∧ h = [⟨.blk bP, .cells [.vec 1 aoc (xs').length capc, .func (.func 58) [] []] 163⟩, ⟨.sl aoc capc, .vecL 168 3 encItP (xs') ((⟨0, 0⟩ : IT), (0 : Int))⟩, ⟨.blk bp, .cells [.ptr 0 bP 0] 166⟩, ⟨.blk q, .cells [.vec 1 ao xs.length cap, .func (.func 58) [] [], .int .i64 (n : Int)] 165⟩, ⟨.sl ao cap, .vecL 168 3 encItP xs ((⟨0, 0⟩ : IT), (0 : Int))⟩, ⟨.blk bx, .cells [.ptr 0 q 0] 95⟩, ⟨.blk by_, .cells [.raw fv] 106⟩, pk 0 (R''), dent D true, lp l' rc .done (some .ret)], ?_, ?_⟩
  · intro W F w hr
    have hV1 := qa_VP (q := q) (ao := ao) (cap := cap) (xs := xs) (n := n) (T := _) (l := l') (D := D) (bx := bx) (by_ := by_) hV hrt hrp hra hrb fun v => ⟨rfl, rfl, rfl, trivial⟩
    have h1 : Rep W F [⟨.blk bP, .cells [.vec 1 aoc (xs).length capc, .func (.func 58) [] []] 163⟩, ⟨.sl aoc capc, .vecL 168 3 encItP (xs) ((⟨0, 0⟩ : IT), (0 : Int))⟩, ⟨.blk bp, .cells [.ptr 0 bP 0] 166⟩, pk 0 (qaRP q ao cap xs n bx by_ fv D l' rc R 0)] w := by
      refine Rep.pkAt 0 (p := [_, _, _]) (t := []) ?_
      have h2 := Rep.pick (π := [6, 5, 7, 0, 1, 2, 4, 3, 8, 9]) (by decide) rfl hr
      have h3 := Rep.cellsEq (l := 0) (cs' := [.vec 1 aoc xs.length capc, .func (.func 58) [] []]) rfl (by rfl) h2
      exact Rep.cellsEq (l := 2) (cs' := [.ptr 0 bP 0]) rfl (by rfl) h3
    refine Calls.mono (popsP_iter (n := n) hl1 hq hV1 W F w h1) ?_
    rintro e w' ⟨h', r, ⟨rfl, xs', hc⟩, rfl, hr'⟩
    rcases hc with rfl | ⟨R', ⟨R'', hs, rfl⟩, rfl⟩
    · have h7 := Rep.unpkAt (p := [_, _, _]) (t := []) hr'
      exact ⟨_, .tuple [], ⟨xs', .inl rfl⟩, rfl, h7⟩
    · have h7 := Rep.unpkAt (p := [_, _, _]) (t := []) hr'
      exact ⟨_, .tuple [], ⟨xs', .inr ⟨R'', hs, rfl⟩⟩, rfl, h7⟩
  · rintro h' v ⟨xs', (rfl | ⟨R'', hs, rfl⟩)⟩
    · refine ⟨9, .ready, none, by decide, rfl, ?_⟩
      dsimp only
      refine GR_live 25 [(2, .ptr 3 by_ 0)] [⟨.blk q, .cells [.vec 1 ao xs.length cap, .func (.func 58) [] [], .int .i64 (n : Int)] 165⟩, ⟨.sl ao cap, .vecL 168 3 encItP xs ((⟨0, 0⟩ : IT), (0 : Int))⟩, ⟨.blk bx, .cells [.ptr 0 q 0] 95⟩, ⟨.blk by_, .cells [.raw fv] 106⟩, pk 0 (R l.length), dent D true, lp l' rc .exhausted none] rfl ⟨rfl, trivial⟩ (fun w hr => Rep.pick (π := [3, 4, 5, 6, 7, 8, 9]) (by decide) rfl hr) fun u => ?_
      refine runR_sound (Cs := []) (Y := noY) (kc := true) (ss := []) (K := fun _ _ => False) (fun _ _ h => h.elim) trivial (noY_ok _) hmQP (Ends.fnM D 5) 900 _ _ ?_
      rw [qPal_end]
      exact ⟨rfl, _, .tuple [], fun W F w hr => qfinP hq (Rep.pick (π := [0, 1, 2, 4]) (by decide) rfl hr), rfl, rfl, .inl rfl⟩
    · refine ⟨9, .done, some .ret, by decide, rfl, ?_⟩
      dsimp only
      refine GR_live 25 [(2, .ptr 3 by_ 0)] [⟨.blk q, .cells [.vec 1 ao xs.length cap, .func (.func 58) [] [], .int .i64 (n : Int)] 165⟩, ⟨.sl ao cap, .vecL 168 3 encItP xs ((⟨0, 0⟩ : IT), (0 : Int))⟩, ⟨.blk bx, .cells [.ptr 0 q 0] 95⟩, ⟨.blk by_, .cells [.raw fv] 106⟩, pk 0 (R''), dent D true, lp l' rc .exhausted (some .ret)] rfl ⟨rfl, trivial⟩ (fun w hr => Rep.pick (π := [3, 4, 5, 6, 7, 8, 9]) (by decide) rfl hr) fun u => ?_
      refine runR_sound (Cs := []) (Y := noY) (kc := true) (ss := []) (K := fun _ _ => False) (fun _ _ h => h.elim) trivial (noY_ok _) hmQP (Ends.fnM D 5) 900 _ _ ?_
      rw [qPal_ret]
      exact ⟨rfl, _, .tuple [], fun W F w hr => qfinP hq (Rep.pick (π := [0, 1, 2, 4]) (by decide) rfl hr), rfl, rfl, .inr ⟨R'', hs, rfl⟩⟩
end Go.Proofs.Ytjnkfgigpapeaaa

/- QueuePlays: its states. -/
namespace Go.Proofs.Ytjnkfgigpapeaaa
open Go Go.RowKit

def encI8 (x : Int) : List SV := [.int .i8 x]
def qwAllC : Ctr := fun args hs N => match args with
  | [.func (.func g) [] [.ptr l21 b21 0, .ptr l20 b20 0, .ptr l6 b6 0, .ptr l3 b3 0], .ptr lb bx 0] => g = 66 ∧ ∃ (lq q lv : Nat) (m : List IT) (n : Nat) (stop : Int) (aom : Option Addr) (capm : Nat),
      nth hs lb = some ⟨.blk bx, .cells [.ptr lq q 0] 95⟩ ∧ nth hs lq = some (pkA q quEP ⟨m, n⟩) ∧ nth hs l21 = some ⟨.blk b21, .cells [.bool true] 4⟩ ∧ nth hs l20 = some ⟨.blk b20, .cells [.int .i64 0] 3⟩ ∧
      nth hs l6 = some ⟨.blk b6, .cells [.vec lv aom m.length capm] 100⟩ ∧ nth hs l3 = some ⟨.blk b3, .cells [.int .i64 stop] 3⟩ ∧ nth hs lv = some ⟨.sl aom capm, .vecL 98 2 encIT m IT.zero⟩ ∧ distinct [lq, lb, l21, l20, l6, l3, lv] = true ∧ qOkP ⟨m, n⟩ ∧
      ∀ k : Nat, ((k : Int) = stop ∨ k = m.length) → N (setN hs l20 ⟨.blk b20, .cells [.int .i64 (k : Int)] 3⟩) (.tuple [])
  | _ => False
def trueWC : Ctr := fun args hs N => match args with
  | [] => N hs (.bool true)
  | _ => False
def qwT : Tbl := (34, trueWC) :: (93, qwAllC) :: (65, inl Try.prog [] true Try.f65 300) :: qTP5
end Go.Proofs.Ytjnkfgigpapeaaa

