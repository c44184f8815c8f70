/- proc.Table: all its processes. -/
import Derived.Test.YtihajdkipkfiiaaPrc3
import Derived.Test.YtihajdkipkfiiaaPr6Run
namespace Go.Proofs.Ytihajdkipkfiiaa
open Go Go.RowKit
set_option linter.unusedVariables false
set_option linter.unusedSimpArgs false
set_option linter.unnecessarySimpa false
set_option maxHeartbeats 0

theorem upto_last {stop : Int} {l : List PR} {i : Nat} (h1 : stop ≤ 0 ∨ (i : Int) < stop) (h2 : l.length = i) : upto stop l = l := by
  unfold upto
  split
  · rfl
  · rename_i h
    simp only [decide_eq_false_iff_not] at h
    exact List.take_of_length_le (by omega)
def laF (s : PT) (stop : Int) (bs bl : Nat) (l : List PR) (ac : Option Addr × Nat) : List Ent := [⟨.blk bs, .cells [.int .i64 stop] 3⟩, ⟨.blk bl, .cells [.vec 3 ac.1 l.length ac.2] 50⟩, ⟨.sl ac.1 ac.2, .vecL 45 6 encP6 l PR.zero⟩]
def laI (stop : Int) (i : Nat) : Type := { _ac : Option Addr × Nat // stop ≤ 0 ∨ (i : Int) < stop }
def laR (s : PT) (stop : Int) (bs bl : Nat) (i : Nat) : List Ent := [exP fun ac : laI stop i => laF s stop bs bl ((s.ps.take i).map (·.2)) ac.1]
theorem all1C_ok : CtrOk Try.prog 97 all1C := by
  intro args hs N h
  unfold all1C at h
  split at h
  case h_2 => exact h.elim
  rename_i g l1 bl l2 bs l3 bt
  obtain ⟨rfl, s, stop, b, rfl, ⟨ho, hlen⟩, hN⟩ := h
  have hV : OneV (.func (.func 77) #[] (denL [.ptr 2 bl 0, .ptr 1 bs 0]).toArray) s b (laR s stop bs bl) (fun s' R' => s' = s ∧ ∃ ac, R' = laF s stop bs bl (upto stop (s.ps.map (·.2))) ac) := by
    intro i x hx
    obtain ⟨hi, rfl⟩ := List.getElem?_eq_some_iff.1 hx
    refine VSpec.fn (by kernel_rfl) (Spec.ex (ι := laI stop i) (hs' := fun ac => pkA b ptE s :: laF s stop bs bl ((s.ps.take i).map (·.2)) ac.1) (fun W F w hr => Rep.pkex hr) ?_)
    rintro ⟨⟨ao, cap⟩, hst⟩
    refine Spec.up ?_
    show Spec Try.prog 77 [pkA b ptE s, ⟨.blk bs, .cells [.int .i64 stop] 3⟩, ⟨.blk bl, .cells [.vec 3 ao ((s.ps.take i).map (·.2)).length cap] 50⟩, ⟨.sl ao cap, .vecL 45 6 encP6 ((s.ps.take i).map (·.2)) PR.zero⟩] [.agg (encP6 (s.ps[i]).2), .ptr 2 bl 0, .ptr 1 bs 0] _
    refine Spec.of_G 18 Try.func77 (c := bodyOf Try.f77) (by kernel_rfl) (by kernel_rfl) (Nat.le_of_ble_eq_true rfl) fun W F => ?_
    refine G_run (kc := true) (ss := []) (Cs := []) trivial hmP 600 ?_
    rw [la1_run]
    have hl : ((s.ps.take i).map (·.2)).length = i := by simp; omega
    have hl2 : (s.ps.take (i + 1)).map (·.2) = (s.ps.take i).map (·.2) ++ [(s.ps[i]).2] := by
      rw [List.take_add_one, List.map_append, hx]; rfl
    refine ⟨rfl, fun b1 => ⟨rfl, ⟨rfl, rfl⟩, ⟨rfl, rfl, by decide, by decide⟩, fun b2 => ⟨⟨rfl, rfl, rfl, rfl, rfl, rfl, rfl, by decide, rfl, by rw [hl]; omega, by rw [hl]; omega⟩, [(s.ps[i]).2], rfl, rfl, fun ao2 cap2 hc => ⟨⟨rfl, rfl, rfl, Nat.le_refl _⟩, rfl, rfl, ?_⟩⟩⟩⟩
    have hfull : ∀ (h : (i : Int) + 1 = stop), upto stop (s.ps.map (·.2)) = (s.ps.take (i + 1)).map (·.2) := fun h => by
      unfold upto
      split
      · rename_i h0; simp only [decide_eq_true_eq] at h0; omega
      · rw [← List.map_take]
        have : stop.toNat = i + 1 := by omega
        rw [this]
    rw [hl]
    have hl3 : ((s.ps.take (i + 1)).map (·.2)).length = i + 1 := by simp; omega
    cases hne : ((i + 1 : Nat) : Int) != stop with
    | true =>
      simp only [bne_iff_ne, ne_eq] at hne
      refine ⟨rfl, [pkA b ptE s, pk 0 (laR s stop bs bl (i + 1))], .bool true, fun W F w hr => ?_, ?_, .inl ⟨rfl, rfl⟩⟩
      · refine Rep.expk (f := fun ac : laI stop (i + 1) => laF s stop bs bl ((s.ps.take (i + 1)).map (·.2)) ac.1) ⟨(ao2, cap2), by omega⟩ ?_
        show Rep W F (pkA b ptE s :: laF s stop bs bl ((s.ps.take (i + 1)).map (·.2)) (ao2, cap2)) w
        unfold laF
        rw [hl3, hl2]
        exact Rep.pick (π := [0, 1, 2, 3]) (by decide) rfl hr
      · have : decide (((i + 1 : Nat) : Int) ≤ 200) = true := decide_eq_true (by omega)
        rw [this]
    | false =>
      have hne : ((i + 1 : Nat) : Int) = stop := by simpa using hne
      refine ⟨[pkA b ptE s, pk 0 (laF s stop bs bl (upto stop (s.ps.map (·.2))) (ao2, cap2))], .bool false, fun W F w hr => ?_, rfl, .inr ⟨s, _, ⟨rfl, (ao2, cap2), rfl⟩, rfl, rfl⟩⟩
      have h1 := Rep.pick (π := [0, 1, 2, 3]) (by decide) rfl hr
      refine Rep.pkAt 0 (p := [pkA b ptE s]) (t := []) ?_
      rw [hfull (by omega)]
      unfold laF
      rw [hl3, hl2]
      exact h1
  intro W F w hr
  have h1 := Rep.cellsEq (l := 2) (cs' := [.vec 3 none 0 0]) rfl (by rfl) hr
  have h2 := Rep.nilvec 45 (sz := 6) (enc := encP6) PR.zero (fun _ => rfl) h1
  have h3 := Rep.pick (π := [0, 3, 1, 2, 4]) (by decide) rfl h2
  have hz : s.ps.take 0 = [] := rfl
  have h4 : Rep W F [pkA b ptE s, ⟨.blk bt, .cells [.ptr 0 b 0] 38⟩, pk 0 (laR s stop bs bl 0)] w := by
    refine Rep.pkAt 0 (p := [_, _]) (t := []) ?_
    have h5 := Rep.pick (π := [2, 3, 4, 0, 1]) (by decide) rfl h3
    have h6 : Rep W F ([exP fun ac : laI stop 0 => laF s stop bs bl ((s.ps.take 0).map (·.2)) ac.1] ++ [_, _]) w := Rep.ex (f := fun ac : laI stop 0 => laF s stop bs bl ((s.ps.take 0).map (·.2)) ac.1) ⟨(none, 0), by omega⟩ h5
    exact Rep.pick (π := [1, 2, 0]) (by decide) rfl h6
  refine Calls.mono (all1_iter (b := b) (bt := bt) ho hV W F w h4) ?_
  rintro e w' ⟨h', r, ⟨rfl, hc⟩, rfl, hr'⟩
  rcases hc with rfl | ⟨s', R', ⟨rfl, ac, rfl⟩, rfl⟩
  · obtain ⟨⟨⟨ao, cap⟩, hst⟩, h7⟩ := Rep.pkex hr'
    refine ⟨_, _, hN ao cap, rfl, ?_⟩
    have e1 : (s.ps.take s.ps.length).map (·.2) = s.ps.map (·.2) := by rw [List.take_length]
    have e2 : upto stop (s.ps.map (·.2)) = s.ps.map (·.2) := upto_last (i := s.ps.length) hst (by simp)
    rw [e2]
    rw [e1] at h7
    exact h7
  · refine ⟨_, _, hN ac.1 ac.2, rfl, ?_⟩
    have h7 := Rep.unpkAt (p := [_]) (t := []) hr'
    exact h7
theorem ptA_ok : AllOk Try.prog ptA := ⟨all1C_ok, inl_ok trivial hmP Try.func76 (by kernel_rfl), trivial⟩
theorem allPC_ok : CtrOk Try.prog 27 allPC := by
  intro args hs N h
  unfold allPC at h
  split at h
  case h_2 => exact h.elim
  rename_i l b stop
  split at h
  case h_2 => exact h.elim
  rename_i b' σ' p s hl
  obtain ⟨rfl, rfl, hp, ⟨ho, hlen⟩, hN⟩ := h
  cases hp
  simp only [cast_eq] at ho hlen hN
  refine Spec.at (hp := [pkA b' ptE s]) (args' := [.ptr 0 b' 0, .int .i64 stop]) (Post' := fun h' r => ∃ ao cap, h' = [pkA b' ptE s, ⟨.sl ao cap, .vecL 45 6 encP6 (upto stop (s.ps.map (·.2))) PR.zero⟩] ∧ r = .vec 1 ao (upto stop (s.ps.map (·.2))).length cap) [l] (by simp [distinct]) (by simp [pickE, hl, pkA]) ?_ rfl ?_
  · refine Spec.up ?_
    refine Spec.of_G 11 Try.func27 (c := bodyOf Try.f27) (by kernel_rfl) (by kernel_rfl) (Nat.le_of_ble_eq_true rfl) fun W F => ?_
    refine G_run (kc := true) (ss := []) ptA_ok hmP 600 ?_
    rw [la_run]
    refine ⟨rfl, fun b1 b2 => ⟨rfl, rfl, fun b3 => ⟨rfl, rfl, s, stop, b', rfl, ⟨ho, hlen⟩, fun ao cap => ⟨rfl, ?_⟩⟩⟩⟩
    exact ⟨_, .vec 1 ao (upto stop (s.ps.map (·.2))).length cap, fun W F w hr => Rep.pick (π := [0, 3]) (by decide) rfl hr, rfl, ao, cap, rfl, rfl⟩
  · rintro h' r ⟨ao, cap, rfl, rfl⟩
    refine ⟨Nat.le_of_ble_eq_true rfl, .vec (lenN hs) ao (upto stop (s.ps.map (·.2))).length cap, rfl, ?_⟩
    have := hN ao cap
    have e : putBack [l] hs [pkA b' ptE s, ⟨.sl ao cap, .vecL 45 6 encP6 (upto stop (s.ps.map (·.2))) PR.zero⟩] = snoc hs ⟨.sl ao cap, .vecL 45 6 encP6 (upto stop (s.ps.map (·.2))) PR.zero⟩ := by
      have e0 : setN hs l (pkA b' ptE s) = hs := by
        rw [nth_eq] at hl
        rw [setN_eq]
        exact List.ext_getElem? fun i => by
          rw [List.getElem?_set]
          split
          · rename_i e; subst e
            split
            · exact hl.symm
            · rename_i hlt
              exact absurd (List.getElem?_eq_some_iff.1 hl).1 hlt
          · rfl
      simp [putBack, appE_eq, snoc_eq, e0]
    rw [e]; exact this
end Go.Proofs.Ytihajdkipkfiiaa
