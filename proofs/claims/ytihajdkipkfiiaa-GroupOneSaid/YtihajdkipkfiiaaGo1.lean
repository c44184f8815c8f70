/- GroupOne: Members, Ints, known. -/
import Derived.Test.YtihajdkipkfiiaaGo1Run
import Derived.Test.YtihajdkipkfiiaaGn1Run
import Derived.Test.YtihajdkipkfiiaaGrp2
import Derived.Test.YtihajdkipkfiiaaLayG
namespace Go.Proofs.Ytihajdkipkfiiaa
open Go Go.RowKit
set_option linter.unusedVariables false
set_option linter.unusedSimpArgs false
set_option linter.unnecessarySimpa false
set_option maxHeartbeats 0

theorem ptKg_ok : AllOk Try.prog gTm0 := ⟨inl_ok trivial hmG Try.func96 (by kernel_rfl), srtI_ok rfl ⟨_, Try.func110, by kernel_rfl, _, rfl⟩ (fun w b rm nn D0 h1 h2 h3 => AnyZI.keys_gives (ρ := keysG_ren) { keysG with } Fence.wide _ trivial rfl (by omega) b rm nn D0 w h1 h2 h3), trivial⟩
theorem gTm_ok : AllOk Try.prog gTm := ⟨inl_ok ptKg_ok hmG Try.func73 (by kernel_rfl), ptKg_ok⟩
theorem gMembers_ok : CtrOk Try.prog 18 membersC := by
  intro args hs N h
  unfold membersC at h
  split at h
  case h_2 => exact h.elim
  rename_i l b name
  split at h
  case h_2 => exact h.elim
  rename_i b' σ' p s hl
  obtain ⟨rfl, rfl, hp, ⟨⟨nb, ms⟩, hx, hw⟩, hN⟩ := h
  cases hp
  simp only [cast_eq] at hx hN
  have hml : memL s name = sortI ms := by simp only [memL, hx]
  rw [hml] at hN
  refine Spec.at (hp := [pkA b' grpE s]) (args' := [.ptr 0 b' 0, .str name]) (Post' := fun h' r => ∃ ao cap, h' = [pkA b' grpE s, ⟨.sl ao cap, .vecL 3 1 encI1 (sortI ms) 0⟩] ∧ r = .vec 1 ao (sortI ms).length cap) [l] (by simp [distinct]) (by simp [pickE, hl, pkA]) ?_ rfl ?_
  · refine Spec.up ?_
    obtain ⟨x, y, hs, _, _⟩ := gs_split hx
    refine Spec.pre (hs' := [⟨.blk b', .cells [.map 1 s.bg, .map 2 s.bo, .vec 3 s.ao s.notes.length s.cap] 118⟩, ⟨.blk s.bg, .map1 none encG s.gs (.s name) (some (.map 4 nb))⟩, ⟨.blk s.bo, .mapL (some .i64) encO s.of⟩, ⟨.sl s.ao s.cap, .vecL 9 1 encS s.notes ByteArray.empty⟩, ⟨.blk nb, .mapL (some .i64) encU ms⟩, pk 0 (x.map setE ++ y.map setE)]) (fun W F w hr => Rep.know1 (l := 1) (.s name) (some (.map 4 nb)) rfl rfl (by rw [hx]; rfl) (grp_open hs hr.unpkA1)) rfl ?_
    refine Spec.of_G 12 Try.func18 (c := bodyOf Try.f18) (by kernel_rfl) (by kernel_rfl) (Nat.le_of_ble_eq_true rfl) fun W F => ?_
    refine G_run (kc := true) (ss := []) gTm_ok hmG 600 ?_
    rw [gMem_some]
    refine ⟨rfl, ⟨rfl, rfl, rfl⟩, rfl, rfl, rfl, fun b1 => ⟨rfl, rfl, ⟨rfl, rfl, rfl, hw⟩, fun ao cap => ?_⟩⟩
    refine ⟨[pkA b' grpE s, ⟨.sl ao cap, .vecL 3 1 encI1 (sortI ms) 0⟩], .vec 1 ao (sortI ms).length cap, fun W F w hr => ?_, rfl, ao, cap, rfl, rfl⟩
    have h1 := Rep.forget1 (l := 1) rfl hr
    have h2 := Rep.intoP (p := [⟨.blk b', .cells [.map 1 s.bg, .map 2 s.bo, .vec 3 s.ao s.notes.length s.cap] 118⟩, ⟨.blk s.bg, .mapL none encG s.gs⟩, ⟨.blk s.bo, .mapL (some .i64) encO s.of⟩, ⟨.sl s.ao s.cap, .vecL 9 1 encS s.notes ByteArray.empty⟩]) (t := [⟨.blk b1, .cells [.map 4 nb] 120⟩, ⟨.sl ao cap, .vecL 3 1 encI1 (sortI ms) 0⟩]) (e := setE (.s name, (nb, ms))) h1
    have h3 := Rep.pick (π := [0, 1, 2, 3, 4, 6]) (by decide) rfl h2
    have e : x.map setE ++ setE (.s name, (nb, ms)) :: y.map setE = s.gs.map setE := by rw [hs]; simp
    rw [e] at h3
    exact Rep.pkA (S := grpE) (s := s) (t := [⟨.sl ao cap, .vecL 3 1 encI1 (sortI ms) 0⟩]) h3
  · rintro h' r ⟨ao, cap, rfl, rfl⟩
    refine ⟨Nat.le_of_ble_eq_true rfl, .vec (lenN hs) ao (sortI ms).length cap, rfl, ?_⟩
    have := hN ao cap
    have e0 : setN hs l (pkA b' grpE s) = hs := setN_self hl
    simpa [putBack, appE_eq, snoc_eq, e0] using this
theorem ints_ok : CtrOk Try.prog 17 intsC := by
  intro args hs N h
  unfold intsC at h
  split at h
  case h_2 => exact h.elim
  rename_i l ao n cap l' ao' n' cap'
  obtain ⟨xs, h1, h2, ⟨hne, rfl, rfl, hx⟩, h⟩ := h
  refine Spec.at (hp := [⟨.sl ao cap, .vecL 3 1 encI1 xs 0⟩, ⟨.sl ao' cap', .vecL 3 1 encI1 xs 0⟩]) (args' := [.vec 0 ao xs.length cap, .vec 1 ao' xs.length cap']) (Post' := fun h' r => h' = [⟨.sl ao cap, .vecL 3 1 encI1 xs 0⟩, ⟨.sl ao' cap', .vecL 3 1 encI1 xs 0⟩] ∧ r = .bool true) [l, l'] (by simpa [distinct] using ne_of_beq hne) (by simp [pickE, h1, h2]) ?_ rfl ?_
  · refine Spec.up ?_
    refine Spec.of_G 26 Try.func17 (c := bodyOf Try.f17) (by kernel_rfl) (by kernel_rfl) (Nat.le_of_ble_eq_true rfl) fun W F => ?_
    refine G_run (kc := false) (ss := []) (Cs := []) trivial hmG 600 ?_
    rw [ints_run]
    have : ((xs.length : Int) != (xs.length : Int)) = false := by simp
    rw [this]
    refine G_loopAt (ι := Nat) [] (bodyOf Try.f17) [1, 1, 0, 1, 0] 26 (fun i => [(0, .vec 0 ao xs.length cap), (1, .vec 1 ao' xs.length cap'), (5, .int .i64 (i : Int))]) (fun i => [⟨.sl ao cap, .vecL 3 1 encI1 xs 0⟩, ⟨.sl ao' cap', .vecL 3 1 encI1 xs 0⟩]) (fun i => i ≤ xs.length) (fun i => xs.length - i) 0 (by kernel_rfl) (fun J => by kernel_rfl) (Nat.zero_le _) rfl ⟨rfl, rfl, rfl, trivial⟩ (fun w hw => hw) ?_
    intro i hi u
    try dsimp only at hi ⊢
    simp only [List.nil_append, List.cons_append]
    refine G_run (kc := false) (ss := []) (Cs := []) trivial hmG 900 ?_
    rw [ints_body]
    cases hlt : decide ((i : Int) < (xs.length : Int)) with
    | false => exact ⟨_, .bool true, fun W F w hr => hr, rfl, rfl, rfl⟩
    | true =>
      simp only [decide_eq_true_eq] at hlt
      have w1 : IntKind.wrap .i64 ((i : Int) + 1) = ((i + 1 : Nat) : Int) := IntWalk.i64_in _ (by omega)
      have e : (xs.getD (Int.toNat (i : Int)) 0 != xs.getD (Int.toNat (i : Int)) 0) = false := by simp
      refine ⟨⟨rfl, rfl, rfl, by omega, by omega⟩, ⟨rfl, rfl, rfl, by omega⟩, ⟨rfl, rfl, rfl, by omega, by omega⟩, ⟨rfl, rfl, rfl, by omega⟩, ?_⟩
      rw [e]
      exact G_back (i + 1) (by omega) (by omega) rfl ⟨rfl, rfl, congrArg (Value.int .i64) w1, trivial⟩ (fun w hw => hw)
  · rintro h' r ⟨rfl, rfl⟩
    refine ⟨Nat.le_refl _, _, rfl, ?_⟩
    simpa [putBack, appE_eq, setN_self h1, setN_self h2] using h
theorem gTb_ok : AllOk Try.prog gTb := ⟨gNew_ok, gMake_ok, gPut_ok, gGone_ok, gRemove_ok, gEmptied_ok, trivial⟩
theorem gOk_lit {s : Grp} {pid : Int} (h : s.notes.length ≤ 100000000) (h2 : (match mget s.of (.i .i64 pid) with | none => true | some n => (mget s.gs (.s n)).isSome) = true) : gOk s pid := by
  refine ⟨h, fun n hn => ?_⟩
  rw [hn] at h2
  exact Option.isSome_iff_exists.1 h2
theorem known9_ok : CtrOk Try.prog 12 trueC := by
  intro args hs N h
  unfold trueC at h
  split at h
  · refine Spec.lift (Φ := fun r => r = .bool true) ?_ (fun r hr => by rw [hr]; exact h)
    refine Spec.of_G 53 Try.func12 (c := bodyOf Try.f12) (by kernel_rfl) (by kernel_rfl) (Nat.le_of_ble_eq_true rfl) fun W F => ?_
    refine G_run (kc := false) (ss := []) gTb_ok hmG 3000 ?_
    rw [known9]
    repeat' first
      | exact rfl
      | exact HEq.rfl
      | exact gOk_lit (Nat.le_of_ble_eq_true rfl) rfl
      | (show List.Pairwise _ _; simp; done)
      | (refine fun _ => ?_)
      | apply And.intro
      | (refine ⟨rfl, ?_⟩)
      | fail
  · exact h.elim
theorem goT_ok : AllOk Try.prog goT := ⟨known9_ok, gMembers_ok, ints_ok, gTb_ok⟩
end Go.Proofs.Ytihajdkipkfiiaa
