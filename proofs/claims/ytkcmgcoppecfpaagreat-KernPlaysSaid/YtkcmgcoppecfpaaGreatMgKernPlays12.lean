import Derived.Test.YtkcmgcoppecfpaaGreatMgKernPlays9
import Derived.Test.YtkcmgcoppecfpaaGreatMgKernPlays11
import Derived.Test.YtkcmgcoppecfpaaGreatMgKernPlays6
import Derived.Test.YtkcmgcoppecfpaaGreatMgKernPlays5
import Derived.Test.YtkcmgcoppecfpaaGreatMgKernPlays8
set_option linter.unusedVariables false
set_option linter.unusedSimpArgs false
set_option linter.unnecessarySimpa false
set_option maxHeartbeats 0
set_option maxRecDepth 100000
/- KernPlays: datagrams, clocks of both. -/
namespace Go.Proofs.YtkcmgcoppecfpaaGreat
open Go Go.RowKit

theorem pSend_ok : CtrOk Tryz.prog 75 (adtC poE sendPM) := adt_ok fun b s rest N h => by
  unfold sendPM at h
  split at h
  case h_2 => exact h.elim
  rename_i pid text
  obtain ⟨hl, h⟩ := h
  refine Spec.pre (hs' := [⟨.blk b, .cells [.raw s.vm, .vec 1 s.ao s.ds.length s.cap, .int .i64 s.last] 145⟩, ⟨.sl s.ao s.cap, .vecL 168 2 encDG s.ds DG.zero⟩]) (args' := [.ptr 0 b 0, .int .i64 pid, .str text]) (fun W F w hr => hr) rfl ?_
  refine Spec.of_G 18 Tryz.func75 (c := bodyOf Tryz.f75) (by kernel_rfl) (by kernel_rfl) (Nat.le_of_ble_eq_true rfl) fun W F => ?_
  refine G_run (kc := false) (ss := []) (Cs := [(91, inl Tryz.prog [] true Tryz.f91 200)]) ⟨inl_ok trivial hmK Tryz.func91 (by kernel_rfl), trivial⟩ hmK 900 ?_
  rw [pse_run]
  unfold dgAdd at h
  have hln : (s.ds ++ [(⟨pid, text⟩ : DG)]).length = s.ds.length + 1 := by simp
  cases c1 : decide ((text.size : Int) > 200) with
  | true =>
    rw [c1] at h
    exact ⟨s, fun W F w hr => hr, h s.ao s.cap⟩
  | false =>
    cases c2 : decide ((s.ds.length : Int) ≥ 16) with
    | true =>
      rw [c1, c2] at h
      have fin1 : ∀ ex : List Ent, (fun h' res => ∃ s', (∀ W F w, Rep W F h' w → Rep W F (poE s' b) w) ∧ N s' res) ([⟨.blk b, .cells [.raw s.vm, .vec 1 s.ao s.ds.length s.cap, .int .i64 s.last] 145⟩, ⟨.sl s.ao s.cap, .vecL 168 2 encDG s.ds DG.zero⟩] ++ ex) (.int .i64 102) := fun ex => by
        refine ⟨s, fun W F w hr => ?_, h s.ao s.cap⟩
        exact Rep.dropR (h := [_, _]) hr
      repeat' first
        | exact rfl
        | exact trivial
        | exact fin1 []
        | exact fin1 [_]
        | apply And.intro
        | (show _ ≤ _; omega)
        | (show _ < _; omega)
        | (refine fun _ => ?_)
        | fail
    | false =>
      rw [c1, c2] at h
      have fin2 : ∀ (ao2 : Option Addr) (cap2 : Nat) (ex : List Ent), (fun h' res => ∃ s', (∀ W F w, Rep W F h' w → Rep W F (poE s' b) w) ∧ N s' res) ([⟨.blk b, .cells [.raw s.vm, .vec 1 ao2 (s.ds.length + 1) cap2, .int .i64 s.last] 145⟩, ⟨.sl ao2 cap2, .vecL 168 2 encDG (s.ds ++ [⟨pid, text⟩]) DG.zero⟩] ++ ex) (.int .i64 0) := fun ao2 cap2 ex => by
        refine ⟨_, fun W F w hr => ?_, h ao2 cap2⟩
        have h1 := Rep.dropR (h := [_, _]) hr
        unfold poE
        dsimp only
        rw [hln]
        exact h1
      repeat' first
        | exact rfl
        | exact trivial
        | exact fin2 _ _ [_, _]
        | exact fin2 _ _ [_]
        | exact Nat.le_refl _
        | (refine ⟨[⟨pid, text⟩], rfl, rfl, ?_⟩)
        | apply And.intro
        | (show _ ≤ _; omega)
        | (show _ < _; omega)
        | (refine fun _ => ?_)
        | fail

theorem sSend_ok : CtrOk Tryz.prog 76 (adtC sdE sendSM) := adt_ok fun b s rest N h => by
  unfold sendSM at h
  split at h
  case h_2 => exact h.elim
  rename_i pid text
  obtain ⟨hl, h⟩ := h
  refine Spec.pre (hs' := [⟨.blk b, .cells [.raw s.vm, .int .i64 s.nx, .vec 1 s.ao s.ds.length s.cap] 86⟩, ⟨.sl s.ao s.cap, .vecL 168 2 encDG s.ds DG.zero⟩]) (args' := [.ptr 0 b 0, .int .i64 pid, .str text]) (fun W F w hr => hr) rfl ?_
  refine Spec.of_G 41 Tryz.func76 (c := bodyOf Tryz.f76) (by kernel_rfl) (by kernel_rfl) (Nat.le_of_ble_eq_true rfl) fun W F => ?_
  refine G_run (kc := false) (ss := [200001]) (Cs := []) trivial hmK 900 ?_
  rw [rse_run]
  unfold dgAdd at h
  have hln : (s.ds ++ [(⟨pid, text⟩ : DG)]).length = s.ds.length + 1 := by simp
  cases c1 : decide ((text.size : Int) > 200) with
  | true =>
    rw [c1] at h
    exact ⟨s, fun W F w hr => hr, h s.ao s.cap⟩
  | false =>
    cases c2 : decide ((s.ds.length : Int) ≥ 16) with
    | true =>
      rw [c1, c2] at h
      have fin1 : ∀ ex : List Ent, (fun h' res => ∃ s', (∀ W F w, Rep W F h' w → Rep W F (sdE s' b) w) ∧ N s' res) ([⟨.blk b, .cells [.raw s.vm, .int .i64 s.nx, .vec 1 s.ao s.ds.length s.cap] 86⟩, ⟨.sl s.ao s.cap, .vecL 168 2 encDG s.ds DG.zero⟩] ++ ex) (.int .i64 102) := fun ex => by
        refine ⟨s, fun W F w hr => ?_, h s.ao s.cap⟩
        exact Rep.dropR (h := [_, _]) hr
      repeat' first
        | exact rfl
        | exact trivial
        | exact fin1 []
        | exact fin1 [_]
        | apply And.intro
        | (show _ ≤ _; omega)
        | (show _ < _; omega)
        | (refine fun _ => ?_)
        | fail
    | false =>
      rw [c1, c2] at h
      have fin2 : ∀ (ao2 : Option Addr) (cap2 : Nat) (ex : List Ent), (fun h' res => ∃ s', (∀ W F w, Rep W F h' w → Rep W F (sdE s' b) w) ∧ N s' res) ([⟨.blk b, .cells [.raw s.vm, .int .i64 s.nx, .vec 1 ao2 (s.ds.length + 1) cap2] 86⟩, ⟨.sl ao2 cap2, .vecL 168 2 encDG (s.ds ++ [⟨pid, text⟩]) DG.zero⟩] ++ ex) (.int .i64 0) := fun ao2 cap2 ex => by
        refine ⟨_, fun W F w hr => ?_, h ao2 cap2⟩
        have h1 := Rep.dropR (h := [_, _]) hr
        unfold sdE
        dsimp only
        rw [hln]
        exact h1
      repeat' first
        | exact rfl
        | exact trivial
        | exact fin2 _ _ [_, _]
        | exact fin2 _ _ [_]
        | exact Nat.le_refl _
        | (refine ⟨[⟨pid, text⟩], rfl, rfl, ?_⟩)
        | apply And.intro
        | (show _ ≤ _; omega)
        | (show _ < _; omega)
        | (refine fun _ => ?_)
        | fail

theorem radd_ok : CtrOk Tryz.prog 78 raddC := by
  intro args hs N h
  unfold raddC at h
  split at h
  · rename_i a c
    obtain ⟨⟨⟨ha1, ha2⟩, hc1, hc2⟩, h⟩ := h
    refine Spec.lift (Φ := fun r => r = .int .i64 (addS a c)) ?_ (fun r hr => by rw [hr]; exact h)
    refine Spec.of_G 33 Tryz.func78 (c := bodyOf Tryz.f78) (by kernel_rfl) (by kernel_rfl) (Nat.le_of_ble_eq_true rfl) fun W F => ?_
    refine G_run (kc := false) (ss := []) (Cs := []) trivial hmK 600 ?_
    rw [radd_run]
    have hw : IntKind.wrap .i64 (IntKind.wrap .u64 (IntKind.wrap .u64 a + IntKind.wrap .u64 c)) = IntKind.wrap .i64 (a + c) := by
      simp only [IntKind.wrap_i64, IntKind.wrap_u64]
      omega
    rw [hw]
    unfold addS foreverI
    have hs : IntKind.wrap .i64 (a + c) = (a + c) ∨ (a + c > 9223372036854775807 ∧ IntKind.wrap .i64 (a + c) = a + c - 18446744073709551616) ∨ (a + c < -9223372036854775808 ∧ IntKind.wrap .i64 (a + c) = a + c + 18446744073709551616) := by
      simp only [IntKind.wrap_i64]
      omega
    generalize IntKind.wrap .i64 (a + c) = z at hs ⊢
    cases h1 : a == 9223372036854775807 with
    | true => exact rfl
    | false =>
    cases h2 : c == 9223372036854775807 with
    | true => exact rfl
    | false =>
    simp only [beq_eq_false_iff_ne, ne_eq] at h1 h2
    simp only [Bool.or_self]
    rcases hs with rfl | ⟨hs1, rfl⟩ | ⟨hs1, rfl⟩
    · by_cases p1 : a < 0 <;> by_cases p2 : c < 0 <;> by_cases p3 : a + c < 0 <;> by_cases p4 : 0 < a <;> by_cases p5 : 0 < c <;> by_cases p6 : 0 ≤ a + c <;> first | omega | (simp [p1, p2, p3, p4, p5, p6]; done) | (simp [p1, p2, p3, p4, p5, p6]; omega)
    · have p1 : ¬ a < 0 := by omega
      have p2 : ¬ c < 0 := by omega
      have p3 : a + c - 18446744073709551616 < 0 := by omega
      have p4 : 0 < a := by omega
      have p5 : 0 < c := by omega
      simp [p1, p2, p3, p4, p5]
    · have p1 : a < 0 := by omega
      have p2 : c < 0 := by omega
      have p3 : ¬ a + c + 18446744073709551616 < 0 := by omega
      have p4 : ¬ 0 < a := by omega
      have p5 : ¬ 0 < c := by omega
      have p6 : 0 ≤ a + c + 18446744073709551616 := by omega
      simp [p1, p2, p3, p4, p5, p6]
  · exact h.elim

theorem rtick_ok : CtrOk Tryz.prog 34 rtickC := by
  intro args hs N h
  unfold rtickC at h
  split at h
  case h_2 => exact h.elim
  rename_i l b n
  split at h
  case h_2 => exact h.elim
  rename_i b' c0 c1 c2 c3 m w T h1
  obtain ⟨⟨rfl, rfl, hm, hw, hn⟩, hN⟩ := h
  refine Spec.at (hp := [⟨.blk b', .cells [c0, c1, c2, c3, .int .i64 m, .int .i64 w] 60⟩]) (args' := [.ptr 0 b' 0, .int .i64 n]) (Post' := fun h' res => match decide (n < 0) with
    | true => h' = [⟨.blk b', .cells [c0, c1, c2, c3, .int .i64 m, .int .i64 w] 60⟩] ∧ res = .int .i64 10
    | false => h' = [⟨.blk b', .cells [c0, c1, c2, c3, .int .i64 (addS m n), .int .i64 (addS w n)] 60⟩] ∧ res = .int .i64 0) [l] (by simp [distinct]) (by simp [pickE, h1]) ?_ rfl ?_
  · refine Spec.up ?_
    refine Spec.of_G 25 Tryz.func34 (c := bodyOf Tryz.f34) (by kernel_rfl) (by kernel_rfl) (Nat.le_of_ble_eq_true rfl) fun W F => ?_
    refine G_run (kc := true) (ss := [200001]) (Cs := [(78, raddC)]) ⟨radd_ok, trivial⟩ hmK 600 ?_
    rw [rtick_run]
    cases hd : decide (n < 0) with
    | true => exact ⟨_, .int .i64 10, fun W F w hr => hr, rfl, rfl, rfl⟩
    | false =>
      repeat' first
        | exact rfl
        | exact trivial
        | exact hm
        | exact hw
        | exact hn
        | exact ⟨_, .int .i64 0, fun W F w hr => hr, rfl, rfl, rfl⟩
        | apply And.intro
        | (show _ ≤ _; omega)
        | fail
  · rintro h' res hp
    cases hd : decide (n < 0) with
    | true =>
      rw [hd] at hp hN
      obtain ⟨rfl, rfl⟩ := hp
      refine ⟨Nat.le_of_ble_eq_true rfl, .int .i64 10, rfl, ?_⟩
      have e : putBack [l] hs [⟨.blk b', .cells [c0, c1, c2, c3, .int .i64 m, .int .i64 w] 60⟩] = hs := by
        simp only [putBack, appE_eq, List.append_nil]
        exact setN_selfA h1
      rw [e]; exact hN
    | false =>
      rw [hd] at hp hN
      obtain ⟨rfl, rfl⟩ := hp
      refine ⟨Nat.le_of_ble_eq_true rfl, .int .i64 0, rfl, ?_⟩
      have e : putBack [l] hs [⟨.blk b', .cells [c0, c1, c2, c3, .int .i64 (addS m n), .int .i64 (addS w n)] 60⟩] = setN hs l ⟨.blk b', .cells [c0, c1, c2, c3, .int .i64 (addS m n), .int .i64 (addS w n)] 60⟩ := by
        simp only [putBack, appE_eq, List.append_nil]
      rw [e]; exact hN
theorem newT11_ok : CtrOk Tryz.prog 63 newAnyC := by
  intro args hs N h
  unfold newAnyC at h
  split at h
  · refine Spec.at (hp := []) (args' := []) (Post' := fun h' r => h' = [] ∧ ∃ v, r = .raw (.pointer v)) [] rfl rfl ?_ rfl ?_
    · refine Spec.up ?_
      refine Spec.of_G 5 Tryz.func63 (c := bodyOf Tryz.f63) (by kernel_rfl) (by kernel_rfl) (Nat.le_of_ble_eq_true rfl) fun W F => ?_
      refine G_run (kc := false) (ss := []) (Cs := []) trivial hmK 600 ?_
      rw [r11_run]
      repeat' first
        | exact rfl
        | exact ⟨[], .raw (.pointer (some ⟨_, 0, none⟩)), fun W F w hr => Rep.dropR (h := []) hr, rfl, rfl, _, rfl⟩
        | apply And.intro
        | (show _ ≤ _; decide)
        | (show _ < _; decide)
        | (refine fun _ => ?_)
        | fail
    · rintro h' r ⟨rfl, v, rfl⟩
      refine ⟨Nat.le_refl _, _, rfl, ?_⟩
      simpa [putBack, appE_eq] using h v
  · exact h.elim
theorem newPo2_ok : CtrOk Tryz.prog 50 newPoC := by
  intro args hs N h
  unfold newPoC at h
  split at h
  · refine Spec.at (hp := []) (args' := []) (Post' := fun h' r => ∃ b vm, h' = [pkA b poE ⟨vm, none, 0, [], 0⟩] ∧ r = .ptr 0 b 0) [] rfl rfl ?_ rfl ?_
    · refine Spec.up ?_
      refine Spec.of_G 4 Tryz.func50 (c := bodyOf Tryz.f50) (by kernel_rfl) (by kernel_rfl) (Nat.le_of_ble_eq_true rfl) fun W F => ?_
      refine G_run (kc := false) (ss := []) (Cs := []) trivial hmK 600 ?_
      rw [pn_run]
      refine fun b => ⟨⟨rfl, rfl⟩, rfl, fun b1 => ⟨[pkA b1 poE ⟨den (.map 0 b), none, 0, [], 0⟩], .ptr 0 b1 0, fun W F w hr => ?_, rfl, b1, _, rfl, rfl⟩⟩
      have q1 := Rep.nilvec 168 (sz := 2) (enc := encDG) DG.zero (fun _ => rfl) hr
      have q2 := Rep.pick (π := [1, 2]) (by decide) rfl q1
      have q3 := Rep.cellsEq (l := 0) (cs' := [.raw (den (.map 0 b)), .vec 1 none 0 0, .int .i64 0]) rfl (by rfl) q2
      exact Rep.pkA1 (S := poE) (s := ⟨den (.map 0 b), none, 0, [], 0⟩) (b := b1) q3
    · rintro h' r ⟨b, vm, rfl, rfl⟩
      refine ⟨Nat.zero_le _, .ptr (lenN hs) b 0, rfl, ?_⟩
      simpa [putBack, appE_eq, snoc_eq] using h b vm
  · exact h.elim

theorem rkk_ok {b : Nat} {c2 c3 c4 c5 : SV} {bp bg : Nat} {s : RT} {r : RG} {g : ByteArray} {sig : Int} (ho : pOk s.t) (hr : rOk r) (hl : (rMem r.L g).length ≤ 100000) : Spec Tryz.prog 27 [⟨.blk b, .cells [.ptr 2 bp 0, .ptr 1 bg 0, c2, c3, c4, c5] 60⟩, pkA bg rgE r, pkA bp rtE s] [.ptr 0 b 0, .str g, .int .i64 sig] fun h' res => h' = [⟨.blk b, .cells [.ptr 2 bp 0, .ptr 1 bg 0, c2, c3, c4, c5] 60⟩, pkA bg rgE r, pkA bp rtE ⟨(kgAll s.t sig (rMem r.L g)).1, s.ao, s.cap⟩] ∧ res = .int .i64 (kgAll s.t sig (rMem r.L g)).2 := by
  refine Spec.up ?_
  refine Spec.of_G 36 Tryz.func27 (c := bodyOf Tryz.f27) (by kernel_rfl) (by kernel_rfl) (Nat.le_of_ble_eq_true rfl) fun W F => ?_
  refine G_run (kc := false) (ss := []) (Cs := [(45, rmembersC)]) ⟨rMem_ok, trivial⟩ hmK 300 ?_
  rw [rkk_start]
  refine ⟨rfl, rfl, rfl, rfl, HEq.rfl, hr, fun al cl => ?_⟩
  generalize hms : rMem r.L g = ms at hl ⊢
  refine G_loopAt (ι := Nat × PT × Int) [] (bodyOf Tryz.f27) [1, 1, 1, 0, 1, 0] 36 (fun x : Nat × PT × Int => [(0, .ptr 0 b 0), (2, .int .i64 sig), (7, .int .i64 x.2.2), (8, .vec 2 al ms.length cl), (9, .int .i64 (x.1 : Int))]) (fun x : Nat × PT × Int => [⟨.blk b, .cells [.ptr 3 bp 0, .ptr 1 bg 0, c2, c3, c4, c5] 60⟩, pkA bg rgE r, ⟨.sl al cl, .vecL 3 1 encI1 ms 0⟩, pkA bp rtE ⟨x.2.1, s.ao, s.cap⟩]) (fun x : Nat × PT × Int => x.1 ≤ ms.length ∧ pOk x.2.1 ∧ x.2 = (ms.take x.1).foldl (kgF sig) (s.t, 0) ∧ (0 ≤ x.2.2 ∧ x.2.2 ≤ (x.1 : Int))) (fun x => ms.length - x.1) (0, s.t, 0) (by kernel_rfl) (fun J => by kernel_rfl) ⟨Nat.zero_le _, ho, rfl, Int.le_refl _, Int.le_refl _⟩ rfl ⟨rfl, rfl, rfl, rfl, rfl, trivial⟩ (fun w hw => ?_) ?_
  · have q1 := Rep.pick (π := [0, 1, 3, 2]) (by decide) rfl hw
    exact Rep.cellsEq (l := 0) (cs' := [.ptr 3 bp 0, .ptr 1 bg 0, c2, c3, c4, c5]) rfl (by rfl) q1
  rintro ⟨i, t, n⟩ ⟨hi, ht, he, hn1, hn2⟩ u
  dsimp only at hi ht he hn1 hn2
  try dsimp only
  simp only [List.nil_append, List.cons_append]
  refine G_run (kc := true) (ss := [200003]) (Cs := [(26, adtC rtE raKillM)]) ⟨raKill_ok, trivial⟩ hmK 600 ?_
  rw [rkk_l (g := g)]
  cases hlt : decide ((i : Int) < (ms.length : Int)) with
  | false =>
    simp only [decide_eq_false_iff_not] at hlt
    have hil : i = ms.length := by omega
    subst hil
    rw [List.take_length] at he
    refine ⟨[⟨.blk b, .cells [.ptr 2 bp 0, .ptr 1 bg 0, c2, c3, c4, c5] 60⟩, pkA bg rgE r, pkA bp rtE ⟨(kgAll s.t sig ms).1, s.ao, s.cap⟩], .int .i64 (kgAll s.t sig ms).2, fun W F w hw => ?_, ?_, rfl, rfl⟩
    · have e : t = (kgAll s.t sig ms).1 := congrArg Prod.fst he
      rw [← e]
      have q1 := Rep.pick (π := [0, 1, 3]) (by decide) rfl hw
      exact Rep.cellsEq (l := 0) (cs' := [.ptr 2 bp 0, .ptr 1 bg 0, c2, c3, c4, c5]) rfl (by rfl) q1
    · have e : n = (kgAll s.t sig ms).2 := congrArg Prod.snd he
      rw [← e]
  | true =>
    simp only [decide_eq_true_eq] at hlt
    have hi2 : i < ms.length := by omega
    have hg : ∀ d, ms.getD i d = ms[i] := fun d => by simp [List.getD, hi2]
    have w1 : IntKind.wrap .i64 ((i : Int) + 1) = ((i + 1 : Nat) : Int) := IntWalk.i64_in _ (by omega)
    have w2 : IntKind.wrap .i64 (n + 1) = n + 1 := IntWalk.i64_in _ (by omega)
    rw [Int.toNat_natCast, hg]
    have hto : ms.take (i + 1) = ms.take i ++ [ms[i]] := List.take_succ_eq_append_getElem hi2
    have hst : (ms.take (i + 1)).foldl (kgF sig) (s.t, 0) = kgF sig (t, n) ms[i] := by rw [hto, List.foldl_append, ← he]; rfl
    have hpo := ht.kill ms[i] sig
    have back : ∀ (n' : Int) (tm : List SV), ((pKill t ms[i] sig).1, n') = kgF sig (t, n) ms[i] → 0 ≤ n' ∧ n' ≤ ((i + 1 : Nat) : Int) → lenN tm = 36 → liveOk tm [(0, .ptr 0 b 0), (2, .int .i64 sig), (7, .int .i64 n'), (8, .vec 2 al ms.length cl), (9, .int .i64 ((i + 1 : Nat) : Int))] → G Tryz.prog (endQ Tryz.prog Tryz.f27 W F fun h' res => ∃ h2 r2, (∀ W F w, Rep W F h' w → Rep W F h2 w) ∧ den res = den r2 ∧ (h2 = [⟨.blk b, .cells [.ptr 2 bp 0, .ptr 1 bg 0, c2, c3, c4, c5] 60⟩, pkA bg rgE r, pkA bp rtE ⟨(kgAll s.t sig ms).1, s.ao, s.cap⟩] ∧ r2 = .int .i64 (kgAll s.t sig ms).2)) W F (.loop (Back W F 36 (fun x : Nat × PT × Int => [(0, .ptr 0 b 0), (2, .int .i64 sig), (7, .int .i64 x.2.2), (8, .vec 2 al ms.length cl), (9, .int .i64 (x.1 : Int))]) (fun x : Nat × PT × Int => [⟨.blk b, .cells [.ptr 3 bp 0, .ptr 1 bg 0, c2, c3, c4, c5] 60⟩, pkA bg rgE r, ⟨.sl al cl, .vecL 3 1 encI1 ms 0⟩, pkA bp rtE ⟨x.2.1, s.ao, s.cap⟩]) (fun x : Nat × PT × Int => x.1 ≤ ms.length ∧ pOk x.2.1 ∧ x.2 = (ms.take x.1).foldl (kgF sig) (s.t, 0) ∧ (0 ≤ x.2.2 ∧ x.2.2 ≤ (x.1 : Int))) (fun x => ms.length - x.1) (ms.length - i)) :: .blk 0 :: frm [] (bodyOf Tryz.f27) [1, 1, 1, 1] []) ⟨tm, [⟨.blk b, .cells [.ptr 3 bp 0, .ptr 1 bg 0, c2, c3, c4, c5] 60⟩, pkA bg rgE r, ⟨.sl al cl, .vecL 3 1 encI1 ms 0⟩, pkA bp rtE ⟨(pKill t ms[i] sig).1, s.ao, s.cap⟩]⟩ := fun n' tm e1 e2 g1 g2 => G_back (i + 1, (pKill t ms[i] sig).1, n') ⟨by dsimp only; omega, hpo, by dsimp only; rw [hst, ← e1], e2.1, e2.2⟩ (by dsimp only; omega) g1 g2 (fun w hw => hw)
    have hkf : kgF sig (t, n) ms[i] = ((pKill t ms[i] sig).1, match (pKill t ms[i] sig).2 == 0 with | true => n + 1 | false => n) := rfl
    rw [w1, w2]
    cases hk : (pKill t ms[i] sig).2 == 0 with
    | true =>
      rw [hk] at hkf
      repeat' first
        | exact back (n + 1) _ hkf.symm ⟨by omega, by omega⟩ rfl ⟨rfl, rfl, rfl, rfl, rfl, trivial⟩
        | exact rfl
        | exact trivial
        | exact HEq.rfl
        | exact ht
        | exact hi2
        | apply And.intro
        | (refine ⟨rfl, ?_⟩)
        | (show _ ≤ _; omega)
        | (show _ < _; omega)
        | fail
    | false =>
      rw [hk] at hkf
      repeat' first
        | exact back n _ hkf.symm ⟨by omega, by omega⟩ rfl ⟨rfl, rfl, rfl, rfl, rfl, trivial⟩
        | exact rfl
        | exact trivial
        | exact HEq.rfl
        | exact ht
        | exact hi2
        | apply And.intro
        | (refine ⟨rfl, ?_⟩)
        | (show _ ≤ _; omega)
        | (show _ < _; omega)
        | fail
theorem rkillG_ok : CtrOk Tryz.prog 27 rkillGC := by
  intro args hs N h
  unfold rkillGC at h
  split at h
  case h_2 => exact h.elim
  rename_i l b g sig
  split at h
  case h_2 => exact h.elim
  rename_i b' lp bp lg bg c2 c3 c4 c5 T h1
  obtain ⟨⟨rfl, rfl, hd⟩, h⟩ := h
  split at h
  case h_2 => exact h.elim
  rename_i bp' σp pp s h2
  split at h
  case h_2 => exact h.elim
  rename_i bg' σg pg r h3
  obtain ⟨⟨rfl, rfl⟩, rfl, rfl, hpp, hpg, ⟨q1, q2, q3⟩, hN⟩ := h
  obtain rfl := eq_of_heq hpp
  obtain rfl := eq_of_heq hpg
  simp only [cast_eq] at q1 q2 q3 hN
  have hp' : nth hs lp = some (pkA bp' rtE s) := h2
  have hg' : nth hs lg = some (pkA bg' rgE r) := h3
  refine Spec.at (hp := [⟨.blk b', .cells [.ptr lp bp' 0, .ptr lg bg' 0, c2, c3, c4, c5] 60⟩, pkA bg' rgE r, pkA bp' rtE s]) (args' := [.ptr 0 b' 0, .str g, .int .i64 sig]) (Post' := fun h' res => h' = [⟨.blk b', .cells [.ptr lp bp' 0, .ptr lg bg' 0, c2, c3, c4, c5] 60⟩, pkA bg' rgE r, pkA bp' rtE ⟨(kgAll s.t sig (rMem r.L g)).1, s.ao, s.cap⟩] ∧ res = .int .i64 (kgAll s.t sig (rMem r.L g)).2) [l, lg, lp] hd (by simp [pickE, h1, hp', hg']) ?_ rfl ?_
  · refine Spec.up ?_
    intro W F w hr
    have g1 := Rep.cellsEq (l := 0) (cs' := [.ptr 2 bp' 0, .ptr 1 bg' 0, c2, c3, c4, c5]) rfl (by rfl) hr
    refine Calls.mono (rkk_ok q1 q2 q3 W F w g1) ?_
    rintro e w' ⟨h', res, ⟨rfl, rfl⟩, rfl, hr'⟩
    exact ⟨_, _, ⟨_, _, fun W F w hr => Rep.cellsEq (l := 0) (cs' := [.ptr lp bp' 0, .ptr lg bg' 0, c2, c3, c4, c5]) rfl (by rfl) hr, rfl, rfl, rfl⟩, rfl, hr'⟩
  · rintro h' res ⟨rfl, rfl⟩
    refine ⟨Nat.le_refl _, _, rfl, ?_⟩
    simp only [distinct, Bool.and_eq_true, Bool.not_eq_true', List.contains_eq_any_beq, List.any_cons, List.any_nil, Bool.or_false, Bool.or_eq_false_iff, beq_eq_false_iff_ne, ne_eq, Bool.and_true, List.elem_cons, List.elem_nil] at hd
    simp only [putBack, appE_eq, List.append_nil]
    rw [setN_selfA h1, setN_selfA hg']
    exact hN
end Go.Proofs.YtkcmgcoppecfpaaGreat

namespace Go.Proofs.YtkcmgcoppecfpaaGreat
open Go Go.RowKit

theorem al_start (K : List Frm → Sy → Prop) (X : Code → Sy → Prop) (E : Sy → Prop) (s : PT) (b bt : Nat) (fv : Value) (R : Nat → List Ent) (Stop : PT → List Ent → Prop) : (runR Tryz.prog ptG (all1Y fv s b R Stop) true [] K X E 300 [.code (bodyOf Tryz.f79)] ⟨padTo 32 [.raw fv, .ptr 3 bt 0], [⟨.blk b, .cells [.map 1 s.bm, .int .i64 s.room, .int .i64 s.last] 119⟩, ⟨.blk s.bm, .mapL (some .i64) encB1 (s.ps.map pkey)⟩, pk 0 (s.ps.map procE), ⟨.blk bt, .cells [.ptr 0 b 0] 42⟩, pk 0 (R 0)]⟩) = ( bt = bt ∧ b = b ∧ true = true ∧ true = true ∧ ∀ (b_1 : Nat), true = true ∧ 94 = 94 ∧ (b_1 = b_1 ∧ s.1 = s.1 ∧ some IntKind.i64 = some IntKind.i64 ∧ wfI (List.map pkey s.2)) ∧ ∀ (ao : Option Addr) (cap : Nat), K (frm [] (bodyOf Tryz.f79) [1, 0] []) (Sy.mk (SV.raw fv :: (SV.ptr 3 bt 0 :: (rawE (SV.ptr 0 b 0 :: (SV.ptr 0 b 0 :: (SV.ptr 0 b 0 :: (SV.map 1 s.1 :: (SV.func (Fn.func 94) [] [SV.ptr 5 b_1 0] :: (SV.vec 6 ao (List.length (sortI (List.map pkey s.2))) cap :: (SV.int .i64 (↑(List.length (sortI (List.map pkey s.2))) : Int) :: (SV.int .i64 (0 : Int) :: (rawE [] 17))))))))) 5))) [Ent.mk (Loc.blk b) (SObj.cells [SV.map 1 s.1, SV.int .i64 s.3, SV.int .i64 s.4] 119), Ent.mk (Loc.blk s.1) (SObj.mapL (some IntKind.i64) encB1 (List.map pkey s.2)), pk 0 (List.map procE s.2), Ent.mk (Loc.blk bt) (SObj.cells [SV.ptr 0 b 0] 42), pk 0 (R 0), Ent.mk (Loc.blk b_1) (SObj.cells [SV.map 1 s.1] 117), Ent.mk (Loc.sl ao cap) (SObj.vecL 3 1 encI1 (sortI (List.map pkey s.2)) (0 : Int))])) := by kernel_rfl
theorem al_body (K : List Frm → Sy → Prop) (X : Code → Sy → Prop) (E : Sy → Prop) (J : Act → World → Prop) (s : PT) (b bt : Nat) (fv : Value) (R : Nat → List Ent) (Stop : PT → List Ent → Prop) (aok : Option Addr) (capk : Nat) (ks : List Int) (i : Nat) (u : Nat → Value) : (runR Tryz.prog ptG (all1Y fv s b R Stop) true [] K X E 900 (frm [J] (bodyOf Tryz.f79) [1, 0, 0] []) ⟨mkT u 32 0 [(0, .raw fv), (1, .ptr 1 bt 0), (12, .vec 3 aok ks.length capk), (13, .int .i64 (ks.length : Int)), (14, .int .i64 (i : Int))], [pkA b ptE s, ⟨.blk bt, .cells [.ptr 0 b 0] 42⟩, pk 0 (R i), ⟨.sl aok capk, .vecL 3 1 encI1 ks 0⟩]⟩) = ( match decide ((↑i : Int) < (↑(List.length ks) : Int)) with
 | true => (aok = aok ∧ capk = capk ∧ List.length ks = List.length ks ∧ (0 : Int) ≤ (↑i : Int) ∧ (↑i : Int) < (↑(List.length ks) : Int)) ∧ (Addr.blkD aok = Addr.blkD aok ∧ Addr.offD aok = Addr.offD aok ∧ 1 = 1 ∧ Int.toNat (↑i : Int) < List.length ks) ∧ bt = bt ∧ true = true ∧ b = b ∧ ∃ (h : PT = PT), AdtIs (fun (s : PT) (b : Nat) ↦ packs (ptE s b)) ptE ∧ pOk s ∧ ∀ (b_1 : Nat), (b_1 = b_1 ∧ true = true ∧ 6 = 6 ∧ 6 ≤ 6) ∧ match pHas s (List.getD ks (Int.toNat (↑i : Int)) (0 : Int)) with
  | true => (b_1 = b_1 ∧ 6 = 6) ∧ fv = fv ∧ ∃ (i_1 : Nat), ∃ (x : Nat × PR), s.2[i_1]? = some x ∧ [SV.agg [SV.int .i64 (pGet s (List.getD ks (Int.toNat (↑i : Int)) (0 : Int))).1, SV.int .i64 (pGet s (List.getD ks (Int.toNat (↑i : Int)) (0 : Int))).2, SV.str (pGet s (List.getD ks (Int.toNat (↑i : Int)) (0 : Int))).3, SV.bool (pGet s (List.getD ks (Int.toNat (↑i : Int)) (0 : Int))).4, SV.int .i64 (pGet s (List.getD ks (Int.toNat (↑i : Int)) (0 : Int))).5, SV.str (pGet s (List.getD ks (Int.toNat (↑i : Int)) (0 : Int))).6]] = [SV.agg [SV.int .i64 x.2.1, SV.int .i64 x.2.2, SV.str x.2.3, SV.bool x.2.4, SV.int .i64 x.2.5, SV.str x.2.6]] ∧ pkA b ptE s = pkA b ptE s ∧ pk 0 (R i) = pk 0 (R i_1) ∧ K [Frm.loop J, Frm.blk 0] (Sy.mk (SV.raw fv :: (SV.ptr 1 bt 0 :: (SV.raw (u 2) :: (SV.raw (u 3) :: (SV.int .i64 (List.getD ks (Int.toNat (↑i : Int)) (0 : Int)) :: (SV.ptr 4 b_1 0 :: (SV.bool (pHas s (List.getD ks (Int.toNat (↑i : Int)) (0 : Int))) :: (rawR u 7 (SV.vec 3 aok (List.length ks) capk :: (SV.int .i64 (↑(List.length ks) : Int) :: (SV.int .i64 (IntKind.wrap IntKind.i64 ((↑i : Int) + (1 : Int))) :: (SV.bool true :: (SV.eptr 3 (Addr.blkD aok) (Addr.offD aok) 1 (Int.toNat (↑i : Int)) 0 :: (SV.int .i64 (List.getD ks (Int.toNat (↑i : Int)) (0 : Int)) :: (SV.tuple [SV.agg [SV.int .i64 (pGet s (List.getD ks (Int.toNat (↑i : Int)) (0 : Int))).1, SV.int .i64 (pGet s (List.getD ks (Int.toNat (↑i : Int)) (0 : Int))).2, SV.str (pGet s (List.getD ks (Int.toNat (↑i : Int)) (0 : Int))).3, SV.bool (pGet s (List.getD ks (Int.toNat (↑i : Int)) (0 : Int))).4, SV.int .i64 (pGet s (List.getD ks (Int.toNat (↑i : Int)) (0 : Int))).5, SV.str (pGet s (List.getD ks (Int.toNat (↑i : Int)) (0 : Int))).6], SV.bool (pHas s (List.getD ks (Int.toNat (↑i : Int)) (0 : Int)))] :: (SV.ptr 0 b 0 :: (SV.int .i64 (List.getD ks (Int.toNat (↑i : Int)) (0 : Int)) :: (SV.tuple [SV.agg [SV.int .i64 (pGet s (List.getD ks (Int.toNat (↑i : Int)) (0 : Int))).1, SV.int .i64 (pGet s (List.getD ks (Int.toNat (↑i : Int)) (0 : Int))).2, SV.str (pGet s (List.getD ks (Int.toNat (↑i : Int)) (0 : Int))).3, SV.bool (pGet s (List.getD ks (Int.toNat (↑i : Int)) (0 : Int))).4, SV.int .i64 (pGet s (List.getD ks (Int.toNat (↑i : Int)) (0 : Int))).5, SV.str (pGet s (List.getD ks (Int.toNat (↑i : Int)) (0 : Int))).6], SV.bool (pHas s (List.getD ks (Int.toNat (↑i : Int)) (0 : Int)))] :: (SV.agg [SV.int .i64 (pGet s (List.getD ks (Int.toNat (↑i : Int)) (0 : Int))).1, SV.int .i64 (pGet s (List.getD ks (Int.toNat (↑i : Int)) (0 : Int))).2, SV.str (pGet s (List.getD ks (Int.toNat (↑i : Int)) (0 : Int))).3, SV.bool (pGet s (List.getD ks (Int.toNat (↑i : Int)) (0 : Int))).4, SV.int .i64 (pGet s (List.getD ks (Int.toNat (↑i : Int)) (0 : Int))).5, SV.str (pGet s (List.getD ks (Int.toNat (↑i : Int)) (0 : Int))).6] :: (SV.bool (pHas s (List.getD ks (Int.toNat (↑i : Int)) (0 : Int))) :: (SV.bool (pHas s (List.getD ks (Int.toNat (↑i : Int)) (0 : Int))) :: (SV.bool true :: (SV.raw fv :: (SV.agg [SV.int .i64 (pGet s (List.getD ks (Int.toNat (↑i : Int)) (0 : Int))).1, SV.int .i64 (pGet s (List.getD ks (Int.toNat (↑i : Int)) (0 : Int))).2, SV.str (pGet s (List.getD ks (Int.toNat (↑i : Int)) (0 : Int))).3, SV.bool (pGet s (List.getD ks (Int.toNat (↑i : Int)) (0 : Int))).4, SV.int .i64 (pGet s (List.getD ks (Int.toNat (↑i : Int)) (0 : Int))).5, SV.str (pGet s (List.getD ks (Int.toNat (↑i : Int)) (0 : Int))).6] :: (SV.bool true :: (SV.bool false :: (SV.bool false :: (SV.int .i64 (IntKind.wrap IntKind.i64 ((↑i : Int) + (1 : Int))) :: [])))))))))))))))))))) 5)))))))) [pkA b ptE s, Ent.mk (Loc.blk bt) (SObj.cells [SV.ptr 0 b 0] 42), pk 0 (R (i_1 + 1)), Ent.mk (Loc.sl aok capk) (SObj.vecL 3 1 encI1 ks (0 : Int)), Ent.mk (Loc.blk b_1) (SObj.cells [SV.int .i64 (pGet s (List.getD ks (Int.toNat (↑i : Int)) (0 : Int))).1, SV.int .i64 (pGet s (List.getD ks (Int.toNat (↑i : Int)) (0 : Int))).2, SV.str (pGet s (List.getD ks (Int.toNat (↑i : Int)) (0 : Int))).3, SV.bool (pGet s (List.getD ks (Int.toNat (↑i : Int)) (0 : Int))).4, SV.int .i64 (pGet s (List.getD ks (Int.toNat (↑i : Int)) (0 : Int))).5, SV.str (pGet s (List.getD ks (Int.toNat (↑i : Int)) (0 : Int))).6] 38)]) ∧ ∀ (s' : PT) (R' : List Ent), Stop s' R' → X Code.ret (Sy.mk (SV.raw fv :: (SV.ptr 1 bt 0 :: (SV.raw (u 2) :: (SV.raw (u 3) :: (SV.int .i64 (List.getD ks (Int.toNat (↑i : Int)) (0 : Int)) :: (SV.ptr 4 b_1 0 :: (SV.bool (pHas s (List.getD ks (Int.toNat (↑i : Int)) (0 : Int))) :: (rawR u 7 (SV.vec 3 aok (List.length ks) capk :: (SV.int .i64 (↑(List.length ks) : Int) :: (SV.int .i64 (↑i : Int) :: (SV.bool true :: (SV.eptr 3 (Addr.blkD aok) (Addr.offD aok) 1 (Int.toNat (↑i : Int)) 0 :: (SV.int .i64 (List.getD ks (Int.toNat (↑i : Int)) (0 : Int)) :: (SV.tuple [SV.agg [SV.int .i64 (pGet s (List.getD ks (Int.toNat (↑i : Int)) (0 : Int))).1, SV.int .i64 (pGet s (List.getD ks (Int.toNat (↑i : Int)) (0 : Int))).2, SV.str (pGet s (List.getD ks (Int.toNat (↑i : Int)) (0 : Int))).3, SV.bool (pGet s (List.getD ks (Int.toNat (↑i : Int)) (0 : Int))).4, SV.int .i64 (pGet s (List.getD ks (Int.toNat (↑i : Int)) (0 : Int))).5, SV.str (pGet s (List.getD ks (Int.toNat (↑i : Int)) (0 : Int))).6], SV.bool (pHas s (List.getD ks (Int.toNat (↑i : Int)) (0 : Int)))] :: (SV.ptr 0 b 0 :: (SV.int .i64 (List.getD ks (Int.toNat (↑i : Int)) (0 : Int)) :: (SV.tuple [SV.agg [SV.int .i64 (pGet s (List.getD ks (Int.toNat (↑i : Int)) (0 : Int))).1, SV.int .i64 (pGet s (List.getD ks (Int.toNat (↑i : Int)) (0 : Int))).2, SV.str (pGet s (List.getD ks (Int.toNat (↑i : Int)) (0 : Int))).3, SV.bool (pGet s (List.getD ks (Int.toNat (↑i : Int)) (0 : Int))).4, SV.int .i64 (pGet s (List.getD ks (Int.toNat (↑i : Int)) (0 : Int))).5, SV.str (pGet s (List.getD ks (Int.toNat (↑i : Int)) (0 : Int))).6], SV.bool (pHas s (List.getD ks (Int.toNat (↑i : Int)) (0 : Int)))] :: (SV.agg [SV.int .i64 (pGet s (List.getD ks (Int.toNat (↑i : Int)) (0 : Int))).1, SV.int .i64 (pGet s (List.getD ks (Int.toNat (↑i : Int)) (0 : Int))).2, SV.str (pGet s (List.getD ks (Int.toNat (↑i : Int)) (0 : Int))).3, SV.bool (pGet s (List.getD ks (Int.toNat (↑i : Int)) (0 : Int))).4, SV.int .i64 (pGet s (List.getD ks (Int.toNat (↑i : Int)) (0 : Int))).5, SV.str (pGet s (List.getD ks (Int.toNat (↑i : Int)) (0 : Int))).6] :: (SV.bool (pHas s (List.getD ks (Int.toNat (↑i : Int)) (0 : Int))) :: (SV.bool (pHas s (List.getD ks (Int.toNat (↑i : Int)) (0 : Int))) :: (SV.bool true :: (SV.raw fv :: (SV.agg [SV.int .i64 (pGet s (List.getD ks (Int.toNat (↑i : Int)) (0 : Int))).1, SV.int .i64 (pGet s (List.getD ks (Int.toNat (↑i : Int)) (0 : Int))).2, SV.str (pGet s (List.getD ks (Int.toNat (↑i : Int)) (0 : Int))).3, SV.bool (pGet s (List.getD ks (Int.toNat (↑i : Int)) (0 : Int))).4, SV.int .i64 (pGet s (List.getD ks (Int.toNat (↑i : Int)) (0 : Int))).5, SV.str (pGet s (List.getD ks (Int.toNat (↑i : Int)) (0 : Int))).6] :: (SV.bool false :: (SV.bool true :: (SV.bool true :: (SV.raw (u 31) :: [])))))))))))))))))))) 5)))))))) [pkA b ptE s', Ent.mk (Loc.blk bt) (SObj.cells [SV.ptr 0 b 0] 42), pk 0 R', Ent.mk (Loc.sl aok capk) (SObj.vecL 3 1 encI1 ks (0 : Int)), Ent.mk (Loc.blk b_1) (SObj.cells [SV.int .i64 (pGet s (List.getD ks (Int.toNat (↑i : Int)) (0 : Int))).1, SV.int .i64 (pGet s (List.getD ks (Int.toNat (↑i : Int)) (0 : Int))).2, SV.str (pGet s (List.getD ks (Int.toNat (↑i : Int)) (0 : Int))).3, SV.bool (pGet s (List.getD ks (Int.toNat (↑i : Int)) (0 : Int))).4, SV.int .i64 (pGet s (List.getD ks (Int.toNat (↑i : Int)) (0 : Int))).5, SV.str (pGet s (List.getD ks (Int.toNat (↑i : Int)) (0 : Int))).6] 38)])
  | false => K [Frm.loop J, Frm.blk 0] (Sy.mk (SV.raw fv :: (SV.ptr 1 bt 0 :: (SV.raw (u 2) :: (SV.raw (u 3) :: (SV.int .i64 (List.getD ks (Int.toNat (↑i : Int)) (0 : Int)) :: (SV.ptr 4 b_1 0 :: (SV.bool (pHas s (List.getD ks (Int.toNat (↑i : Int)) (0 : Int))) :: (rawR u 7 (SV.vec 3 aok (List.length ks) capk :: (SV.int .i64 (↑(List.length ks) : Int) :: (SV.int .i64 (IntKind.wrap IntKind.i64 ((↑i : Int) + (1 : Int))) :: (SV.bool true :: (SV.eptr 3 (Addr.blkD aok) (Addr.offD aok) 1 (Int.toNat (↑i : Int)) 0 :: (SV.int .i64 (List.getD ks (Int.toNat (↑i : Int)) (0 : Int)) :: (SV.tuple [SV.agg [SV.int .i64 (pGet s (List.getD ks (Int.toNat (↑i : Int)) (0 : Int))).1, SV.int .i64 (pGet s (List.getD ks (Int.toNat (↑i : Int)) (0 : Int))).2, SV.str (pGet s (List.getD ks (Int.toNat (↑i : Int)) (0 : Int))).3, SV.bool (pGet s (List.getD ks (Int.toNat (↑i : Int)) (0 : Int))).4, SV.int .i64 (pGet s (List.getD ks (Int.toNat (↑i : Int)) (0 : Int))).5, SV.str (pGet s (List.getD ks (Int.toNat (↑i : Int)) (0 : Int))).6], SV.bool (pHas s (List.getD ks (Int.toNat (↑i : Int)) (0 : Int)))] :: (SV.ptr 0 b 0 :: (SV.int .i64 (List.getD ks (Int.toNat (↑i : Int)) (0 : Int)) :: (SV.tuple [SV.agg [SV.int .i64 (pGet s (List.getD ks (Int.toNat (↑i : Int)) (0 : Int))).1, SV.int .i64 (pGet s (List.getD ks (Int.toNat (↑i : Int)) (0 : Int))).2, SV.str (pGet s (List.getD ks (Int.toNat (↑i : Int)) (0 : Int))).3, SV.bool (pGet s (List.getD ks (Int.toNat (↑i : Int)) (0 : Int))).4, SV.int .i64 (pGet s (List.getD ks (Int.toNat (↑i : Int)) (0 : Int))).5, SV.str (pGet s (List.getD ks (Int.toNat (↑i : Int)) (0 : Int))).6], SV.bool (pHas s (List.getD ks (Int.toNat (↑i : Int)) (0 : Int)))] :: (SV.agg [SV.int .i64 (pGet s (List.getD ks (Int.toNat (↑i : Int)) (0 : Int))).1, SV.int .i64 (pGet s (List.getD ks (Int.toNat (↑i : Int)) (0 : Int))).2, SV.str (pGet s (List.getD ks (Int.toNat (↑i : Int)) (0 : Int))).3, SV.bool (pGet s (List.getD ks (Int.toNat (↑i : Int)) (0 : Int))).4, SV.int .i64 (pGet s (List.getD ks (Int.toNat (↑i : Int)) (0 : Int))).5, SV.str (pGet s (List.getD ks (Int.toNat (↑i : Int)) (0 : Int))).6] :: (SV.bool (pHas s (List.getD ks (Int.toNat (↑i : Int)) (0 : Int))) :: (SV.bool (pHas s (List.getD ks (Int.toNat (↑i : Int)) (0 : Int))) :: (SV.bool false :: (rawE (SV.bool false :: (SV.int .i64 (IntKind.wrap IntKind.i64 ((↑i : Int) + (1 : Int))) :: [])) 4))))))))))))))) 5)))))))) [pkA b ptE s, Ent.mk (Loc.blk bt) (SObj.cells [SV.ptr 0 b 0] 42), pk 0 (R i), Ent.mk (Loc.sl aok capk) (SObj.vecL 3 1 encI1 ks (0 : Int)), Ent.mk (Loc.blk b_1) (SObj.cells [SV.int .i64 (pGet s (List.getD ks (Int.toNat (↑i : Int)) (0 : Int))).1, SV.int .i64 (pGet s (List.getD ks (Int.toNat (↑i : Int)) (0 : Int))).2, SV.str (pGet s (List.getD ks (Int.toNat (↑i : Int)) (0 : Int))).3, SV.bool (pGet s (List.getD ks (Int.toNat (↑i : Int)) (0 : Int))).4, SV.int .i64 (pGet s (List.getD ks (Int.toNat (↑i : Int)) (0 : Int))).5, SV.str (pGet s (List.getD ks (Int.toNat (↑i : Int)) (0 : Int))).6] 38)])
 | false => E (Sy.mk (SV.raw fv :: (SV.ptr 1 bt 0 :: (rawR u 2 (SV.vec 3 aok (List.length ks) capk :: (SV.int .i64 (↑(List.length ks) : Int) :: (SV.int .i64 (↑i : Int) :: (SV.bool false :: (rawR u 16 [] 16))))) 10))) [pkA b ptE s, Ent.mk (Loc.blk bt) (SObj.cells [SV.ptr 0 b 0] 42), pk 0 (R i), Ent.mk (Loc.sl aok capk) (SObj.vecL 3 1 encI1 ks (0 : Int))])) := by kernel_rfl
end Go.Proofs.YtkcmgcoppecfpaaGreat

/- proc.Table: All. -/
namespace Go.Proofs.YtkcmgcoppecfpaaGreat
open Go Go.RowKit

open Go.Maps Go.Sort Go.Shelf
theorem getP_at {ps : List (Nat × PR)} (ha : ps.Pairwise fun x y => x.2.pid < y.2.pid) {i : Nat} (h : i < ps.length) : getP ps ps[i].2.pid = some ps[i] := by
  unfold getP
  rw [List.find?_eq_some_iff_append]
  refine ⟨by simp, ps.take i, ps.drop (i + 1), ?_, fun y hy => ?_⟩
  · rw [List.getElem_cons_drop, List.take_append_drop]
  · obtain ⟨j, hj, rfl⟩ := List.mem_iff_getElem.1 hy
    rw [List.getElem_take]
    have hj2 : j < i := by simp at hj; omega
    have := List.pairwise_iff_getElem.1 ha j i (by omega) h hj2
    simp; omega
theorem pOk.wf {s : PT} (ho : pOk s) : wfI (s.ps.map pkey) := by
  refine ⟨?_, by have := ho.len; simp; omega, fun e he => ?_⟩
  · unfold keysOk
    rw [List.pairwise_map]
    refine ho.asc.imp fun {x y} h => ?_
    simp [pkey, keyEq]; omega
  · obtain ⟨x, hx, rfl⟩ := List.mem_map.1 he
    have h1 := ho.le x hx
    have h2 := ho.last
    simp only [pkey, keyInt, Lit.wf, Bool.and_eq_true, decide_eq_true_eq]
    constructor
    · exact decide_eq_true (show (-9223372036854775808 : Int) ≤ _ by omega)
    · exact decide_eq_true (show _ ≤ (9223372036854775807 : Int) by omega)
theorem pOk.sort {s : PT} (ho : pOk s) : sortI (s.ps.map pkey) = s.ps.map fun x => x.2.pid := by
  unfold sortI
  have e : (s.ps.map pkey).map (fun e => keyInt e.1) = s.ps.map fun x => x.2.pid := by rw [List.map_map]; rfl
  rw [e]
  refine List.mergeSort_of_pairwise ?_
  rw [List.pairwise_map]
  exact ho.asc.imp fun {x y} h => by simp [leI]; omega

theorem ptK_ok : AllOk Tryz.prog ptK := ⟨inl_ok trivial hmP Tryz.func81 (by kernel_rfl), srtI_ok rfl ⟨_, Tryz.func94, by kernel_rfl, _, rfl⟩ (fun w b rm nn D0 h1 h2 h3 => AnyZI.keys_gives (ρ := keysP_ren) { keysP with } Fence.wide _ trivial rfl (by omega) b rm nn D0 w h1 h2 h3), trivial⟩
theorem ptG_ok : AllOk Tryz.prog ptG := ⟨pGet_ok, ptK_ok⟩

def OneV (fv : Value) (s : PT) (b : Nat) (R : Nat → List Ent) (Stop : PT → List Ent → Prop) : Prop := ∀ i x, s.ps[i]? = some x → VSpec Tryz.prog fv [pkA b ptE s, pk 0 (R i)] [.agg (encP6 x.2)] fun h r => (h = [pkA b ptE s, pk 0 (R (i + 1))] ∧ r = .bool true) ∨ ∃ s' R', Stop s' R' ∧ h = [pkA b ptE s', pk 0 R'] ∧ r = .bool false
theorem all1Y_ok {fv : Value} {s : PT} {b : Nat} {R : Nat → List Ent} {Stop : PT → List Ent → Prop} (hV : OneV fv s b R Stop) : YOk Tryz.prog (all1Y fv s b R Stop) := by
  rintro v args hs N ⟨rfl, h⟩
  split at h
  case h_2 => exact h.elim
  rename_i e0 e1 e2 rest
  obtain ⟨i, x, hx, rfl, rfl, rfl, hN1, hN2⟩ := h
  refine VSpec.at [0, 2] rfl rfl (hV i x hx) fun h' r hp => ?_
  rcases hp with ⟨rfl, rfl⟩ | ⟨s', R', hs, rfl, rfl⟩
  · exact ⟨Nat.le_refl _, by simpa [putBack, setN, appE_eq] using hN1⟩
  · exact ⟨Nat.le_refl _, by simpa [putBack, setN, appE_eq] using hN2 s' R' hs⟩

theorem all1_iter {fv : Value} {s : PT} {b bt : Nat} {R : Nat → List Ent} {Stop : PT → List Ent → Prop} (ho : pOk s) (hV : OneV fv s b R Stop) :
    Spec Tryz.prog 79 [pkA b ptE s, ⟨.blk bt, .cells [.ptr 0 b 0] 42⟩, pk 0 (R 0)] [.raw fv, .ptr 1 bt 0] fun h' r => r = .tuple [] ∧ (h' = [pkA b ptE s, pk 0 (R s.ps.length)] ∨ ∃ s' R', Stop s' R' ∧ h' = [pkA b ptE s', pk 0 R']) := by
  refine Spec.pre (hs' := [⟨.blk b, .cells [.map 1 s.bm, .int .i64 s.room, .int .i64 s.last] 119⟩, ⟨.blk s.bm, .mapL (some .i64) encB1 (s.ps.map pkey)⟩, pk 0 (s.ps.map procE), ⟨.blk bt, .cells [.ptr 0 b 0] 42⟩, pk 0 (R 0)]) (args' := [.raw fv, .ptr 3 bt 0]) (fun W F w hr => hr.unpkA) rfl (Spec.up ?_)
  refine Spec.of_GR 32 Tryz.func79 (c := bodyOf Tryz.f79) (by kernel_rfl) (by kernel_rfl) (Nat.le_of_ble_eq_true rfl) fun W F => ?_
  refine runR_sound (kc := true) (ss := []) (fun _ _ h => h) ptG_ok (all1Y_ok hV) hmP Ends.fn 300 _ _ ?_
  rw [al_start]
  refine ⟨rfl, rfl, rfl, rfl, fun b1 => ⟨rfl, rfl, ⟨rfl, rfl, rfl, ho.wf⟩, fun aok capk => ?_⟩⟩
  rw [ho.sort]
  have hlen : (s.ps.map fun x => x.2.pid).length = s.ps.length := by simp
  have hll := ho.len
  refine GR_loopAt (ι := Nat) [] (bodyOf Tryz.f79) [1, 0] 32 (fun i => [(0, .raw fv), (1, .ptr 1 bt 0), (12, .vec 3 aok (s.ps.map fun x => x.2.pid).length capk), (13, .int .i64 ((s.ps.map fun x => x.2.pid).length : Int)), (14, .int .i64 (i : Int))])
    (fun i => [pkA b ptE s, ⟨.blk bt, .cells [.ptr 0 b 0] 42⟩, pk 0 (R i), ⟨.sl aok capk, .vecL 3 1 encI1 (s.ps.map fun x => x.2.pid) 0⟩]) (fun i => i ≤ s.ps.length) (fun i => s.ps.length - i) 0 (by kernel_rfl) (fun J => by kernel_rfl) (Nat.zero_le _) rfl ⟨rfl, rfl, rfl, rfl, rfl, trivial⟩ (fun w hw => ?_) fun i hi u => ?_
  · have h1 : Rep W F (pkA b ptE s :: _) w := Rep.pkA (S := ptE) (s := s) (b := b) (t := _) hw
    exact Rep.pick (π := [0, 1, 2, 4]) (by decide) rfl h1
  simp only [List.nil_append, List.cons_append]
  refine runR_sound (kc := true) (ss := []) (fun _ _ h => h) ptG_ok (all1Y_ok hV) hmP Ends.fn 900 _ _ ?_
  rw [al_body]
  cases hlt : decide ((i : Int) < ((s.ps.map fun x => x.2.pid).length : Int)) with
  | false =>
    simp only [decide_eq_false_iff_not, hlen] at hlt
    obtain rfl : i = s.ps.length := by omega
    exact ⟨_, _, fun W F w hr => Rep.pick (π := [0, 2]) (by decide) rfl hr, rfl, rfl, .inl rfl⟩
  | true =>
    simp only [decide_eq_true_eq, hlen] at hlt
    have hi' : i < s.ps.length := by omega
    have t1 : Int.toNat (i : Int) = i := by omega
    have t2 : IntKind.wrap .i64 ((i : Int) + 1) = ((i + 1 : Nat) : Int) := IntWalk.i64_in _ (by omega)
    have hk : (s.ps.map fun x => x.2.pid).getD i 0 = s.ps[i].2.pid := by simp [List.getD, hi']
    have hg := getP_at ho.asc hi'
    obtain ⟨e1, e2, _⟩ := pHas_some hg
    rw [t1, t2, hk, e1, e2]
    refine ⟨⟨rfl, rfl, rfl, by omega, by rw [hlen]; exact hlt⟩, ⟨rfl, rfl, rfl, by rw [hlen]; exact hi'⟩, rfl, rfl, rfl, rfl, HEq.rfl, ho, fun b2 => ⟨⟨rfl, rfl, rfl, Nat.le_refl _⟩, ⟨rfl, rfl⟩, rfl, i, s.ps[i], List.getElem?_eq_getElem hi', rfl, rfl, rfl, ?_, fun s' R' hst => ?_⟩⟩
    · exact GR_back (i + 1) (by omega) (by omega) rfl ⟨rfl, rfl, rfl, rfl, rfl, trivial⟩ (fun w hr => Rep.pick (π := [0, 1, 2, 3]) (by decide) rfl hr)
    · exact ⟨_, _, fun W F w hr => Rep.pick (π := [0, 2]) (by decide) rfl hr, rfl, rfl, .inr ⟨s', R', hst, rfl⟩⟩
end Go.Proofs.YtkcmgcoppecfpaaGreat

/- KernPlays: the processes, each laid into a row. -/
namespace Go.Proofs.YtkcmgcoppecfpaaGreat
open Go Go.RowKit

def allKC : Ctr := fun args hs N => match args with
  | [.func (.func g) [] [.ptr ll bl 0], .ptr lb bx 0] => g = 37 ∧ ∃ (s : PT) (lg b : Nat), nth hs ll = some ⟨.blk bl, .cells [.raw (.slice none 0 0)] 74⟩ ∧ nth hs lb = some ⟨.blk bx, .cells [.ptr lg b 0] 42⟩ ∧ nth hs lg = some (pkA b ptE s) ∧ distinct [lg, lb, ll] = true ∧ (pOk s ∧ s.ps.length ≤ 190) ∧
      ∀ ao cap, N (snoc (setN (setN hs lb (pk 0 [])) ll ⟨.blk bl, .cells [.vec (lenN hs) ao (rL s).length cap] 74⟩) ⟨.sl ao cap, .vecL 38 6 encP6 (rL s) PR.zero⟩) (.tuple [])
  | _ => False
end Go.Proofs.YtkcmgcoppecfpaaGreat

namespace Go.Proofs.YtkcmgcoppecfpaaGreat
open Go Go.RowKit

theorem ka1_run (K : List Frm → Sy → Prop) (N : List Ent → SV → Prop) (s : PT) (b bl : Nat) (ao : Option Addr) (cap : Nat) (xs : List PR) (r : PR) : (run Tryz.prog [] true [200001] K (retP Tryz.prog Tryz.f37.results.toList N) 600 [.code (bodyOf Tryz.f37)] ⟨padTo 11 [.agg (encP6 r), .ptr 1 bl 0], [pkA b ptE s, ⟨.blk bl, .cells [.vec 2 ao xs.length cap] 74⟩, ⟨.sl ao cap, .vecL 38 6 encP6 (xs) PR.zero⟩]⟩) = ( true = true ∧ ∀ (b_1 : Nat), bl = bl ∧ (b_1 = b_1 ∧ 6 = 6) ∧ (true = true ∧ 6 = 6 ∧ 0 < 6 ∧ 6 ≤ 16777216) ∧ ∀ (b_2 : Nat), (ao = ao ∧ cap = cap ∧ List.length xs = List.length xs ∧ some (Addr.mk b_2 0 (@none Nat)) = some (Addr.mk b_2 0 (@none Nat)) ∧ 38 = 38 ∧ 6 = 6 ∧ 6 = 6 ∧ 0 < 1 ∧ true = true ∧ (List.length xs + 1) * 64 ≤ 140737488355328 ∧ List.length xs + 1 ≤ 9223372036854775807) ∧ ∃ (es : List PR), List.length es = 1 ∧ denL (List.flatMap encP6 es) = denL [SV.int .i64 r.1, SV.int .i64 r.2, SV.str r.3, SV.bool r.4, SV.int .i64 r.5, SV.str r.6] ∧ ∀ (ao2 : Option Addr) (cap2 : Nat), List.length xs + 1 ≤ cap2 → (bl = bl ∧ true = true ∧ 1 = 1 ∧ 1 ≤ 1) ∧ bl = bl ∧ N [pkA b ptE s, Ent.mk (Loc.blk bl) (SObj.cells [SV.vec 2 ao2 (List.length xs + 1) cap2] 74), Ent.mk (Loc.sl ao2 cap2) (SObj.vecL 38 6 encP6 (xs ++ es) PR.zero), Ent.mk (Loc.blk b_1) (SObj.cells [SV.int .i64 r.1, SV.int .i64 r.2, SV.str r.3, SV.bool r.4, SV.int .i64 r.5, SV.str r.6] 38), Ent.mk (Loc.blk b_2) (SObj.cells [SV.int .i64 r.1, SV.int .i64 r.2, SV.str r.3, SV.bool r.4, SV.int .i64 r.5, SV.str r.6] 38)] (SV.bool (decide ((↑(List.length xs + 1) : Int) < (200 : Int))))) := by kernel_rfl
end Go.Proofs.YtkcmgcoppecfpaaGreat

namespace Go.Proofs.YtkcmgcoppecfpaaGreat
open Go Go.RowKit


end Go.Proofs.YtkcmgcoppecfpaaGreat

/- proc.Table: all its processes. -/
namespace Go.Proofs.YtkcmgcoppecfpaaGreat
open Go Go.RowKit

end Go.Proofs.YtkcmgcoppecfpaaGreat

/- KernPlays: the processes, each laid into a row. -/
namespace Go.Proofs.YtkcmgcoppecfpaaGreat
open Go Go.RowKit

theorem hmKa : Tryz.prog.follows .mixedOrders = true := by kernel_rfl
def kaF (s : PT) (bl : Nat) (l : List PR) (ac : Option Addr × Nat) : List Ent := [⟨.blk bl, .cells [.vec 2 ac.1 l.length ac.2] 74⟩, ⟨.sl ac.1 ac.2, .vecL 38 6 encP6 l PR.zero⟩]
def kaR (s : PT) (bl : Nat) (i : Nat) : List Ent := [exP fun ac : Option Addr × Nat => kaF s bl ((s.ps.take i).map (·.2)) ac]
theorem allKC_ok : CtrOk Tryz.prog 79 allKC := by
  intro args hs N h
  unfold allKC at h
  split at h
  case h_2 => exact h.elim
  rename_i g ll bl lb bx
  obtain ⟨rfl, s, lg, b, h1, h2, h3, hd, ⟨ho, hlen⟩, hN⟩ := h
  have hV : OneV (.func (.func 37) #[] (denL [.ptr 1 bl 0]).toArray) s b (kaR s bl) (fun _ _ => False) := by
    intro i x hx
    obtain ⟨hi, rfl⟩ := List.getElem?_eq_some_iff.1 hx
    refine VSpec.fn (by kernel_rfl) (Spec.ex (ι := Option Addr × Nat) (hs' := fun ac => pkA b ptE s :: kaF s bl ((s.ps.take i).map (·.2)) ac) (fun W F w hr => Rep.pkex hr) ?_)
    rintro ⟨ao, cap⟩
    refine Spec.up ?_
    show Spec Tryz.prog 37 [pkA b ptE s, ⟨.blk bl, .cells [.vec 2 ao ((s.ps.take i).map (·.2)).length cap] 74⟩, ⟨.sl ao cap, .vecL 38 6 encP6 ((s.ps.take i).map (·.2)) PR.zero⟩] [.agg (encP6 (s.ps[i]).2), .ptr 1 bl 0] _
    refine Spec.of_G 11 Tryz.func37 (c := bodyOf Tryz.f37) (by kernel_rfl) (by kernel_rfl) (Nat.le_of_ble_eq_true rfl) fun W F => ?_
    refine G_run (kc := true) (ss := [200001]) (Cs := []) trivial hmKa 600 ?_
    rw [ka1_run]
    have hl : ((s.ps.take i).map (·.2)).length = i := by simp; omega
    have hl2 : (s.ps.take (i + 1)).map (·.2) = (s.ps.take i).map (·.2) ++ [(s.ps[i]).2] := by
      rw [List.take_add_one, List.map_append, hx]; rfl
    have hl3 : ((s.ps.take (i + 1)).map (·.2)).length = i + 1 := by simp; omega
    refine ⟨rfl, fun b1 => ⟨rfl, ⟨rfl, rfl⟩, ⟨rfl, rfl, by decide, by decide⟩, fun b2 => ⟨⟨rfl, rfl, rfl, rfl, rfl, rfl, rfl, by decide, rfl, by rw [hl]; omega, by rw [hl]; omega⟩, [(s.ps[i]).2], rfl, rfl, fun ao2 cap2 hc => ⟨⟨rfl, rfl, rfl, Nat.le_refl _⟩, rfl, ?_⟩⟩⟩⟩
    rw [hl]
    refine ⟨[pkA b ptE s, pk 0 (kaR s bl (i + 1))], .bool true, fun W F w hr => ?_, ?_, .inl ⟨rfl, rfl⟩⟩
    · refine Rep.expk (f := fun ac : Option Addr × Nat => kaF s bl ((s.ps.take (i + 1)).map (·.2)) ac) (ao2, cap2) ?_
      show Rep W F (pkA b ptE s :: kaF s bl ((s.ps.take (i + 1)).map (·.2)) (ao2, cap2)) w
      unfold kaF
      rw [hl3, hl2]
      exact Rep.pick (π := [0, 1, 2]) (by decide) rfl hr
    · have : decide (((i + 1 : Nat) : Int) < 200) = true := decide_eq_true (by omega)
      rw [this]
  refine Spec.at (hp := [pkA b ptE s, ⟨.blk bx, .cells [.ptr lg b 0] 42⟩, ⟨.blk bl, .cells [.raw (.slice none 0 0)] 74⟩]) (args' := [.func (.func 37) [] [.ptr 1 bl 0], .ptr 1 bx 0]) (Post' := fun h' res => ∃ ao cap, h' = [pkA b ptE s, pk 0 [], ⟨.blk bl, .cells [.vec (lenN hs) ao (rL s).length cap] 74⟩, ⟨.sl ao cap, .vecL 38 6 encP6 (rL s) PR.zero⟩] ∧ res = .tuple []) [lg, lb, ll] hd (by simp [pickE, h1, h2, h3]) ?_ rfl ?_
  · refine Spec.up ?_
    intro W F w hr
    have g1 := Rep.cellsEq (l := 2) (cs' := [.vec 2 none 0 0]) rfl (by rfl) hr
    have g2 := Rep.nilvec 38 (sz := 6) (enc := encP6) PR.zero (fun _ => rfl) g1
    have g3 := Rep.cellsEq (l := 1) (cs' := [.ptr 0 b 0]) rfl (by rfl) g2
    have h4 : Rep W F [pkA b ptE s, ⟨.blk bx, .cells [.ptr 0 b 0] 42⟩, pk 0 (kaR s bl 0)] w := by
      refine Rep.pkAt 0 (p := [_, _]) (t := []) ?_
      have h5 := Rep.pick (π := [2, 3, 0, 1]) (by decide) rfl g3
      have h6 : Rep W F ([exP fun ac : Option Addr × Nat => kaF s bl ((s.ps.take 0).map (·.2)) ac] ++ [_, _]) w := Rep.ex (f := fun ac : Option Addr × Nat => kaF s bl ((s.ps.take 0).map (·.2)) ac) (none, 0) h5
      exact Rep.pick (π := [1, 2, 0]) (by decide) rfl h6
    refine Calls.mono (all1_iter (b := b) (bt := bx) ho hV W F w h4) ?_
    rintro e w' ⟨h', r, ⟨rfl, hc⟩, rfl, hr'⟩
    rcases hc with rfl | ⟨s', R', hf, _⟩
    · obtain ⟨⟨ao, cap⟩, h7⟩ := Rep.pkex hr'
      have e1 : (s.ps.take s.ps.length).map (·.2) = rL s := by rw [List.take_length]; rfl
      rw [e1] at h7
      refine ⟨_, .tuple [], ⟨[pkA b ptE s, pk 0 [], ⟨.blk bl, .cells [.vec (lenN hs) ao (rL s).length cap] 74⟩, ⟨.sl ao cap, .vecL 38 6 encP6 (rL s) PR.zero⟩], .tuple [], fun W F w hr => ?_, rfl, ao, cap, rfl, rfl⟩, rfl, h7⟩
      unfold kaF at hr
      have q1 : Rep W F (pk 0 [] :: _) w := Rep.pk 0 (h := []) hr
      have q2 := Rep.pick (π := [1, 0, 2, 3]) (by decide) rfl q1
      exact Rep.cellsEq (l := 2) (cs' := [.vec (lenN hs) ao (rL s).length cap]) rfl (by rfl) q2
    · exact hf.elim
  · rintro h' r ⟨ao, cap, rfl, rfl⟩
    refine ⟨Nat.le_of_ble_eq_true rfl, .tuple [], rfl, ?_⟩
    have e : putBack [lg, lb, ll] hs [pkA b ptE s, pk 0 [], ⟨.blk bl, .cells [.vec (lenN hs) ao (rL s).length cap] 74⟩, ⟨.sl ao cap, .vecL 38 6 encP6 (rL s) PR.zero⟩] = snoc (setN (setN hs lb (pk 0 [])) ll ⟨.blk bl, .cells [.vec (lenN hs) ao (rL s).length cap] 74⟩) ⟨.sl ao cap, .vecL 38 6 encP6 (rL s) PR.zero⟩ := by
      simp only [putBack, appE_eq, snoc_eq]
      rw [setN_selfA h3]
    rw [e]
    exact hN ao cap
end Go.Proofs.YtkcmgcoppecfpaaGreat

/- The groups' methods as1 a table. -/
namespace Go.Proofs.YtkcmgcoppecfpaaGreat
open Go Go.RowKit
end Go.Proofs.YtkcmgcoppecfpaaGreat

/- GroupOne: what its calls do to the groups. -/
namespace Go.Proofs.YtkcmgcoppecfpaaGreat
open Go Go.RowKit

def names4 : List ByteArray := [⟨#[97]⟩, ⟨#[98]⟩, ⟨#[99]⟩, ⟨#[100]⟩]
def nm4 (k : Nat) : ByteArray := names4.getD k ⟨#[]⟩
theorem nm4_all : ∀ i : _root_.Fin 4, ∀ j : _root_.Fin 4, keyEq (.s (nm4 i.1)) (.s (nm4 j.1)) = decide (i.1 = j.1) ∧ sEq (nm4 i.1) (nm4 j.1) = decide (i.1 = j.1) := by decide +kernel
theorem nm4_key {i j : Nat} (hi : i < 4) (hj : j < 4) : keyEq (.s (nm4 i)) (.s (nm4 j)) = decide (i = j) := (nm4_all ⟨i, hi⟩ ⟨j, hj⟩).1
theorem nm4_eq {i j : Nat} (hi : i < 4) (hj : j < 4) : sEq (nm4 i) (nm4 j) = decide (i = j) := (nm4_all ⟨i, hi⟩ ⟨j, hj⟩).2
theorem key_int (a b : Int) : keyEq (.i .i64 a) (.i .i64 b) = decide (a = b) := by rw [Bool.eq_iff_iff]; simp [keyEq]

structure MO (arr : List Int) (k : Nat) (ms : List (Key × Unit)) : Prop where
  ok : keysOk ms
  key : ∀ e ∈ ms, ∃ p : Nat, (2 ≤ p ∧ p < 10) ∧ e.1 = .i .i64 (p : Int)
  has : ∀ p : Nat, 2 ≤ p → p < 10 → mget ms (.i .i64 (p : Int)) = if arr.getD p 0 = (k : Int) + 1 then some () else none
structure GO (s : Grp) (arr : List Int) : Prop where
  len : arr.length = 10
  gk : keysOk s.gs
  g : ∀ k : Nat, k < 4 → ∃ nb ms, mget s.gs (.s (nm4 k)) = some (nb, ms) ∧ MO arr k ms
  ok : keysOk s.of
  o : ∀ p : Nat, 2 ≤ p → p < 10 → (arr.getD p 0 = 0 ∧ mget s.of (.i .i64 (p : Int)) = none) ∨ ∃ k : Nat, k < 4 ∧ arr.getD p 0 = (k : Int) + 1 ∧ mget s.of (.i .i64 (p : Int)) = some (nm4 k)
  nd : s.notes.Nodup
  nt : ∀ x ∈ s.notes, ∃ k : Nat, k < 4 ∧ x = nm4 k

theorem getD_set_of {arr : List Int} (hl : arr.length = 10) {p q : Nat} (hp : p < 10) (v : Int) : (arr.set p v).getD q 0 = if q = p then v else arr.getD q 0 := by
  rw [List.getD, List.getElem?_set]
  by_cases h : q = p
  · subst h; simp [hl, hp]
  · have : ¬ p = q := fun e => h e.symm
    simp [h, this, List.getD]
theorem set_same {arr : List Int} {p : Nat} {v : Int} (h : arr.getD p 0 = v) (hp : p < arr.length) : arr.set p v = arr := by
  refine List.ext_getElem? fun i => ?_
  rw [List.getElem?_set]
  split
  · rename_i e; subst e
    rw [← h, List.getD, List.getElem?_eq_getElem hp]; simp [hp]
  · rfl
theorem sub4 : ∀ (n : Nat) (l : List Nat), l.Nodup → (∀ x ∈ l, x < n) → l.length ≤ n
  | 0, l, _, h => by
    cases l with
    | nil => simp
    | cons x l => have := h x List.mem_cons_self; omega
  | n + 1, l, hd, h => by
    by_cases hn : n ∈ l
    · have h1 := sub4 n (l.erase n) (hd.erase n) fun x hx => by
        have h2 := (List.Nodup.mem_erase_iff hd).1 hx
        have := h x h2.2
        omega
      rw [List.length_erase_of_mem hn] at h1
      omega
    · have := sub4 n l hd fun x hx => by
        have h1 := h x hx
        have : x ≠ n := fun e => hn (e ▸ hx)
        omega
      omega
def idx4 (x : ByteArray) : Nat := names4.findIdx (fun y => sEq x y)
theorem idx4_nm : ∀ k : _root_.Fin 4, idx4 (nm4 k.1) = k.1 := by decide +kernel
theorem GO.notes_le {s : Grp} {arr : List Int} (h : GO s arr) : s.notes.length ≤ 4 := by
  have h1 := sub4 4 (s.notes.map idx4) ?_ ?_
  · simpa using h1
  · unfold List.Nodup
    rw [List.pairwise_map]
    refine List.Pairwise.imp_of_mem ?_ h.nd
    intro a b ha hb hab e
    obtain ⟨i, hi, rfl⟩ := h.nt a ha
    obtain ⟨j, hj, rfl⟩ := h.nt b hb
    rw [idx4_nm ⟨i, hi⟩, idx4_nm ⟨j, hj⟩] at e
    exact hab (by dsimp only at e; rw [e])
  · intro x hx
    obtain ⟨y, hy, rfl⟩ := List.mem_map.1 hx
    obtain ⟨i, hi, rfl⟩ := h.nt y hy
    rw [idx4_nm ⟨i, hi⟩]; exact hi
theorem GO.gok {s : Grp} {arr : List Int} (h : GO s arr) {p : Nat} (h2 : 2 ≤ p) (hp : p < 10) : gOk s (p : Int) := by
  have := h.notes_le
  refine ⟨by omega, fun n hn => ?_⟩
  rcases h.o p h2 hp with ⟨_, h1⟩ | ⟨k, hk, _, h1⟩
  · rw [h1] at hn; cases hn
  · rw [h1] at hn
    cases hn
    obtain ⟨nb, ms, hg, _⟩ := h.g k hk
    exact ⟨_, hg⟩

theorem mget_nm4 {β : Type} {es : List (Key × β)} {k j : Nat} (hk : k < 4) (hj : j < 4) (u : β) : mget (mset es (.s (nm4 k)) u) (.s (nm4 j)) = if j = k then some u else mget es (.s (nm4 j)) := by
  by_cases hjk : j = k
  · subst hjk; rw [if_pos rfl, mget_mset (keyEq_self _)]
  · rw [if_neg hjk, mget_mset_ne (by rw [nm4_key hj hk]; simp [hjk])]
theorem mget_pid {β : Type} {es : List (Key × β)} (h : keysOk es) (a b : Int) : mget (mdel es (.i .i64 a)) (.i .i64 b) = if b = a then none else mget es (.i .i64 b) := by
  by_cases hab : b = a
  · subst hab; rw [if_pos rfl, mget_mdel h]
  · rw [if_neg hab, mget_mdel_ne (by rw [key_int]; simp [hab])]
theorem mget_pidS {β : Type} {es : List (Key × β)} (a b : Int) (u : β) : mget (mset es (.i .i64 a) u) (.i .i64 b) = if b = a then some u else mget es (.i .i64 b) := by
  by_cases hab : b = a
  · subst hab; rw [if_pos rfl, mget_mset (keyEq_self _)]
  · rw [if_neg hab, mget_mset_ne (by rw [key_int]; simp [hab])]
theorem mem_mdel {β : Type} {k : Key} {e : Key × β} : ∀ {es : List (Key × β)}, e ∈ mdel es k → e ∈ es
  | [], h => by cases h
  | (k', v') :: es, h => by
    simp only [mdel] at h
    cases hq : keyEq k k' with
    | true => simp only [hq] at h; exact List.mem_cons_of_mem _ h
    | false =>
      simp only [hq] at h
      rcases List.mem_cons.1 h with rfl | h
      · exact List.mem_cons_self
      · exact List.mem_cons_of_mem _ (mem_mdel h)
theorem mem_mset {β : Type} {k : Key} {u : β} {e : Key × β} : ∀ {es : List (Key × β)}, e ∈ mset es k u → e = (k, u) ∨ e ∈ es
  | [], h => .inl (by simpa [mset] using h)
  | (k', v') :: es, h => by
    simp only [mset] at h
    cases hq : keyEq k k' with
    | true =>
      simp only [hq] at h
      rcases List.mem_cons.1 h with rfl | h
      · exact .inl rfl
      · exact .inr (List.mem_cons_of_mem _ h)
    | false =>
      simp only [hq] at h
      rcases List.mem_cons.1 h with rfl | h
      · exact .inr List.mem_cons_self
      · rcases mem_mset h with h | h
        · exact .inl h
        · exact .inr (List.mem_cons_of_mem _ h)

theorem MO.del {arr : List Int} {k : Nat} {ms : List (Key × Unit)} (h : MO arr k ms) (hl : arr.length = 10) {p : Nat} (h2 : 2 ≤ p) (hp : p < 10) : MO (arr.set p 0) k (mdel ms (.i .i64 (p : Int))) := by
  refine ⟨keysOk_mdel h.ok, fun e he => h.key e (mem_mdel he), fun q hq2 hq => ?_⟩
  rw [mget_pid h.ok, getD_set_of hl hp, h.has q hq2 hq]
  by_cases hqp : q = p
  · subst hqp; rw [if_pos rfl, if_pos rfl, if_neg (by omega)]
  · rw [if_neg (by omega), if_neg hqp]
theorem MO.other {arr : List Int} {k : Nat} {ms : List (Key × Unit)} (h : MO arr k ms) (hl : arr.length = 10) {p : Nat} (hp : p < 10) {v : Int} (hv : v ≠ (k : Int) + 1) (ho : arr.getD p 0 ≠ (k : Int) + 1) : MO (arr.set p v) k ms := by
  refine ⟨h.ok, h.key, fun q hq2 hq => ?_⟩
  rw [getD_set_of hl hp, h.has q hq2 hq]
  by_cases hqp : q = p
  · subst hqp; rw [if_pos rfl, if_neg ho, if_neg hv]
  · rw [if_neg hqp]
theorem MO.add {arr : List Int} {k : Nat} {ms : List (Key × Unit)} (h : MO arr k ms) (hl : arr.length = 10) {p : Nat} (h2 : 2 ≤ p) (hp : p < 10) : MO (arr.set p ((k : Int) + 1)) k (mset ms (.i .i64 (p : Int)) ()) := by
  refine ⟨keysOk_mset h.ok, fun e he => ?_, fun q hq2 hq => ?_⟩
  · rcases mem_mset he with rfl | he
    · exact ⟨p, ⟨h2, hp⟩, rfl⟩
    · exact h.key e he
  · rw [mget_pidS, getD_set_of hl hp, h.has q hq2 hq]
    by_cases hqp : q = p
    · subst hqp; rw [if_pos rfl, if_pos rfl, if_pos rfl]
    · rw [if_neg (by omega), if_neg hqp]

theorem GO.gone {s : Grp} {arr : List Int} (h : GO s arr) {p : Nat} (h2 : 2 ≤ p) (hp : p < 10) (ao : Option Addr) (cap : Nat) : (gGone s (p : Int) ao cap).2 = decide (arr.getD p 0 > 0) ∧ GO (gGone s (p : Int) ao cap).1 (arr.set p 0) := by
  rcases h.o p h2 hp with ⟨h0, h1⟩ | ⟨k, hk, h0, h1⟩
  · have e : gGone s (p : Int) ao cap = (s, false) := by simp only [gGone, h1]
    rw [e, h0, set_same h0 (by rw [h.len]; exact hp)]
    exact ⟨rfl, h⟩
  · obtain ⟨nb, ms, hg, hm⟩ := h.g k hk
    have main : ∀ (nt : List ByteArray) (ao : Option Addr) (cap : Nat), nt.Nodup → (∀ x ∈ nt, ∃ k : Nat, k < 4 ∧ x = nm4 k) → GO { s with of := mdel s.of (.i .i64 (p : Int)), gs := mset s.gs (.s (nm4 k)) (nb, mdel ms (.i .i64 (p : Int))), notes := nt, ao := ao, cap := cap } (arr.set p 0) := by
      intro nt ao cap hn1 hn2
      refine ⟨by simp [h.len], keysOk_mset h.gk, fun j hj => ?_, keysOk_mdel h.ok, fun q hq2 hq => ?_, hn1, hn2⟩
      · dsimp only
        rw [mget_nm4 hk hj]
        by_cases hjk : j = k
        · subst hjk
          rw [if_pos rfl]
          exact ⟨_, _, rfl, hm.del h.len h2 hp⟩
        · obtain ⟨nb', ms', hg', hm'⟩ := h.g j hj
          rw [if_neg hjk, hg']
          exact ⟨_, _, rfl, hm'.other h.len hp (by omega) (by omega)⟩
      · dsimp only
        rw [mget_pid h.ok, getD_set_of h.len hp]
        by_cases hqp : q = p
        · subst hqp; rw [if_pos rfl, if_pos rfl]; exact .inl ⟨rfl, rfl⟩
        · rw [if_neg hqp, if_neg (by omega)]
          exact h.o q hq2 hq
    have hd : decide (arr.getD p 0 > 0) = true := decide_eq_true (by rw [h0]; omega)
    rw [hd]
    unfold gGone
    simp only [h1, hg]
    cases hc : ((mdel ms (.i .i64 (p : Int))).length == 0 && !decide (idxFrom (sEq (nm4 k)) s.notes 0 ≥ 0)) with
    | true =>
      refine ⟨rfl, main _ _ _ ?_ ?_⟩
      · simp only [Bool.and_eq_true, Bool.not_eq_true', decide_eq_false_iff_not] at hc
        rw [List.nodup_append]
        refine ⟨h.nd, by simp, fun a ha b hb => ?_⟩
        simp only [List.mem_singleton] at hb
        subst hb
        rintro rfl
        apply hc.2
        have hne : ¬ idxFrom (sEq (nm4 k)) s.notes 0 = -1 := fun e => by
          have := (idxFrom_none (sEq (nm4 k)) s.notes 0 (by omega)).1 e (nm4 k) ha
          rw [nm4_eq hk hk] at this
          simp at this
        rcases idxFrom_lt (sEq (nm4 k)) s.notes 0 with h | ⟨h, _⟩
        · exact absurd h hne
        · exact h
      · intro x hx
        rcases List.mem_append.1 hx with hx | hx
        · exact h.nt x hx
        · simp only [List.mem_singleton] at hx
          exact ⟨k, hk, hx⟩
    | false => exact ⟨rfl, main s.notes s.ao s.cap h.nd h.nt⟩

theorem GO.put {s : Grp} {arr : List Int} (h : GO s arr) {p n : Nat} (h2 : 2 ≤ p) (hp : p < 10) (hn : n < 4) (ao : Option Addr) (cap : Nat) : (gPut s (p : Int) (nm4 n) ao cap).2 = 0 ∧ GO (gPut s (p : Int) (nm4 n) ao cap).1 (arr.set p ((n : Int) + 1)) := by
  obtain ⟨nb, ms, hg, hm⟩ := h.g n hn
  have hd : decide ((p : Int) < 2) = false := by simp; omega
  unfold gPut
  simp only [hg, hd, hm.has p h2 hp]
  by_cases he : arr.getD p 0 = (n : Int) + 1
  · rw [if_pos he, set_same he (by rw [h.len]; exact hp)]
    exact ⟨rfl, h⟩
  · rw [if_neg he]
    obtain ⟨_, h1⟩ := h.gone h2 hp ao cap
    generalize (gGone s (p : Int) ao cap).1 = s1 at h1
    obtain ⟨nb1, ms1, hg1, hm1⟩ := h1.g n hn
    simp only [hg1]
    refine ⟨trivial, ?_⟩
    have hss : arr.set p ((n : Int) + 1) = (arr.set p 0).set p ((n : Int) + 1) := by rw [List.set_set]
    have hz : (arr.set p 0).getD p 0 = 0 := by rw [getD_set_of h.len hp, if_pos rfl]
    rw [hss]
    refine ⟨by simp [h.len], keysOk_mset h1.gk, fun j hj => ?_, keysOk_mset h1.ok, fun q hq2 hq => ?_, h1.nd, h1.nt⟩
    · dsimp only
      rw [mget_nm4 hn hj]
      by_cases hjn : j = n
      · subst hjn
        rw [if_pos rfl]
        exact ⟨_, _, rfl, hm1.add h1.len h2 hp⟩
      · obtain ⟨nb', ms', hg', hm'⟩ := h1.g j hj
        rw [if_neg hjn, hg']
        exact ⟨_, _, rfl, hm'.other h1.len hp (by omega) (by rw [hz]; omega)⟩
    · dsimp only
      rw [mget_pidS, getD_set_of h1.len hp]
      by_cases hqp : q = p
      · subst hqp; rw [if_pos rfl, if_pos rfl]; exact .inr ⟨n, hn, rfl, rfl⟩
      · rw [if_neg hqp, if_neg (by omega)]
        exact h1.o q hq2 hq

def wantL (arr : List Int) (k : Nat) : Nat → List Int
  | 0 => []
  | q + 1 => wantL arr k q ++ if arr.getD (q + 2) 0 = (k : Int) + 1 then [((q + 2 : Nat) : Int)] else []
theorem wantL_mem (arr : List Int) (k : Nat) (x : Int) : ∀ q : Nat, x ∈ wantL arr k q ↔ ∃ p : Nat, 2 ≤ p ∧ p < q + 2 ∧ x = (p : Int) ∧ arr.getD p 0 = (k : Int) + 1
  | 0 => by simp [wantL]; intros; omega
  | q + 1 => by
    rw [wantL, List.mem_append, wantL_mem arr k x q]
    constructor
    · rintro (⟨p, a, b, c, d⟩ | h)
      · exact ⟨p, a, by omega, c, d⟩
      · split at h
        · rename_i hc
          simp only [List.mem_singleton] at h
          exact ⟨q + 2, by omega, by omega, h, hc⟩
        · cases h
    · rintro ⟨p, a, b, c, d⟩
      by_cases hp : p = q + 2
      · subst hp
        right; rw [if_pos d]; simp [c]
      · exact .inl ⟨p, a, by omega, c, d⟩
theorem wantL_asc (arr : List Int) (k : Nat) : ∀ q : Nat, (wantL arr k q).Pairwise (· < ·)
  | 0 => List.Pairwise.nil
  | q + 1 => by
    rw [wantL, List.pairwise_append]
    refine ⟨wantL_asc arr k q, by split <;> simp, fun a ha b hb => ?_⟩
    obtain ⟨p, h1, h2, rfl, _⟩ := (wantL_mem arr k a q).1 ha
    split at hb
    · simp only [List.mem_singleton] at hb; subst hb; omega
    · cases hb
theorem GO.members {s : Grp} {arr : List Int} (h : GO s arr) {k : Nat} (hk : k < 4) : ∃ nb ms, mget s.gs (.s (nm4 k)) = some (nb, ms) ∧ wfI ms ∧ sortI ms = wantL arr k 8 := by
  obtain ⟨nb, ms, hg, hm⟩ := h.g k hk
  have hnd : (ms.map fun e => keyInt e.1).Nodup := by
    unfold List.Nodup
    rw [List.pairwise_map]
    refine List.Pairwise.imp_of_mem ?_ hm.ok
    intro a b ha hb hab e
    obtain ⟨p, _, e1⟩ := hm.key a ha
    obtain ⟨q, _, e2⟩ := hm.key b hb
    rw [e1, e2] at hab e
    rw [key_int] at hab
    simp only [keyInt] at e
    simp at hab
    omega
  have hperm : (ms.map fun e => keyInt e.1).Perm (wantL arr k 8) := by
    refine (List.perm_ext_iff_of_nodup hnd ((wantL_asc arr k 8).imp (by intro a b h; omega))).2 fun x => ?_
    rw [wantL_mem]
    constructor
    · intro hx
      obtain ⟨e, he, rfl⟩ := List.mem_map.1 hx
      obtain ⟨p, ⟨q1, q2⟩, e1⟩ := hm.key e he
      refine ⟨p, q1, by omega, by rw [e1]; rfl, ?_⟩
      have h1 : mget ms e.1 = some e.2 := mget_of_mem hm.ok he
      rw [e1, hm.has p q1 q2] at h1
      split at h1
      · assumption
      · cases h1
    · rintro ⟨p, q1, q2, rfl, q3⟩
      have h1 := hm.has p q1 (by omega)
      rw [if_pos q3] at h1
      obtain ⟨k', h2, h3⟩ := mget_mem h1
      refine List.mem_map.2 ⟨(k', ()), h2, ?_⟩
      obtain ⟨p', _, e1⟩ := hm.key _ h2
      dsimp only at e1
      rw [e1, key_int] at h3
      dsimp only
      rw [e1]
      simp only [keyInt]
      have : (p : Int) = p' := by simpa using h3
      omega
  have hsort : sortI ms = wantL arr k 8 := by
    unfold sortI
    rw [mergeSort_of_perm_i hperm]
    refine List.mergeSort_of_pairwise ?_
    exact (wantL_asc arr k 8).imp fun {x y} h => by simp [leI]; omega
  have hlen : ms.length ≤ 8 := by
    have h1 := sub4 8 ((ms.map fun e => keyInt e.1).map fun x => x.toNat - 2) ?_ ?_
    · simpa using h1
    · unfold List.Nodup
      rw [List.pairwise_map]
      refine List.Pairwise.imp_of_mem ?_ hnd
      intro a b ha hb hab e
      obtain ⟨p, q1, q2, rfl, _⟩ := (wantL_mem arr k a 8).1 (hperm.mem_iff.1 ha)
      obtain ⟨q, q3, q4, rfl, _⟩ := (wantL_mem arr k b 8).1 (hperm.mem_iff.1 hb)
      omega
    · intro x hx
      obtain ⟨a, ha, rfl⟩ := List.mem_map.1 hx
      obtain ⟨p, q1, q2, rfl, _⟩ := (wantL_mem arr k a 8).1 (hperm.mem_iff.1 ha)
      omega
  refine ⟨nb, ms, hg, ⟨hm.ok, by omega, fun e he => ?_⟩, hsort⟩
  obtain ⟨p, ⟨q1, q2⟩, e1⟩ := hm.key e he
  rw [e1]
  simp only [keyInt, Lit.wf, Bool.and_eq_true, decide_eq_true_eq]
  constructor
  · exact decide_eq_true (show (-9223372036854775808 : Int) ≤ _ by omega)
  · exact decide_eq_true (show _ ≤ (9223372036854775807 : Int) by omega)
end Go.Proofs.YtkcmgcoppecfpaaGreat

/- GroupOne: the functions that it calls. -/
namespace Go.Proofs.YtkcmgcoppecfpaaGreat
open Go Go.RowKit

def intsC : Ctr := fun args hs N => match args with
  | [.vec l ao n cap, .vec l' ao' n' cap'] => ∃ xs : List Int, nth hs l = some ⟨.sl ao cap, .vecL 3 1 encI1 xs 0⟩ ∧ nth hs l' = some ⟨.sl ao' cap', .vecL 3 1 encI1 xs 0⟩ ∧ (Nat.beq l l' = false ∧ n = xs.length ∧ n' = xs.length ∧ xs.length ≤ 1000000) ∧ N hs (.bool true)
  | _ => False
end Go.Proofs.YtkcmgcoppecfpaaGreat

/- KernPlays: its calls. -/
namespace Go.Proofs.YtkcmgcoppecfpaaGreat
open Go Go.RowKit

structure StepK where
  (what a b : Int) (name text : ByteArray) (n : Int)
def encStepK (s : StepK) : List SV := [.int .i64 s.what, .int .i64 s.a, .int .i64 s.b, .str s.name, .str s.text, .int .i64 s.n]
def StepK.zero : StepK := ⟨0, 0, 0, ⟨#[]⟩, ⟨#[]⟩, 0⟩
def goodK (W : World) (x : StepK) : Prop := (Lit.int .i64 x.n).wf = true
def factsK (bs : List StepK) : Ent := ⟨.blk 0, .pred fun W c => c = [] ∧ ∀ x ∈ bs, goodK W x⟩
def kpN : Tbl := [(48, newPC), (49, newGC), (50, newPoC), (51, newAnyC)]
def kpK : Tbl := [(73, adtC ptE killM)]
def kpR : Tbl := [(60, adtC ptE reapM)]
def kpY : Tbl := [(16, adtC ptE getM), (75, adtC poE sendPM)]
def kpRN : Tbl := [(62, rNewC), (63, newAnyC)]
def kpA : Tbl := [(64, adtC rgE ratM)]
def kpRS : Tbl := [(65, inl Tryz.prog kpA true Tryz.f65 200), (66, adtC rtE raSpawnM), (67, adtC rgE rputM)]
def kpRF : Tbl := [(68, adtC rtE raForkM), (69, adtC rtE raGetM), (67, adtC rgE rputM)]
def kpRE : Tbl := [(70, adtC rtE raExitM), (71, adtC rgE rgoneM)]
def kpRD : Tbl := [(72, adtC rtE raSignalsM), (23, inl Tryz.prog kpRE true Tryz.f23 300)]
def kpRR : Tbl := [(28, adtC rtE raReapM)]
def kpRY : Tbl := [(69, adtC rtE raGetM), (76, adtC sdE sendSM)]
def kpT : Tbl := [(5, trueKC), (6, inl Tryz.prog kpN true Tryz.f6 300), (7, inl Tryz.prog [] true Tryz.f7 200), (15, inl Tryz.prog [] true Tryz.f15 200), (38, inl Tryz.prog [] true Tryz.f38 200), (39, inl Tryz.prog [] true Tryz.f39 200), (40, inl Tryz.prog [] true Tryz.f40 200), (33, tickC), (9, inl Tryz.prog knS true Tryz.f9 400), (10, inl Tryz.prog knF true Tryz.f10 400), (11, inl Tryz.prog knE true Tryz.f11 400), (13, inl Tryz.prog knD true Tryz.f13 400), (12, killGC), (25, inl Tryz.prog kpK true Tryz.f25 300), (14, inl Tryz.prog kpR true Tryz.f14 300), (29, inl Tryz.prog kpR true Tryz.f29 300), (31, inl Tryz.prog kpY true Tryz.f31 400), (35, inl Tryz.prog [] true Tryz.f35 200), (8, adtC grpE makeM), (18, membersQC), (46, adtC grpE emptiedM), (36, inl Tryz.prog [] true Tryz.f36 100), (79, allKC), (41, inl Tryz.prog [] true Tryz.f41 200), (19, inl Tryz.prog kpRN true Tryz.f19 300), (20, adtC rgE rmakeM), (21, inl Tryz.prog kpRS true Tryz.f21 400), (22, inl Tryz.prog kpRF false Tryz.f22 400), (23, inl Tryz.prog kpRE true Tryz.f23 400), (24, inl Tryz.prog kpRD true Tryz.f24 400), (26, adtC rtE raKillM), (27, rkillGC), (28, adtC rtE raReapM), (30, inl Tryz.prog kpRR true Tryz.f30 300), (32, inl Tryz.prog kpRY true Tryz.f32 400), (34, rtickC), (43, rAllC), (45, rmembersC), (47, adtC rgE remptiedM), (42, procsC), (44, intsC)]
end Go.Proofs.YtkcmgcoppecfpaaGreat

