/- The methods of cgroup.Groups. -/
import Derived.Test.YtihajdkipkfiiaaGrp1
namespace Go.Proofs.Ytihajdkipkfiiaa
open Go Go.RowKit
set_option linter.unusedVariables false
set_option linter.unusedSimpArgs false
set_option linter.unnecessarySimpa false
set_option maxHeartbeats 0

section
variable {W w : World} {F : List Ch}
/-- One group's set is brought ahead. -/
theorem grp_open {s : Grp} {b : Nat} {n : ByteArray} {v : GSet} {x y : List (Key × GSet)} (hs : s.gs = x ++ (.s n, v) :: y) (hr : Rep W F (grpE s b) w) : Rep W F [⟨.blk b, .cells [.map 1 s.bg, .map 2 s.bo, .vec 3 s.ao s.notes.length s.cap] 118⟩, ⟨.blk s.bg, .mapL none encG s.gs⟩, ⟨.blk s.bo, .mapL (some .i64) encO s.of⟩, ⟨.sl s.ao s.cap, .vecL 9 1 encS s.notes ByteArray.empty⟩, ⟨.blk v.1, .mapL (some .i64) encU v.2⟩, pk 0 (x.map setE ++ y.map setE)] w := by
  have e : s.gs.map setE = x.map setE ++ setE (.s n, v) :: y.map setE := by rw [hs]; simp
  unfold grpE at hr
  rw [e] at hr
  exact Rep.outP (p := [⟨.blk b, .cells [.map 1 s.bg, .map 2 s.bo, .vec 3 s.ao s.notes.length s.cap] 118⟩, ⟨.blk s.bg, .mapL none encG s.gs⟩, ⟨.blk s.bo, .mapL (some .i64) encO s.of⟩, ⟨.sl s.ao s.cap, .vecL 9 1 encS s.notes ByteArray.empty⟩]) (t := []) hr
/-- .. and put back, changed. -/
theorem grp_close {a1 a2 a3 a4 : Ent} {t : List Ent} {n : ByteArray} {v : GSet} {x y : List (Key × GSet)} (hr : Rep W F (a1 :: a2 :: a3 :: a4 :: ⟨.blk v.1, .mapL (some .i64) encU v.2⟩ :: pk 0 (x.map setE ++ y.map setE) :: t) w) : Rep W F [a1, a2, a3, a4, pk 0 ((x ++ (.s n, v) :: y).map setE)] w := by
  have := Rep.intoP (p := [a1, a2, a3, a4]) (t := t) (e := setE (.s n, v)) hr
  have e : (x ++ (.s n, v) :: y).map setE = x.map setE ++ setE (.s n, v) :: y.map setE := by simp
  rw [e]; exact Rep.dropR (h := [a1, a2, a3, a4, pk 0 (x.map setE ++ setE (.s n, v) :: y.map setE)]) (t := t) this
/-- The groups' map may be said with another set of the same block. -/
theorem grp_map {a1 : Ent} {t : List Ent} {bg : Nat} {n : ByteArray} {v v' : GSet} {x y : List (Key × GSet)} (hv : v'.1 = v.1) (hr : Rep W F (a1 :: ⟨.blk bg, .mapL none encG (x ++ (.s n, v) :: y)⟩ :: t) w) : Rep W F (a1 :: ⟨.blk bg, .mapL none encG (x ++ (.s n, v') :: y)⟩ :: t) w := by
  refine Rep.mapCongr (l := 1) encG (x ++ (.s n, v') :: y) rfl (fun e he => ?_) ?_ hr
  · have hk := Rep.mapKinds (l := 1) rfl hr
    rcases List.mem_append.1 he with he | he
    · exact hk e (List.mem_append.2 (.inl he))
    · rcases List.mem_cons.1 he with rfl | he
      · rfl
      · exact hk e (List.mem_append.2 (.inr (List.mem_cons_of_mem _ he)))
  · simp [encG, den, hv]
end
theorem gs_split {s : Grp} {n : ByteArray} {v : GSet} (h : mget s.gs (.s n) = some v) : ∃ x y, s.gs = x ++ (.s n, v) :: y ∧ (∀ u, mset s.gs (.s n) u = x ++ (.s n, u) :: y) ∧ mdel s.gs (.s n) = x ++ y := by
  obtain ⟨x, y, k', h1, h2, _, h3, h4⟩ := mget_split h
  rw [keyEq_s h2] at h1
  exact ⟨x, y, h1, h3, h4⟩

theorem gMake_ok : CtrOk Try.prog 14 (adtC grpE makeM) := adt_ok fun b s rest N h => by
  unfold makeM at h
  split at h
  · rename_i name
    refine Spec.pre (hs' := [⟨.blk b, .cells [.map 1 s.bg, .map 2 s.bo, .vec 3 s.ao s.notes.length s.cap] 118⟩, ⟨.blk s.bg, .mapL none encG s.gs⟩, ⟨.blk s.bo, .mapL (some .i64) encO s.of⟩, ⟨.sl s.ao s.cap, .vecL 9 1 encS s.notes ByteArray.empty⟩, pk 0 (s.gs.map setE)]) (fun W F w hr => hr) rfl ?_
    refine Spec.of_G 25 Try.func14 (c := bodyOf Try.f14) (by kernel_rfl) (by kernel_rfl) (Nat.le_of_ble_eq_true rfl) fun W F => ?_
    refine G_run (kc := false) (ss := []) (Cs := []) trivial hmG 600 ?_
    rw [gMake_run]
    split <;> rename_i h1
    · exact ⟨s, fun W F w hr => hr, by have := h 0; simpa only [gMake, h1] using this⟩
    · refine ⟨rfl, ⟨rfl, rfl, rfl⟩, ?_⟩
      split <;> rename_i h2
      · exact ⟨s, fun W F w hr => hr, by have := h 0; simpa only [gMake, h1, h2] using this⟩
      · refine ⟨rfl, fun nb => ⟨⟨rfl, rfl, rfl⟩, (nb, []), rfl, ?_⟩⟩
        refine ⟨{ s with gs := mset s.gs (.s name) (nb, []) }, fun W F w hr => ?_, by have := h nb; simpa only [gMake, h1, h2] using this⟩
        have h3 := Rep.mapOf (l := 5) encU [] rfl rfl hr
        have h4 := Rep.pick (π := [0, 1, 2, 3, 5, 4]) (by decide) rfl h3
        have h5 := Rep.intoNewP (p := [⟨.blk b, .cells [.map 1 s.bg, .map 2 s.bo, .vec 3 s.ao s.notes.length s.cap] 118⟩, ⟨.blk s.bg, .mapL none encG (mset s.gs (.s name) (nb, []))⟩, ⟨.blk s.bo, .mapL (some .i64) encO s.of⟩, ⟨.sl s.ao s.cap, .vecL 9 1 encS s.notes ByteArray.empty⟩]) (t := []) h4
        have e : (mset s.gs (.s name) (nb, [])).map setE = s.gs.map setE ++ [setE (.s name, (nb, []))] := by rw [mset_none h2]; simp
        unfold grpE
        dsimp only
        rw [e]
        exact h5
  · exact h.elim
theorem gGone_ok : CtrOk Try.prog 15 (adtC grpE goneM) := adt_ok fun b s rest N h => by
  unfold goneM at h
  split at h
  · rename_i pid
    obtain ⟨⟨hn, hof⟩, h⟩ := h
    cases hg : mget s.of (.i .i64 pid) with
    | none =>
      refine Spec.pre (hs' := [⟨.blk b, .cells [.map 1 s.bg, .map 2 s.bo, .vec 3 s.ao s.notes.length s.cap] 118⟩, ⟨.blk s.bg, .mapL none encG s.gs⟩, ⟨.blk s.bo, .map1 (some .i64) encO s.of (.i .i64 pid) none⟩, ⟨.sl s.ao s.cap, .vecL 9 1 encS s.notes ByteArray.empty⟩, pk 0 (s.gs.map setE)]) (fun W F w hr => Rep.know1 (l := 2) (.i .i64 pid) none rfl rfl (by rw [hg]; rfl) hr) rfl ?_
      refine Spec.of_G 57 Try.func15 (c := bodyOf Try.f15) (by kernel_rfl) (by kernel_rfl) (Nat.le_of_ble_eq_true rfl) fun W F => ?_
      refine G_run (kc := false) (ss := []) (Cs := []) trivial hmG 600 ?_
      rw [gGone_none]
      refine ⟨rfl, ⟨rfl, rfl, rfl⟩, s, fun W F w hr => Rep.forget1 (l := 2) rfl hr, ?_⟩
      have := h s.ao s.cap
      simpa only [gGone, hg] using this
    | some n =>
      obtain ⟨⟨nb, ms⟩, hx⟩ := hof n hg
      obtain ⟨x, y, hs, hset, _⟩ := gs_split hx
      refine Spec.pre (hs' := [⟨.blk b, .cells [.map 1 s.bg, .map 2 s.bo, .vec 3 s.ao s.notes.length s.cap] 118⟩, ⟨.blk s.bg, .map1 none encG s.gs (.s n) (some (.map 4 nb))⟩, ⟨.blk s.bo, .map1 (some .i64) encO s.of (.i .i64 pid) (some (.str n))⟩, ⟨.sl s.ao s.cap, .vecL 9 1 encS s.notes ByteArray.empty⟩, ⟨.blk nb, .mapL (some .i64) encU ms⟩, pk 0 (x.map setE ++ y.map setE)]) (fun W F w hr => Rep.know1 (l := 2) (.i .i64 pid) (some (.str n)) rfl rfl (by rw [hg]; rfl) (Rep.know1 (l := 1) (.s n) (some (.map 4 nb)) rfl rfl (by rw [hx]; rfl) (grp_open hs hr))) rfl ?_
      refine Spec.of_G 57 Try.func15 (c := bodyOf Try.f15) (by kernel_rfl) (by kernel_rfl) (Nat.le_of_ble_eq_true rfl) fun W F => ?_
      refine G_run (kc := false) (ss := []) gT2_ok hmG 600 ?_
      rw [gGone_some]
      refine ⟨rfl, ⟨rfl, rfl, rfl⟩, rfl, ⟨rfl, rfl, rfl⟩, rfl, ⟨rfl, rfl, rfl⟩, ⟨rfl, rfl, rfl⟩, rfl, ⟨rfl, rfl, rfl⟩, rfl, ?_⟩
      have hc : (((mdel ms (.i .i64 pid)).length : Int) == 0) = ((mdel ms (.i .i64 pid)).length == 0) := by rw [Bool.eq_iff_iff]; simp
      rw [hc]
      have hv := fun ao cap => h ao cap
      simp only [gGone, hg, hx] at hv
      cases hm : ((mdel ms (.i .i64 pid)).length == 0) with
      | true =>
        refine ⟨rfl, rfl, rfl, s.notes, rfl, rfl, by omega, ?_⟩
        cases hq : !decide (idxFrom (sEq n) s.notes 0 ≥ 0) with
        | true =>
          refine ⟨rfl, ⟨rfl, rfl, by decide, by decide⟩, fun b1 => ⟨⟨rfl, rfl, rfl, rfl, rfl, rfl, rfl, by decide, rfl, by omega, by omega⟩, [n], rfl, rfl, fun ao2 cap2 hc2 => ⟨⟨rfl, rfl, rfl, by decide⟩, ?_⟩⟩⟩
          refine ⟨{ s with of := mdel s.of (.i .i64 pid), gs := mset s.gs (.s n) (nb, mdel ms (.i .i64 pid)), notes := s.notes ++ [n], ao := ao2, cap := cap2 }, fun W F w hr => ?_, by have := hv ao2 cap2; simpa only [hm, hq, Bool.and_true, Bool.and_false, Bool.true_and, Bool.false_and] using this⟩
          have h1 := Rep.forget1 (l := 1) rfl hr
          rw [hs] at h1
          have h2 := grp_map (v := (nb, ms)) (v' := (nb, mdel ms (.i .i64 pid))) rfl h1
          have h3 := grp_close (n := n) (v := (nb, mdel ms (.i .i64 pid))) h2
          unfold grpE
          dsimp only
          rw [hset]
          simp only [List.length_append, List.length_cons, List.length_nil]
          exact h3
        | false =>
          refine ⟨{ s with of := mdel s.of (.i .i64 pid), gs := mset s.gs (.s n) (nb, mdel ms (.i .i64 pid)) }, fun W F w hr => ?_, by have := hv s.ao s.cap; simpa only [hm, hq, Bool.and_true, Bool.and_false, Bool.true_and, Bool.false_and] using this⟩
          have h1 := Rep.forget1 (l := 1) rfl hr
          rw [hs] at h1
          have h2 := grp_map (v := (nb, ms)) (v' := (nb, mdel ms (.i .i64 pid))) rfl h1
          have h3 := grp_close (n := n) (v := (nb, mdel ms (.i .i64 pid))) h2
          unfold grpE
          dsimp only
          rw [hset]
          exact h3
      | false =>
          refine ⟨{ s with of := mdel s.of (.i .i64 pid), gs := mset s.gs (.s n) (nb, mdel ms (.i .i64 pid)) }, fun W F w hr => ?_, by have := hv s.ao s.cap; simpa only [hm, Bool.false_and] using this⟩
          have h1 := Rep.forget1 (l := 1) rfl hr
          rw [hs] at h1
          have h2 := grp_map (v := (nb, ms)) (v' := (nb, mdel ms (.i .i64 pid))) rfl h1
          have h3 := grp_close (n := n) (v := (nb, mdel ms (.i .i64 pid))) h2
          unfold grpE
          dsimp only
          rw [hset]
          exact h3
  · exact h.elim

theorem gGone_blk {s : Grp} {pid : Int} {ao : Option Addr} {cap nb : Nat} {n : ByteArray} {ms : List (Key × Unit)} (h : mget s.gs (.s n) = some (nb, ms)) : ∃ ms', mget (gGone s pid ao cap).1.gs (.s n) = some (nb, ms') := by
  cases hg : mget s.of (.i .i64 pid) with
  | none => exact ⟨ms, by simp only [gGone, hg]; exact h⟩
  | some n' =>
    cases hx : mget s.gs (.s n') with
    | none => exact ⟨ms, by simp only [gGone, hg, hx]; exact h⟩
    | some v =>
      have key : ∃ ms', mget (mset s.gs (.s n') (v.1, mdel v.2 (.i .i64 pid))) (.s n) = some (nb, ms') := by
        cases hq : keyEq (.s n) (.s n') with
        | true =>
          have := keyEq_s hq
          cases this
          rw [h] at hx; cases hx
          exact ⟨_, mget_mset (keyEq_self _) _⟩
        | false => exact ⟨ms, by rw [mget_mset_ne hq]; exact h⟩
      simp only [gGone, hg, hx]
      cases ((mdel v.2 (.i .i64 pid)).length == 0 && !decide (idxFrom (sEq n') s.notes 0 ≥ 0)) <;> exact key
theorem gPut_ok : CtrOk Try.prog 16 (adtC grpE putM) := adt_ok fun b s rest N h => by
  unfold putM at h
  split at h
  · rename_i pid n
    obtain ⟨⟨hok, hkeys⟩, h⟩ := h
    cases hx : mget s.gs (.s n) with
    | none =>
      refine Spec.pre (hs' := [⟨.blk b, .cells [.map 1 s.bg, .map 2 s.bo, .vec 3 s.ao s.notes.length s.cap] 118⟩, ⟨.blk s.bg, .map1 none encG s.gs (.s n) none⟩, ⟨.blk s.bo, .mapL (some .i64) encO s.of⟩, ⟨.sl s.ao s.cap, .vecL 9 1 encS s.notes ByteArray.empty⟩, pk 0 (s.gs.map setE)]) (fun W F w hr => Rep.know1 (l := 1) (.s n) none rfl rfl (by rw [hx]; rfl) hr) rfl ?_
      refine Spec.of_G 39 Try.func16 (c := bodyOf Try.f16) (by kernel_rfl) (by kernel_rfl) (Nat.le_of_ble_eq_true rfl) fun W F => ?_
      refine G_run (kc := false) (ss := [6]) (Cs := []) trivial hmG 600 ?_
      rw [gPut_none]
      refine ⟨rfl, ⟨rfl, rfl, rfl⟩, s, fun W F w hr => Rep.forget1 (l := 1) rfl hr, ?_⟩
      have := h s.ao s.cap
      simpa only [gPut, hx] using this
    | some v =>
      obtain ⟨nb, ms⟩ := v
      obtain ⟨x, y, hs, hset, _⟩ := gs_split hx
      refine Spec.pre (hs' := [⟨.blk b, .cells [.map 1 s.bg, .map 2 s.bo, .vec 3 s.ao s.notes.length s.cap] 118⟩, ⟨.blk s.bg, .map1 none encG s.gs (.s n) (some (.map 4 nb))⟩, ⟨.blk s.bo, .mapL (some .i64) encO s.of⟩, ⟨.sl s.ao s.cap, .vecL 9 1 encS s.notes ByteArray.empty⟩, ⟨.blk nb, .mapL (some .i64) encU ms⟩, pk 0 (x.map setE ++ y.map setE)]) (fun W F w hr => Rep.know1 (l := 1) (.s n) (some (.map 4 nb)) rfl rfl (by rw [hx]; rfl) (grp_open hs hr)) rfl ?_
      refine Spec.of_G 39 Try.func16 (c := bodyOf Try.f16) (by kernel_rfl) (by kernel_rfl) (Nat.le_of_ble_eq_true rfl) fun W F => ?_
      refine G_run (kc := false) (ss := [6]) gT2_ok hmG 600 ?_
      rw [gPut_some]
      refine ⟨rfl, ⟨rfl, rfl, rfl⟩, ?_⟩
      cases hp : decide (pid < 2) with
      | true =>
          refine ⟨s, fun W F w hr => ?_, by have := h s.ao s.cap; simpa only [gPut, hx, hp] using this⟩
          have h1 := Rep.forget1 (l := 1) rfl hr
          rw [hs] at h1
          have h3 := grp_close (n := n) (v := (nb, ms)) h1
          rw [← hs] at h3
          exact h3
      | false =>
        refine ⟨rfl, ⟨rfl, rfl, rfl⟩, ?_⟩
        cases hm : mget ms (.i .i64 pid) with
        | some u =>
          refine fun b1 => ⟨⟨rfl, rfl, rfl, Nat.le_refl _⟩, s, fun W F w hr => ?_, by have := h s.ao s.cap; simpa only [gPut, hx, hp, hm] using this⟩
          have h1 := Rep.forget1 (l := 1) rfl hr
          rw [hs] at h1
          have h3 := grp_close (n := n) (v := (nb, ms)) h1
          rw [← hs] at h3
          exact h3
        | none =>
          refine fun b1 => ⟨⟨rfl, rfl, rfl, Nat.le_refl _⟩, ?_⟩
          refine G_live 39 [(0, .ptr 0 b 0), (1, .int .i64 pid), (2, .str n), (7, .map 4 nb)] [pkA b grpE s] rfl ⟨rfl, rfl, rfl, rfl, trivial⟩ (fun w hr => ?_) fun u => ?_
          · refine Rep.pkA1 ?_
            have h1 := Rep.forget1 (l := 1) rfl hr
            rw [hs] at h1
            have h3 := grp_close (n := n) (v := (nb, ms)) h1
            rw [← hs] at h3
            exact h3
          refine G_run (kc := false) (ss := [7]) (Cs := [(15, adtC grpE goneM)]) ⟨gGone_ok, trivial⟩ hmG 900 ?_
          rw [gPut_mid]
          refine ⟨rfl, rfl, rfl, HEq.rfl, hok, fun ao cap => ?_⟩
          obtain ⟨ms1, hx1⟩ := gGone_blk (pid := pid) (ao := ao) (cap := cap) hx
          have hf := h ao cap
          simp only [gPut, hx, hp, hm, hx1] at hf
          generalize gGone s pid ao cap = g at hx1 hf
          obtain ⟨s1, r1⟩ := g
          dsimp only at hx1 hf
          obtain ⟨x1, y1, hs1, hset1, _⟩ := gs_split hx1
          refine G_live 39 [(0, .ptr 0 b 0), (1, .int .i64 pid), (2, .str n), (7, .map 4 nb)] [⟨.blk b, .cells [.map 1 s1.bg, .map 2 s1.bo, .vec 3 s1.ao s1.notes.length s1.cap] 118⟩, ⟨.blk s1.bg, .mapL none encG s1.gs⟩, ⟨.blk s1.bo, .mapL (some .i64) encO s1.of⟩, ⟨.sl s1.ao s1.cap, .vecL 9 1 encS s1.notes ByteArray.empty⟩, ⟨.blk nb, .mapL (some .i64) encU ms1⟩, pk 0 (x1.map setE ++ y1.map setE)] rfl ⟨rfl, rfl, rfl, rfl, trivial⟩ (fun w hr => ?_) fun u => ?_
          · exact grp_open hs1 hr.unpkA1
          refine G_run (kc := false) (ss := []) gT2_ok hmG 900 ?_
          rw [gPut_end]
          refine ⟨rfl, ⟨rfl, rfl⟩, ⟨rfl, rfl, rfl⟩, (), rfl, rfl, ⟨rfl, rfl, rfl⟩, n, rfl, ?_⟩
          refine ⟨_, fun W F w hr => ?_, hf⟩
          rw [hs1] at hr
          have h2 := grp_map (v := (nb, ms1)) (v' := (nb, mset ms1 (.i .i64 pid) ())) rfl hr
          have h3 := grp_close (n := n) (v := (nb, mset ms1 (.i .i64 pid) ())) h2
          unfold grpE
          dsimp only
          rw [hset1]
          exact h3
  · exact h.elim
theorem gRemove_ok : CtrOk Try.prog 60 (adtC grpE removeM) := adt_ok fun b s rest N h => by
  unfold removeM at h
  split at h
  · rename_i n
    obtain ⟨hn, h⟩ := h
    cases hx : mget s.gs (.s n) with
    | none =>
      refine Spec.pre (hs' := [⟨.blk b, .cells [.map 1 s.bg, .map 2 s.bo, .vec 3 s.ao s.notes.length s.cap] 118⟩, ⟨.blk s.bg, .map1 none encG s.gs (.s n) none⟩, ⟨.blk s.bo, .mapL (some .i64) encO s.of⟩, ⟨.sl s.ao s.cap, .vecL 9 1 encS s.notes ByteArray.empty⟩, pk 0 (s.gs.map setE)]) (fun W F w hr => Rep.know1 (l := 1) (.s n) none rfl rfl (by rw [hx]; rfl) hr) rfl ?_
      refine Spec.of_G 35 Try.func60 (c := bodyOf Try.f60) (by kernel_rfl) (by kernel_rfl) (Nat.le_of_ble_eq_true rfl) fun W F => ?_
      refine G_run (kc := false) (ss := []) gT3_ok hmG 600 ?_
      rw [gRem_none]
      refine ⟨rfl, fun b1 => ⟨rfl, rfl, ⟨rfl, rfl, rfl⟩, s, fun W F w hr => Rep.dropR (h := grpE s b) (Rep.forget1 (l := 1) rfl hr), ?_⟩⟩
      simpa only [gRemove, hx] using h
    | some v =>
      obtain ⟨nb, ms⟩ := v
      obtain ⟨x, y, hs, _, hdel⟩ := gs_split hx
      refine Spec.pre (hs' := [⟨.blk b, .cells [.map 1 s.bg, .map 2 s.bo, .vec 3 s.ao s.notes.length s.cap] 118⟩, ⟨.blk s.bg, .map1 none encG s.gs (.s n) (some (.map 4 nb))⟩, ⟨.blk s.bo, .mapL (some .i64) encO s.of⟩, ⟨.sl s.ao s.cap, .vecL 9 1 encS s.notes ByteArray.empty⟩, ⟨.blk nb, .mapL (some .i64) encU ms⟩, pk 0 (x.map setE ++ y.map setE)]) (fun W F w hr => Rep.know1 (l := 1) (.s n) (some (.map 4 nb)) rfl rfl (by rw [hx]; rfl) (grp_open hs hr)) rfl ?_
      refine Spec.of_G 35 Try.func60 (c := bodyOf Try.f60) (by kernel_rfl) (by kernel_rfl) (Nat.le_of_ble_eq_true rfl) fun W F => ?_
      refine G_run (kc := false) (ss := []) gT3_ok hmG 600 ?_
      rw [gRem_some]
      refine ⟨rfl, fun b1 => ⟨rfl, rfl, ⟨rfl, rfl, rfl⟩, rfl, ?_⟩⟩
      simp only [gRemove, hx] at h
      cases hp : decide ((ms.length : Int) > 0) with
      | true =>
          refine ⟨s, fun W F w hr => ?_, by simpa only [hp] using h⟩
          have h1 := Rep.forget1 (l := 1) rfl hr
          rw [hs] at h1
          have h3 := grp_close (n := n) (v := (nb, ms)) h1
          rw [← hs] at h3
          exact h3
      | false =>
        refine ⟨rfl, rfl, ⟨rfl, rfl, rfl⟩, rfl, rfl, rfl, s.notes, n, rfl, rfl, ⟨rfl, rfl, by omega⟩, ⟨rfl, rfl, rfl, Nat.le_refl _⟩, ?_⟩
        refine ⟨_, fun W F w hr => ?_, by simpa only [hp] using h⟩
        unfold grpE
        dsimp only
        have e : (mdel s.gs (.s n)).map setE = x.map setE ++ y.map setE := by rw [hdel]; simp
        rw [e]
        exact Rep.pick (π := [0, 1, 2, 3, 5]) (by decide) rfl hr
  · exact h.elim
theorem gEmptied_ok : CtrOk Try.prog 19 (adtC grpE emptiedM) := adt_ok fun b s rest N h => by
  unfold emptiedM at h
  split at h
  · skip
    refine Spec.pre (hs' := [⟨.blk b, .cells [.map 1 s.bg, .map 2 s.bo, .vec 3 s.ao s.notes.length s.cap] 118⟩, ⟨.blk s.bg, .mapL none encG s.gs⟩, ⟨.blk s.bo, .mapL (some .i64) encO s.of⟩, ⟨.sl s.ao s.cap, .vecL 9 1 encS s.notes ByteArray.empty⟩, pk 0 (s.gs.map setE)]) (fun W F w hr => hr) rfl ?_
    refine Spec.of_G 34 Try.func19 (c := bodyOf Try.f19) (by kernel_rfl) (by kernel_rfl) (Nat.le_of_ble_eq_true rfl) fun W F => ?_
    refine G_run (kc := false) (ss := []) (Cs := []) trivial hmG 600 ?_
    rw [gEm_start]
    refine G_loopAt (ι := List ByteArray × Option Addr × Nat) [] (bodyOf Try.f19) [1, 0, 0] 34 (fun _ => [(0, .ptr 0 b 0), (2, .str ⟨#[]⟩), (3, .bool false)]) (fun i => grpE { s with notes := i.1, ao := i.2.1, cap := i.2.2 } b) (fun i => firstEmpty s.gs i.1 = firstEmpty s.gs s.notes) (fun i => i.1.length) (s.notes, s.ao, s.cap) (by kernel_rfl) (fun J => by kernel_rfl) rfl rfl ⟨rfl, rfl, rfl, trivial⟩ (fun w hw => hw) ?_
    rintro ⟨notes, ao, cap⟩ hfe u
    dsimp only at hfe
    simp only [List.nil_append, List.cons_append]
    have hfin := h
    simp only [gEmptied, ← hfe] at hfin
    clear h
    generalize hs2 : ({ s with notes := notes, ao := ao, cap := cap } : Grp) = s2
    refine G_heap (h' := [⟨.blk b, .cells [.map 1 s2.bg, .map 2 s2.bo, .vec 3 s2.ao s2.notes.length s2.cap] 118⟩, ⟨.blk s2.bg, .mapL none encG s2.gs⟩, ⟨.blk s2.bo, .mapL (some .i64) encO s2.of⟩, ⟨.sl s2.ao s2.cap, .vecL 9 1 encS s2.notes ByteArray.empty⟩, pk 0 (s2.gs.map setE)]) (fun w hw => hw) ?_
    refine G_vec (l := 3) rfl fun hcap _ => ?_
    refine G_run (kc := false) (ss := [4]) (Cs := []) trivial hmG 900 ?_
    rw [gEm_head]
    refine ⟨rfl, ?_⟩
    cases notes with
    | nil =>
      have hd : decide ((s2.notes.length : Int) > 0) = false := by rw [← hs2]; rfl
      rw [hd]
      refine ⟨s2, fun W F w hr => hr, ?_⟩
      have := hfin ao cap
      simp only [firstEmpty] at this
      rw [hs2] at this
      exact this
    | cons n notes =>
      have hl : s2.notes.length = notes.length + 1 := by rw [← hs2]; rfl
      have hd : decide ((s2.notes.length : Int) > 0) = true := by rw [hl]; simp
      rw [hd]
      refine ⟨rfl, ⟨rfl, rfl, rfl, by omega, by omega⟩, ⟨rfl, rfl, rfl, by omega⟩, rfl, ⟨by omega, by omega, by omega⟩, ⟨rfl, rfl, rfl, Nat.le_refl _⟩, ?_⟩
      obtain ⟨s3, hs3⟩ : ∃ s3 : Grp, s3 = { s with notes := notes, ao := cutA ao cap 1 1, cap := cap - 1 } := ⟨_, rfl⟩
      have hcut : ∀ w, Rep W F [⟨.blk b, .cells [.map 1 s2.bg, .map 2 s2.bo, .sub 3 s2.ao s2.cap 1 1 s2.notes.length] 118⟩, ⟨.blk s2.bg, .mapL none encG s2.gs⟩, ⟨.blk s2.bo, .mapL (some .i64) encO s2.of⟩, ⟨.sl s2.ao s2.cap, .vecL 9 1 encS s2.notes ByteArray.empty⟩, pk 0 (s2.gs.map setE)] w → Rep W F (grpE s3 b) w := by
        intro w hw
        have a1 := Rep.cut (l := 3) (k := 1) rfl (by omega) hw
        have a2 := Rep.cellsEq (l := 0) (cs' := [.map 1 s2.bg, .map 2 s2.bo, .vec 3 (cutA s2.ao s2.cap 1 1) (s2.notes.drop 1).length (s2.cap - 1)]) rfl (by simp [denL, den_cut]) a1
        rw [hs3]
        rw [← hs2] at a2
        exact a2
      have hnn : s2.notes.getD 0 ByteArray.empty = n := by rw [← hs2]; rfl
      rw [hnn]
      have hg3 : s3.gs = s.gs := by rw [hs3]
      cases hx : mget s.gs (.s n) with
      | none =>
        refine G_live 34 [(0, .ptr 0 b 0), (2, .str ⟨#[]⟩), (3, .bool false), (4, .str n)] [⟨.blk b, .cells [.map 1 s3.bg, .map 2 s3.bo, .vec 3 s3.ao s3.notes.length s3.cap] 118⟩, ⟨.blk s3.bg, .map1 none encG s3.gs (.s n) none⟩, ⟨.blk s3.bo, .mapL (some .i64) encO s3.of⟩, ⟨.sl s3.ao s3.cap, .vecL 9 1 encS s3.notes ByteArray.empty⟩, pk 0 (s3.gs.map setE)] rfl ⟨rfl, rfl, rfl, rfl, trivial⟩ (fun w hr => Rep.know1 (l := 1) (.s n) none rfl rfl (by rw [hg3, hx]; rfl) (hcut w hr)) fun u => ?_
        refine G_run (kc := false) (ss := []) (Cs := []) trivial hmG 900 ?_
        rw [gEm_none]
        refine ⟨rfl, ⟨rfl, rfl, rfl⟩, s3, fun W F w hr => Rep.forget1 (l := 1) rfl hr, ?_⟩
        have := hfin (cutA ao cap 1 1) (cap - 1)
        simp only [firstEmpty, hx] at this
        rw [hs3]; exact this
      | some v =>
        obtain ⟨nb, ms⟩ := v
        have hx3 : mget s3.gs (.s n) = some (nb, ms) := by rw [hg3]; exact hx
        obtain ⟨x, y, hsx, hset, _⟩ := gs_split hx3
        refine G_live 34 [(0, .ptr 0 b 0), (2, .str ⟨#[]⟩), (3, .bool false), (4, .str n)] [⟨.blk b, .cells [.map 1 s3.bg, .map 2 s3.bo, .vec 3 s3.ao s3.notes.length s3.cap] 118⟩, ⟨.blk s3.bg, .map1 none encG s3.gs (.s n) (some (.map 4 nb))⟩, ⟨.blk s3.bo, .mapL (some .i64) encO s3.of⟩, ⟨.sl s3.ao s3.cap, .vecL 9 1 encS s3.notes ByteArray.empty⟩, ⟨.blk nb, .mapL (some .i64) encU ms⟩, pk 0 (x.map setE ++ y.map setE)] rfl ⟨rfl, rfl, rfl, rfl, trivial⟩ (fun w hr => Rep.know1 (l := 1) (.s n) (some (.map 4 nb)) rfl rfl (by rw [hx3]; rfl) (grp_open hsx (hcut w hr))) fun u => ?_
        refine G_run (kc := false) (ss := []) (Cs := []) trivial hmG 900 ?_
        rw [gEm_some]
        refine ⟨rfl, ⟨rfl, rfl, rfl⟩, rfl, ?_⟩
        have hclose : ∀ W F w, Rep W F [⟨.blk b, .cells [.map 1 s3.bg, .map 2 s3.bo, .vec 3 s3.ao s3.notes.length s3.cap] 118⟩, ⟨.blk s3.bg, .map1 none encG s3.gs (.s n) (some (.map 4 nb))⟩, ⟨.blk s3.bo, .mapL (some .i64) encO s3.of⟩, ⟨.sl s3.ao s3.cap, .vecL 9 1 encS s3.notes ByteArray.empty⟩, ⟨.blk nb, .mapL (some .i64) encU ms⟩, pk 0 (x.map setE ++ y.map setE)] w → Rep W F (grpE s3 b) w := by
          intro W F w hr
          have h1 := Rep.forget1 (l := 1) rfl hr
          rw [hsx] at h1
          have h3 := grp_close (n := n) (v := (nb, ms)) h1
          rw [← hsx] at h3
          exact h3
        cases hm : ms with
        | nil =>
          refine ⟨s3, fun W F w hr => hclose W F w (by rw [hm]; exact hr), ?_⟩
          have := hfin (cutA ao cap 1 1) (cap - 1)
          simp only [firstEmpty, hx, hm] at this
          rw [hs3]; exact this
        | cons m ms' =>
          have hne : (((m :: ms').length : Int) == 0) = false := by simp; omega
          rw [hne]
          refine G_back (notes, cutA ao cap 1 1, cap - 1) ?_ (by dsimp only; simp) rfl ⟨rfl, rfl, rfl, trivial⟩ (fun w hw => ?_)
          · dsimp only
            rw [← hfe]
            simp only [firstEmpty, hx, hm, List.length_cons]
          · have := hclose W F w (by rw [hm]; exact hw)
            rw [hs3] at this
            exact this
  · exact h.elim

theorem gNew_ok : CtrOk Try.prog 13 newGC := by
  intro args hs N h
  unfold newGC at h
  split at h
  · refine Spec.at (hp := []) (args' := []) (Post' := fun h' r => ∃ b bg bo, h' = [pkA b grpE ⟨bg, bo, none, 0, [], [], []⟩] ∧ r = .ptr 0 b 0) [] rfl rfl ?_ rfl ?_
    · refine Spec.up ?_
      refine Spec.of_G 5 Try.func13 (c := bodyOf Try.f13) (by kernel_rfl) (by kernel_rfl) (Nat.le_of_ble_eq_true rfl) fun W F => ?_
      refine G_run (kc := false) (ss := []) (Cs := []) trivial hmG 600 ?_
      rw [gNew_run]
      refine fun bg bo => ⟨⟨rfl, rfl⟩, rfl, fun b => ?_⟩
      refine ⟨[pkA b grpE ⟨bg, bo, none, 0, [], [], []⟩], .ptr 0 b 0, fun W F w hr => ?_, rfl, b, bg, bo, rfl, rfl⟩
      have h1 := Rep.mapOf (l := 0) encG [] rfl rfl hr
      have h2 := Rep.mapOf (l := 1) encO [] rfl rfl h1
      have h3 := Rep.nilvec 9 (sz := 1) (enc := encS) ByteArray.empty (fun _ => rfl) h2
      have h4 := Rep.pick (π := [2, 0, 1, 3]) (by decide) rfl h3
      have h5 := Rep.cellsEq (l := 0) (cs' := [.map 1 bg, .map 2 bo, .vec 3 none 0 0]) rfl (by simp [denL, den]) h4
      have h6 : Rep W F (pk 0 [] :: _) w := Rep.pk 0 (h := []) h5
      have h7 := Rep.pick (π := [1, 2, 3, 4, 0]) (by decide) rfl h6
      exact Rep.pkA1 h7
    · rintro h' r ⟨b, bg, bo, rfl, rfl⟩
      refine ⟨Nat.zero_le _, .ptr (lenN hs) b 0, rfl, ?_⟩
      have := h b bg bo
      simpa [putBack, appE_eq, snoc_eq] using this
  · exact h.elim
end Go.Proofs.Ytihajdkipkfiiaa
