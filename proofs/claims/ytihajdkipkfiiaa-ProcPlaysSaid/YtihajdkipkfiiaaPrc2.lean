/- proc.Table: Exit, New. -/
import Derived.Test.YtihajdkipkfiiaaPrc1
namespace Go.Proofs.Ytihajdkipkfiiaa
open Go Go.RowKit
set_option linter.unusedVariables false
set_option linter.unusedSimpArgs false
set_option linter.unnecessarySimpa false
set_option maxHeartbeats 0

def bagX (pid : Int) (zl : List (Nat × (Nat × PR))) (seen : List Nat) : List Ent := zl.map fun z => procE (z.2.1, if z.1 ∈ seen then orphan pid z.2.2 else z.2.2)
theorem bagX_out {pid : Int} {z1 z2 : List (Nat × (Nat × PR))} {born : Nat} {x : Nat × PR} {seen : List Nat} (hn : ((z1 ++ (born, x) :: z2).map (·.1)).Nodup) (hs : born ∉ seen) :
    bagX pid (z1 ++ (born, x) :: z2) seen = bagX pid z1 seen ++ procE x :: bagX pid z2 seen ∧ bagX pid (z1 ++ (born, x) :: z2) (snoc seen born) = bagX pid z1 seen ++ procE (x.1, orphan pid x.2) :: bagX pid z2 seen := by
  have key : ∀ z : List (Nat × (Nat × PR)), (∀ y ∈ z, y.1 ≠ born) → bagX pid z (snoc seen born) = bagX pid z seen := fun z hz => by
    unfold bagX
    refine List.map_congr_left fun y hy => ?_
    have : y.1 ∈ snoc seen born ↔ y.1 ∈ seen := by rw [snoc_eq]; simp [hz y hy]
    simp only [this]
  rw [List.map_append, List.map_cons, List.nodup_append, List.nodup_cons] at hn
  have k1 := key z1 fun y hy e => hn.2.2 born (List.mem_map.2 ⟨y, hy, e⟩) born List.mem_cons_self rfl
  have k2 := key z2 fun y hy e => hn.2.1.1 (List.mem_map.2 ⟨y, hy, e⟩)
  refine ⟨?_, ?_⟩
  · unfold bagX
    rw [List.map_append, List.map_cons, if_neg hs]
  · have : bagX pid (z1 ++ (born, x) :: z2) (snoc seen born) = bagX pid z1 (snoc seen born) ++ procE (x.1, orphan pid x.2) :: bagX pid z2 (snoc seen born) := by
      unfold bagX
      rw [List.map_append, List.map_cons, if_pos (by rw [snoc_eq]; simp)]
    rw [this, k1, k2]
theorem filter_lt_of {α : Type} {p q : α → Bool} (h : ∀ x, q x = true → p x = true) {a : α} (ha : p a = true) (hb : q a = false) : ∀ {l : List α}, a ∈ l → (l.filter q).length < (l.filter p).length
  | x :: l, hm => by
    have hle : ∀ l : List α, (l.filter q).length ≤ (l.filter p).length := fun l => by
      induction l with
      | nil => simp
      | cons y l ih =>
        simp only [List.filter_cons]
        cases hq : q y with
        | true => simp [h y hq, ih]
        | false => cases p y <;> simp <;> omega
    simp only [List.filter_cons]
    rcases List.mem_cons.1 hm with rfl | hm
    · rw [ha, hb]; simp; have := hle l; omega
    · have ih := filter_lt_of h ha hb hm
      cases hq : q x with
      | true => simp [h x hq]; omega
      | false => cases p x <;> simp <;> omega

/-- The round through all processes. -/
theorem pExit_loop {W : World} {F : List Ch} {N : List Ent → SV → Prop} (s : PT) (b : Nat) (pid st : Int) (u : Nat → Value) (hN : ∀ h', (∀ W F w, Rep W F h' w → Rep W F (ptE { s with ps := s.ps.map fun x => (x.1, orphan pid x.2) } b) w) → N h' (.int .i64 0)) :
    G Try.prog (endQ Try.prog Try.f24 W F N) W F (frmR [] (bodyOf Try.f24) 7) ⟨mkT u 58 0 [(0, .ptr 0 b 0), (1, .int .i64 pid), (2, .int .i64 st)], ptE s b⟩ := by
  refine G_heap (h' := [⟨.blk b, .cells [.map 1 s.bm, .int .i64 s.room, .int .i64 s.last] 130⟩, ⟨.blk s.bm, .mapL (some .i64) encB1 (s.ps.map pkey)⟩, pk 0 (s.ps.map procE)]) (fun w hr => hr) ?_
  refine G_run (kc := false) (ss := [8]) (Cs := []) trivial hmP 900 ?_
  rw [pExit_rng]
  refine ⟨rfl, rfl, fun es clk bi hes hnd => ?_⟩
  have hlen : es.length = s.ps.length := by simpa using congrArg List.length hes
  obtain ⟨zl, hzl⟩ : ∃ zl, zl = (es.map (·.2.1)).zip s.ps := ⟨_, rfl⟩
  have hz1 : zl.map (·.1) = es.map (·.2.1) := by rw [hzl, List.map_fst_zip (by simp [hlen])]
  have hz2 : zl.map (·.2) = s.ps := by rw [hzl, List.map_snd_zip (by simp [hlen])]
  refine G_loopAt (ι := List Nat) [] (bodyOf Try.f24) [1, 1, 1, 1, 1, 0, 1, 0] 58 (fun _ => [(0, .ptr 0 b 0), (1, .int .i64 pid), (42, .ptr 3 bi 0)]) (fun seen => [⟨.blk b, .cells [.map 1 s.bm, .int .i64 s.room, .int .i64 s.last] 130⟩, ⟨.blk s.bm, .mapS (some .i64) encB1 es clk⟩, pk 0 (bagX pid zl seen), ⟨.blk bi, .iter 1 s.bm clk seen⟩])
    (fun _ => True) (fun seen => (es.filter fun e => !seen.contains e.2.1).length) [] (by kernel_rfl) (fun J => by kernel_rfl) trivial rfl ⟨rfl, rfl, rfl, trivial⟩ (fun w hw => ?_) fun seen _ u => ?_
  · have e : s.ps.map procE = bagX pid zl [] := by
      unfold bagX
      rw [← hz2, List.map_map]
      refine List.map_congr_left fun z _ => ?_
      simp
    rw [e] at hw; exact hw
  simp only [List.nil_append, List.cons_append]
  refine G_run (kc := false) (ss := [10]) (Cs := []) trivial hmP 900 ?_
  rw [pExit_head]
  refine ⟨⟨rfl, rfl, rfl⟩, fun n born v hm hns => ⟨⟨rfl, rfl, rfl⟩, n, born, v, seen, hm, rfl, ?_⟩, fun hall => ?_⟩
  · obtain ⟨j, hj, he⟩ := List.mem_iff_getElem.1 hm
    have hj2 : j < s.ps.length := by omega
    have hx : pkey s.ps[j] = (Key.i .i64 n, v) := by
      have h1 : (es.map fun e => (e.1, e.2.2))[j]'(by simpa using hj) = (s.ps.map pkey)[j]'(by simpa using hj2) := by simp only [hes]
      simp only [List.getElem_map, he] at h1
      exact h1.symm
    have hxz : (born, s.ps[j]) ∈ zl := by
      rw [hzl, List.mem_iff_getElem]
      refine ⟨j, by simp [hlen]; exact hj2, ?_⟩
      simp [he]
    obtain ⟨z1, z2, hz⟩ := List.append_of_mem hxz
    have hv : (s.ps[j]).1 = v := congrArg Prod.snd hx
    generalize s.ps[j] = x at hz hv
    subst hv
    obtain ⟨o1, o2⟩ := bagX_out (pid := pid) (z1 := z1) (z2 := z2) (born := born) (x := x) (seen := seen) (by rw [← hz, hz1]; exact hnd) hns
    obtain ⟨pb, r⟩ := x
    dsimp only at o1 o2
    refine G_live 58 [(0, .ptr 0 b 0), (1, .int .i64 pid), (10, .ptr 4 pb 0), (42, .ptr 3 bi 0)] [⟨.blk b, .cells [.map 1 s.bm, .int .i64 s.room, .int .i64 s.last] 130⟩, ⟨.blk s.bm, .mapS (some .i64) encB1 es clk⟩, pk 0 (bagX pid z1 seen ++ bagX pid z2 seen), ⟨.blk bi, .iter 1 s.bm clk (snoc seen born)⟩, ⟨.blk pb, .cells (encR r) 127⟩] rfl ⟨rfl, rfl, rfl, rfl, trivial⟩ (fun w hr => ?_) fun u => ?_
    · rw [hz, o1] at hr
      have h1 := Rep.outP (p := [_, _]) (t := [_]) hr
      exact Rep.pick (π := [0, 1, 3, 4, 2]) (by decide) rfl h1
    have hback : ∀ r', r' = orphan pid r → ∀ w, Rep W F [⟨.blk b, .cells [.map 1 s.bm, .int .i64 s.room, .int .i64 s.last] 130⟩, ⟨.blk s.bm, .mapS (some .i64) encB1 es clk⟩, pk 0 (bagX pid z1 seen ++ bagX pid z2 seen), ⟨.blk bi, .iter 1 s.bm clk (snoc seen born)⟩, ⟨.blk pb, .cells (encR r') 127⟩] w →
        Rep W F [⟨.blk b, .cells [.map 1 s.bm, .int .i64 s.room, .int .i64 s.last] 130⟩, ⟨.blk s.bm, .mapS (some .i64) encB1 es clk⟩, pk 0 (bagX pid zl (snoc seen born)), ⟨.blk bi, .iter 1 s.bm clk (snoc seen born)⟩] w := by
      rintro r' rfl w hr
      have h1 := Rep.pick (π := [0, 1, 4, 2, 3]) (by decide) rfl hr
      have h2 := Rep.intoP (p := [_, _]) (t := [_]) (e := procE (pb, orphan pid r)) h1
      rw [hz, o2]; exact h2
    have hmu : (es.filter fun e => !(snoc seen born).contains e.2.1).length < (es.filter fun e => !seen.contains e.2.1).length := by
      refine filter_lt_of (fun x hx => ?_) (a := (Key.i .i64 n, born, pb)) ?_ ?_ hm
      · simp only [snoc_eq, Bool.not_eq_true', List.contains_eq_mem, decide_eq_false_iff_not, List.mem_append, not_or] at hx ⊢
        exact hx.1
      · simp [hns]
      · simp [snoc_eq]
    refine G_run (kc := false) (ss := []) (Cs := []) trivial hmP 900 ?_
    rw [pExit_body]
    refine ⟨rfl, ?_⟩
    cases hp : r.parent == pid with
    | true =>
      refine ⟨⟨rfl, rfl, rfl, by decide⟩, ?_⟩
      exact G_back (snoc seen born) trivial hmu rfl ⟨rfl, rfl, rfl, trivial⟩ (fun w hw => hback { r with parent := 1 } (by simp only [orphan, hp]) w hw)
    | false => exact G_back (snoc seen born) trivial hmu rfl ⟨rfl, rfl, rfl, trivial⟩ (fun w hw => hback r (by simp only [orphan, hp]) w hw)
  · refine hN _ fun W F w hr => ?_
    have h1 := Rep.unmapS (l := 1) rfl hr
    have h2 := Rep.pick (π := [0, 1, 2]) (by decide) rfl h1
    have e1 : bagX pid zl seen = (s.ps.map fun x => (x.1, orphan pid x.2)).map procE := by
      unfold bagX
      rw [← hz2, List.map_map, List.map_map]
      refine List.map_congr_left fun z hzm => ?_
      have : z.1 ∈ es.map (·.2.1) := by rw [← hz1]; exact List.mem_map.2 ⟨z, hzm, rfl⟩
      obtain ⟨e, he, he2⟩ := List.mem_map.1 this
      have := hall e he
      rw [he2] at this
      simp [this]
    have e2 : (s.ps.map fun x => (x.1, orphan pid x.2)).map pkey = s.ps.map pkey := by
      rw [List.map_map]
      refine List.map_congr_left fun x _ => ?_
      simp only [Function.comp, pkey, orphan]
      cases x.2.parent == pid <;> rfl
    unfold ptE
    dsimp only
    rw [e2, ← e1, ← hes]
    exact h2

theorem pExit_ok : CtrOk Try.prog 24 (adtC ptE exitM) := adt_ok fun b s rest N h => by
  unfold exitM at h
  split at h
  case h_2 => exact h.elim
  rename_i pid status
  obtain ⟨ho, h⟩ := h
  cases hg : getP s.ps pid with
  | none =>
    obtain ⟨e1, e2, e3⟩ := pHas_none hg
    refine Spec.pre (hs' := [⟨.blk b, .cells [.map 1 s.bm, .int .i64 s.room, .int .i64 s.last] 130⟩, ⟨.blk s.bm, .map1 (some .i64) encB1 (s.ps.map pkey) (.i .i64 pid) none⟩, pk 0 (s.ps.map procE)]) (fun W F w hr => Rep.know1 (l := 1) (.i .i64 pid) none rfl rfl (by rw [mget_pkey, hg]; rfl) hr) rfl ?_
    refine Spec.of_G 58 Try.func24 (c := bodyOf Try.f24) (by kernel_rfl) (by kernel_rfl) (Nat.le_of_ble_eq_true rfl) fun W F => ?_
    refine G_run (kc := false) (ss := []) ptL_ok hmP 900 ?_
    rw [pExit_none]
    simp only [pExit, e3, Bool.false_and] at h
    repeat' first
      | exact rfl
      | exact trivial
      | assumption
      | (refine ⟨s, fun W F w hr => Rep.dropR (h := ptE s b) (Rep.forget1 (l := 1) rfl hr), ?_⟩)
      | (refine fun _ => ?_)
      | (refine ⟨_, rfl, ?_⟩)
      | apply And.intro
      | (show _ ≤ _; decide)
      | fail
  | some x =>
    obtain ⟨pb, r⟩ := x
    obtain ⟨e1, e2, e3⟩ := pHas_some hg
    obtain ⟨l1, l2, hs, hpid, hset, _⟩ := getP_split ho.asc hg
    dsimp only at e2 e3 hpid hset
    refine Spec.pre (hs' := [⟨.blk b, .cells [.map 1 s.bm, .int .i64 s.room, .int .i64 s.last] 130⟩, ⟨.blk s.bm, .map1 (some .i64) encB1 (s.ps.map pkey) (.i .i64 pid) (some (.ptr 2 pb 0))⟩, ⟨.blk pb, .cells (encR r) 127⟩, pk 0 (l1.map procE ++ l2.map procE)]) (fun W F w hr => Rep.know1 (l := 1) (.i .i64 pid) (some (.ptr 2 pb 0)) rfl rfl (by rw [mget_pkey, hg]; rfl) (pt_open hs hr)) rfl ?_
    refine Spec.of_G 58 Try.func24 (c := bodyOf Try.f24) (by kernel_rfl) (by kernel_rfl) (Nat.le_of_ble_eq_true rfl) fun W F => ?_
    refine G_run (kc := false) (ss := [7]) ptL_ok hmP 900 ?_
    rw [pExit_some]
    simp only [pExit, e3] at h
    obtain ⟨rp, rpa, rg, rz, rs, rc, rt, rk⟩ := r
    dsimp only at h ⊢
    cases rz <;> cases h1 : pid == 1 <;> cases s1 : decide (status < -64) <;> cases s2 : decide (status > 255) <;> simp only [h1, s1, s2, Bool.not_true, Bool.not_false, Bool.true_and, Bool.false_and, Bool.and_true, Bool.and_false] at h ⊢
    all_goals
      have hst : stOf status = stOf status := rfl
      conv at hst => rhs; unfold stOf; simp only [s1, s2, Bool.or_true, Bool.or_false, Bool.true_or, Bool.false_or]
      repeat' first
        | exact rfl
        | exact trivial
        | assumption
        | (refine ⟨s, fun W F w hr => pt_back hs hr, ?_⟩)
        | (refine G_live 58 [(0, .ptr 0 b 0), (1, .int .i64 pid), (2, .int .i64 255)] (ptE { s with ps := setP s.ps pid fun r => { r with zombie := true, status := stOf status } } b) rfl ⟨rfl, rfl, rfl, trivial⟩ (fun w hr => pt_set (g := fun r => { r with zombie := true, status := stOf status }) (fun _ => rfl) hset (by rw [hst]; exact hr)) fun u => pExit_loop _ b pid _ u fun h' hh => ⟨_, hh, h⟩)
        | (refine G_live 58 [(0, .ptr 0 b 0), (1, .int .i64 pid), (2, .int .i64 status)] (ptE { s with ps := setP s.ps pid fun r => { r with zombie := true, status := stOf status } } b) rfl ⟨rfl, rfl, rfl, trivial⟩ (fun w hr => pt_set (g := fun r => { r with zombie := true, status := stOf status }) (fun _ => rfl) hset (by rw [hst]; exact hr)) fun u => pExit_loop _ b pid _ u fun h' hh => ⟨_, hh, h⟩)
        | (refine fun _ => ?_)
        | (refine ⟨_, rfl, ?_⟩)
        | apply And.intro
        | (show _ ≤ _; decide)
        | fail

theorem pNew_ok : CtrOk Try.prog 21 newPC := by
  intro args hs N h
  unfold newPC at h
  split at h
  case h_2 => exact h.elim
  rename_i room
  refine Spec.at (hp := []) (args' := [.int .i64 room]) (Post' := fun h' r => ∃ b bm bp, h' = [pkA b ptE (pNew room bm bp)] ∧ r = .ptr 0 b 0) [] rfl rfl ?_ rfl ?_
  · refine Spec.up ?_
    refine Spec.of_G 13 Try.func21 (c := bodyOf Try.f21) (by kernel_rfl) (by kernel_rfl) (Nat.le_of_ble_eq_true rfl) fun W F => ?_
    refine G_run (kc := false) (ss := []) (Cs := []) trivial hmP 600 ?_
    rw [pNew_run]
    refine fun bm => ⟨⟨rfl, rfl⟩, ⟨rfl, rfl⟩, rfl, fun bp => ⟨⟨rfl, rfl, rfl⟩, ⟨rfl, rfl⟩, rfl, fun b => ?_⟩⟩
    refine ⟨[pkA b ptE (pNew room bm bp)], .ptr 0 b 0, fun W F w hr => ?_, rfl, b, bm, bp, rfl, rfl⟩
    have h1 := Rep.mapOf (l := 0) encB1 [(.i .i64 1, bp)] rfl rfl hr
    have h2 := Rep.pick (π := [1]) (by decide) rfl h1
    have h3 := Rep.pick (π := [2, 0, 1]) (by decide) rfl h1
    have h4 := Rep.pick (π := [2, 0, 1]) (by decide) rfl h3
    have h5 : Rep W F [pk 0 [procE (bp, { PR.zero with pid := 1 })], _, _] w := Rep.pk 0 (h := [procE (bp, { PR.zero with pid := 1 })]) h4
    have h6 := Rep.pick (π := [1, 2, 0]) (by decide) rfl h5
    exact Rep.pkA1 h6
  · rintro h' r ⟨b, bm, bp, rfl, rfl⟩
    refine ⟨Nat.zero_le _, .ptr (lenN hs) b 0, rfl, ?_⟩
    have := h b bm bp
    simpa [putBack, appE_eq, snoc_eq] using this
end Go.Proofs.Ytihajdkipkfiiaa
