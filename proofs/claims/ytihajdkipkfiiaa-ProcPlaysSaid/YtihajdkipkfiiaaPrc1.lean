/- proc.Table: Len, Get, Signals, Kill, Spawn, Fork. -/
import Derived.Test.YtihajdkipkfiiaaPr2Run
namespace Go.Proofs.Ytihajdkipkfiiaa
open Go Go.RowKit
set_option linter.unusedVariables false
set_option linter.unusedSimpArgs false
set_option linter.unnecessarySimpa false
set_option maxHeartbeats 0

theorem hmP : Try.prog.follows .mixedOrders = true := by kernel_rfl
theorem mget_pkey (pid : Int) : ∀ ps : List (Nat × PR), mget (ps.map pkey) (.i .i64 pid) = (getP ps pid).map (·.1)
  | [] => rfl
  | x :: ps => by
    have ih := mget_pkey pid ps
    unfold getP at ih ⊢
    simp only [List.map_cons, mget, List.find?_cons]
    have e : keyEq (.i .i64 pid) (pkey x).1 = (x.2.pid == pid) := by
      rw [Bool.eq_iff_iff]; simp only [pkey, keyEq, beq_iff_eq]; exact eq_comm
    have e2 : pkey x = ((pkey x).1, x.1) := rfl
    rw [e2]
    simp only [mget, e]
    cases x.2.pid == pid with
    | true => rfl
    | false => exact ih
theorem map_same {α : Type} {f : α → α} : ∀ {l : List α}, (∀ x ∈ l, f x = x) → l.map f = l
  | [], _ => rfl
  | x :: l, h => by rw [List.map_cons, h x List.mem_cons_self, map_same fun y hy => h y (List.mem_cons_of_mem _ hy)]
theorem getP_split {ps : List (Nat × PR)} {pid : Int} {x : Nat × PR} (ha : ps.Pairwise fun x y => x.2.pid < y.2.pid) (h : getP ps pid = some x) : ∃ l1 l2, ps = l1 ++ x :: l2 ∧ x.2.pid = pid ∧ (∀ g, setP ps pid g = l1 ++ (x.1, g x.2) :: l2) ∧ (ps.filter fun y => !(y.2.pid == pid)) = l1 ++ l2 := by
  unfold getP at h
  obtain ⟨h1, l1, l2, rfl, h2⟩ := List.find?_eq_some_iff_append.1 h
  have hx : x.2.pid = pid := by simpa using h1
  have n1 : ∀ y ∈ l1, (y.2.pid == pid) = false := fun y hy => by have := h2 y hy; simpa using this
  have n2 : ∀ y ∈ l2, (y.2.pid == pid) = false := fun y hy => by
    rw [List.pairwise_append] at ha
    have := (List.pairwise_cons.1 ha.2.1).1 y hy
    rw [hx] at this
    simp; omega
  refine ⟨l1, l2, rfl, hx, fun g => ?_, ?_⟩
  · have e1 : l1.map (setOne pid g) = l1 := map_same fun y hy => by simp only [setOne, n1 y hy]
    have e2 : l2.map (setOne pid g) = l2 := map_same fun y hy => by simp only [setOne, n2 y hy]
    unfold setP
    rw [List.map_append, List.map_cons, e1, e2]
    simp [setOne, hx]
  · rw [List.filter_append, List.filter_cons, List.filter_eq_self.2 fun y hy => by rw [n1 y hy]; rfl, List.filter_eq_self.2 fun y hy => by rw [n2 y hy]; rfl]
    simp [hx]
theorem pkey_setP {g : PR → PR} (hg : ∀ r, (g r).pid = r.pid) (ps : List (Nat × PR)) (pid : Int) : (setP ps pid g).map pkey = ps.map pkey := by
  unfold setP
  rw [List.map_map]
  refine List.map_congr_left fun x _ => ?_
  simp only [Function.comp, setOne]
  cases x.2.pid == pid <;> simp [pkey, hg]

section
variable {W w : World} {F : List Ch} {s : PT} {b : Nat} {x : Nat × PR} {l1 l2 : List (Nat × PR)}
theorem pt_open (hs : s.ps = l1 ++ x :: l2) (hr : Rep W F (ptE s b) w) : Rep W F [⟨.blk b, .cells [.map 1 s.bm, .int .i64 s.room, .int .i64 s.last] 130⟩, ⟨.blk s.bm, .mapL (some .i64) encB1 (s.ps.map pkey)⟩, procE x, pk 0 (l1.map procE ++ l2.map procE)] w := by
  have e : s.ps.map procE = l1.map procE ++ procE x :: l2.map procE := by rw [hs]; simp
  unfold ptE at hr
  rw [e] at hr
  exact Rep.outP (p := [⟨.blk b, .cells [.map 1 s.bm, .int .i64 s.room, .int .i64 s.last] 130⟩, ⟨.blk s.bm, .mapL (some .i64) encB1 (s.ps.map pkey)⟩]) (t := []) hr
theorem pt_close {a1 a2 : Ent} {t : List Ent} {pb : Nat} {r : PR} (hr : Rep W F (a1 :: a2 :: procE (pb, r) :: pk 0 (l1.map procE ++ l2.map procE) :: t) w) : Rep W F (a1 :: a2 :: pk 0 ((l1 ++ (pb, r) :: l2).map procE) :: t) w := by
  have := Rep.intoP (p := [a1, a2]) (t := t) (e := procE (pb, r)) hr
  have e : (l1 ++ (pb, r) :: l2).map procE = l1.map procE ++ procE (pb, r) :: l2.map procE := by simp
  rw [e]; exact this
theorem pt_back {pid : Int} {r0 : Option SV} {t : List Ent} {pb : Nat} {r : PR} (hs : s.ps = l1 ++ (pb, r) :: l2) (hr : Rep W F (⟨.blk b, .cells [.map 1 s.bm, .int .i64 s.room, .int .i64 s.last] 130⟩ :: ⟨.blk s.bm, .map1 (some .i64) encB1 (s.ps.map pkey) (.i .i64 pid) r0⟩ :: ⟨.blk pb, .cells (encR r) 127⟩ :: pk 0 (l1.map procE ++ l2.map procE) :: t) w) : Rep W F (ptE s b) w := by
  have h1 := Rep.forget1 (l := 1) rfl hr
  have h2 := pt_close (pb := pb) (r := r) h1
  rw [← hs] at h2
  exact Rep.dropR (h := ptE s b) h2
theorem pt_set {pid : Int} {r0 : Option SV} {t : List Ent} {pb : Nat} {r : PR} {g : PR → PR} (hg : ∀ r, (g r).pid = r.pid) (hs : ∀ g, setP s.ps pid g = l1 ++ (pb, g r) :: l2) (hr : Rep W F (⟨.blk b, .cells [.map 1 s.bm, .int .i64 s.room, .int .i64 s.last] 130⟩ :: ⟨.blk s.bm, .map1 (some .i64) encB1 (s.ps.map pkey) (.i .i64 pid) r0⟩ :: ⟨.blk pb, .cells (encR (g r)) 127⟩ :: pk 0 (l1.map procE ++ l2.map procE) :: t) w) :
    Rep W F (ptE { s with ps := setP s.ps pid g } b) w := by
  have h1 := Rep.forget1 (l := 1) rfl hr
  have h2 := pt_close (pb := pb) (r := g r) h1
  rw [← hs] at h2
  unfold ptE
  dsimp only
  rw [pkey_setP hg]
  exact Rep.dropR (h := [⟨.blk b, .cells [.map 1 s.bm, .int .i64 s.room, .int .i64 s.last] 130⟩, ⟨.blk s.bm, .mapL (some .i64) encB1 (s.ps.map pkey)⟩, pk 0 ((setP s.ps pid g).map procE)]) h2
theorem pt_new {k : Int} {r0 : Option SV} {e1 : Ent} {nb pb : Nat} {r r' : PR} (hs : s.ps = l1 ++ (pb, r) :: l2) (ho : pOk s) (hk : k = s.last + 1) (hr' : r'.pid = s.last + 1)
    (hr : Rep W F [⟨.blk b, .cells [.map 1 s.bm, .int .i64 s.room, .int .i64 k] 130⟩, ⟨.blk s.bm, .map1 (some .i64) encB1 (mset (s.ps.map pkey) (.i .i64 k) nb) (.i .i64 k) r0⟩, ⟨.blk pb, .cells (encR r) 127⟩, pk 0 (l1.map procE ++ l2.map procE), e1, procE (nb, r')] w) :
    Rep W F (ptE { s with ps := s.ps ++ [(nb, r')], last := s.last + 1 } b) w := by
  subst hk
  have h1 := Rep.forget1 (l := 1) rfl hr
  have h2 := pt_close (pb := pb) (r := r) h1
  rw [← hs] at h2
  have h3 := Rep.pick (π := [0, 1, 4, 2]) (by decide) rfl h2
  have h4 := Rep.intoNewP (p := [_, _]) (t := []) h3
  have hn : mget (s.ps.map pkey) (.i .i64 (s.last + 1)) = none := by
    rw [mget_pkey]
    have : getP s.ps (s.last + 1) = none := by
      unfold getP
      rw [List.find?_eq_none]
      intro x hx
      have := (ho.le x hx).2
      simp; omega
    rw [this]; rfl
  rw [mset_none hn] at h4
  unfold ptE
  dsimp only
  have e1 : (s.ps ++ [(nb, r')]).map pkey = s.ps.map pkey ++ [(.i .i64 (s.last + 1), nb)] := by simp [pkey, hr']
  have e2 : (s.ps ++ [(nb, r')]).map procE = s.ps.map procE ++ [procE (nb, r')] := by simp
  rw [e1, e2]
  exact h4
end
theorem pHas_none {s : PT} {pid : Int} (h : getP s.ps pid = none) : pHas s pid = false ∧ pGet s pid = PR.zero ∧ pLive s pid = false := by simp [pHas, pGet, pLive, h]
theorem pHas_some {s : PT} {pid : Int} {x : Nat × PR} (h : getP s.ps pid = some x) : pHas s pid = true ∧ pGet s pid = x.2 ∧ pLive s pid = !x.2.zombie := by simp [pHas, pGet, pLive, h]

theorem ptL_ok : AllOk Try.prog ptL := ⟨inl_ok trivial hmP Try.func74 (by kernel_rfl), inl_ok trivial hmP Try.func28 (by kernel_rfl), trivial⟩
theorem ptB_ok : AllOk Try.prog ptB := ⟨inl_ok ptL_ok hmP Try.func75 (by kernel_rfl), ptL_ok⟩
theorem pLen_ok : CtrOk Try.prog 28 (adtC ptE lenM) := adt_ok fun b s rest N h => by
  unfold lenM at h
  split at h
  case h_2 => exact h.elim
  obtain ⟨ho, h⟩ := h
  refine Spec.pre (hs' := [⟨.blk b, .cells [.map 1 s.bm, .int .i64 s.room, .int .i64 s.last] 130⟩, ⟨.blk s.bm, .mapL (some .i64) encB1 (s.ps.map pkey)⟩, pk 0 (s.ps.map procE)]) (fun W F w hr => hr) rfl ?_
  refine Spec.of_G 9 Try.func28 (c := bodyOf Try.f28) (by kernel_rfl) (by kernel_rfl) (Nat.le_of_ble_eq_true rfl) fun W F => ?_
  refine G_run (kc := false) (ss := []) (Cs := []) trivial hmP 600 ?_
  rw [pLen_run]
  have hl := ho.len
  have e : IntKind.wrap .i64 (((s.ps.map pkey).length : Int) - 1) = (s.ps.length : Int) - 1 := by rw [List.length_map]; exact IntWalk.i64_in _ (by omega)
  rw [e]
  exact ⟨rfl, rfl, s, fun W F w hr => hr, h⟩
theorem pGet_ok : CtrOk Try.prog 26 (adtC ptE getM) := adt_ok fun b s rest N h => by
  unfold getM at h
  split at h
  case h_2 => exact h.elim
  rename_i pid
  obtain ⟨ho, h⟩ := h
  cases hg : getP s.ps pid with
  | none =>
    obtain ⟨e1, e2, e3⟩ := pHas_none hg
    refine Spec.pre (hs' := [⟨.blk b, .cells [.map 1 s.bm, .int .i64 s.room, .int .i64 s.last] 130⟩, ⟨.blk s.bm, .map1 (some .i64) encB1 (s.ps.map pkey) (.i .i64 pid) none⟩, pk 0 (s.ps.map procE)]) (fun W F w hr => Rep.know1 (l := 1) (.i .i64 pid) none rfl rfl (by rw [mget_pkey, hg]; rfl) hr) rfl ?_
    refine Spec.of_G 24 Try.func26 (c := bodyOf Try.f26) (by kernel_rfl) (by kernel_rfl) (Nat.le_of_ble_eq_true rfl) fun W F => ?_
    refine G_run (kc := false) (ss := []) (Cs := []) trivial hmP 600 ?_
    rw [pGet_none]
    rw [e1, e2] at h
    repeat' first
      | exact rfl
      | exact trivial
      | (refine fun _ => ?_)
      | (refine ⟨_, rfl, ?_⟩)
      | apply And.intro
      | (show _ ≤ _; decide)
      | (refine ⟨s, fun W F w hr => Rep.dropR (h := ptE s b) (Rep.forget1 (l := 1) rfl hr), ?_⟩)
      | exact h
      | fail
  | some x =>
    obtain ⟨pb, r⟩ := x
    obtain ⟨e1, e2, e3⟩ := pHas_some hg
    obtain ⟨l1, l2, hs, hpid, hset, _⟩ := getP_split ho.asc hg
    dsimp only at e2 e3 hpid hset
    refine Spec.pre (hs' := [⟨.blk b, .cells [.map 1 s.bm, .int .i64 s.room, .int .i64 s.last] 130⟩, ⟨.blk s.bm, .map1 (some .i64) encB1 (s.ps.map pkey) (.i .i64 pid) (some (.ptr 2 pb 0))⟩, ⟨.blk pb, .cells (encR r) 127⟩, pk 0 (l1.map procE ++ l2.map procE)]) (fun W F w hr => Rep.know1 (l := 1) (.i .i64 pid) (some (.ptr 2 pb 0)) rfl rfl (by rw [mget_pkey, hg]; rfl) (pt_open hs hr)) rfl ?_
    refine Spec.of_G 24 Try.func26 (c := bodyOf Try.f26) (by kernel_rfl) (by kernel_rfl) (Nat.le_of_ble_eq_true rfl) fun W F => ?_
    refine G_run (kc := false) (ss := []) (Cs := []) trivial hmP 600 ?_
    rw [pGet_some]
    rw [e1, e2] at h
    repeat' first
      | exact rfl
      | exact trivial
      | (refine fun _ => ?_)
      | (refine ⟨_, rfl, ?_⟩)
      | apply And.intro
      | (show _ ≤ _; decide)
      | (refine ⟨s, fun W F w hr => pt_back hs hr, ?_⟩)
      | exact h
      | fail
theorem pSig_ok : CtrOk Try.prog 45 (adtC ptE signalsM) := adt_ok fun b s rest N h => by
  unfold signalsM at h
  split at h
  case h_2 => exact h.elim
  rename_i pid
  obtain ⟨ho, h⟩ := h
  cases hg : getP s.ps pid with
  | none =>
    obtain ⟨e1, e2, e3⟩ := pHas_none hg
    refine Spec.pre (hs' := [⟨.blk b, .cells [.map 1 s.bm, .int .i64 s.room, .int .i64 s.last] 130⟩, ⟨.blk s.bm, .map1 (some .i64) encB1 (s.ps.map pkey) (.i .i64 pid) none⟩, pk 0 (s.ps.map procE)]) (fun W F w hr => Rep.know1 (l := 1) (.i .i64 pid) none rfl rfl (by rw [mget_pkey, hg]; rfl) hr) rfl ?_
    refine Spec.of_G 27 Try.func45 (c := bodyOf Try.f45) (by kernel_rfl) (by kernel_rfl) (Nat.le_of_ble_eq_true rfl) fun W F => ?_
    refine G_run (kc := false) (ss := []) (Cs := []) trivial hmP 600 ?_
    rw [pSig_none]
    rw [e2] at h
    repeat' first
      | exact rfl
      | exact trivial
      | (refine fun _ => ?_)
      | (refine ⟨_, rfl, ?_⟩)
      | apply And.intro
      | (show _ ≤ _; decide)
      | (refine ⟨s, fun W F w hr => Rep.dropR (h := ptE s b) (Rep.forget1 (l := 1) rfl hr), ?_⟩)
      | exact h
      | fail
  | some x =>
    obtain ⟨pb, r⟩ := x
    obtain ⟨e1, e2, e3⟩ := pHas_some hg
    obtain ⟨l1, l2, hs, hpid, hset, _⟩ := getP_split ho.asc hg
    dsimp only at e2 e3 hpid hset
    refine Spec.pre (hs' := [⟨.blk b, .cells [.map 1 s.bm, .int .i64 s.room, .int .i64 s.last] 130⟩, ⟨.blk s.bm, .map1 (some .i64) encB1 (s.ps.map pkey) (.i .i64 pid) (some (.ptr 2 pb 0))⟩, ⟨.blk pb, .cells (encR r) 127⟩, pk 0 (l1.map procE ++ l2.map procE)]) (fun W F w hr => Rep.know1 (l := 1) (.i .i64 pid) (some (.ptr 2 pb 0)) rfl rfl (by rw [mget_pkey, hg]; rfl) (pt_open hs hr)) rfl ?_
    refine Spec.of_G 27 Try.func45 (c := bodyOf Try.f45) (by kernel_rfl) (by kernel_rfl) (Nat.le_of_ble_eq_true rfl) fun W F => ?_
    refine G_run (kc := false) (ss := []) (Cs := []) trivial hmP 600 ?_
    rw [pSig_some]
    rw [e2] at h
    repeat' first
      | exact rfl
      | exact trivial
      | (refine fun _ => ?_)
      | (refine ⟨_, rfl, ?_⟩)
      | apply And.intro
      | (show _ ≤ _; decide)
      | (refine ⟨s, fun W F w hr => pt_back hs hr, ?_⟩)
      | exact h
      | fail
theorem pKill_ok : CtrOk Try.prog 41 (adtC ptE killM) := adt_ok fun b s rest N h => by
  unfold killM at h
  split at h
  case h_2 => exact h.elim
  rename_i pid sig
  obtain ⟨ho, h⟩ := h
  cases hg : getP s.ps pid with
  | none =>
    obtain ⟨e1, e2, e3⟩ := pHas_none hg
    refine Spec.pre (hs' := [⟨.blk b, .cells [.map 1 s.bm, .int .i64 s.room, .int .i64 s.last] 130⟩, ⟨.blk s.bm, .map1 (some .i64) encB1 (s.ps.map pkey) (.i .i64 pid) none⟩, pk 0 (s.ps.map procE)]) (fun W F w hr => Rep.know1 (l := 1) (.i .i64 pid) none rfl rfl (by rw [mget_pkey, hg]; rfl) hr) rfl ?_
    refine Spec.of_G 32 Try.func41 (c := bodyOf Try.f41) (by kernel_rfl) (by kernel_rfl) (Nat.le_of_ble_eq_true rfl) fun W F => ?_
    refine G_run (kc := false) (ss := []) ptL_ok hmP 600 ?_
    rw [pKill_none]
    simp only [pKill, e3, Bool.false_and] at h
    repeat' first
      | exact rfl
      | exact trivial
      | assumption
      | (refine ⟨s, fun W F w hr => Rep.dropR (h := ptE s b) (Rep.forget1 (l := 1) rfl hr), ?_⟩)
      | (refine fun _ => ?_)
      | (refine ⟨_, rfl, ?_⟩)
      | apply And.intro
      | (show _ ≤ _; decide)
      | fail
  | some x =>
    obtain ⟨pb, r⟩ := x
    obtain ⟨e1, e2, e3⟩ := pHas_some hg
    obtain ⟨l1, l2, hs, hpid, hset, _⟩ := getP_split ho.asc hg
    dsimp only at e2 e3 hpid hset
    refine Spec.pre (hs' := [⟨.blk b, .cells [.map 1 s.bm, .int .i64 s.room, .int .i64 s.last] 130⟩, ⟨.blk s.bm, .map1 (some .i64) encB1 (s.ps.map pkey) (.i .i64 pid) (some (.ptr 2 pb 0))⟩, ⟨.blk pb, .cells (encR r) 127⟩, pk 0 (l1.map procE ++ l2.map procE)]) (fun W F w hr => Rep.know1 (l := 1) (.i .i64 pid) (some (.ptr 2 pb 0)) rfl rfl (by rw [mget_pkey, hg]; rfl) (pt_open hs hr)) rfl ?_
    refine Spec.of_G 32 Try.func41 (c := bodyOf Try.f41) (by kernel_rfl) (by kernel_rfl) (Nat.le_of_ble_eq_true rfl) fun W F => ?_
    refine G_run (kc := false) (ss := []) ptL_ok hmP 600 ?_
    rw [pKill_some]
    simp only [pKill, e3] at h
    obtain ⟨rp, rpa, rg, rz, rs, rc, rt, rk⟩ := r
    dsimp only at h ⊢
    cases rz <;> cases h1 : pid == 1 <;> cases h15 : sig == 15 <;> cases h9 : sig == 9 <;> simp only [h1, h15, h9, Bool.not_true, Bool.not_false, Bool.true_and, Bool.false_and, Bool.and_true, Bool.and_false] at h ⊢
    all_goals
      repeat' first
        | exact rfl
        | exact trivial
        | assumption
        | (refine ⟨s, fun W F w hr => pt_back hs hr, ?_⟩)
        | (refine ⟨_, fun W F w hr => pt_set (g := fun r => { r with term := true }) (fun _ => rfl) hset hr, ?_⟩)
        | (refine ⟨_, fun W F w hr => pt_set (g := fun r => { r with kill := true }) (fun _ => rfl) hset hr, ?_⟩)
        | (refine fun _ => ?_)
        | (refine ⟨_, rfl, ?_⟩)
        | apply And.intro
        | (show _ ≤ _; decide)
        | fail
theorem pSpawn_ok : CtrOk Try.prog 22 (adtC ptE spawnM) := adt_ok fun b s rest N h => by
  unfold spawnM at h
  split at h
  case h_2 => exact h.elim
  rename_i pid group cmd
  obtain ⟨ho, h⟩ := h
  cases hg : getP s.ps pid with
  | none =>
    obtain ⟨e1, e2, e3⟩ := pHas_none hg
    refine Spec.pre (hs' := [⟨.blk b, .cells [.map 1 s.bm, .int .i64 s.room, .int .i64 s.last] 130⟩, ⟨.blk s.bm, .map1 (some .i64) encB1 (s.ps.map pkey) (.i .i64 pid) none⟩, pk 0 (s.ps.map procE)]) (fun W F w hr => Rep.know1 (l := 1) (.i .i64 pid) none rfl rfl (by rw [mget_pkey, hg]; rfl) hr) rfl ?_
    refine Spec.of_G 28 Try.func22 (c := bodyOf Try.f22) (by kernel_rfl) (by kernel_rfl) (Nat.le_of_ble_eq_true rfl) fun W F => ?_
    refine G_run (kc := false) (ss := []) ptB_ok hmP 900 ?_
    rw [pSpawn_none]
    simp only [pSpawn, e3, Bool.false_and] at h
    have h := h 0
    repeat' first
      | exact rfl
      | exact trivial
      | assumption
      | (refine ⟨s, fun W F w hr => Rep.dropR (h := ptE s b) (Rep.forget1 (l := 1) rfl hr), ?_⟩)
      | (refine fun _ => ?_)
      | (refine ⟨_, rfl, ?_⟩)
      | apply And.intro
      | (show _ ≤ _; decide)
      | fail
  | some x =>
    obtain ⟨pb, r⟩ := x
    obtain ⟨e1, e2, e3⟩ := pHas_some hg
    obtain ⟨l1, l2, hs, hpid, hset, _⟩ := getP_split ho.asc hg
    dsimp only at e2 e3 hpid hset
    refine Spec.pre (hs' := [⟨.blk b, .cells [.map 1 s.bm, .int .i64 s.room, .int .i64 s.last] 130⟩, ⟨.blk s.bm, .map1 (some .i64) encB1 (s.ps.map pkey) (.i .i64 pid) (some (.ptr 2 pb 0))⟩, ⟨.blk pb, .cells (encR r) 127⟩, pk 0 (l1.map procE ++ l2.map procE)]) (fun W F w hr => Rep.know1 (l := 1) (.i .i64 pid) (some (.ptr 2 pb 0)) rfl rfl (by rw [mget_pkey, hg]; rfl) (pt_open hs hr)) rfl ?_
    refine Spec.of_G 28 Try.func22 (c := bodyOf Try.f22) (by kernel_rfl) (by kernel_rfl) (Nat.le_of_ble_eq_true rfl) fun W F => ?_
    refine G_run (kc := false) (ss := []) ptB_ok hmP 900 ?_
    rw [pSpawn_some]
    have hl := ho.len
    have hla := ho.last
    have hpl := (ho.le (pb, r) (by rw [hs]; simp)).2
    have hl1 := (ho.le (pb, r) (by rw [hs]; simp)).1
    dsimp only at hpl hl1
    have w1 : IntKind.wrap .i64 (((s.ps.map pkey).length : Int) - 1) = (s.ps.length : Int) - 1 := by rw [List.length_map]; exact IntWalk.i64_in _ (by omega)
    have w2 : IntKind.wrap .i64 (s.last + 1) = s.last + 1 := IntWalk.i64_in _ (by omega)
    rw [w1, w2]
    simp only [pSpawn, pBegins, e2, e3] at h
    obtain ⟨rp, rpa, rg, rz, rs, rc, rt, rk⟩ := r
    dsimp only at h ⊢
    cases rz <;> cases h1 : pid == 1 <;> cases rk <;> cases hr : decide ((s.ps.length : Int) - 1 ≥ s.room) <;> simp only [h1, hr, Bool.not_true, Bool.not_false, Bool.true_and, Bool.false_and, Bool.and_true, Bool.and_false] at h ⊢
    all_goals
      repeat' first
        | exact rfl
        | exact trivial
        | assumption
        | exact h 0
        | (refine ⟨s, fun W F w hr => pt_back hs hr, ?_⟩)
        | (refine ⟨_, fun W F w hr => pt_new (r' := { PR.zero with parent := pid, group := group, cmd := cmd, pid := s.last + 1 }) hs ho rfl rfl hr, ?_⟩; exact h _)
        | (refine fun _ => ?_)
        | (refine ⟨_, rfl, ?_⟩)
        | apply And.intro
        | (show _ ≤ _; decide)
        | fail
theorem pFork_ok : CtrOk Try.prog 23 (adtC ptE forkM) := adt_ok fun b s rest N h => by
  unfold forkM at h
  split at h
  case h_2 => exact h.elim
  rename_i pid
  obtain ⟨ho, h⟩ := h
  cases hg : getP s.ps pid with
  | none =>
    obtain ⟨e1, e2, e3⟩ := pHas_none hg
    refine Spec.pre (hs' := [⟨.blk b, .cells [.map 1 s.bm, .int .i64 s.room, .int .i64 s.last] 130⟩, ⟨.blk s.bm, .map1 (some .i64) encB1 (s.ps.map pkey) (.i .i64 pid) none⟩, pk 0 (s.ps.map procE)]) (fun W F w hr => Rep.know1 (l := 1) (.i .i64 pid) none rfl rfl (by rw [mget_pkey, hg]; rfl) hr) rfl ?_
    refine Spec.of_G 42 Try.func23 (c := bodyOf Try.f23) (by kernel_rfl) (by kernel_rfl) (Nat.le_of_ble_eq_true rfl) fun W F => ?_
    refine G_run (kc := false) (ss := []) ptB_ok hmP 900 ?_
    rw [pFork_none]
    simp only [pFork, e3, Bool.false_and] at h
    have h := h 0
    repeat' first
      | exact rfl
      | exact trivial
      | assumption
      | (refine ⟨s, fun W F w hr => Rep.dropR (h := ptE s b) (Rep.forget1 (l := 1) rfl hr), ?_⟩)
      | (refine fun _ => ?_)
      | (refine ⟨_, rfl, ?_⟩)
      | apply And.intro
      | (show _ ≤ _; decide)
      | fail
  | some x =>
    obtain ⟨pb, r⟩ := x
    obtain ⟨e1, e2, e3⟩ := pHas_some hg
    obtain ⟨l1, l2, hs, hpid, hset, _⟩ := getP_split ho.asc hg
    dsimp only at e2 e3 hpid hset
    refine Spec.pre (hs' := [⟨.blk b, .cells [.map 1 s.bm, .int .i64 s.room, .int .i64 s.last] 130⟩, ⟨.blk s.bm, .map1 (some .i64) encB1 (s.ps.map pkey) (.i .i64 pid) (some (.ptr 2 pb 0))⟩, ⟨.blk pb, .cells (encR r) 127⟩, pk 0 (l1.map procE ++ l2.map procE)]) (fun W F w hr => Rep.know1 (l := 1) (.i .i64 pid) (some (.ptr 2 pb 0)) rfl rfl (by rw [mget_pkey, hg]; rfl) (pt_open hs hr)) rfl ?_
    refine Spec.of_G 42 Try.func23 (c := bodyOf Try.f23) (by kernel_rfl) (by kernel_rfl) (Nat.le_of_ble_eq_true rfl) fun W F => ?_
    refine G_run (kc := false) (ss := []) ptB_ok hmP 900 ?_
    rw [pFork_some]
    have hl := ho.len
    have hla := ho.last
    have hpl := (ho.le (pb, r) (by rw [hs]; simp)).2
    have hl1 := (ho.le (pb, r) (by rw [hs]; simp)).1
    dsimp only at hpl hl1
    have w1 : IntKind.wrap .i64 (((s.ps.map pkey).length : Int) - 1) = (s.ps.length : Int) - 1 := by rw [List.length_map]; exact IntWalk.i64_in _ (by omega)
    have w2 : IntKind.wrap .i64 (s.last + 1) = s.last + 1 := IntWalk.i64_in _ (by omega)
    rw [w1, w2]
    simp only [pFork, pBegins, e2, e3] at h
    obtain ⟨rp, rpa, rg, rz, rs, rc, rt, rk⟩ := r
    dsimp only at h ⊢
    cases rz <;> cases h1 : pid == 1 <;> cases rk <;> cases hr : decide ((s.ps.length : Int) - 1 ≥ s.room) <;> simp only [h1, hr, Bool.not_true, Bool.not_false, Bool.true_and, Bool.false_and, Bool.and_true, Bool.and_false] at h ⊢
    all_goals
      repeat' first
        | exact rfl
        | exact trivial
        | assumption
        | exact h 0
        | (refine ⟨s, fun W F w hr => pt_back hs hr, ?_⟩)
        | (refine ⟨_, fun W F w hr => pt_new (r' := { PR.zero with parent := pid, group := rg, cmd := rc, pid := s.last + 1 }) hs ho rfl rfl hr, ?_⟩; exact h _)
        | (refine fun _ => ?_)
        | (refine ⟨_, rfl, ?_⟩)
        | apply And.intro
        | (show _ ≤ _; decide)
        | fail
end Go.Proofs.Ytihajdkipkfiiaa
