/- proc.Table: Reap. -/
import Derived.Test.YtihajdkipkfiiaaPrc4
import Derived.Test.YtihajdkipkfiiaaPr7Run
import Derived.Test.YtihajdkipkfiiaaPr8Run
namespace Go.Proofs.Ytihajdkipkfiiaa
open Go Go.RowKit
set_option linter.unusedVariables false
set_option linter.unusedSimpArgs false
set_option linter.unnecessarySimpa false
set_option maxHeartbeats 0

theorem mdel_pkey (pid : Int) : ∀ {ps : List (Nat × PR)}, (ps.Pairwise fun x y => x.2.pid < y.2.pid) → mdel (ps.map pkey) (.i .i64 pid) = (ps.filter fun y => !(y.2.pid == pid)).map pkey
  | [], _ => rfl
  | x :: ps, h => by
    have h := List.pairwise_cons.1 h
    have e : keyEq (.i .i64 pid) (pkey x).1 = (x.2.pid == pid) := by
      rw [Bool.eq_iff_iff]; simp only [pkey, keyEq, beq_iff_eq]; exact eq_comm
    have e2 : pkey x = ((pkey x).1, x.1) := rfl
    rw [List.map_cons, e2]
    simp only [mdel, e]
    cases hq : x.2.pid == pid with
    | true =>
      have hq' : x.2.pid = pid := by simpa using hq
      have : (ps.filter fun y => !(y.2.pid == pid)) = ps := List.filter_eq_self.2 fun y hy => by
        have := h.1 y hy
        simp; omega
      simp [List.filter_cons, hq, this]
    | false => simp [List.filter_cons, hq, mdel_pkey pid h.2, pkey]
def isDead (parent : Int) (x : Nat × PR) : Bool := x.2.zombie && x.2.parent == parent
def rpR (b b1 b2 b3 b4 D l : Nat) (rc : Loop) (parent : Int) (res : PR) (st : LoopState) (j : Option Code) : List Ent := [⟨.blk b1, .cells [.ptr 0 b 0] 38⟩, ⟨.blk b2, .cells [.int .i64 parent] 3⟩, ⟨.blk b3, .cells (encP6 res) 45⟩, ⟨.blk b4, .cells [.int .i64 0] 27⟩, dent D true, lp l rc st j]
def rpI (s : PT) (parent : Int) (i : Nat) : Type := { _u : Unit // ∀ y ∈ s.ps.take i, isDead parent y = false }
def rpX (s : PT) (b b1 b2 b3 b4 D l : Nat) (rc : Loop) (parent : Int) (i : Nat) : List Ent := [exP fun _ : rpI s parent i => rpR b b1 b2 b3 b4 D l rc parent PR.zero .ready none]
def delP (s : PT) (pid : Int) : PT := { s with ps := s.ps.filter fun y => !(y.2.pid == pid) }
section
variable {s : PT} {b b1 b2 b3 b4 b5 D l : Nat} {rc : Loop} {parent : Int} {T : List SV} (hrt : rc.tmps = (denL T).toArray) (hrp : rc.params = rfP (codeAt (bodyOf Try.f25) [1, 0, 1, 0])) (hra : rc.assign = rfA (codeAt (bodyOf Try.f25) [1, 0, 1, 0])) (hrb : rc.body = rfB (codeAt (bodyOf Try.f25) [1, 0, 1, 0]))
include hrt hrp hra hrb
theorem rp_V (ho : pOk s) (hl : ∀ v, lenN (setMany T [9] [v]) = 26 ∧ liveOk (setMany T [9] [v]) [(2, .ptr 1 b1 0), (3, .ptr 2 b2 0), (4, .ptr 3 b3 0), (5, .ptr 4 b4 0), (9, v)]) : OneV (.func (.yield l) #[] #[]) s b (rpX s b b1 b2 b3 b4 D l rc parent) (fun s' R' => ∃ x, deadOf s parent = some x ∧ s' = delP s x.2.pid ∧ R' = rpR b b1 b2 b3 b4 D l rc parent x.2 .done (some .ret)) := by
  intro i x hx
  obtain ⟨hi, he⟩ := List.getElem?_eq_some_iff.1 hx
  refine .inr ⟨l, rfl, YSpec.ex (ι := rpI s parent i) (hs' := fun _ => pkA b ptE s :: rpR b b1 b2 b3 b4 D l rc parent PR.zero .ready none) (fun W F w hr => Rep.pkex hr) ?_⟩
  rintro ⟨_, hst⟩
  obtain ⟨pb, r⟩ := x
  have htk : s.ps.take (i + 1) = s.ps.take i ++ [(pb, r)] := by rw [List.take_add_one, hx]; rfl
  refine YSpec.up (YSpec.of_GR (p := 6) (T0 := T) (ps := [9]) rfl hrt hrp hra hrb rfl rfl fun W F => ?_)
  refine GR_live 26 [(2, .ptr 1 b1 0), (3, .ptr 2 b2 0), (4, .ptr 3 b3 0), (5, .ptr 4 b4 0), (9, .agg (encP6 r))] [pkA b ptE s, ⟨.blk b1, .cells [.ptr 0 b 0] 38⟩, ⟨.blk b2, .cells [.int .i64 parent] 3⟩, ⟨.blk b3, .cells (encP6 PR.zero) 45⟩, ⟨.blk b4, .cells [.int .i64 0] 27⟩, dent D true, lp l rc .ready none] (hl _).1 (hl _).2 (fun _ h => h) fun u => ?_
  refine runR_sound (kc := true) (ss := []) (Cs := []) (Y := noY) (K := fun _ _ => False) (fun _ _ h => h.elim) trivial (noY_ok _) hmP Ends.assign 60 _ _ ?_
  rw [rp_asg]
  refine fun b6 => ⟨⟨rfl, rfl, rfl, by decide⟩, rfl, ?_⟩
  refine GR_live 26 [(2, .ptr 1 b1 0), (3, .ptr 2 b2 0), (4, .ptr 3 b3 0), (5, .ptr 4 b4 0), (6, .ptr 7 b6 0)] [⟨.blk b, .cells [.map 8 s.bm, .int .i64 s.room, .int .i64 s.last] 130⟩, ⟨.blk b1, .cells [.ptr 0 b 0] 38⟩, ⟨.blk b2, .cells [.int .i64 parent] 3⟩, ⟨.blk b3, .cells (encP6 PR.zero) 45⟩, ⟨.blk b4, .cells [.int .i64 0] 27⟩, dent D true, lp l rc .busy none, ⟨.blk b6, .cells (encP6 r) 45⟩, ⟨.blk s.bm, .mapL (some .i64) encB1 (s.ps.map pkey)⟩, pk 0 (s.ps.map procE)] rfl ⟨rfl, rfl, rfl, rfl, rfl, trivial⟩ (fun w hr => ?_) fun u => ?_
  · have h1 : Rep W F (ptE s b ++ _) w := Rep.unpkA (S := ptE) (s := s) (b := b) hr
    have h2 := Rep.pick (π := [0, 3, 4, 5, 6, 7, 8, 9, 1, 2]) (by decide) rfl h1
    exact Rep.cellsEq (l := 0) (cs' := [.map 8 s.bm, .int .i64 s.room, .int .i64 s.last]) rfl (by rfl) h2
  have hback : isDead parent (pb, r) = false → ∀ e6 : Ent, ∀ W F w, Rep W F [⟨.blk b, .cells [.map 8 s.bm, .int .i64 s.room, .int .i64 s.last] 130⟩, ⟨.blk b1, .cells [.ptr 0 b 0] 38⟩, ⟨.blk b2, .cells [.int .i64 parent] 3⟩, ⟨.blk b3, .cells (encP6 PR.zero) 45⟩, ⟨.blk b4, .cells [.int .i64 0] 27⟩, dent D true, lp l rc .ready none, e6, ⟨.blk s.bm, .mapL (some .i64) encB1 (s.ps.map pkey)⟩, pk 0 (s.ps.map procE)] w → Rep W F [pkA b ptE s, pk 0 (rpX s b b1 b2 b3 b4 D l rc parent (i + 1))] w := fun hd e6 W F w hr => by
    have h1 := Rep.cellsEq (l := 0) (cs' := [.map 1 s.bm, .int .i64 s.room, .int .i64 s.last]) rfl (by rfl) hr
    have h2 : Rep W F (ptE s b ++ rpR b b1 b2 b3 b4 D l rc parent PR.zero .ready none) w := Rep.pick (π := [0, 8, 9, 1, 2, 3, 4, 5, 6]) (by decide) rfl h1
    exact Rep.expk (f := fun _ : rpI s parent (i + 1) => rpR b b1 b2 b3 b4 D l rc parent PR.zero .ready none) ⟨(), fun y hy => by
      rw [htk] at hy
      rcases List.mem_append.1 hy with hy | hy
      · exact hst y hy
      · rw [List.mem_singleton.1 hy]; exact hd⟩ (Rep.pkA (S := ptE) (s := s) (b := b) h2)
  refine runR_sound (kc := true) (ss := []) (Cs := []) (Y := noY) (K := fun _ _ => False) (fun _ _ h => h.elim) trivial (noY_ok _) hmP (Ends.round (p := 6) (rc := rc) (j := none)) 600 _ _ ?_
  rw [rp_body]
  refine ⟨rfl, ?_⟩
  cases hz : r.zombie with
  | false => exact ⟨rfl, [pkA b ptE s, pk 0 (rpX s b b1 b2 b3 b4 D l rc parent (i + 1))], .bool true, hback (by simp [isDead, hz]) _, rfl, .inl ⟨rfl, rfl⟩⟩
  | true =>
    refine ⟨rfl, rfl, ?_⟩
    cases hp : r.parent == parent with
    | false => exact ⟨rfl, [pkA b ptE s, pk 0 (rpX s b b1 b2 b3 b4 D l rc parent (i + 1))], .bool true, hback (by simp [isDead, hp]) _, rfl, .inl ⟨rfl, rfl⟩⟩
    | true =>
      refine ⟨rfl, rfl, rfl, ⟨rfl, rfl, rfl⟩, ⟨rfl, rfl⟩, ⟨rfl, rfl, rfl, by decide⟩, ⟨rfl, rfl, rfl, by decide⟩, ?_⟩
      have hdd : deadOf s parent = some (pb, r) := by
        unfold deadOf
        rw [List.find?_eq_some_iff_append]
        refine ⟨by simp [hz, hp], s.ps.take i, s.ps.drop (i + 1), ?_, fun y hy => ?_⟩
        · rw [← he, List.getElem_cons_drop, List.take_append_drop]
        · have := hst y hy
          unfold isDead at this
          rw [this]; rfl
      refine ⟨rfl, [pkA b ptE (delP s r.pid), pk 0 (rpR b b1 b2 b3 b4 D l rc parent r .done (some .ret))], .bool false, fun W F w hr => ?_, rfl, .inr ⟨_, _, ⟨(pb, r), hdd, rfl, rfl⟩, rfl, rfl⟩⟩
      have hr2 : Rep W F [⟨.blk b, .cells [.map 8 s.bm, .int .i64 s.room, .int .i64 s.last] 130⟩, ⟨.blk b1, .cells [.ptr 0 b 0] 38⟩, ⟨.blk b2, .cells [.int .i64 parent] 3⟩, ⟨.blk b3, .cells (encP6 r) 45⟩, ⟨.blk b4, .cells [.int .i64 0] 27⟩, dent D true, lp l rc .done (some .ret), ⟨.blk b6, .cells (encP6 r) 45⟩, ⟨.blk s.bm, .mapL (some .i64) encB1 (mdel (s.ps.map pkey) (.i .i64 r.pid))⟩, pk 0 (s.ps.map procE)] w := by
        have : encP6 r = [SV.int IntKind.i64 r.1, SV.int IntKind.i64 r.2, SV.str r.3, SV.bool true, SV.int IntKind.i64 r.5, SV.str r.6] := by unfold encP6; rw [hz]
        first
          | exact hr
          | (rw [this]; exact hr)
      have h1 := Rep.cellsEq (l := 0) (cs' := [.map 1 s.bm, .int .i64 s.room, .int .i64 s.last]) rfl (by rfl) hr2
      have hg := getP_at ho.asc hi
      rw [he] at hg
      obtain ⟨l1, l2, hs, _, _, hf⟩ := getP_split ho.asc hg
      dsimp only at hf
      rw [mdel_pkey _ ho.asc] at h1
      have e1 : s.ps.map procE = l1.map procE ++ procE (pb, r) :: l2.map procE := by
        conv => lhs; rw [hs]
        simp
      rw [e1] at h1
      have h2 := Rep.outP (p := [_, _, _, _, _, _, _, _, _]) (t := []) h1
      have h3 : Rep W F ([⟨.blk b, .cells [.map 1 s.bm, .int .i64 s.room, .int .i64 s.last] 130⟩, ⟨.blk s.bm, .mapL (some .i64) encB1 ((s.ps.filter fun y => !(y.2.pid == r.pid)).map pkey)⟩, pk 0 (l1.map procE ++ l2.map procE)] ++ rpR b b1 b2 b3 b4 D l rc parent r .done (some .ret)) w := Rep.pick (π := [0, 8, 10, 1, 2, 3, 4, 5, 6]) (by decide) rfl h2
      have e2 : l1.map procE ++ l2.map procE = (s.ps.filter fun y => !(y.2.pid == r.pid)).map procE := by rw [hf]; simp
      rw [e2] at h3
      have h4 : Rep W F (pkA b ptE (delP s r.pid) :: rpR b b1 b2 b3 b4 D l rc parent r .done (some .ret)) w := Rep.pkA (S := ptE) (s := delP s r.pid) (b := b) h3
      exact Rep.pkAt 0 (p := [_]) (t := []) (by simpa using h4)
theorem rp_spec (ho : pOk s) (hl : ∀ v, lenN (setMany T [9] [v]) = 26 ∧ liveOk (setMany T [9] [v]) [(2, .ptr 1 b1 0), (3, .ptr 2 b2 0), (4, .ptr 3 b3 0), (5, .ptr 4 b4 0), (9, v)]) : Spec Try.prog 97 [pkA b ptE s, ⟨.blk b1, .cells [.ptr 0 b 0] 38⟩, ⟨.blk b2, .cells [.int .i64 parent] 3⟩, ⟨.blk b3, .cells (encP6 PR.zero) 45⟩, ⟨.blk b4, .cells [.int .i64 0] 27⟩, ⟨.blk b5, .cells [.ptr 0 b 0] 38⟩, dent D true, lp l rc .ready none] [.func (.yield l) [] [], .ptr 5 b5 0] fun h _ =>
    (deadOf s parent = none ∧ h = pkA b ptE s :: rpR b b1 b2 b3 b4 D l rc parent PR.zero .ready none) ∨ ∃ x, deadOf s parent = some x ∧ h = pkA b ptE (delP s x.2.pid) :: rpR b b1 b2 b3 b4 D l rc parent x.2 .done (some .ret) := by
  intro W F w hr
  have h1 : Rep W F ([pkA b ptE s, ⟨.blk b5, .cells [.ptr 0 b 0] 38⟩] ++ pk 0 (rpX s b b1 b2 b3 b4 D l rc parent 0) :: []) w := by
    refine Rep.pkAt 0 (p := [_, _]) (t := []) ?_
    have h5 : Rep W F (rpR b b1 b2 b3 b4 D l rc parent PR.zero .ready none ++ [pkA b ptE s, ⟨.blk b5, .cells [.ptr 0 b 0] 38⟩]) w := Rep.pick (π := [1, 2, 3, 4, 6, 7, 0, 5]) (by decide) rfl hr
    have h6 : Rep W F ([exP fun _ : rpI s parent 0 => rpR b b1 b2 b3 b4 D l rc parent PR.zero .ready none] ++ [_, _]) w := Rep.ex (f := fun _ : rpI s parent 0 => rpR b b1 b2 b3 b4 D l rc parent PR.zero .ready none) ⟨(), by simp⟩ h5
    exact Rep.pick (π := [1, 2, 0]) (by decide) rfl h6
  refine Calls.mono (all1_iter (b := b) (bt := b5) ho (rp_V hrt hrp hra hrb ho hl) W F w h1) ?_
  rintro e w' ⟨h', r, ⟨rfl, hc⟩, rfl, hr'⟩
  rcases hc with rfl | ⟨s', R', ⟨x, hd, rfl, rfl⟩, rfl⟩
  · obtain ⟨⟨_, hst⟩, h7⟩ := Rep.pkex hr'
    refine ⟨_, .tuple [], .inl ⟨?_, rfl⟩, rfl, h7⟩
    rw [List.take_length] at hst
    unfold deadOf
    rw [List.find?_eq_none]
    intro y hy
    have := hst y hy
    unfold isDead at this
    rw [this]; simp
  · have h7 := Rep.unpkAt (p := [_]) (t := []) hr'
    exact ⟨_, .tuple [], .inr ⟨x, hd, rfl⟩, rfl, by simpa using h7⟩
end
theorem pReap_ok : CtrOk Try.prog 25 (adtC ptE reapM) := adt_ok fun b s rest N h => by
  unfold reapM at h
  split at h
  case h_2 => exact h.elim
  rename_i parent
  obtain ⟨ho, h⟩ := h
  refine Spec.pre (hs' := [pkA b ptE s]) (args' := [.ptr 0 b 0, .int .i64 parent]) (fun W F w hr => Rep.pkA1 hr) rfl ?_
  refine Spec.of_GR 26 Try.func25 (c := bodyOf Try.f25) (by kernel_rfl) (by kernel_rfl) (Nat.le_of_ble_eq_true rfl) fun W F => ?_
  refine runR_sound (kc := true) (ss := []) (fun _ _ h => h) ptA_ok (noY_ok _) hmP Ends.fn 600 _ _ ?_
  rw [rp_start]
  refine ⟨rfl, fun b1 => ⟨rfl, fun b2 b3 b4 => ⟨rfl, rfl, rfl, fun b5 => ?_⟩⟩⟩
  refine GR_rangeAt [] (bodyOf Try.f25) [1, 0, 1, 0] (f := 97) (first := []) (captured := [.ptr 5 b5 0]) (by kernel_rfl) (by kernel_rfl) (by kernel_rfl) fun D l rc hrt hrp hra hrb =>
    ⟨_, rp_spec hrt hrp hra hrb ho fun v => ⟨rfl, rfl, rfl, rfl, rfl, rfl, trivial⟩, ?_⟩
  rintro h' v (⟨hd, rfl⟩ | ⟨x, hd, rfl⟩)
  · refine ⟨6, .ready, none, by decide, rfl, ?_⟩
    dsimp only
    refine GR_live 26 [(2, .ptr 1 b1 0), (3, .ptr 2 b2 0), (4, .ptr 3 b3 0), (5, .ptr 4 b4 0)] [pkA b ptE s, ⟨.blk b1, .cells [.ptr 0 b 0] 38⟩, ⟨.blk b2, .cells [.int .i64 parent] 3⟩, ⟨.blk b3, .cells (encP6 PR.zero) 45⟩, ⟨.blk b4, .cells [.int .i64 0] 27⟩, dent D true, lp l rc .exhausted none] rfl ⟨rfl, rfl, rfl, rfl, trivial⟩ (fun w hr => hr) fun u => ?_
    refine runR_sound (Cs := []) (Y := noY) (kc := true) (ss := []) (K := fun _ _ => False) (fun _ _ h => h.elim) trivial (noY_ok _) hmP (Ends.fnM D 5) 600 _ _ ?_
    rw [rp_end]
    refine ⟨⟨rfl, rfl⟩, ⟨rfl, rfl, rfl, by decide⟩, ⟨rfl, rfl, rfl, by decide⟩, ?_⟩
    have e : pReap s parent = (s, PR.zero, 80) := by unfold pReap; rw [hd]
    rw [e] at h
    exact ⟨rfl, ⟨rfl, rfl⟩, rfl, s, fun W F w hr => (Rep.pick (π := [0]) (by decide) rfl hr).unpkA1, h⟩
  · refine ⟨6, .done, some .ret, by decide, rfl, ?_⟩
    dsimp only
    refine GR_live 26 [(2, .ptr 1 b1 0), (3, .ptr 2 b2 0), (4, .ptr 3 b3 0), (5, .ptr 4 b4 0)] [pkA b ptE (delP s x.2.pid), ⟨.blk b1, .cells [.ptr 0 b 0] 38⟩, ⟨.blk b2, .cells [.int .i64 parent] 3⟩, ⟨.blk b3, .cells (encP6 x.2) 45⟩, ⟨.blk b4, .cells [.int .i64 0] 27⟩, dent D true, lp l rc .exhausted (some .ret)] rfl ⟨rfl, rfl, rfl, rfl, trivial⟩ (fun w hr => hr) fun u => ?_
    refine runR_sound (Cs := []) (Y := noY) (kc := true) (ss := []) (K := fun _ _ => False) (fun _ _ h => h.elim) trivial (noY_ok _) hmP (Ends.fnM D 5) 600 _ _ ?_
    rw [rp_ret]
    have e : pReap s parent = (delP s x.2.pid, x.2, 0) := by unfold pReap; rw [hd]; rfl
    rw [e] at h
    exact ⟨rfl, ⟨rfl, rfl⟩, rfl, delP s x.2.pid, fun W F w hr => (Rep.pick (π := [0]) (by decide) rfl hr).unpkA1, h⟩
end Go.Proofs.Ytihajdkipkfiiaa
