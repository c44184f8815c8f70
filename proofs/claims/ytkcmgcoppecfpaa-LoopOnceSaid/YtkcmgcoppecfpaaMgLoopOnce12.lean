import Derived.Test.YtkcmgcoppecfpaaMgLoopOnce11
import Derived.Test.YtkcmgcoppecfpaaMgLoopOnce10
import Derived.Test.YtkcmgcoppecfpaaMgLoopOnce5
set_option linter.unusedVariables false
set_option linter.unusedSimpArgs false
set_option linter.unnecessarySimpa false
set_option maxHeartbeats 0
set_option maxRecDepth 100000
/- slices.Values at Dues. -/
namespace Go.Proofs.Ytkcmgcoppecfpaa
open Go Go.RowKit

theorem hmVD : Try.prog.follows .mixedOrders = true := by kernel_rfl
def OneD (fv : Value) (xs : List DU) (R : Nat → List Ent) (Stop : List Ent → Prop) : Prop := ∀ i x, xs[i]? = some x → VSpec Try.prog fv [pk 0 (R i)] [.agg (encDU x)] fun h r => (h = [pk 0 (R (i + 1))] ∧ r = .bool true) ∨ ∃ R', Stop R' ∧ h = [pk 0 R'] ∧ r = .bool false
theorem valDY_ok {fv : Value} {xs : List DU} {R : Nat → List Ent} {Stop : List Ent → Prop} (hV : OneD fv xs R Stop) : YOk Try.prog (valDY fv xs R Stop) := by
  rintro v args hs N ⟨rfl, h⟩
  split at h
  case h_2 => exact h.elim
  rename_i e0 e1 e2 rest
  obtain ⟨i, x, hx, rfl, rfl, hN1, hN2⟩ := h
  refine VSpec.at [2] rfl rfl (hV i x hx) fun h' r hp => ?_
  rcases hp with ⟨rfl, rfl⟩ | ⟨R', hs, rfl, rfl⟩
  · exact ⟨Nat.le_refl _, by simpa [putBack, setN, appE_eq] using hN1⟩
  · exact ⟨Nat.le_refl _, by simpa [putBack, setN, appE_eq] using hN2 R' hs⟩
theorem valD_iter {fv : Value} {xs : List DU} {bx : Nat} {ao : Option Addr} {cap : Nat} {R : Nat → List Ent} {Stop : List Ent → Prop} (hx : xs.length ≤ 1000000) (hV : OneD fv xs R Stop) :
    Spec Try.prog 123 [⟨.blk bx, .cells [.vec 1 ao xs.length cap] 69⟩, ⟨.sl ao cap, .vecL 72 3 encDU (xs) DU.zero⟩, pk 0 (R 0)] [.raw fv, .ptr 0 bx 0] fun h' r => r = .tuple [] ∧ (h' = [⟨.blk bx, .cells [.vec 1 ao xs.length cap] 69⟩, ⟨.sl ao cap, .vecL 72 3 encDU (xs) DU.zero⟩, pk 0 (R xs.length)] ∨ ∃ R', Stop R' ∧ h' = [⟨.blk bx, .cells [.vec 1 ao xs.length cap] 69⟩, ⟨.sl ao cap, .vecL 72 3 encDU (xs) DU.zero⟩, pk 0 (R')]) := by
  refine Spec.up ?_
  refine Spec.of_GR 16 Try.func123 (c := bodyOf Try.f123) (by kernel_rfl) (by kernel_rfl) (Nat.le_of_ble_eq_true rfl) fun W F => ?_
  refine runR_sound (kc := true) (ss := []) (Cs := []) (fun _ _ h => h) trivial (valDY_ok hV) hmVD Ends.fn 300 _ _ ?_
  rw [vD_start]
  try refine ⟨rfl, ?_⟩
  refine GR_loopAt (ι := Nat) [] (bodyOf Try.f123) [1, 0] 16 (fun i => [(0, .raw fv), (1, .ptr 0 bx 0), (5, .vec 1 ao xs.length cap), (6, .int .i64 (xs.length : Int)), (7, .int .i64 (i : Int))]) (fun i => [⟨.blk bx, .cells [.vec 1 ao xs.length cap] 69⟩, ⟨.sl ao cap, .vecL 72 3 encDU (xs) DU.zero⟩, pk 0 (R i)]) (fun i => i ≤ xs.length) (fun i => xs.length - i) 0 (by kernel_rfl) (fun J => by kernel_rfl) (Nat.zero_le _) rfl ⟨rfl, rfl, rfl, rfl, rfl, trivial⟩ (fun w hw => hw) fun i hi u => ?_
  simp only [List.nil_append, List.cons_append]
  refine runR_sound (kc := true) (ss := []) (Cs := []) (fun _ _ h => h) trivial (valDY_ok hV) hmVD Ends.fn 900 _ _ ?_
  rw [vD_body]
  cases hlt : decide ((i : Int) < (xs.length : Int)) with
  | false =>
    simp only [decide_eq_false_iff_not] at hlt
    obtain rfl : i = xs.length := by omega
    exact ⟨_, _, fun W F w hr => hr, rfl, rfl, .inl rfl⟩
  | true =>
    simp only [decide_eq_true_eq] at hlt
    have hi' : i < xs.length := by omega
    have t2 : IntKind.wrap .i64 ((i : Int) + 1) = ((i + 1 : Nat) : Int) := IntWalk.i64_in _ (by omega)
    have hk : xs.getD i (DU.mk ByteArray.empty ByteArray.empty 0) = xs[i] := by simp [List.getD, hi']
    rw [Int.toNat_natCast, hk]
    refine ⟨⟨rfl, rfl, rfl, by omega, by omega⟩, ⟨rfl, rfl, rfl, hi', ?_⟩, ?_⟩
    all_goals repeat' first
      | exact rfl
      | decide
      | (refine ⟨i, xs[i], List.getElem?_eq_getElem hi', rfl, rfl, ?_, fun R' hst => ?_⟩)
      | (refine GR_back (i + 1) (by omega) (by omega) rfl ⟨rfl, rfl, rfl, rfl, congrArg (Value.int .i64) t2, trivial⟩ (fun w hr => Rep.dropR (h := [_, _, _]) hr))
      | exact ⟨_, _, fun W F w hr => Rep.dropR (h := [_, _, _]) hr, rfl, rfl, .inr ⟨R', hst, rfl⟩⟩
      | (refine fun _ => ?_)
      | apply And.intro
      | fail
end Go.Proofs.Ytkcmgcoppecfpaa

/- Loops: Elapse: one timer. -/
namespace Go.Proofs.Ytkcmgcoppecfpaa
open Go Go.RowKit

def leF (s : LO) (b b2 b3 b5 D l : Nat) (rc : Loop) (now : Int) (i : Nat) (ac : Option Addr × Nat) (st : LoopState) (j : Option Code) : List Ent := [pkA b loE { s with ts := remT s.ts ((dues s.ts).take i) }, ⟨.blk b2, .cells [.ptr 0 b 0] 66⟩, ⟨.blk b3, .cells [.int .i64 now] 2⟩, ⟨.blk b5, .cells [.vec 4 ac.1 ((dues s.ts).take i).length ac.2] 69⟩, ⟨.sl ac.1 ac.2, .vecL 72 3 encDU (((dues s.ts).take i)) DU.zero⟩, dent D true, lp l rc st j]
def leI (s : LO) (now : Int) (i : Nat) : Type := { _ac : Option Addr × Nat // ∀ d ∈ (dues s.ts).take i, d.tm ≤ now }
def leR (s : LO) (b b2 b3 b5 D l : Nat) (rc : Loop) (now : Int) (i : Nat) : List Ent := [exP fun ac : leI s now i => leF s b b2 b3 b5 D l rc now i ac.1 .ready none]
section
variable {s : LO} {b b2 b3 b5 D l : Nat} {rc : Loop} {now : Int} {T : List SV}
theorem le_V (ho : loOk s) (hrt : rc.tmps = (denL T).toArray) (hrp : rc.params = rfP (codeAt (bodyOf Try.f34) [1, 1, 0, 1, 0])) (hra : rc.assign = rfA (codeAt (bodyOf Try.f34) [1, 1, 0, 1, 0])) (hrb : rc.body = rfB (codeAt (bodyOf Try.f34) [1, 1, 0, 1, 0]))
    (hl : ∀ v, lenN (setMany T [9] [v]) = 28 ∧ liveOk (setMany T [9] [v]) [(2, .ptr 1 b2 0), (3, .ptr 2 b3 0), (5, .ptr 3 b5 0), (9, v)]) :
    OneD (.func (.yield l) #[] #[]) (dues s.ts) (leR s b b2 b3 b5 D l rc now) (fun R' => ∃ i ac, (∀ d ∈ (dues s.ts).take i, d.tm ≤ now) ∧ (∀ h : i < (dues s.ts).length, now < ((dues s.ts)[i]).tm) ∧ R' = leF s b b2 b3 b5 D l rc now i ac .done (some (.exit 0))) := by
  intro i x hxi
  obtain ⟨hi, rfl⟩ := List.getElem?_eq_some_iff.1 hxi
  have hdl := length_dues s.ts
  have hl1 := ho.len
  refine .inr ⟨l, rfl, YSpec.ex (ι := leI s now i) (hs' := fun ac => leF s b b2 b3 b5 D l rc now i ac.1 .ready none) (fun W F w hr => by obtain ⟨j, hj⟩ := Rep.unex (t := []) (by have := Rep.unpk hr; simpa [leR] using this); exact ⟨j, by simpa using hj⟩) ?_⟩
  rintro ⟨⟨ao, cap⟩, hst⟩
  have htk : (dues s.ts).take (i + 1) = (dues s.ts).take i ++ [(dues s.ts)[i]] := List.take_succ_eq_append_getElem hi
  have htl : ((dues s.ts).take i).length = i := by simp; omega
  generalize hx : (dues s.ts)[i] = x at htk
  show YSpec _ _ [pkA b loE { s with ts := remT s.ts ((dues s.ts).take i) }, ⟨.blk b2, .cells [.ptr 0 b 0] 66⟩, ⟨.blk b3, .cells [.int .i64 now] 2⟩, ⟨.blk b5, .cells [.vec 4 ao ((dues s.ts).take i).length cap] 69⟩, ⟨.sl ao cap, .vecL 72 3 encDU (((dues s.ts).take i)) DU.zero⟩, dent D true, lp l rc .ready none] _ _
  refine YSpec.up (YSpec.of_GR (p := 6) (T0 := T) (ps := [9]) rfl hrt hrp hra hrb rfl rfl fun W F => ?_)
  refine GR_live 28 [(2, .ptr 1 b2 0), (3, .ptr 2 b3 0), (5, .ptr 3 b5 0), (9, .agg (encDU x))] [pkA b loE { s with ts := remT s.ts ((dues s.ts).take i) }, ⟨.blk b2, .cells [.ptr 0 b 0] 66⟩, ⟨.blk b3, .cells [.int .i64 now] 2⟩, ⟨.blk b5, .cells [.vec 4 ao ((dues s.ts).take i).length cap] 69⟩, ⟨.sl ao cap, .vecL 72 3 encDU (((dues s.ts).take i)) DU.zero⟩, dent D true, lp l rc .ready none] (hl _).1 (hl _).2 (fun _ h => h) fun u => ?_
  refine runR_sound (kc := true) (ss := []) (Cs := []) (Y := noY) (K := fun _ _ => False) (fun _ _ h => h.elim) trivial (noY_ok _) hmLo Ends.assign 60 _ _ ?_
  rw [le_asg]
  refine fun b6 => ⟨⟨rfl, rfl, rfl, Nat.le_refl _⟩, rfl, ?_⟩
  refine GR_live 28 [(2, .ptr 1 b2 0), (3, .ptr 2 b3 0), (5, .ptr 3 b5 0), (6, .ptr 7 b6 0)] [⟨.blk b, .cells [.ptr 8 s.qb 0, .map 9 s.bm] 148⟩, ⟨.blk b2, .cells [.ptr 0 b 0] 66⟩, ⟨.blk b3, .cells [.int .i64 now] 2⟩, ⟨.blk b5, .cells [.vec 4 ao ((dues s.ts).take i).length cap] 69⟩, ⟨.sl ao cap, .vecL 72 3 encDU (((dues s.ts).take i)) DU.zero⟩, dent D true, lp l rc .busy none, ⟨.blk b6, .cells (encDU x) 72⟩, pkA s.qb quEE s.ev, ⟨.blk s.bm, .mapL (some (.tup [none, none])) encTm (remT s.ts ((dues s.ts).take i))⟩] rfl ⟨rfl, rfl, rfl, rfl, trivial⟩ (fun w hr => ?_) fun u => ?_
  · have h1 : Rep W F (loE { s with ts := remT s.ts ((dues s.ts).take i) } b ++ _) w := Rep.unpkA (S := loE) (s := { s with ts := remT s.ts ((dues s.ts).take i) }) (b := b) hr
    have h2 := Rep.pick (π := [0, 3, 4, 5, 6, 7, 8, 9, 1, 2]) (by decide) rfl h1
    have h3 := Rep.cellsEq (l := 0) (cs' := [.ptr 8 s.qb 0, .map 9 s.bm]) rfl (by rfl) h2
    exact Rep.cellsEq (l := 3) (cs' := [.vec 4 ao ((dues s.ts).take i).length cap]) rfl (by rfl) h3
  refine runR_sound (kc := true) (ss := []) (Cs := []) (Y := noY) (K := fun _ _ => False) (fun _ _ h => h.elim) trivial (noY_ok _) hmLo (Ends.round (p := 6) (rc := rc) (j := none)) 900 _ _ ?_
  rw [le_body]
  refine ⟨rfl, rfl, ?_⟩
  cases hc : decide (x.tm > now) with
  | true =>
    simp only [decide_eq_true_eq] at hc
    refine ⟨rfl, [pk 0 (leF s b b2 b3 b5 D l rc now i (ao, cap) .done (some (.exit 0)))], .bool false, fun W F w hr => ?_, rfl, .inr ⟨_, ⟨i, (ao, cap), hst, fun _ => by rw [hx]; exact hc, rfl⟩, rfl, rfl⟩⟩
    have h1 := Rep.pick (π := [0, 8, 9, 1, 2, 3, 4, 5, 6]) (by decide) rfl hr
    have h2 := Rep.cellsEq (l := 0) (cs' := [.ptr 1 s.qb 0, .map 2 s.bm]) rfl (by rfl) h1
    have h3 : Rep W F (pkA b loE { s with ts := remT s.ts ((dues s.ts).take i) } :: _) w := Rep.pkA (S := loE) (s := { s with ts := remT s.ts ((dues s.ts).take i) }) (b := b) h2
    exact Rep.pk (t := []) 0 (by rw [List.append_nil]; exact h3)
  | false =>
    simp only [decide_eq_false_iff_not] at hc
    have hrem := remT_snoc ho.ks ((dues s.ts).take i) x
    rw [← htk] at hrem
    have fin : ∀ (tm : List SV) (ao2 : Option Addr) (cap2 : Nat) (t : List Ent), roundE l 6 rc none (up fun h r => (h = [pk 0 (leR s b b2 b3 b5 D l rc now (i + 1))] ∧ r = .bool true) ∨ ∃ R', (∃ i ac, (∀ d ∈ (dues s.ts).take i, d.tm ≤ now) ∧ (∀ h : i < (dues s.ts).length, now < ((dues s.ts)[i]).tm) ∧ R' = leF s b b2 b3 b5 D l rc now i ac .done (some (.exit 0))) ∧ h = [pk 0 R'] ∧ r = .bool false) ⟨tm, [⟨.blk b, .cells [.ptr 8 s.qb 0, .map 9 s.bm] 148⟩, ⟨.blk b2, .cells [.ptr 0 b 0] 66⟩, ⟨.blk b3, .cells [.int .i64 now] 2⟩, ⟨.blk b5, .cells [.vec 4 ao2 (((dues s.ts).take i).length + 1) cap2] 69⟩, ⟨.sl ao2 cap2, .vecL 72 3 encDU (((dues s.ts).take i) ++ [x]) DU.zero⟩, dent D true, lp l rc .busy none, ⟨.blk b6, .cells (encDU x) 72⟩, pkA s.qb quEE s.ev, ⟨.blk s.bm, .mapL (some (.tup [none, none])) encTm (mdel (remT s.ts ((dues s.ts).take i)) (tmKey x.unit x.which))⟩] ++ t⟩ := fun tm ao2 cap2 t => by
      refine ⟨rfl, [pk 0 (leR s b b2 b3 b5 D l rc now (i + 1))], .bool true, fun W F w hr => ?_, rfl, .inl ⟨rfl, rfl⟩⟩
      have hr := Rep.dropR (h := [_, _, _, _, _, _, _, _, _, _]) (t := t) hr
      have h1 := Rep.pick (π := [0, 8, 9, 1, 2, 3, 4, 5, 6]) (by decide) rfl hr
      have h2 := Rep.cellsEq (l := 0) (cs' := [.ptr 1 s.qb 0, .map 2 s.bm]) rfl (by rfl) h1
      rw [hrem] at h2
      have h3 : Rep W F (pkA b loE { s with ts := remT s.ts ((dues s.ts).take (i + 1)) } :: _) w := Rep.pkA (S := loE) (s := { s with ts := remT s.ts ((dues s.ts).take (i + 1)) }) (b := b) h2
      refine Rep.pk (t := []) 0 ?_
      have h4 : ((dues s.ts).take i).length + 1 = ((dues s.ts).take (i + 1)).length := by rw [htk]; simp
      rw [h4, ← htk] at h3
      refine Rep.ex (f := fun ac : leI s now (i + 1) => leF s b b2 b3 b5 D l rc now (i + 1) ac.1 .ready none) (t := []) ⟨(ao2, cap2), fun d hd => ?_⟩ (by rw [List.append_nil]; exact h3)
      rw [htk] at hd
      rcases List.mem_append.1 hd with hd | hd
      · exact hst d hd
      · rw [List.mem_singleton.1 hd]; omega
    repeat' first
      | exact rfl
      | exact trivial
      | exact fin _ _ _ [_]
      | (refine ⟨[x], rfl, rfl, fun _ _ _ => ?_⟩)
      | decide
      | (rw [htl]; omega)
      | apply And.intro
      | (refine fun _ => ?_)
      | fail
end
end Go.Proofs.Ytkcmgcoppecfpaa

/- Loops: Elapse. -/
namespace Go.Proofs.Ytkcmgcoppecfpaa
open Go Go.RowKit
theorem loTE_ok : AllOk Try.prog loTE := ⟨timersC_ok, trivial⟩
theorem lelapseC_ok : CtrOk Try.prog 34 lelapseC := by
  intro args hs N h
  unfold lelapseC at h
  split at h
  case h_2 => exact h.elim
  rename_i l b now
  split at h
  case h_2 => exact h.elim
  rename_i b' σ' p s hl
  obtain ⟨rfl, rfl, hp, ho, hN⟩ := h
  cases hp
  simp only [cast_eq] at ho hN
  have hdl := length_dues s.ts
  have hl1 := ho.len
  refine Spec.at (hp := [pkA b' loE s]) (args' := [.ptr 0 b' 0, .int .i64 now]) (Post' := fun h' r => ∃ ao cap, h' = [pkA b' loE { s with ts := lateT s.ts now }, ⟨.sl ao cap, .vecL 72 3 encDU (duesTo s.ts now) DU.zero⟩] ∧ r = .vec 1 ao (duesTo s.ts now).length cap) [l] (by simp [distinct]) (by simp [pickE, hl, pkA]) ?_ rfl ?_
  · refine Spec.up ?_
    refine Spec.of_GR 28 Try.func34 (c := bodyOf Try.f34) (by kernel_rfl) (by kernel_rfl) (Nat.le_of_ble_eq_true rfl) fun W F => ?_
    refine runR_sound (kc := true) (ss := []) (fun _ _ h => h) loTE_ok (noY_ok _) hmLo Ends.fn 600 _ _ ?_
    rw [le_start]
    refine ⟨rfl, fun b2 => ⟨rfl, fun b3 b5 => ⟨rfl, rfl, rfl, rfl, HEq.rfl, ho, fun aw cw bv => ?_⟩⟩⟩
    refine GR_rangeAt [] (bodyOf Try.f34) [1, 1, 0, 1, 0] (f := 123) (first := []) (captured := [.ptr 5 bv 0]) (by kernel_rfl) (by kernel_rfl) (by kernel_rfl) fun D l' rc hrt hrp hra hrb =>
      ⟨fun h _ => ∃ i ac, (∀ d ∈ (dues s.ts).take i, d.tm ≤ now) ∧ (∀ h : i < (dues s.ts).length, now < ((dues s.ts)[i]).tm) ∧ (h = leF s b' b2 b3 b5 D l' rc now i ac .ready none ++ [⟨.blk bv, .cells [.vec 1 aw (dues s.ts).length cw] 69⟩, ⟨.sl aw cw, .vecL 72 3 encDU (dues s.ts) DU.zero⟩] ∨ h = leF s b' b2 b3 b5 D l' rc now i ac .done (some (.exit 0)) ++ [⟨.blk bv, .cells [.vec 1 aw (dues s.ts).length cw] 69⟩, ⟨.sl aw cw, .vecL 72 3 encDU (dues s.ts) DU.zero⟩]), ?_, ?_⟩
    · intro W F w hr
      have hV1 := le_V (s := s) (b := b') (b2 := b2) (b3 := b3) (b5 := b5) (T := _) (l := l') (D := D) (now := now) ho hrt hrp hra hrb fun v => ⟨rfl, rfl, rfl, rfl, rfl, trivial⟩
      have h1 : Rep W F [⟨.blk bv, .cells [.vec 1 aw (dues s.ts).length cw] 69⟩, ⟨.sl aw cw, .vecL 72 3 encDU (dues s.ts) DU.zero⟩, pk 0 (leR s b' b2 b3 b5 D l' rc now 0)] w := by
        refine Rep.pkAt 0 (p := [_, _]) (t := []) ?_
        have g1 := Rep.nilvec 72 (sz := 3) (enc := encDU) DU.zero (fun _ => rfl) hr
        have g2 := Rep.cellsEq (l := 3) (cs' := [.vec 4 none 0 0]) rfl (by rfl) g1
        have g3 := Rep.cellsEq (l := 5) (cs' := [.vec 1 aw (dues s.ts).length cw]) rfl (by rfl) g2
        have g4 := Rep.pick (π := [0, 1, 2, 3, 8, 6, 7, 5, 4]) (by decide) rfl g3
        have e0 : s = { s with ts := remT s.ts ((dues s.ts).take 0) } := by rw [List.take_zero, remT_nil]
        have g5 : Rep W F (leF s b' b2 b3 b5 D l' rc now 0 (none, 0) .ready none ++ [⟨.blk bv, .cells [.vec 1 aw (dues s.ts).length cw] 69⟩, ⟨.sl aw cw, .vecL 72 3 encDU (dues s.ts) DU.zero⟩]) w := by
          unfold leF
          dsimp only
          rw [← e0]
          exact g4
        have g6 : Rep W F ([exP fun ac : leI s now 0 => leF s b' b2 b3 b5 D l' rc now 0 ac.1 .ready none] ++ [_, _]) w := Rep.ex (f := fun ac : leI s now 0 => leF s b' b2 b3 b5 D l' rc now 0 ac.1 .ready none) ⟨(none, 0), fun d hd => by simp at hd⟩ g5
        exact Rep.pick (π := [1, 2, 0]) (by decide) rfl g6
      refine Calls.mono (valD_iter (ao := aw) (cap := cw) (bx := bv) (by omega) hV1 W F w h1) ?_
      rintro e w' ⟨h', r, ⟨rfl, hc⟩, rfl, hr'⟩
      rcases hc with rfl | ⟨R', ⟨i, ac, q1, q2, rfl⟩, rfl⟩
      · have h7 := Rep.unpkAt (p := [_, _]) (t := []) hr'
        have h8 : Rep W F (exP (fun ac : leI s now (dues s.ts).length => leF s b' b2 b3 b5 D l' rc now (dues s.ts).length ac.1 .ready none) :: [_, _]) w' := Rep.pick (π := [2, 0, 1]) (by decide) rfl h7
        obtain ⟨ac, h9⟩ := Rep.unex (t := [_, _]) h8
        exact ⟨_, .tuple [], ⟨(dues s.ts).length, ac.1, ac.2, fun h => absurd h (Nat.lt_irrefl _), .inl rfl⟩, rfl, h9⟩
      · have h7 := Rep.unpkAt (p := [_, _]) (t := []) hr'
        exact ⟨_, .tuple [], ⟨i, ac, q1, q2, .inr rfl⟩, rfl, Rep.pick (π := [2, 3, 4, 5, 6, 7, 8, 0, 1]) (by decide) rfl h7⟩
    · rintro h' v ⟨i, ⟨ao, cap⟩, q1, q2, hc⟩
      have hdt := duesTo_take q1 q2
      have hlt : remT s.ts ((dues s.ts).take i) = lateT s.ts now := by rw [← hdt]; exact remT_to ho.ks ho.kd now
      have fin : ∀ (t : List Ent), up (fun h' r => ∃ ao cap, h' = [pkA b' loE { s with ts := lateT s.ts now }, ⟨.sl ao cap, .vecL 72 3 encDU (duesTo s.ts now) DU.zero⟩] ∧ r = .vec 1 ao (duesTo s.ts now).length cap) ([pkA b' loE { s with ts := remT s.ts ((dues s.ts).take i) }, ⟨.blk b2, .cells [.ptr 0 b' 0] 66⟩, ⟨.blk b3, .cells [.int .i64 now] 2⟩, ⟨.blk b5, .cells [.vec 4 ao ((dues s.ts).take i).length cap] 69⟩, ⟨.sl ao cap, .vecL 72 3 encDU (((dues s.ts).take i)) DU.zero⟩] ++ t) (.vec 4 ao ((dues s.ts).take i).length cap) := fun t => by
        refine ⟨[pkA b' loE { s with ts := lateT s.ts now }, ⟨.sl ao cap, .vecL 72 3 encDU (duesTo s.ts now) DU.zero⟩], .vec 1 ao (duesTo s.ts now).length cap, fun W F w hr => ?_, by rw [hdt]; rfl, ao, cap, rfl, rfl⟩
        have g1 := Rep.dropR (h := [_, _, _, _, _]) (t := t) hr
        rw [hlt, ← hdt] at g1
        exact Rep.pick (π := [0, 4]) (by decide) rfl g1
      rcases hc with rfl | rfl
      · refine ⟨6, .ready, none, by decide, rfl, ?_⟩
        unfold leF
        dsimp only
        refine GR_live 28 [(2, .ptr 1 b2 0), (3, .ptr 2 b3 0), (5, .ptr 3 b5 0)] [pkA b' loE { s with ts := remT s.ts ((dues s.ts).take i) }, ⟨.blk b2, .cells [.ptr 0 b' 0] 66⟩, ⟨.blk b3, .cells [.int .i64 now] 2⟩, ⟨.blk b5, .cells [.vec 4 ao ((dues s.ts).take i).length cap] 69⟩, ⟨.sl ao cap, .vecL 72 3 encDU (((dues s.ts).take i)) DU.zero⟩, dent D true, lp l' rc .exhausted none] rfl ⟨rfl, rfl, rfl, trivial⟩ (fun w hr => Rep.dropR (h := [_, _, _, _, _, _, _]) (t := [_, _]) hr) fun u => ?_
        refine runR_sound (Cs := []) (Y := noY) (kc := true) (ss := []) (K := fun _ _ => False) (fun _ _ h => h.elim) trivial (noY_ok _) hmLo (Ends.fnM D 5) 900 _ _ ?_
        rw [le_end]
        exact ⟨rfl, rfl, fin [_, _]⟩
      · refine ⟨6, .done, some (.exit 0), by decide, rfl, ?_⟩
        unfold leF
        dsimp only
        refine GR_live 28 [(2, .ptr 1 b2 0), (3, .ptr 2 b3 0), (5, .ptr 3 b5 0)] [pkA b' loE { s with ts := remT s.ts ((dues s.ts).take i) }, ⟨.blk b2, .cells [.ptr 0 b' 0] 66⟩, ⟨.blk b3, .cells [.int .i64 now] 2⟩, ⟨.blk b5, .cells [.vec 4 ao ((dues s.ts).take i).length cap] 69⟩, ⟨.sl ao cap, .vecL 72 3 encDU (((dues s.ts).take i)) DU.zero⟩, dent D true, lp l' rc .exhausted (some (.exit 0))] rfl ⟨rfl, rfl, rfl, trivial⟩ (fun w hr => Rep.dropR (h := [_, _, _, _, _, _, _]) (t := [_, _]) hr) fun u => ?_
        refine runR_sound (Cs := []) (Y := noY) (kc := true) (ss := []) (K := fun _ _ => False) (fun _ _ h => h.elim) trivial (noY_ok _) hmLo (Ends.fnM D 5) 900 _ _ ?_
        rw [le_brk]
        exact ⟨rfl, rfl, fin [_, _]⟩
  · rintro h' r ⟨ao, cap, rfl, rfl⟩
    refine ⟨by simp [lenN], .vec (lenN hs) ao (duesTo s.ts now).length cap, rfl, ?_⟩
    have := hN ao cap
    simpa [putBack, appE_eq, snoc_eq] using this
end Go.Proofs.Ytkcmgcoppecfpaa

/- Loops: the table of their methods. -/
namespace Go.Proofs.Ytkcmgcoppecfpaa
open Go Go.RowKit
def trueLC : Ctr := fun args hs N => match args with
  | [] => N hs (.bool true)
  | _ => False
def loT0 : Tbl := [(32, lonewC), (36, adtC loE lpushM), (37, adtC loE lnextM), (38, adtC loE llenM), (33, adtC loE lsetM), (49, adtC loE latM), (35, adtC loE lsoonM), (39, adtC loE lforgetM), (34, lelapseC)]
def loT : Tbl := (31, trueLC) :: loT0
def encU8L (x : Int) : List SV := [.int .u8 x]
end Go.Proofs.Ytkcmgcoppecfpaa

namespace Go.Proofs.Ytkcmgcoppecfpaa
open Go Go.RowKit
set_option allowUnsafeReducibility true

theorem known14 (K : List Frm → Sy → Prop) (N : List Ent → SV → Prop) : (run Try.prog loT0 false [] K (retP Try.prog Try.f31.results.toList N) 4000 [.code (bodyOf Try.f31)] ⟨padTo 55 [], []⟩) = (
true = true ∧
 ∀ (b qb bm : Nat),
  (true = true ∧ true = true) ∧
   true = true ∧
    b = b ∧
     ∃ (h : LO = LO),
      AdtIs (fun (s : LO) (b : Nat) ↦ packs (loE s b)) loE ∧
       loOk (LO.mk (QUE.mk [] 0) qb bm []) ∧
        ∃ (e : EV),
         [SV.int IntKind.i64 e.1, SV.int IntKind.i64 e.2, SV.int IntKind.i64 e.3, SV.str e.4, SV.str e.5] =
          [SV.int IntKind.i64 (5 : Int), SV.int IntKind.i64 (0 : Int), SV.int IntKind.i64 (0 : Int), SV.str (ByteArray.mk #[(97 : UInt8)]), SV.str (ByteArray.mk #[])] ∧
          match (lPush (LO.mk (QUE.mk [] 0) qb bm []) e).2 != (0 : Int) with
          | true => N [pkA b loE (lPush (LO.mk (QUE.mk [] 0) qb bm []) e).1] (SV.bool false)
          | false =>
           (true = true ∧ true = true) ∧
            true = true ∧
             b = b ∧
              ∃ (h : LO = LO),
               AdtIs (fun (s : LO) (b : Nat) ↦ packs (loE s b)) loE ∧
                loOk (lPush (LO.mk (QUE.mk [] 0) qb bm []) e).1 ∧
                 ∃ (e_1 : EV),
                  [SV.int IntKind.i64 e_1.1, SV.int IntKind.i64 e_1.2, SV.int IntKind.i64 e_1.3, SV.str e_1.4, SV.str e_1.5] =
                   [SV.int IntKind.i64 (1 : Int), SV.int IntKind.i64 (0 : Int), SV.int IntKind.i64 (0 : Int), SV.str (ByteArray.mk #[(98 : UInt8)]), SV.str (ByteArray.mk #[])] ∧
                   match (lPush (lPush (LO.mk (QUE.mk [] 0) qb bm []) e).1 e_1).2 != (0 : Int) with
                   | true => N [pkA b loE (lPush (lPush (LO.mk (QUE.mk [] 0) qb bm []) e).1 e_1).1] (SV.bool false)
                   | false =>
                    true = true ∧
                     b = b ∧
                      ∃ (h : LO = LO),
                       AdtIs (fun (s : LO) (b : Nat) ↦ packs (loE s b)) loE ∧
                        loOk (lPush (lPush (LO.mk (QUE.mk [] 0) qb bm []) e).1 e_1).1 ∧
                         ∀ (b_1 : Nat),
                          (b_1 = b_1 ∧ true = true ∧ 5 = 5 ∧ 5 ≤ 5) ∧
                           true = true ∧
                            b = b ∧
                             ∃ (h : LO = LO),
                              AdtIs (fun (s : LO) (b : Nat) ↦ packs (loE s b)) loE ∧
                               loOk
                                (LO.mk
                                 (QUE.mk (List.tail (lPush (lPush (LO.mk (QUE.mk [] 0) qb bm []) e).1 e_1).1.1.1)
                                  (lPush (lPush (LO.mk (QUE.mk [] 0) qb bm []) e).1 e_1).1.1.2)
                                 (lPush (lPush (LO.mk (QUE.mk [] 0) qb bm []) e).1 e_1).1.2
                                 (lPush (lPush (LO.mk (QUE.mk [] 0) qb bm []) e).1 e_1).1.3
                                 (lPush (lPush (LO.mk (QUE.mk [] 0) qb bm []) e).1 e_1).1.4) ∧
                                match
                                 match (lPush (lPush (LO.mk (QUE.mk [] 0) qb bm []) e).1 e_1).1.1.1 with
                                 | [] => false
                                 | head :: tail => true with
                                | true =>
                                 b_1 = b_1 ∧
                                  match
                                   ByteArray.toList
                                    (List.headD (lPush (lPush (LO.mk (QUE.mk [] 0) qb bm []) e).1 e_1).1.1.1
                                     (EV.mk (0 : Int) (0 : Int) (0 : Int) ByteArray.empty ByteArray.empty)).4 ==
                                    ByteArray.toList (ByteArray.mk #[(98 : UInt8)]) with
                                  | true =>
                                   true = true ∧
                                    b = b ∧
                                     ∃ (h : LO = LO),
                                      AdtIs (fun (s : LO) (b : Nat) ↦ packs (loE s b)) loE ∧
                                       loOk
                                        (cast h
                                         (LO.mk
                                          (QUE.mk (List.tail (lPush (lPush (LO.mk (QUE.mk [] 0) qb bm []) e).1 e_1).1.1.1)
                                           (lPush (lPush (LO.mk (QUE.mk [] 0) qb bm []) e).1 e_1).1.1.2)
                                          (lPush (lPush (LO.mk (QUE.mk [] 0) qb bm []) e).1 e_1).1.2
                                          (lPush (lPush (LO.mk (QUE.mk [] 0) qb bm []) e).1 e_1).1.3
                                          (mset (lPush (lPush (LO.mk (QUE.mk [] 0) qb bm []) e).1 e_1).1.4
                                           (Key.g [KV.s (ByteArray.mk #[(97 : UInt8)]), KV.s (ByteArray.mk #[(120 : UInt8)])]) (5 : Int)))) ∧
                                        ∀ (ao : Option Addr) (cap : Nat),
                                         match
                                          (↑(List.length
                                           (duesTo
                                            (mset (lPush (lPush (LO.mk (QUE.mk [] 0) qb bm []) e).1 e_1).1.4
                                             (Key.g [KV.s (ByteArray.mk #[(97 : UInt8)]), KV.s (ByteArray.mk #[(120 : UInt8)])]) (5 : Int))
                                            (4 : Int))) :
                                           Int) ==
                                           (0 : Int) with
                                         | true =>
                                          true = true ∧
                                           b = b ∧
                                            ∃ (h : LO = LO),
                                             AdtIs (fun (s : LO) (b : Nat) ↦ packs (loE s b)) loE ∧
                                              loOk
                                               (cast h
                                                (LO.mk
                                                 (QUE.mk (List.tail (lPush (lPush (LO.mk (QUE.mk [] 0) qb bm []) e).1 e_1).1.1.1)
                                                  (lPush (lPush (LO.mk (QUE.mk [] 0) qb bm []) e).1 e_1).1.1.2)
                                                 (lPush (lPush (LO.mk (QUE.mk [] 0) qb bm []) e).1 e_1).1.2
                                                 (lPush (lPush (LO.mk (QUE.mk [] 0) qb bm []) e).1 e_1).1.3
                                                 (lateT
                                                  (mset (lPush (lPush (LO.mk (QUE.mk [] 0) qb bm []) e).1 e_1).1.4
                                                   (Key.g [KV.s (ByteArray.mk #[(97 : UInt8)]), KV.s (ByteArray.mk #[(120 : UInt8)])]) (5 : Int))
                                                  (4 : Int)))) ∧
                                               ∀ (ao_1 : Option Addr) (cap_1 : Nat),
                                                match
                                                 (↑(List.length
                                                  (duesTo
                                                   (lateT
                                                    (mset (lPush (lPush (LO.mk (QUE.mk [] 0) qb bm []) e).1 e_1).1.4
                                                     (Key.g [KV.s (ByteArray.mk #[(97 : UInt8)]), KV.s (ByteArray.mk #[(120 : UInt8)])])
                                                     (5 : Int))
                                                    (4 : Int))
                                                   (5 : Int))) :
                                                  Int) ==
                                                  (1 : Int) with
                                                | true =>
                                                 true = true ∧
                                                  b = b ∧
                                                   ∃ (h : LO = LO),
                                                    AdtIs (fun (s : LO) (b : Nat) ↦ packs (loE s b)) loE ∧
                                                     loOk
                                                      (LO.mk
                                                       (QUE.mk (List.tail (lPush (lPush (LO.mk (QUE.mk [] 0) qb bm []) e).1 e_1).1.1.1)
                                                        (lPush (lPush (LO.mk (QUE.mk [] 0) qb bm []) e).1 e_1).1.1.2)
                                                       (lPush (lPush (LO.mk (QUE.mk [] 0) qb bm []) e).1 e_1).1.2
                                                       (lPush (lPush (LO.mk (QUE.mk [] 0) qb bm []) e).1 e_1).1.3
                                                       (lateT
                                                        (lateT
                                                         (mset (lPush (lPush (LO.mk (QUE.mk [] 0) qb bm []) e).1 e_1).1.4
                                                          (Key.g
                                                           [KV.s (ByteArray.mk #[(97 : UInt8)]), KV.s (ByteArray.mk #[(120 : UInt8)])])
                                                          (5 : Int))
                                                         (4 : Int))
                                                        (5 : Int))) ∧
                                                      match
                                                       soonT
                                                        (lateT
                                                         (lateT
                                                          (mset (lPush (lPush (LO.mk (QUE.mk [] 0) qb bm []) e).1 e_1).1.4
                                                           (Key.g
                                                            [KV.s (ByteArray.mk #[(97 : UInt8)]), KV.s (ByteArray.mk #[(120 : UInt8)])])
                                                           (5 : Int))
                                                          (4 : Int))
                                                         (5 : Int)) ==
                                                        (9223372036854775807 : Int) with
                                                      | true =>
                                                       (true = true ∧ true = true) ∧
                                                        true = true ∧
                                                         b = b ∧
                                                          ∃ (h : LO = LO),
                                                           AdtIs (fun (s : LO) (b : Nat) ↦ packs (loE s b)) loE ∧
                                                            loOk
                                                             (LO.mk
                                                              (QUE.mk
                                                               (List.tail
                                                                (lPush (lPush (LO.mk (QUE.mk [] 0) qb bm []) e).1 e_1).1.1.1)
                                                               (lPush (lPush (LO.mk (QUE.mk [] 0) qb bm []) e).1 e_1).1.1.2)
                                                              (lPush (lPush (LO.mk (QUE.mk [] 0) qb bm []) e).1 e_1).1.2
                                                              (lPush (lPush (LO.mk (QUE.mk [] 0) qb bm []) e).1 e_1).1.3
                                                              (lateT
                                                               (lateT
                                                                (mset
                                                                 (lPush (lPush (LO.mk (QUE.mk [] 0) qb bm []) e).1 e_1).1.4
                                                                 (Key.g
                                                                  [KV.s (ByteArray.mk #[(97 : UInt8)]),
                                                                   KV.s (ByteArray.mk #[(120 : UInt8)])])
                                                                 (5 : Int))
                                                                (4 : Int))
                                                               (5 : Int))) ∧
                                                             ∃ (e_2 : EV),
                                                              [SV.int IntKind.i64 e_2.1, SV.int IntKind.i64 e_2.2,
                                                               SV.int IntKind.i64 e_2.3, SV.str e_2.4, SV.str e_2.5] =
                                                               [SV.int IntKind.i64 (0 : Int), SV.int IntKind.i64 (0 : Int),
                                                                SV.int IntKind.i64 (0 : Int), SV.str (ByteArray.mk #[]),
                                                                SV.str (ByteArray.mk #[])] ∧
                                                               N
                                                                [pkA b loE
                                                                 (lPush
                                                                  (LO.mk
                                                                   (QUE.mk
                                                                    (List.tail
                                                                     (lPush (lPush (LO.mk (QUE.mk [] 0) qb bm []) e).1
                                                                      e_1).1.1.1)
                                                                    (lPush (lPush (LO.mk (QUE.mk [] 0) qb bm []) e).1
                                                                     e_1).1.1.2)
                                                                   (lPush (lPush (LO.mk (QUE.mk [] 0) qb bm []) e).1
                                                                    e_1).1.2
                                                                   (lPush (lPush (LO.mk (QUE.mk [] 0) qb bm []) e).1
                                                                    e_1).1.3
                                                                   (lateT
                                                                    (lateT
                                                                     (mset
                                                                      (lPush
                                                                       (lPush (LO.mk (QUE.mk [] 0) qb bm []) e).1
                                                                       e_1).1.4
                                                                      (Key.g
                                                                       [KV.s (ByteArray.mk #[(97 : UInt8)]),
                                                                        KV.s (ByteArray.mk #[(120 : UInt8)])])
                                                                      (5 : Int))
                                                                     (4 : Int))
                                                                    (5 : Int)))
                                                                  e_2).1,
                                                                 Ent.mk (Loc.blk b_1)
                                                                  (SObj.cells
                                                                   [SV.int IntKind.i64
                                                                    (List.headD
                                                                     (lPush (lPush (LO.mk (QUE.mk [] 0) qb bm []) e).1
                                                                      e_1).1.1.1
                                                                     (EV.mk (0 : Int) (0 : Int) (0 : Int) ByteArray.empty
                                                                      ByteArray.empty)).1,
                                                                    SV.int IntKind.i64
                                                                     (List.headD
                                                                      (lPush (lPush (LO.mk (QUE.mk [] 0) qb bm []) e).1
                                                                       e_1).1.1.1
                                                                      (EV.mk (0 : Int) (0 : Int) (0 : Int) ByteArray.empty
                                                                       ByteArray.empty)).2,
                                                                    SV.int IntKind.i64
                                                                     (List.headD
                                                                      (lPush (lPush (LO.mk (QUE.mk [] 0) qb bm []) e).1
                                                                       e_1).1.1.1
                                                                      (EV.mk (0 : Int) (0 : Int) (0 : Int) ByteArray.empty
                                                                       ByteArray.empty)).3,
                                                                    SV.str
                                                                     (List.headD
                                                                      (lPush (lPush (LO.mk (QUE.mk [] 0) qb bm []) e).1
                                                                       e_1).1.1.1
                                                                      (EV.mk (0 : Int) (0 : Int) (0 : Int) ByteArray.empty
                                                                       ByteArray.empty)).4,
                                                                    SV.str
                                                                     (List.headD
                                                                      (lPush (lPush (LO.mk (QUE.mk [] 0) qb bm []) e).1
                                                                       e_1).1.1.1
                                                                      (EV.mk (0 : Int) (0 : Int) (0 : Int) ByteArray.empty
                                                                       ByteArray.empty)).5]
                                                                   79),
                                                                 Ent.mk (Loc.sl ao cap)
                                                                  (SObj.vecL (72 : TypeId) 3 encDU
                                                                   (duesTo
                                                                    (mset
                                                                     (lPush (lPush (LO.mk (QUE.mk [] 0) qb bm []) e).1
                                                                      e_1).1.4
                                                                     (Key.g
                                                                      [KV.s (ByteArray.mk #[(97 : UInt8)]),
                                                                       KV.s (ByteArray.mk #[(120 : UInt8)])])
                                                                     (5 : Int))
                                                                    (4 : Int))
                                                                   (DU.mk ByteArray.empty ByteArray.empty (0 : Int))),
                                                                 Ent.mk (Loc.sl ao_1 cap_1)
                                                                  (SObj.vecL (72 : TypeId) 3 encDU
                                                                   (duesTo
                                                                    (lateT
                                                                     (mset
                                                                      (lPush (lPush (LO.mk (QUE.mk [] 0) qb bm []) e).1
                                                                       e_1).1.4
                                                                      (Key.g
                                                                       [KV.s (ByteArray.mk #[(97 : UInt8)]),
                                                                        KV.s (ByteArray.mk #[(120 : UInt8)])])
                                                                      (5 : Int))
                                                                     (4 : Int))
                                                                    (5 : Int))
                                                                   (DU.mk ByteArray.empty ByteArray.empty (0 : Int)))]
                                                                (SV.bool
                                                                 ((lPush
                                                                  (LO.mk
                                                                   (QUE.mk
                                                                    (List.tail
                                                                     (lPush (lPush (LO.mk (QUE.mk [] 0) qb bm []) e).1
                                                                      e_1).1.1.1)
                                                                    (lPush (lPush (LO.mk (QUE.mk [] 0) qb bm []) e).1
                                                                     e_1).1.1.2)
                                                                   (lPush (lPush (LO.mk (QUE.mk [] 0) qb bm []) e).1
                                                                    e_1).1.2
                                                                   (lPush (lPush (LO.mk (QUE.mk [] 0) qb bm []) e).1
                                                                    e_1).1.3
                                                                   (lateT
                                                                    (lateT
                                                                     (mset
                                                                      (lPush
                                                                       (lPush (LO.mk (QUE.mk [] 0) qb bm []) e).1
                                                                       e_1).1.4
                                                                      (Key.g
                                                                       [KV.s (ByteArray.mk #[(97 : UInt8)]),
                                                                        KV.s (ByteArray.mk #[(120 : UInt8)])])
                                                                      (5 : Int))
                                                                     (4 : Int))
                                                                    (5 : Int)))
                                                                  e_2).2 ==
                                                                  (140 : Int)))
                                                      | false =>
                                                       N
                                                        [pkA b loE
                                                         (LO.mk
                                                          (QUE.mk
                                                           (List.tail (lPush (lPush (LO.mk (QUE.mk [] 0) qb bm []) e).1 e_1).1.1.1)
                                                           (lPush (lPush (LO.mk (QUE.mk [] 0) qb bm []) e).1 e_1).1.1.2)
                                                          (lPush (lPush (LO.mk (QUE.mk [] 0) qb bm []) e).1 e_1).1.2
                                                          (lPush (lPush (LO.mk (QUE.mk [] 0) qb bm []) e).1 e_1).1.3
                                                          (lateT
                                                           (lateT
                                                            (mset (lPush (lPush (LO.mk (QUE.mk [] 0) qb bm []) e).1 e_1).1.4
                                                             (Key.g
                                                              [KV.s (ByteArray.mk #[(97 : UInt8)]),
                                                               KV.s (ByteArray.mk #[(120 : UInt8)])])
                                                             (5 : Int))
                                                            (4 : Int))
                                                           (5 : Int))),
                                                         Ent.mk (Loc.blk b_1)
                                                          (SObj.cells
                                                           [SV.int IntKind.i64
                                                            (List.headD
                                                             (lPush (lPush (LO.mk (QUE.mk [] 0) qb bm []) e).1 e_1).1.1.1
                                                             (EV.mk (0 : Int) (0 : Int) (0 : Int) ByteArray.empty ByteArray.empty)).1,
                                                            SV.int IntKind.i64
                                                             (List.headD
                                                              (lPush (lPush (LO.mk (QUE.mk [] 0) qb bm []) e).1 e_1).1.1.1
                                                              (EV.mk (0 : Int) (0 : Int) (0 : Int) ByteArray.empty ByteArray.empty)).2,
                                                            SV.int IntKind.i64
                                                             (List.headD
                                                              (lPush (lPush (LO.mk (QUE.mk [] 0) qb bm []) e).1 e_1).1.1.1
                                                              (EV.mk (0 : Int) (0 : Int) (0 : Int) ByteArray.empty ByteArray.empty)).3,
                                                            SV.str
                                                             (List.headD
                                                              (lPush (lPush (LO.mk (QUE.mk [] 0) qb bm []) e).1 e_1).1.1.1
                                                              (EV.mk (0 : Int) (0 : Int) (0 : Int) ByteArray.empty ByteArray.empty)).4,
                                                            SV.str
                                                             (List.headD
                                                              (lPush (lPush (LO.mk (QUE.mk [] 0) qb bm []) e).1 e_1).1.1.1
                                                              (EV.mk (0 : Int) (0 : Int) (0 : Int) ByteArray.empty ByteArray.empty)).5]
                                                           79),
                                                         Ent.mk (Loc.sl ao cap)
                                                          (SObj.vecL (72 : TypeId) 3 encDU
                                                           (duesTo
                                                            (mset (lPush (lPush (LO.mk (QUE.mk [] 0) qb bm []) e).1 e_1).1.4
                                                             (Key.g
                                                              [KV.s (ByteArray.mk #[(97 : UInt8)]), KV.s (ByteArray.mk #[(120 : UInt8)])])
                                                             (5 : Int))
                                                            (4 : Int))
                                                           (DU.mk ByteArray.empty ByteArray.empty (0 : Int))),
                                                         Ent.mk (Loc.sl ao_1 cap_1)
                                                          (SObj.vecL (72 : TypeId) 3 encDU
                                                           (duesTo
                                                            (lateT
                                                             (mset (lPush (lPush (LO.mk (QUE.mk [] 0) qb bm []) e).1 e_1).1.4
                                                              (Key.g
                                                               [KV.s (ByteArray.mk #[(97 : UInt8)]),
                                                                KV.s (ByteArray.mk #[(120 : UInt8)])])
                                                              (5 : Int))
                                                             (4 : Int))
                                                            (5 : Int))
                                                           (DU.mk ByteArray.empty ByteArray.empty (0 : Int)))]
                                                        (SV.bool false)
                                                | false =>
                                                 N
                                                  [pkA b loE
                                                   (LO.mk
                                                    (QUE.mk (List.tail (lPush (lPush (LO.mk (QUE.mk [] 0) qb bm []) e).1 e_1).1.1.1)
                                                     (lPush (lPush (LO.mk (QUE.mk [] 0) qb bm []) e).1 e_1).1.1.2)
                                                    (lPush (lPush (LO.mk (QUE.mk [] 0) qb bm []) e).1 e_1).1.2
                                                    (lPush (lPush (LO.mk (QUE.mk [] 0) qb bm []) e).1 e_1).1.3
                                                    (lateT
                                                     (lateT
                                                      (mset (lPush (lPush (LO.mk (QUE.mk [] 0) qb bm []) e).1 e_1).1.4
                                                       (Key.g [KV.s (ByteArray.mk #[(97 : UInt8)]), KV.s (ByteArray.mk #[(120 : UInt8)])])
                                                       (5 : Int))
                                                      (4 : Int))
                                                     (5 : Int))),
                                                   Ent.mk (Loc.blk b_1)
                                                    (SObj.cells
                                                     [SV.int IntKind.i64
                                                      (List.headD (lPush (lPush (LO.mk (QUE.mk [] 0) qb bm []) e).1 e_1).1.1.1
                                                       (EV.mk (0 : Int) (0 : Int) (0 : Int) ByteArray.empty ByteArray.empty)).1,
                                                      SV.int IntKind.i64
                                                       (List.headD (lPush (lPush (LO.mk (QUE.mk [] 0) qb bm []) e).1 e_1).1.1.1
                                                        (EV.mk (0 : Int) (0 : Int) (0 : Int) ByteArray.empty ByteArray.empty)).2,
                                                      SV.int IntKind.i64
                                                       (List.headD (lPush (lPush (LO.mk (QUE.mk [] 0) qb bm []) e).1 e_1).1.1.1
                                                        (EV.mk (0 : Int) (0 : Int) (0 : Int) ByteArray.empty ByteArray.empty)).3,
                                                      SV.str
                                                       (List.headD (lPush (lPush (LO.mk (QUE.mk [] 0) qb bm []) e).1 e_1).1.1.1
                                                        (EV.mk (0 : Int) (0 : Int) (0 : Int) ByteArray.empty ByteArray.empty)).4,
                                                      SV.str
                                                       (List.headD (lPush (lPush (LO.mk (QUE.mk [] 0) qb bm []) e).1 e_1).1.1.1
                                                        (EV.mk (0 : Int) (0 : Int) (0 : Int) ByteArray.empty ByteArray.empty)).5]
                                                     79),
                                                   Ent.mk (Loc.sl ao cap)
                                                    (SObj.vecL (72 : TypeId) 3 encDU
                                                     (duesTo
                                                      (mset (lPush (lPush (LO.mk (QUE.mk [] 0) qb bm []) e).1 e_1).1.4
                                                       (Key.g [KV.s (ByteArray.mk #[(97 : UInt8)]), KV.s (ByteArray.mk #[(120 : UInt8)])])
                                                       (5 : Int))
                                                      (4 : Int))
                                                     (DU.mk ByteArray.empty ByteArray.empty (0 : Int))),
                                                   Ent.mk (Loc.sl ao_1 cap_1)
                                                    (SObj.vecL (72 : TypeId) 3 encDU
                                                     (duesTo
                                                      (lateT
                                                       (mset (lPush (lPush (LO.mk (QUE.mk [] 0) qb bm []) e).1 e_1).1.4
                                                        (Key.g [KV.s (ByteArray.mk #[(97 : UInt8)]), KV.s (ByteArray.mk #[(120 : UInt8)])])
                                                        (5 : Int))
                                                       (4 : Int))
                                                      (5 : Int))
                                                     (DU.mk ByteArray.empty ByteArray.empty (0 : Int)))]
                                                  (SV.bool false)
                                         | false =>
                                          N
                                           [pkA b loE
                                            (LO.mk
                                             (QUE.mk (List.tail (lPush (lPush (LO.mk (QUE.mk [] 0) qb bm []) e).1 e_1).1.1.1)
                                              (lPush (lPush (LO.mk (QUE.mk [] 0) qb bm []) e).1 e_1).1.1.2)
                                             (lPush (lPush (LO.mk (QUE.mk [] 0) qb bm []) e).1 e_1).1.2
                                             (lPush (lPush (LO.mk (QUE.mk [] 0) qb bm []) e).1 e_1).1.3
                                             (lateT
                                              (mset (lPush (lPush (LO.mk (QUE.mk [] 0) qb bm []) e).1 e_1).1.4
                                               (Key.g [KV.s (ByteArray.mk #[(97 : UInt8)]), KV.s (ByteArray.mk #[(120 : UInt8)])]) (5 : Int))
                                              (4 : Int))),
                                            Ent.mk (Loc.blk b_1)
                                             (SObj.cells
                                              [SV.int IntKind.i64
                                               (List.headD (lPush (lPush (LO.mk (QUE.mk [] 0) qb bm []) e).1 e_1).1.1.1
                                                (EV.mk (0 : Int) (0 : Int) (0 : Int) ByteArray.empty ByteArray.empty)).1,
                                               SV.int IntKind.i64
                                                (List.headD (lPush (lPush (LO.mk (QUE.mk [] 0) qb bm []) e).1 e_1).1.1.1
                                                 (EV.mk (0 : Int) (0 : Int) (0 : Int) ByteArray.empty ByteArray.empty)).2,
                                               SV.int IntKind.i64
                                                (List.headD (lPush (lPush (LO.mk (QUE.mk [] 0) qb bm []) e).1 e_1).1.1.1
                                                 (EV.mk (0 : Int) (0 : Int) (0 : Int) ByteArray.empty ByteArray.empty)).3,
                                               SV.str
                                                (List.headD (lPush (lPush (LO.mk (QUE.mk [] 0) qb bm []) e).1 e_1).1.1.1
                                                 (EV.mk (0 : Int) (0 : Int) (0 : Int) ByteArray.empty ByteArray.empty)).4,
                                               SV.str
                                                (List.headD (lPush (lPush (LO.mk (QUE.mk [] 0) qb bm []) e).1 e_1).1.1.1
                                                 (EV.mk (0 : Int) (0 : Int) (0 : Int) ByteArray.empty ByteArray.empty)).5]
                                              79),
                                            Ent.mk (Loc.sl ao cap)
                                             (SObj.vecL (72 : TypeId) 3 encDU
                                              (duesTo
                                               (mset (lPush (lPush (LO.mk (QUE.mk [] 0) qb bm []) e).1 e_1).1.4
                                                (Key.g [KV.s (ByteArray.mk #[(97 : UInt8)]), KV.s (ByteArray.mk #[(120 : UInt8)])]) (5 : Int))
                                               (4 : Int))
                                              (DU.mk ByteArray.empty ByteArray.empty (0 : Int)))]
                                           (SV.bool false)
                                  | false =>
                                   N
                                    [pkA b loE
                                     (LO.mk
                                      (QUE.mk (List.tail (lPush (lPush (LO.mk (QUE.mk [] 0) qb bm []) e).1 e_1).1.1.1)
                                       (lPush (lPush (LO.mk (QUE.mk [] 0) qb bm []) e).1 e_1).1.1.2)
                                      (lPush (lPush (LO.mk (QUE.mk [] 0) qb bm []) e).1 e_1).1.2
                                      (lPush (lPush (LO.mk (QUE.mk [] 0) qb bm []) e).1 e_1).1.3
                                      (mset (lPush (lPush (LO.mk (QUE.mk [] 0) qb bm []) e).1 e_1).1.4
                                       (Key.g [KV.s (ByteArray.mk #[(97 : UInt8)]), KV.s (ByteArray.mk #[(120 : UInt8)])]) (5 : Int))),
                                     Ent.mk (Loc.blk b_1)
                                      (SObj.cells
                                       [SV.int IntKind.i64
                                        (List.headD (lPush (lPush (LO.mk (QUE.mk [] 0) qb bm []) e).1 e_1).1.1.1
                                         (EV.mk (0 : Int) (0 : Int) (0 : Int) ByteArray.empty ByteArray.empty)).1,
                                        SV.int IntKind.i64
                                         (List.headD (lPush (lPush (LO.mk (QUE.mk [] 0) qb bm []) e).1 e_1).1.1.1
                                          (EV.mk (0 : Int) (0 : Int) (0 : Int) ByteArray.empty ByteArray.empty)).2,
                                        SV.int IntKind.i64
                                         (List.headD (lPush (lPush (LO.mk (QUE.mk [] 0) qb bm []) e).1 e_1).1.1.1
                                          (EV.mk (0 : Int) (0 : Int) (0 : Int) ByteArray.empty ByteArray.empty)).3,
                                        SV.str
                                         (List.headD (lPush (lPush (LO.mk (QUE.mk [] 0) qb bm []) e).1 e_1).1.1.1
                                          (EV.mk (0 : Int) (0 : Int) (0 : Int) ByteArray.empty ByteArray.empty)).4,
                                        SV.str
                                         (List.headD (lPush (lPush (LO.mk (QUE.mk [] 0) qb bm []) e).1 e_1).1.1.1
                                          (EV.mk (0 : Int) (0 : Int) (0 : Int) ByteArray.empty ByteArray.empty)).5]
                                       79)]
                                    (SV.bool false)
                                | false =>
                                 N
                                  [pkA b loE
                                   (LO.mk
                                    (QUE.mk (List.tail (lPush (lPush (LO.mk (QUE.mk [] 0) qb bm []) e).1 e_1).1.1.1)
                                     (lPush (lPush (LO.mk (QUE.mk [] 0) qb bm []) e).1 e_1).1.1.2)
                                    (lPush (lPush (LO.mk (QUE.mk [] 0) qb bm []) e).1 e_1).1.2
                                    (lPush (lPush (LO.mk (QUE.mk [] 0) qb bm []) e).1 e_1).1.3
                                    (mset (lPush (lPush (LO.mk (QUE.mk [] 0) qb bm []) e).1 e_1).1.4
                                     (Key.g [KV.s (ByteArray.mk #[(97 : UInt8)]), KV.s (ByteArray.mk #[(120 : UInt8)])]) (5 : Int))),
                                   Ent.mk (Loc.blk b_1)
                                    (SObj.cells
                                     [SV.int IntKind.i64
                                      (List.headD (lPush (lPush (LO.mk (QUE.mk [] 0) qb bm []) e).1 e_1).1.1.1
                                       (EV.mk (0 : Int) (0 : Int) (0 : Int) ByteArray.empty ByteArray.empty)).1,
                                      SV.int IntKind.i64
                                       (List.headD (lPush (lPush (LO.mk (QUE.mk [] 0) qb bm []) e).1 e_1).1.1.1
                                        (EV.mk (0 : Int) (0 : Int) (0 : Int) ByteArray.empty ByteArray.empty)).2,
                                      SV.int IntKind.i64
                                       (List.headD (lPush (lPush (LO.mk (QUE.mk [] 0) qb bm []) e).1 e_1).1.1.1
                                        (EV.mk (0 : Int) (0 : Int) (0 : Int) ByteArray.empty ByteArray.empty)).3,
                                      SV.str
                                       (List.headD (lPush (lPush (LO.mk (QUE.mk [] 0) qb bm []) e).1 e_1).1.1.1
                                        (EV.mk (0 : Int) (0 : Int) (0 : Int) ByteArray.empty ByteArray.empty)).4,
                                      SV.str
                                       (List.headD (lPush (lPush (LO.mk (QUE.mk [] 0) qb bm []) e).1 e_1).1.1.1
                                        (EV.mk (0 : Int) (0 : Int) (0 : Int) ByteArray.empty ByteArray.empty)).5]
                                     79)]
                                  (SV.bool false)) := by kernel_rfl
end Go.Proofs.Ytkcmgcoppecfpaa

/- Loops: known. -/
namespace Go.Proofs.Ytkcmgcoppecfpaa
open Go Go.RowKit
theorem loT0_ok : AllOk Try.prog loT0 := ⟨lNew_ok, lPush_ok, lNext_ok, lLen_ok, lSet_ok, lAt_ok, lsoon_ok, lForget_ok, lelapseC_ok, trivial⟩

def keysBL {β : Type} : List (Key × β) → Bool
  | [] => true
  | a :: l => l.all (fun c => !keyEq a.1 c.1) && keysBL l
theorem keysOk_litL {β : Type} : ∀ {es : List (Key × β)}, keysBL es = true → keysOk es
  | [], _ => List.Pairwise.nil
  | a :: l, h => by
    simp only [keysBL, Bool.and_eq_true, List.all_eq_true, Bool.not_eq_true'] at h
    exact List.pairwise_cons.2 ⟨h.1, keysOk_litL h.2⟩
def isTm : Key → Bool
  | .g [.s _, .s _] => true
  | _ => false
theorem isTm_ok : ∀ {k : Key}, isTm k = true → ∃ u w, k = tmKey u w := by
  intro k h
  unfold isTm at h
  split at h
  · exact ⟨_, _, rfl⟩
  · cases h
def loB (s : LO) : Bool := Nat.ble s.ev.n 1000000 && (Nat.ble s.ev.l.length 1000000 && (keysBL s.ts && (Nat.ble s.ts.length 1000000 && s.ts.all fun e => isTm e.1)))
theorem loOk_lit {s : LO} (h : loB s = true) : loOk s := by
  simp only [loB, Bool.and_eq_true, Nat.ble_eq, List.all_eq_true] at h
  obtain ⟨h1, h2, h3, h4, h5⟩ := h
  exact ⟨⟨h1, h2⟩, keysOk_litL h3, h4, fun e he => isTm_ok (h5 e he)⟩
def k14 : Key := .g [.s ⟨#[97]⟩, .s ⟨#[120]⟩]
theorem d14 : dues [(k14, 5)] = [duOf (k14, 5)] := dues_eq (List.Perm.refl _) (List.pairwise_singleton _ _)
theorem d14a : (((duesTo [(k14, 5)] 4).length : Int) == 0) = true := by rw [duesTo, d14]; rfl
theorem d14b : (((duesTo [(k14, 5)] 5).length : Int) == 1) = true := by rw [duesTo, d14]; rfl
theorem d14c : (soonT [] == 9223372036854775807) = true := by
  rw [soonT, dues_eq (ts := []) (l := []) (List.Perm.refl _) List.Pairwise.nil]; rfl
theorem known14_ok : CtrOk Try.prog 31 trueLC := by
  intro args hs N h
  unfold trueLC at h
  split at h
  · refine Spec.lift (Φ := fun r => r = .bool true) ?_ (fun r hr => by rw [hr]; exact h)
    refine Spec.of_G 55 Try.func31 (c := bodyOf Try.f31) (by kernel_rfl) (by kernel_rfl) (Nat.le_of_ble_eq_true rfl) fun W F => ?_
    refine G_run (kc := false) (ss := []) loT0_ok hmLo 4000 ?_
    rw [known14]
    refine ⟨rfl, fun b qb bm => ⟨⟨rfl, rfl⟩, rfl, rfl, rfl, HEq.rfl, loOk_lit rfl, ⟨5, 0, 0, ⟨#[97]⟩, ByteArray.empty⟩, rfl, ?_⟩⟩
    refine ⟨⟨rfl, rfl⟩, rfl, rfl, rfl, HEq.rfl, loOk_lit rfl, ⟨1, 0, 0, ⟨#[98]⟩, ByteArray.empty⟩, rfl, ?_⟩
    refine ⟨rfl, rfl, rfl, HEq.rfl, loOk_lit rfl, fun b1 => ⟨⟨rfl, rfl, rfl, Nat.le_refl _⟩, rfl, rfl, rfl, HEq.rfl, loOk_lit rfl, ?_⟩⟩
    refine ⟨rfl, ?_⟩
    split
    case h_2 heq => exact absurd (heq.symm.trans ((sEqO _ _).2 rfl)) (by decide)
    refine ⟨rfl, rfl, rfl, HEq.rfl, loOk_lit rfl, fun ao cap => ?_⟩
    split
    case h_2 heq => exact absurd (heq.symm.trans d14a) (by decide)
    refine ⟨rfl, rfl, rfl, HEq.rfl, loOk_lit rfl, fun ao2 cap2 => ?_⟩
    split
    case h_2 heq => exact absurd (heq.symm.trans d14b) (by decide)
    refine ⟨rfl, rfl, rfl, HEq.rfl, loOk_lit rfl, ?_⟩
    split
    case h_2 heq => exact absurd (heq.symm.trans d14c) (by decide)
    refine ⟨⟨rfl, rfl⟩, rfl, rfl, rfl, HEq.rfl, loOk_lit rfl, ⟨0, 0, 0, ByteArray.empty, ByteArray.empty⟩, rfl, ?_⟩
    exact rfl
  · exact h.elim
theorem loT_ok : AllOk Try.prog loT := ⟨known14_ok, loT0_ok⟩
end Go.Proofs.Ytkcmgcoppecfpaa

/- LoopOnce: the plain law. -/
namespace Go.Proofs.Ytkcmgcoppecfpaa
open Go Go.RowKit

theorem takeWhile_sorted {now : Int} : ∀ {l : List DU}, (l.Pairwise fun x y => ltDU y x = false) → l.takeWhile (fun d => decide (d.tm ≤ now)) = l.filter fun d => decide (d.tm ≤ now)
  | [], _ => rfl
  | x :: l, h => by
    have h' := List.pairwise_cons.1 h
    rw [List.takeWhile_cons, List.filter_cons]
    cases hx : decide (x.tm ≤ now) with
    | true => simp only [if_true]; rw [takeWhile_sorted h'.2]
    | false =>
      simp only [decide_eq_false_iff_not] at hx
      simp only [Bool.false_eq_true, if_false]
      exact (List.filter_eq_nil_iff.2 fun y hy => by
        have := tm_le_of (h'.1 y hy)
        simp only [decide_eq_true_eq]; omega).symm
theorem duesTo_length (ts : List (Key × Int)) (now : Int) : (duesTo ts now).length = (ts.filter fun e => decide (e.2 ≤ now)).length := by
  rw [duesTo, takeWhile_sorted (dues_sorted ts), ((dues_perm ts).filter _).length_eq, List.filter_map, List.length_map]
  rfl
theorem duesTo_sorted (ts : List (Key × Int)) (now : Int) : (duesTo ts now).Pairwise fun x y => ltDU y x = false := (dues_sorted ts).sublist (List.takeWhile_sublist _)
theorem lateT_lateT (ts : List (Key × Int)) {p now : Int} (h : p ≤ now) : lateT (lateT ts p) now = lateT ts now := by
  unfold lateT
  rw [List.filter_filter]
  refine List.filter_congr fun e _ => ?_
  simp only [← Bool.decide_and]
  exact decide_eq_decide.2 ⟨fun h => h.1, fun h1 => ⟨h1, by omega⟩⟩
theorem came_more (ts : List (Key × Int)) {p now : Int} (h : p ≤ now) : (ts.filter fun e => decide (e.2 ≤ p)).length + (duesTo (lateT ts p) now).length = (ts.filter fun e => decide (e.2 ≤ now)).length := by
  rw [duesTo_length, lateT, List.filter_filter]
  induction ts with
  | nil => rfl
  | cons e l ih =>
    simp only [List.filter_cons]
    by_cases h1 : e.2 ≤ p
    · rw [decide_eq_true h1, decide_eq_true (show e.2 ≤ now by omega), decide_eq_false (show ¬ p < e.2 by omega)]
      simp only [if_true, Bool.and_false, Bool.false_eq_true, if_false, List.length_cons]; omega
    · rw [decide_eq_false h1, decide_eq_true (show p < e.2 by omega)]
      by_cases h2 : e.2 ≤ now
      · rw [decide_eq_true h2]; simp only [if_true, Bool.and_true, Bool.false_eq_true, if_false, List.length_cons]; omega
      · rw [decide_eq_false h2]; simp only [Bool.false_and, Bool.false_eq_true, if_false]; omega
theorem soon_late (ts : List (Key × Int)) {now : Int} (h : now < 9223372036854775807) : now < soonT (lateT ts now) := by
  unfold soonT
  split
  · exact h
  · rename_i d l hd
    have hm : d ∈ (lateT ts now).map duOf := (dues_perm _).mem_iff.1 (by rw [hd]; exact List.mem_cons_self)
    obtain ⟨e, he, rfl⟩ := List.mem_map.1 hm
    have h2 : now < e.2 := by simpa using (List.mem_filter.1 he).2
    exact h2
def nms52 : ByteArray := ⟨#[97, 98, 99, 100, 101, 102, 103, 104, 105, 106, 107, 108, 109, 110, 111, 112, 113, 114, 115, 116, 117, 118, 119, 120, 121, 122, 65, 66, 67, 68, 69, 70, 71, 72, 73, 74, 75, 76, 77, 78, 79, 80, 81, 82, 83, 84, 85, 86, 87, 88, 89, 90]⟩
def nmO (i : Nat) : ByteArray := nms52.extract i (i + 1)
theorem nmO_inj {i j : Nat} (hi : i < 52) (hj : j < 52) (h : nmO i = nmO j) : i = j := by
  have key : ∀ i, i < 52 → ∀ j, j < 52 → (nmO i).data.toList = (nmO j).data.toList → i = j := by decide +kernel
  exact key i hi j hj (by rw [h])
def keyO (i : Nat) : Key := tmKey (nmO i) ⟨#[116]⟩
theorem keyO_ne {i j : Nat} (hi : i < 52) (hj : j < 52) (h : i ≠ j) : keyEq (keyO i) (keyO j) = false := by
  rw [← Bool.not_eq_true]
  intro h2
  exact h (nmO_inj hi hj ((tmKey_eq _ _ _ _).1 h2).1)
def tsO (xs : List Int) (i : Nat) : List (Key × Int) := (List.range i).map fun j => (keyO j, xs.getD j 0)
theorem mset_new {β : Type} {k : Key} {v : β} : ∀ {es : List (Key × β)}, (∀ e ∈ es, keyEq k e.1 = false) → mset es k v = es ++ [(k, v)]
  | [], _ => rfl
  | (k', v') :: es, h => by
    simp only [mset]
    rw [h _ List.mem_cons_self]
    dsimp only
    rw [mset_new fun e he => h e (List.mem_cons_of_mem _ he)]
    rfl
theorem tsO_succ (xs : List Int) {i : Nat} (h : i < 52) : mset (tsO xs i) (keyO i) (xs.getD i 0) = tsO xs (i + 1) := by
  rw [mset_new]
  · unfold tsO; rw [List.range_succ, List.map_append]; rfl
  · intro e he
    obtain ⟨j, hj, rfl⟩ := List.mem_map.1 he
    have := List.mem_range.1 hj
    exact keyO_ne h (by omega) (by omega)
theorem tsO_keys (xs : List Int) : ∀ {i : Nat}, i ≤ 52 → keysOk (tsO xs i)
  | 0, _ => List.Pairwise.nil
  | i + 1, h => by rw [← tsO_succ xs (by omega)]; exact keysOk_mset (tsO_keys xs (by omega))
theorem tsO_snd (xs : List Int) : (tsO xs xs.length).map (·.2) = xs := by
  unfold tsO
  rw [List.map_map]
  refine List.ext_getElem (by simp) fun i h1 h2 => ?_
  simp [List.getD, h2]
theorem tsO_kd (xs : List Int) (i : Nat) : ∀ e ∈ tsO xs i, ∃ u w, e.1 = tmKey u w := by
  intro e he
  obtain ⟨j, _, rfl⟩ := List.mem_map.1 he
  exact ⟨_, _, rfl⟩
theorem due_eq (xs : List Int) (now : Int) : ((tsO xs xs.length).filter fun e => decide (e.2 ≤ now)).length = (xs.filter fun x => decide (x ≤ now)).length := by
  conv => rhs; rw [← tsO_snd xs]
  rw [List.filter_map, List.length_map]
  rfl
theorem due_step (xs : List Int) (now : Int) {k : Nat} (h : k < xs.length) : ((xs.take (k + 1)).filter fun x => decide (x ≤ now)).length = ((xs.take k).filter fun x => decide (x ≤ now)).length + (match decide (xs[k] ≤ now) with | true => 1 | false => 0) := by
  rw [List.take_succ_eq_append_getElem h, List.filter_append, List.length_append]
  congr 1
  cases hc : decide (xs[k] ≤ now) with
  | true => simp [hc]
  | false => simp [hc]
end Go.Proofs.Ytkcmgcoppecfpaa

