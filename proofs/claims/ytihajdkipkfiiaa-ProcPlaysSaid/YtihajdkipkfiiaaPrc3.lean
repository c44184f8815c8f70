/- proc.Table: All. -/
import Derived.Test.YtihajdkipkfiiaaPr5Run
namespace Go.Proofs.Ytihajdkipkfiiaa
open Go Go.RowKit
set_option linter.unusedVariables false
set_option linter.unusedSimpArgs false
set_option linter.unnecessarySimpa false
set_option maxHeartbeats 0

open Go.Maps Go.Sort Go.Shelf
theorem getP_at {ps : List (Nat × PR)} (ha : ps.Pairwise fun x y => x.2.pid < y.2.pid) {i : Nat} (h : i < ps.length) : getP ps ps[i].2.pid = some ps[i] := by
  unfold getP
  rw [List.find?_eq_some_iff_append]
  refine ⟨by simp, ps.take i, ps.drop (i + 1), ?_, fun y hy => ?_⟩
  · rw [List.getElem_cons_drop, List.take_append_drop]
  · obtain ⟨j, hj, rfl⟩ := List.mem_iff_getElem.1 hy
    rw [List.getElem_take]
    have hj2 : j < i := by simp at hj; omega
    have := List.pairwise_iff_getElem.1 ha j i (by omega) h hj2
    simp; omega
theorem pOk.wf {s : PT} (ho : pOk s) : wfI (s.ps.map pkey) := by
  refine ⟨?_, by have := ho.len; simp; omega, fun e he => ?_⟩
  · unfold keysOk
    rw [List.pairwise_map]
    refine ho.asc.imp fun {x y} h => ?_
    simp [pkey, keyEq]; omega
  · obtain ⟨x, hx, rfl⟩ := List.mem_map.1 he
    have h1 := ho.le x hx
    have h2 := ho.last
    simp only [pkey, keyInt, Lit.wf, Bool.and_eq_true, decide_eq_true_eq]
    constructor
    · exact decide_eq_true (show (-9223372036854775808 : Int) ≤ _ by omega)
    · exact decide_eq_true (show _ ≤ (9223372036854775807 : Int) by omega)
theorem pOk.sort {s : PT} (ho : pOk s) : sortI (s.ps.map pkey) = s.ps.map fun x => x.2.pid := by
  unfold sortI
  have e : (s.ps.map pkey).map (fun e => keyInt e.1) = s.ps.map fun x => x.2.pid := by rw [List.map_map]; rfl
  rw [e]
  refine List.mergeSort_of_pairwise ?_
  rw [List.pairwise_map]
  exact ho.asc.imp fun {x y} h => by simp [leI]; omega

theorem ptK_ok : AllOk Try.prog ptK := ⟨inl_ok trivial hmP Try.func98 (by kernel_rfl), srtI_ok rfl ⟨_, Try.func111, by kernel_rfl, _, rfl⟩ (fun w b rm nn D0 h1 h2 h3 => AnyZI.keys_gives (ρ := keysP_ren) { keysP with } Fence.wide _ trivial rfl (by omega) b rm nn D0 w h1 h2 h3), trivial⟩
theorem ptG_ok : AllOk Try.prog ptG := ⟨pGet_ok, ptK_ok⟩

/-- What the function says of one process. -/
def OneV (fv : Value) (s : PT) (b : Nat) (R : Nat → List Ent) (Stop : PT → List Ent → Prop) : Prop := ∀ i x, s.ps[i]? = some x → VSpec Try.prog fv [pkA b ptE s, pk 0 (R i)] [.agg (encP6 x.2)] fun h r => (h = [pkA b ptE s, pk 0 (R (i + 1))] ∧ r = .bool true) ∨ ∃ s' R', Stop s' R' ∧ h = [pkA b ptE s', pk 0 R'] ∧ r = .bool false
theorem all1Y_ok {fv : Value} {s : PT} {b : Nat} {R : Nat → List Ent} {Stop : PT → List Ent → Prop} (hV : OneV fv s b R Stop) : YOk Try.prog (all1Y fv s b R Stop) := by
  rintro v args hs N ⟨rfl, h⟩
  split at h
  case h_2 => exact h.elim
  rename_i e0 e1 e2 rest
  obtain ⟨i, x, hx, rfl, rfl, rfl, hN1, hN2⟩ := h
  refine VSpec.at [0, 2] rfl rfl (hV i x hx) fun h' r hp => ?_
  rcases hp with ⟨rfl, rfl⟩ | ⟨s', R', hs, rfl, rfl⟩
  · exact ⟨Nat.le_refl _, by simpa [putBack, setN, appE_eq] using hN1⟩
  · exact ⟨Nat.le_refl _, by simpa [putBack, setN, appE_eq] using hN2 s' R' hs⟩

theorem all1_iter {fv : Value} {s : PT} {b bt : Nat} {R : Nat → List Ent} {Stop : PT → List Ent → Prop} (ho : pOk s) (hV : OneV fv s b R Stop) :
    Spec Try.prog 97 [pkA b ptE s, ⟨.blk bt, .cells [.ptr 0 b 0] 38⟩, pk 0 (R 0)] [.raw fv, .ptr 1 bt 0] fun h' r => r = .tuple [] ∧ (h' = [pkA b ptE s, pk 0 (R s.ps.length)] ∨ ∃ s' R', Stop s' R' ∧ h' = [pkA b ptE s', pk 0 R']) := by
  refine Spec.pre (hs' := [⟨.blk b, .cells [.map 1 s.bm, .int .i64 s.room, .int .i64 s.last] 130⟩, ⟨.blk s.bm, .mapL (some .i64) encB1 (s.ps.map pkey)⟩, pk 0 (s.ps.map procE), ⟨.blk bt, .cells [.ptr 0 b 0] 38⟩, pk 0 (R 0)]) (args' := [.raw fv, .ptr 3 bt 0]) (fun W F w hr => hr.unpkA) rfl (Spec.up ?_)
  refine Spec.of_GR 32 Try.func97 (c := bodyOf Try.f97) (by kernel_rfl) (by kernel_rfl) (Nat.le_of_ble_eq_true rfl) fun W F => ?_
  refine runR_sound (kc := true) (ss := []) (fun _ _ h => h) ptG_ok (all1Y_ok hV) hmP Ends.fn 300 _ _ ?_
  rw [al_start]
  refine ⟨rfl, rfl, rfl, rfl, fun b1 => ⟨rfl, rfl, ⟨rfl, rfl, rfl, ho.wf⟩, fun aok capk => ?_⟩⟩
  rw [ho.sort]
  have hlen : (s.ps.map fun x => x.2.pid).length = s.ps.length := by simp
  have hll := ho.len
  refine GR_loopAt (ι := Nat) [] (bodyOf Try.f97) [1, 0] 32 (fun i => [(0, .raw fv), (1, .ptr 1 bt 0), (12, .vec 3 aok (s.ps.map fun x => x.2.pid).length capk), (13, .int .i64 ((s.ps.map fun x => x.2.pid).length : Int)), (14, .int .i64 (i : Int))])
    (fun i => [pkA b ptE s, ⟨.blk bt, .cells [.ptr 0 b 0] 38⟩, pk 0 (R i), ⟨.sl aok capk, .vecL 3 1 encI1 (s.ps.map fun x => x.2.pid) 0⟩]) (fun i => i ≤ s.ps.length) (fun i => s.ps.length - i) 0 (by kernel_rfl) (fun J => by kernel_rfl) (Nat.zero_le _) rfl ⟨rfl, rfl, rfl, rfl, rfl, trivial⟩ (fun w hw => ?_) fun i hi u => ?_
  · have h1 : Rep W F (pkA b ptE s :: _) w := Rep.pkA (S := ptE) (s := s) (b := b) (t := _) hw
    exact Rep.pick (π := [0, 1, 2, 4]) (by decide) rfl h1
  simp only [List.nil_append, List.cons_append]
  refine runR_sound (kc := true) (ss := []) (fun _ _ h => h) ptG_ok (all1Y_ok hV) hmP Ends.fn 900 _ _ ?_
  rw [al_body]
  cases hlt : decide ((i : Int) < ((s.ps.map fun x => x.2.pid).length : Int)) with
  | false =>
    simp only [decide_eq_false_iff_not, hlen] at hlt
    obtain rfl : i = s.ps.length := by omega
    exact ⟨_, _, fun W F w hr => Rep.pick (π := [0, 2]) (by decide) rfl hr, rfl, rfl, .inl rfl⟩
  | true =>
    simp only [decide_eq_true_eq, hlen] at hlt
    have hi' : i < s.ps.length := by omega
    have t1 : Int.toNat (i : Int) = i := by omega
    have t2 : IntKind.wrap .i64 ((i : Int) + 1) = ((i + 1 : Nat) : Int) := IntWalk.i64_in _ (by omega)
    have hk : (s.ps.map fun x => x.2.pid).getD i 0 = s.ps[i].2.pid := by simp [List.getD, hi']
    have hg := getP_at ho.asc hi'
    obtain ⟨e1, e2, _⟩ := pHas_some hg
    rw [t1, t2, hk, e1, e2]
    refine ⟨⟨rfl, rfl, rfl, by omega, by rw [hlen]; exact hlt⟩, ⟨rfl, rfl, rfl, by rw [hlen]; exact hi'⟩, rfl, rfl, rfl, rfl, HEq.rfl, ho, fun b2 => ⟨⟨rfl, rfl, rfl, Nat.le_refl _⟩, ⟨rfl, rfl⟩, rfl, i, s.ps[i], List.getElem?_eq_getElem hi', rfl, rfl, rfl, ?_, fun s' R' hst => ?_⟩⟩
    · exact GR_back (i + 1) (by omega) (by omega) rfl ⟨rfl, rfl, rfl, rfl, rfl, trivial⟩ (fun w hr => Rep.pick (π := [0, 1, 2, 3]) (by decide) rfl hr)
    · exact ⟨_, _, fun W F w hr => Rep.pick (π := [0, 2]) (by decide) rfl hr, rfl, rfl, .inr ⟨s', R', hst, rfl⟩⟩
end Go.Proofs.Ytihajdkipkfiiaa
