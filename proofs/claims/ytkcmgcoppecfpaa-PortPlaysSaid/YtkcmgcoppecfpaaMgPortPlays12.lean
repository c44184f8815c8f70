import Derived.Test.YtkcmgcoppecfpaaMgPortPlays7
import Derived.Test.YtkcmgcoppecfpaaMgPortPlays8
import Derived.Test.YtkcmgcoppecfpaaMgPortPlays11
import Derived.Test.YtkcmgcoppecfpaaMgPortPlays4
import Derived.ChangeSlices
import Derived.OpenShut
import Derived.Carry
import Derived.ProofKit
import Derived.Deep.Grids
import Derived.Deep.Strs
import Derived.Deep.Slices
import Derived.Test.YtkcmgcoppecfpaaMgPortPlays6
set_option linter.unusedVariables false
set_option linter.unusedSimpArgs false
set_option linter.unnecessarySimpa false
set_option maxHeartbeats 0
set_option maxRecDepth 100000
/- PortPlays. -/
namespace Go.Proofs.Ytkcmgcoppecfpaa
open Go Go.RowKit
def qRest (r : RPs) (n : ByteArray) : List Ent := match qHas r.L n with
  | true => (r.L.take (qAt r.L n)).map cnE ++ (r.L.drop (qAt r.L n + 1)).map cnE
  | false => r.L.map cnE
theorem rq_split {r : RPs} {n : ByteArray} (hh : qHas r.L n = true) : r.L.map cnE = (r.L.take (qAt r.L n)).map cnE ++ cnE (qGet r n) :: (r.L.drop (qAt r.L n + 1)).map cnE := by
  have hi := qHas_lt hh
  rw [qGet_eq hi, ← List.map_cons, ← List.map_append]
  congr 1
  rw [← List.drop_eq_getElem_cons hi, List.take_append_drop]
theorem rq_open {W w : World} {F : List Ch} {r : RPs} {b : Nat} (n : ByteArray) {t : List Ent} (hr : Rep W F (rpE r b ++ t) w) : Rep W F (⟨.blk b, .cells [.vec 1 r.aoL r.L.length r.capL, .int .i64 r.nx, .vec 2 r.aoD r.ds.length r.capD] 30⟩ :: ⟨.sl r.aoL r.capL, .vecL 62 2 encRpt r.L zP⟩ :: ⟨.sl r.aoD r.capD, .vecL 49 2 encDN r.ds DN.zero⟩ :: pk 0 (qRest r n) :: cnE (qwG r n) :: t) w := by
  unfold qRest qwG
  cases hh : qHas r.L n with
  | true =>
    unfold rpE at hr
    rw [rq_split hh] at hr
    have h1 := Rep.outP (p := [_, _, _]) (t := t) hr
    exact h1.perm (((List.Perm.swap _ _ t).cons _).cons _ |>.cons _)
  | false =>
    have h1 : Rep W F (cnE zP :: (rpE r b ++ t)) w := by
      have h0 := Rep.nilvec 41 (sz := 2) (enc := encCN) CN.zero (fun _ => rfl) hr
      rw [snoc_eq] at h0
      exact h0.perm List.perm_append_comm
    exact h1.perm (List.perm_middle (l₁ := [_, _, _, _])).symm
theorem rq_close {W w : World} {F : List Ch} {r : RPs} {b : Nat} (n : ByteArray) {t : List Ent} (hr : Rep W F (⟨.blk b, .cells [.vec 1 r.aoL r.L.length r.capL, .int .i64 r.nx, .vec 2 r.aoD r.ds.length r.capD] 30⟩ :: ⟨.sl r.aoL r.capL, .vecL 62 2 encRpt r.L zP⟩ :: ⟨.sl r.aoD r.capD, .vecL 49 2 encDN r.ds DN.zero⟩ :: pk 0 (qRest r n) :: cnE (qwG r n) :: t) w) : Rep W F (rpE r b ++ t) w := by
  unfold qRest qwG at hr
  cases hh : qHas r.L n with
  | true =>
    rw [hh] at hr
    have h1 := hr.perm (((List.Perm.swap _ _ t).cons _).cons _ |>.cons _)
    have h2 := Rep.intoP (p := [_, _, _]) (t := t) h1
    rw [← rq_split hh] at h2
    exact h2
  | false =>
    rw [hh] at hr
    have h1 := hr.perm (List.perm_middle (l₁ := [_, _, _, _]))
    exact Rep.dropR (h := rpE r b ++ t) (t := [cnE zP]) (h1.perm (List.perm_append_comm (l₁ := [cnE zP])))
section
variable {W : World} {F : List Ch} {ao : Option Addr} {cap : Nat} {bs : List StepP} {bt br : Nat} {s : PS} {r : RPs} {i : Nat} {x : StepP} {b6 : Nat} {st : Sy}
theorem pt41 (hi : i < bs.length) (hb : bs.length ≤ 120) (h : PL s r (i + 1)) (h1 : lenN st.tmps = 208) (h2 : liveOk st.tmps [(0, .vec 0 ao bs.length cap), (3, .ptr 1 bt 0), (4, .ptr 2 br 0), (5, .int .i64 (i : Int)), (6, .ptr 6 b6 0)]) (hh : ∀ w, Rep W F st.heap w → Rep W F [⟨.sl ao cap, .roL 4 encStepP bs StepP.zero⟩, pkA bt psE s, ⟨.blk br, .cells [.vec 3 r.aoL r.L.length r.capL, .int .i64 r.nx, .vec 4 r.aoD r.ds.length r.capD] 30⟩, ⟨.sl r.aoL r.capL, .vecL 62 2 encRpt r.L zP⟩, ⟨.sl r.aoD r.capD, .vecL 49 2 encDN r.ds DN.zero⟩, pk 0 (r.L.map cnE), ⟨.blk b6, .cells (encStepP x) 32⟩] w) : G Try.prog (endQ Try.prog Try.f3 W F fun _ r => r = .bool true) W F (frmR [(Back W F 208 (fun x : Nat × PS × RPs => [(0, .vec 0 ao bs.length cap), (3, .ptr 1 bt 0), (4, .ptr 2 br 0), (5, .int .i64 (x.1 : Int))]) (fun x : Nat × PS × RPs => [⟨.sl ao cap, .roL 4 encStepP bs StepP.zero⟩, pkA bt psE (x.2.1), pkA br rpE (x.2.2)]) (fun x : Nat × PS × RPs => x.1 ≤ bs.length ∧ PL x.2.1 x.2.2 x.1) (fun x : Nat × PS × RPs => bs.length - x.1) (bs.length - i))] (bodyOf Try.f3) 41) st := by
  refine G_live 208 [(0, .vec 0 ao bs.length cap), (3, .ptr 1 bt 0), (4, .ptr 2 br 0), (5, .int .i64 (i : Int)), (6, .ptr 6 b6 0)] [⟨.sl ao cap, .roL 4 encStepP bs StepP.zero⟩, pkA bt psE s, ⟨.blk br, .cells [.vec 3 r.aoL r.L.length r.capL, .int .i64 r.nx, .vec 4 r.aoD r.ds.length r.capD] 30⟩, ⟨.sl r.aoL r.capL, .vecL 62 2 encRpt r.L zP⟩, ⟨.sl r.aoD r.capD, .vecL 49 2 encDN r.ds DN.zero⟩, pk 0 (r.L.map cnE), ⟨.blk b6, .cells (encStepP x) 32⟩] h1 h2 hh fun u => ?_
  refine G_run (kc := false) (ss := []) plT_ok hmPt 900 ?_
  rw [pt_41]
  have w1 : IntKind.wrap .i64 ((i : Int) + 1) = ((i + 1 : Nat) : Int) := IntWalk.i64_in _ (by omega)
  have hlen := h.len
  refine fun b21 => ⟨rfl, rfl, fun bx => ⟨rfl, rfl, s, r, i + 1, 1, bt, rfl, rfl, rfl, rfl, ⟨h, by omega⟩, fun aa ca => ?_⟩⟩
  refine G_loopAt (ι := Nat × Option Addr × Nat) [(Back W F 208 (fun x : Nat × PS × RPs => [(0, .vec 0 ao bs.length cap), (3, .ptr 1 bt 0), (4, .ptr 2 br 0), (5, .int .i64 (x.1 : Int))]) (fun x : Nat × PS × RPs => [⟨.sl ao cap, .roL 4 encStepP bs StepP.zero⟩, pkA bt psE (x.2.1), pkA br rpE (x.2.2)]) (fun x : Nat × PS × RPs => x.1 ≤ bs.length ∧ PL x.2.1 x.2.2 x.1) (fun x : Nat × PS × RPs => bs.length - x.1) (bs.length - i))] (bodyOf Try.f3) [1, 1, 1, 1, 0, 1, 0, 0, 1, 0, 0, 1, 1, 1, 1, 1, 1, 1, 0, 1, 0] 208 (fun y : Nat × Option Addr × Nat => [(0, .vec 0 ao bs.length cap), (3, .ptr 1 bt 0), (4, .ptr 2 br 0), (5, .int .i64 (i : Int)), (21, .ptr 7 b21 0), (22, .vec 9 y.2.1 ((r.L.map RPt.name).take y.1).length y.2.2), (23, .int .i64 (y.1 : Int))]) (fun y : Nat × Option Addr × Nat => [⟨.sl ao cap, .roL 4 encStepP bs StepP.zero⟩, pkA bt psE s, ⟨.blk br, .cells [.vec 3 r.aoL r.L.length r.capL, .int .i64 r.nx, .vec 4 r.aoD r.ds.length r.capD] 30⟩, ⟨.sl r.aoL r.capL, .vecL 62 2 encRpt r.L zP⟩, ⟨.sl r.aoD r.capD, .vecL 49 2 encDN r.ds DN.zero⟩, pk 0 (r.L.map cnE), ⟨.blk b6, .cells (encStepP x) 32⟩, ⟨.blk b21, .cells [.vec 8 aa r.L.length ca] 56⟩, ⟨.sl aa ca, .vecL 9 1 encS (r.L.map RPt.name) ByteArray.empty⟩, ⟨.sl y.2.1 y.2.2, .vecL 9 1 encS ((r.L.map RPt.name).take y.1) ByteArray.empty⟩]) (fun y => y.1 ≤ r.L.length) (fun y => r.L.length - y.1) (0, none, 0) (by kernel_rfl) (fun J => by kernel_rfl) (Nat.zero_le _) rfl ⟨rfl, rfl, rfl, rfl, rfl, rfl, rfl, trivial⟩ (fun w hr => ?_) ?_
  · have q1 := Rep.pick (π := [0, 1, 2, 3, 4, 5, 6, 7, 9]) (by decide) rfl hr
    have q2 := Rep.nilvec 9 (sz := 1) (enc := encS) ByteArray.empty (fun _ => rfl) q1
    exact Rep.cellsEq (l := 7) (cs' := [.vec 8 aa r.L.length ca]) rfl (by rfl) q2
  rintro ⟨k, ab, cb⟩ hk u
  dsimp only at hk
  try dsimp only
  simp only [List.nil_append, List.cons_append]
  refine G_run (kc := false) (ss := []) plT_ok hmPt 2000 ?_
  rw [pt_l2]
  have w2 : IntKind.wrap .i64 ((k : Int) + 1) = ((k + 1 : Nat) : Int) := IntWalk.i64_in _ (by omega)
  have hml : (r.L.map RPt.name).length = r.L.length := by simp
  have htl : ((r.L.map RPt.name).take k).length = k := by simp; omega
  refine ⟨rfl, ?_⟩
  cases hlt : decide ((k : Int) < (r.L.length : Int)) with
  | true =>
    simp only [decide_eq_true_eq] at hlt
    have hk2 : k < r.L.length := by omega
    have hg : ∀ d, r.L.getD k d = r.L[k] := fun d => getD_ltR _ _ _ hk2
    rw [Int.toNat_natCast, hg]
    have ht : (r.L.map RPt.name).take k ++ [r.L[k].name] = (r.L.map RPt.name).take (k + 1) := by
      rw [List.take_succ_eq_append_getElem (by rw [hml]; exact hk2), List.getElem_map]
    have ht1 : ((r.L.map RPt.name).take k).length + 1 = ((r.L.map RPt.name).take (k + 1)).length := by simp; omega
    refine ⟨rfl, ⟨rfl, rfl, rfl, by omega, by omega⟩, ⟨rfl, rfl, rfl, hk2⟩, ⟨rfl, rfl, Nat.zero_lt_one, by decide⟩, fun b1 => ⟨⟨rfl, rfl, rfl, rfl, rfl, rfl, rfl, Nat.zero_lt_one, rfl, by omega, by omega⟩, [r.L[k].name], rfl, rfl, fun ao2 cap2 _ => ?_⟩⟩
    rw [ht]
    refine G_back (k + 1, ao2, cap2) (by dsimp only; omega) (by dsimp only; omega) rfl ⟨rfl, rfl, rfl, rfl, rfl, by dsimp only; rw [← ht1]; rfl, congrArg (Value.int .i64) w2, trivial⟩ (fun w hr => Rep.dropR (h := [_, _, _, _, _, _, _, _, _, _]) hr)
  | false =>
    simp only [decide_eq_false_iff_not] at hlt
    have hke : k = r.L.length := by omega
    have ht : (r.L.map RPt.name).take k = r.L.map RPt.name := List.take_of_length_le (by omega)
    rw [ht]
    refine ⟨rfl, rfl, r.L.map RPt.name, rfl, rfl, ⟨rfl, hml.symm, rfl, by omega⟩, ?_⟩
    refine G_back (i + 1, s, r) ⟨by dsimp only; omega, h⟩ (by dsimp only; omega) rfl ⟨rfl, rfl, rfl, congrArg (Value.int .i64) w1, trivial⟩ (fun w hr => ?_)
    have q1 := Rep.pick (π := [2, 3, 4, 5, 0, 1]) (by decide) rfl hr
    have q2 := Rep.cellsEq (l := 0) (cs' := [.vec 1 r.aoL r.L.length r.capL, .int .i64 r.nx, .vec 2 r.aoD r.ds.length r.capD]) rfl (by rfl) q1
    have q3 : Rep W F (pkA br rpE r :: _) w := Rep.pkA (S := rpE) (s := r) (b := br) (t := [_, _]) q2
    exact Rep.pick (π := [1, 2, 0]) (by decide) rfl q3
theorem pt39 (hi : i < bs.length) (hb : bs.length ≤ 120) (h : PL s r (i + 1)) (e : Int) (h1 : lenN st.tmps = 208) (h2 : liveOk st.tmps [(0, .vec 0 ao bs.length cap), (3, .ptr 1 bt 0), (4, .ptr 2 br 0), (5, .int .i64 (i : Int)), (6, .ptr 7 b6 0), (7, .int .i64 e), (8, .int .i64 e)]) (hh : ∀ w, Rep W F st.heap w → Rep W F [⟨.sl ao cap, .roL 4 encStepP bs StepP.zero⟩, pkA bt psE (s), pkA br rpE (r), ⟨.blk b6, .cells (encStepP x) 32⟩] w) : G Try.prog (endQ Try.prog Try.f3 W F fun _ r => r = .bool true) W F (frmR [(Back W F 208 (fun x : Nat × PS × RPs => [(0, .vec 0 ao bs.length cap), (3, .ptr 1 bt 0), (4, .ptr 2 br 0), (5, .int .i64 (x.1 : Int))]) (fun x : Nat × PS × RPs => [⟨.sl ao cap, .roL 4 encStepP bs StepP.zero⟩, pkA bt psE (x.2.1), pkA br rpE (x.2.2)]) (fun x : Nat × PS × RPs => x.1 ≤ bs.length ∧ PL x.2.1 x.2.2 x.1) (fun x : Nat × PS × RPs => bs.length - x.1) (bs.length - i))] (bodyOf Try.f3) 39) st := by
  refine G_live 208 [(0, .vec 0 ao bs.length cap), (3, .ptr 1 bt 0), (4, .ptr 2 br 0), (5, .int .i64 (i : Int)), (6, .ptr 7 b6 0), (7, .int .i64 e), (8, .int .i64 e)] [⟨.sl ao cap, .roL 4 encStepP bs StepP.zero⟩, pkA bt psE s, ⟨.blk br, .cells [.vec 3 r.aoL r.L.length r.capL, .int .i64 r.nx, .vec 5 r.aoD r.ds.length r.capD] 30⟩, ⟨.sl r.aoL r.capL, .vecL 62 2 encRpt r.L zP⟩, ⟨.sl (qwG r x.name).ao (qwG r x.name).cap, .vecL 41 2 encCN (qwG r x.name).cs CN.zero⟩, ⟨.sl r.aoD r.capD, .vecL 49 2 encDN r.ds DN.zero⟩, pk 0 (qRest r x.name), ⟨.blk b6, .cells (encStepP x) 32⟩] h1 h2 (fun w hr => ?_) fun u => ?_
  · have q0 := hh w hr
    have q1 := Rep.pick (π := [2, 0, 1, 3]) (by decide) rfl q0
    have q2 : Rep W F (rpE r br ++ _) w := Rep.unpkA (S := rpE) (s := r) (b := br) (t := [_, _, _]) q1
    have q3 := rq_open x.name q2
    have q4 := Rep.pick (π := [5, 6, 0, 1, 4, 2, 3, 7]) (by decide) rfl q3
    exact Rep.cellsEq (l := 2) (cs' := [.vec 3 r.aoL r.L.length r.capL, .int .i64 r.nx, .vec 5 r.aoD r.ds.length r.capD]) rfl (by rfl) q4
  refine G_run (kc := true) (ss := [41]) plT_ok hmPt 2000 ?_
  have hdd : ((s.ds.length : Int) != (r.ds.length : Int)) = false := by rw [h.ds]; simp
  rw [pt_39, bne_self_eq_false, hdd]
  have hps := h.psok (by omega)
  have hro := h.rpok (by omega)
  have hLen := hro.len
  have hw := h.wait x.name
  have back : ∀ w (e9 : Ent), Rep W F [⟨.sl ao cap, .roL 4 encStepP bs StepP.zero⟩, pkA bt psE s, ⟨.blk br, .cells [.vec 3 r.aoL r.L.length r.capL, .int .i64 r.nx, .vec 5 r.aoD r.ds.length r.capD] 30⟩, ⟨.sl r.aoL r.capL, .vecL 62 2 encRpt r.L zP⟩, ⟨.sl (qwG r x.name).ao (qwG r x.name).cap, .vecL 41 2 encCN (qwG r x.name).cs CN.zero⟩, ⟨.sl r.aoD r.capD, .vecL 49 2 encDN r.ds DN.zero⟩, pk 0 (qRest r x.name), ⟨.blk b6, .cells (encStepP x) 32⟩, e9] w → Rep W F [⟨.sl ao cap, .roL 4 encStepP bs StepP.zero⟩, pkA bt psE s, ⟨.blk br, .cells [.vec 3 r.aoL r.L.length r.capL, .int .i64 r.nx, .vec 4 r.aoD r.ds.length r.capD] 30⟩, ⟨.sl r.aoL r.capL, .vecL 62 2 encRpt r.L zP⟩, ⟨.sl r.aoD r.capD, .vecL 49 2 encDN r.ds DN.zero⟩, pk 0 (r.L.map cnE), ⟨.blk b6, .cells (encStepP x) 32⟩] w := fun w e9 hr => by
    have q1 := Rep.pick (π := [2, 3, 5, 6, 4, 0, 1, 7]) (by decide) rfl hr
    have q2 := Rep.cellsEq (l := 0) (cs' := [.vec 1 r.aoL r.L.length r.capL, .int .i64 r.nx, .vec 2 r.aoD r.ds.length r.capD]) rfl (by rfl) q1
    have q3 := rq_close (t := [_, _, _]) x.name q2
    have q4 := Rep.pick (π := [4, 5, 0, 1, 2, 3, 6]) (by decide) rfl q3
    exact Rep.cellsEq (l := 2) (cs' := [.vec 3 r.aoL r.L.length r.capL, .int .i64 r.nx, .vec 4 r.aoD r.ds.length r.capD]) rfl (by rfl) q4
  cases hq : qHas r.L x.name with
  | true =>
    have hq' : nHas RPt.name (RPt.mk ⟨#[]⟩ none 0 []) r.L x.name = true := hq
    have hi2 := qHas_lt hq
    have hi3 : nAt RPt.name r.L x.name < r.L.length := hi2
    have hget : r.L.getD (nAt RPt.name r.L x.name) (RPt.mk ⟨#[]⟩ none 0 []) = qwG r x.name := by
      unfold qwG
      rw [hq]; rfl
    have hcl : (qwG r x.name).cs.length ≤ 100 := by
      rw [← hget]
      have e : ∀ d, r.L.getD (nAt RPt.name r.L x.name) d = r.L[nAt RPt.name r.L x.name] := fun d => getD_ltR _ _ _ hi3
      rw [e]
      exact hro.cl _ (List.getElem_mem hi3)
    repeat' first
      | exact rfl
      | exact trivial
      | exact HEq.rfl
      | exact hps
      | (refine ⟨r.L, rfl, ⟨rfl, hLen⟩, ?_⟩; rw [hq', Bool.not_true, Int.toNat_natCast, hget, hw])
      | (refine ⟨(qwG r x.name).cs, rfl, rfl, ⟨rfl, rfl, rfl, by omega⟩, ?_⟩)
      | exact pt41 hi hb h rfl ⟨rfl, rfl, rfl, rfl, rfl, trivial⟩ (fun w hr => back w _ hr)
      | apply And.intro
      | (refine ⟨rfl, ?_⟩)
      | (refine fun _ => ?_)
      | (show _ ≤ _; omega)
      | (show _ < _; omega)
      | fail
  | false =>
    have hq' : nHas RPt.name (RPt.mk ⟨#[]⟩ none 0 []) r.L x.name = false := hq
    have hz : pWait s x.name = [] := by
      rw [hw]; unfold qwG; rw [hq]; rfl
    rw [hz]
    repeat' first
      | exact rfl
      | exact trivial
      | exact HEq.rfl
      | exact hps
      | (refine ⟨r.L, rfl, ⟨rfl, hLen⟩, ?_⟩; rw [hq', Bool.not_false])
      | exact pt41 hi hb h rfl ⟨rfl, rfl, rfl, rfl, rfl, trivial⟩ (fun w hr => back w _ hr)
      | apply And.intro
      | (refine ⟨rfl, ?_⟩)
      | (refine fun _ => ?_)
      | fail
theorem pt19 (hi : i < bs.length) (hb : bs.length ≤ 120) (h : PL s r i) (hn : x.name.size ≤ 100) (h1 : lenN st.tmps = 208) (h2 : liveOk st.tmps [(0, .vec 0 ao bs.length cap), (3, .ptr 1 bt 0), (4, .ptr 2 br 0), (5, .int .i64 (i : Int)), (6, .ptr 3 b6 0), (7, .int .i64 0), (8, .int .i64 0)]) (hh : ∀ w, Rep W F st.heap w → Rep W F [⟨.sl ao cap, .roL 4 encStepP bs StepP.zero⟩, pkA bt psE (s), pkA br rpE (r), ⟨.blk b6, .cells (encStepP x) 32⟩] w) : G Try.prog (endQ Try.prog Try.f3 W F fun _ r => r = .bool true) W F (frmR [(Back W F 208 (fun x : Nat × PS × RPs => [(0, .vec 0 ao bs.length cap), (3, .ptr 1 bt 0), (4, .ptr 2 br 0), (5, .int .i64 (x.1 : Int))]) (fun x : Nat × PS × RPs => [⟨.sl ao cap, .roL 4 encStepP bs StepP.zero⟩, pkA bt psE (x.2.1), pkA br rpE (x.2.2)]) (fun x : Nat × PS × RPs => x.1 ≤ bs.length ∧ PL x.2.1 x.2.2 x.1) (fun x : Nat × PS × RPs => bs.length - x.1) (bs.length - i))] (bodyOf Try.f3) 19) st := by
  refine G_live 208 [(0, .vec 0 ao bs.length cap), (3, .ptr 1 bt 0), (4, .ptr 2 br 0), (5, .int .i64 (i : Int)), (6, .ptr 3 b6 0), (7, .int .i64 0), (8, .int .i64 0)] [⟨.sl ao cap, .roL 4 encStepP bs StepP.zero⟩, pkA bt psE (s), pkA br rpE (r), ⟨.blk b6, .cells (encStepP x) 32⟩] h1 h2 hh fun u => ?_
  refine G_run (kc := false) (ss := [39]) plT_ok hmPt 900 ?_
  rw [pt_19]
  have hps := h.psok (by omega)
  have hro := h.rpok (by omega)
  repeat' first
    | exact rfl
    | exact trivial
    | exact HEq.rfl
    | exact hps
    | exact hro
    | exact Nat.le_refl _
    | exact pt39 hi hb (h.listen x.name hn _ _ _).2 (pListen s x.name _).2 rfl ⟨rfl, rfl, rfl, rfl, rfl, rfl, congrArg (Value.int .i64) (h.listen x.name hn _ _ _).1.symm, trivial⟩ (fun w hr => hr)
    | apply And.intro
    | (refine ⟨rfl, ?_⟩)
    | (refine fun _ => ?_)
    | fail
theorem pt21 (hi : i < bs.length) (hb : bs.length ≤ 120) (h : PL s r i) (h1 : lenN st.tmps = 208) (h2 : liveOk st.tmps [(0, .vec 0 ao bs.length cap), (3, .ptr 1 bt 0), (4, .ptr 2 br 0), (5, .int .i64 (i : Int)), (6, .ptr 3 b6 0), (7, .int .i64 0), (8, .int .i64 0)]) (hh : ∀ w, Rep W F st.heap w → Rep W F [⟨.sl ao cap, .roL 4 encStepP bs StepP.zero⟩, pkA bt psE (s), pkA br rpE (r), ⟨.blk b6, .cells (encStepP x) 32⟩] w) : G Try.prog (endQ Try.prog Try.f3 W F fun _ r => r = .bool true) W F (frmR [(Back W F 208 (fun x : Nat × PS × RPs => [(0, .vec 0 ao bs.length cap), (3, .ptr 1 bt 0), (4, .ptr 2 br 0), (5, .int .i64 (x.1 : Int))]) (fun x : Nat × PS × RPs => [⟨.sl ao cap, .roL 4 encStepP bs StepP.zero⟩, pkA bt psE (x.2.1), pkA br rpE (x.2.2)]) (fun x : Nat × PS × RPs => x.1 ≤ bs.length ∧ PL x.2.1 x.2.2 x.1) (fun x : Nat × PS × RPs => bs.length - x.1) (bs.length - i))] (bodyOf Try.f3) 21) st := by
  refine G_live 208 [(0, .vec 0 ao bs.length cap), (3, .ptr 1 bt 0), (4, .ptr 2 br 0), (5, .int .i64 (i : Int)), (6, .ptr 3 b6 0), (7, .int .i64 0), (8, .int .i64 0)] [⟨.sl ao cap, .roL 4 encStepP bs StepP.zero⟩, pkA bt psE (s), pkA br rpE (r), ⟨.blk b6, .cells (encStepP x) 32⟩] h1 h2 hh fun u => ?_
  refine G_run (kc := false) (ss := [39]) plT_ok hmPt 900 ?_
  rw [pt_21]
  have hps := h.psok (by omega)
  have hro := h.rpok (by omega)
  repeat' first
    | exact rfl
    | exact trivial
    | exact HEq.rfl
    | exact hps
    | exact hro
    | exact Nat.le_refl _
    | exact pt39 hi hb (h.close x.name _ _).2 (pClose s x.name).2 rfl ⟨rfl, rfl, rfl, rfl, rfl, rfl, congrArg (Value.int .i64) (h.close x.name _ _).1.symm, trivial⟩ (fun w hr => hr)
    | apply And.intro
    | (refine ⟨rfl, ?_⟩)
    | (refine fun _ => ?_)
    | fail
theorem pt25 (hi : i < bs.length) (hb : bs.length ≤ 120) (h : PL s r i) (h1 : lenN st.tmps = 208) (h2 : liveOk st.tmps [(0, .vec 0 ao bs.length cap), (3, .ptr 1 bt 0), (4, .ptr 2 br 0), (5, .int .i64 (i : Int)), (6, .ptr 3 b6 0), (7, .int .i64 0), (8, .int .i64 0)]) (hh : ∀ w, Rep W F st.heap w → Rep W F [⟨.sl ao cap, .roL 4 encStepP bs StepP.zero⟩, pkA bt psE (s), pkA br rpE (r), ⟨.blk b6, .cells (encStepP x) 32⟩] w) : G Try.prog (endQ Try.prog Try.f3 W F fun _ r => r = .bool true) W F (frmR [(Back W F 208 (fun x : Nat × PS × RPs => [(0, .vec 0 ao bs.length cap), (3, .ptr 1 bt 0), (4, .ptr 2 br 0), (5, .int .i64 (x.1 : Int))]) (fun x : Nat × PS × RPs => [⟨.sl ao cap, .roL 4 encStepP bs StepP.zero⟩, pkA bt psE (x.2.1), pkA br rpE (x.2.2)]) (fun x : Nat × PS × RPs => x.1 ≤ bs.length ∧ PL x.2.1 x.2.2 x.1) (fun x : Nat × PS × RPs => bs.length - x.1) (bs.length - i))] (bodyOf Try.f3) 25) st := by
  refine G_live 208 [(0, .vec 0 ao bs.length cap), (3, .ptr 1 bt 0), (4, .ptr 2 br 0), (5, .int .i64 (i : Int)), (6, .ptr 3 b6 0), (7, .int .i64 0), (8, .int .i64 0)] [⟨.sl ao cap, .roL 4 encStepP bs StepP.zero⟩, pkA bt psE (s), pkA br rpE (r), ⟨.blk b6, .cells (encStepP x) 32⟩] h1 h2 hh fun u => ?_
  refine G_run (kc := false) (ss := [39]) plT_ok hmPt 900 ?_
  rw [pt_25]
  have hps := h.psok (by omega)
  have hro := h.rpok (by omega)
  repeat' first
    | exact rfl
    | exact trivial
    | exact HEq.rfl
    | exact hps
    | exact hro
    | exact Nat.le_refl _
    | (rw [(h.connect x.name x.text _ _ _ _).1, bne_self_eq_false]; exact pt39 hi hb (h.connect x.name x.text _ _ _ _).2 _ rfl ⟨rfl, rfl, rfl, rfl, rfl, rfl, rfl, trivial⟩ (fun w hr => hr))
    | apply And.intro
    | (refine ⟨rfl, ?_⟩)
    | (refine fun _ => ?_)
    | fail
theorem pt31 (hi : i < bs.length) (hb : bs.length ≤ 120) (h : PL s r i) (h1 : lenN st.tmps = 208) (h2 : liveOk st.tmps [(0, .vec 0 ao bs.length cap), (3, .ptr 1 bt 0), (4, .ptr 2 br 0), (5, .int .i64 (i : Int)), (6, .ptr 3 b6 0), (7, .int .i64 0), (8, .int .i64 0)]) (hh : ∀ w, Rep W F st.heap w → Rep W F [⟨.sl ao cap, .roL 4 encStepP bs StepP.zero⟩, pkA bt psE (s), pkA br rpE (r), ⟨.blk b6, .cells (encStepP x) 32⟩] w) : G Try.prog (endQ Try.prog Try.f3 W F fun _ r => r = .bool true) W F (frmR [(Back W F 208 (fun x : Nat × PS × RPs => [(0, .vec 0 ao bs.length cap), (3, .ptr 1 bt 0), (4, .ptr 2 br 0), (5, .int .i64 (x.1 : Int))]) (fun x : Nat × PS × RPs => [⟨.sl ao cap, .roL 4 encStepP bs StepP.zero⟩, pkA bt psE (x.2.1), pkA br rpE (x.2.2)]) (fun x : Nat × PS × RPs => x.1 ≤ bs.length ∧ PL x.2.1 x.2.2 x.1) (fun x : Nat × PS × RPs => bs.length - x.1) (bs.length - i))] (bodyOf Try.f3) 31) st := by
  refine G_live 208 [(0, .vec 0 ao bs.length cap), (3, .ptr 1 bt 0), (4, .ptr 2 br 0), (5, .int .i64 (i : Int)), (6, .ptr 3 b6 0), (7, .int .i64 0), (8, .int .i64 0)] [⟨.sl ao cap, .roL 4 encStepP bs StepP.zero⟩, pkA bt psE (s), pkA br rpE (r), ⟨.blk b6, .cells (encStepP x) 32⟩] h1 h2 hh fun u => ?_
  refine G_run (kc := false) (ss := [39]) plT_ok hmPt 900 ?_
  rw [pt_31]
  have hps := h.psok (by omega)
  have hro := h.rpok (by omega)
  have hcc : ∀ c : CN, (!(c.id == c.id && (sEq c.text c.text && true))) = false := fun c => by rw [(sEqG _ _).2 rfl]; simp
  repeat' first
    | exact rfl
    | exact trivial
    | exact HEq.rfl
    | exact hps
    | exact hro
    | exact Nat.le_refl _
    | (rw [(h.accept x.name _ _ _ _).1, hcc]; exact pt39 hi hb (h.accept x.name _ _ _ _).2 _ rfl ⟨rfl, rfl, rfl, rfl, rfl, rfl, rfl, trivial⟩ (fun w hr => Rep.dropR (h := [_, _, _, _]) hr))
    | apply And.intro
    | (refine ⟨rfl, ?_⟩)
    | (refine fun _ => ?_)
    | fail
theorem pt38 (hi : i < bs.length) (hb : bs.length ≤ 120) (h : PL s r i) (h1 : lenN st.tmps = 208) (h2 : liveOk st.tmps [(0, .vec 0 ao bs.length cap), (3, .ptr 1 bt 0), (4, .ptr 2 br 0), (5, .int .i64 (i : Int)), (6, .ptr 3 b6 0), (7, .int .i64 0), (8, .int .i64 0)]) (hh : ∀ w, Rep W F st.heap w → Rep W F [⟨.sl ao cap, .roL 4 encStepP bs StepP.zero⟩, pkA bt psE (s), pkA br rpE (r), ⟨.blk b6, .cells (encStepP x) 32⟩] w) : G Try.prog (endQ Try.prog Try.f3 W F fun _ r => r = .bool true) W F (frmR [(Back W F 208 (fun x : Nat × PS × RPs => [(0, .vec 0 ao bs.length cap), (3, .ptr 1 bt 0), (4, .ptr 2 br 0), (5, .int .i64 (x.1 : Int))]) (fun x : Nat × PS × RPs => [⟨.sl ao cap, .roL 4 encStepP bs StepP.zero⟩, pkA bt psE (x.2.1), pkA br rpE (x.2.2)]) (fun x : Nat × PS × RPs => x.1 ≤ bs.length ∧ PL x.2.1 x.2.2 x.1) (fun x : Nat × PS × RPs => bs.length - x.1) (bs.length - i))] (bodyOf Try.f3) 38) st := by
  refine G_live 208 [(0, .vec 0 ao bs.length cap), (3, .ptr 1 bt 0), (4, .ptr 2 br 0), (5, .int .i64 (i : Int)), (6, .ptr 3 b6 0), (7, .int .i64 0), (8, .int .i64 0)] [⟨.sl ao cap, .roL 4 encStepP bs StepP.zero⟩, pkA bt psE (s), pkA br rpE (r), ⟨.blk b6, .cells (encStepP x) 32⟩] h1 h2 hh fun u => ?_
  refine G_run (kc := false) (ss := [39]) plT_ok hmPt 900 ?_
  rw [pt_38]
  have hps := h.psok (by omega)
  have hro := h.rpok (by omega)
  repeat' first
    | exact rfl
    | exact trivial
    | exact HEq.rfl
    | exact hps
    | exact hro
    | exact Nat.le_refl _
    | exact pt39 hi hb ((h.send x.pid x.text _ _ _ _).2.mono (Nat.le_succ i)) (dAdd s.ds x.pid x.text).2 rfl ⟨rfl, rfl, rfl, rfl, rfl, rfl, congrArg (Value.int .i64) (by rw [h.ds]), trivial⟩ (fun w hr => hr)
    | apply And.intro
    | (refine ⟨rfl, ?_⟩)
    | (refine fun _ => ?_)
    | fail
theorem pt14 (hi : i < bs.length) (hb : bs.length ≤ 120) (h : PL s r i) (h1 : lenN st.tmps = 208) (h2 : liveOk st.tmps [(0, .vec 0 ao bs.length cap), (3, .ptr 1 bt 0), (4, .ptr 2 br 0), (5, .int .i64 (i : Int)), (6, .ptr 3 b6 0), (7, .int .i64 0), (8, .int .i64 0)]) (hh : ∀ w, Rep W F st.heap w → Rep W F [⟨.sl ao cap, .roL 4 encStepP bs StepP.zero⟩, pkA bt psE (s), pkA br rpE (r), ⟨.blk b6, .cells (encStepP x) 32⟩] w) : G Try.prog (endQ Try.prog Try.f3 W F fun _ r => r = .bool true) W F (frmR [(Back W F 208 (fun x : Nat × PS × RPs => [(0, .vec 0 ao bs.length cap), (3, .ptr 1 bt 0), (4, .ptr 2 br 0), (5, .int .i64 (x.1 : Int))]) (fun x : Nat × PS × RPs => [⟨.sl ao cap, .roL 4 encStepP bs StepP.zero⟩, pkA bt psE (x.2.1), pkA br rpE (x.2.2)]) (fun x : Nat × PS × RPs => x.1 ≤ bs.length ∧ PL x.2.1 x.2.2 x.1) (fun x : Nat × PS × RPs => bs.length - x.1) (bs.length - i))] (bodyOf Try.f3) 14) st := by
  refine G_live 208 [(0, .vec 0 ao bs.length cap), (3, .ptr 1 bt 0), (4, .ptr 2 br 0), (5, .int .i64 (i : Int)), (6, .ptr 3 b6 0), (7, .int .i64 0), (8, .int .i64 0)] [⟨.sl ao cap, .roL 4 encStepP bs StepP.zero⟩, pkA bt psE (s), pkA br rpE (r), ⟨.blk b6, .cells (encStepP x) 32⟩] h1 h2 hh fun u => ?_
  refine G_run (kc := false) (ss := [39]) plT_ok hmPt 900 ?_
  rw [pt_14]
  have hps := h.psok (by omega)
  have hro := h.rpok (by omega)
  have hcc : ∀ c : DN, (!(c.pid == c.pid && (sEq c.text c.text && true))) = false := fun c => by rw [(sEqG _ _).2 rfl]; simp
  have hbb : ∀ c : Bool, (!c == c) = false := fun c => by cases c <;> rfl
  have hdt : dTake s.ds = dTake r.ds := by rw [h.ds]
  have hrec : ∀ ao cap ao' cap', PL { s with aoD := ao, capD := cap, ds := (dTake r.ds).1 } { r with aoD := ao', capD := cap', ds := (dTake r.ds).1 } (i + 1) := fun ao cap ao' cap' => by rw [← hdt]; have := (h.recv ao cap ao' cap').2.mono (Nat.le_succ i); rw [← hdt] at this; exact this
  repeat' first
    | exact rfl
    | exact trivial
    | exact HEq.rfl
    | exact hps
    | exact hro
    | exact Nat.le_refl _
    | (rw [hdt, hcc, hbb]; exact pt39 hi hb (hrec _ _ _ _) 0 rfl ⟨rfl, rfl, rfl, rfl, rfl, rfl, rfl, trivial⟩ (fun w hr => Rep.dropR (h := [_, _, _, _]) hr))
    | apply And.intro
    | (refine ⟨rfl, ?_⟩)
    | (refine fun _ => ?_)
    | fail
theorem pt13 (hi : i < bs.length) (hb : bs.length ≤ 120) (h : PL s r i) (hn : x.name.size ≤ 100) (h1 : lenN st.tmps = 208) (h2 : liveOk st.tmps [(0, .vec 0 ao bs.length cap), (3, .ptr 1 bt 0), (4, .ptr 2 br 0), (5, .int .i64 (i : Int)), (6, .ptr 3 b6 0), (7, .int .i64 0), (8, .int .i64 0)]) (hh : ∀ w, Rep W F st.heap w → Rep W F [⟨.sl ao cap, .roL 4 encStepP bs StepP.zero⟩, pkA bt psE (s), pkA br rpE (r), ⟨.blk b6, .cells (encStepP x) 32⟩] w) : G Try.prog (endQ Try.prog Try.f3 W F fun _ r => r = .bool true) W F (frmR [(Back W F 208 (fun x : Nat × PS × RPs => [(0, .vec 0 ao bs.length cap), (3, .ptr 1 bt 0), (4, .ptr 2 br 0), (5, .int .i64 (x.1 : Int))]) (fun x : Nat × PS × RPs => [⟨.sl ao cap, .roL 4 encStepP bs StepP.zero⟩, pkA bt psE (x.2.1), pkA br rpE (x.2.2)]) (fun x : Nat × PS × RPs => x.1 ≤ bs.length ∧ PL x.2.1 x.2.2 x.1) (fun x : Nat × PS × RPs => bs.length - x.1) (bs.length - i))] (bodyOf Try.f3) 13) st := by
  refine G_live 208 [(0, .vec 0 ao bs.length cap), (3, .ptr 1 bt 0), (4, .ptr 2 br 0), (5, .int .i64 (i : Int)), (6, .ptr 3 b6 0), (7, .int .i64 0), (8, .int .i64 0)] [⟨.sl ao cap, .roL 4 encStepP bs StepP.zero⟩, pkA bt psE (s), pkA br rpE (r), ⟨.blk b6, .cells (encStepP x) 32⟩] h1 h2 hh fun u => ?_
  refine G_run (kc := false) (ss := [19, 21, 25, 31, 38, 14]) plT_ok hmPt 900 ?_
  rw [pt_13]
  refine ⟨rfl, ?_⟩
  repeat' first
    | exact pt19 hi hb h hn rfl ⟨rfl, rfl, rfl, rfl, rfl, rfl, rfl, trivial⟩ (fun w hr => hr)
    | exact pt21 hi hb h rfl ⟨rfl, rfl, rfl, rfl, rfl, rfl, rfl, trivial⟩ (fun w hr => hr)
    | exact pt25 hi hb h rfl ⟨rfl, rfl, rfl, rfl, rfl, rfl, rfl, trivial⟩ (fun w hr => hr)
    | exact pt31 hi hb h rfl ⟨rfl, rfl, rfl, rfl, rfl, rfl, rfl, trivial⟩ (fun w hr => hr)
    | exact pt38 hi hb h rfl ⟨rfl, rfl, rfl, rfl, rfl, rfl, rfl, trivial⟩ (fun w hr => hr)
    | exact pt14 hi hb h rfl ⟨rfl, rfl, rfl, rfl, rfl, rfl, rfl, trivial⟩ (fun w hr => hr)
    | split
    | fail
end
theorem pt_ok (ao : Option Addr) (cap : Nat) (bs : List StepP) : Spec Try.prog 3 [⟨.sl ao cap, .roL 4 encStepP bs StepP.zero⟩] [.vec 0 ao bs.length cap] fun _ r => r = .bool true := by
  refine Spec.of_G 208 Try.func3 (c := bodyOf Try.f3) (by kernel_rfl) (by kernel_rfl) (Nat.le_of_ble_eq_true rfl) fun W F => ?_
  refine G_run (kc := false) (ss := []) plT_ok hmPt 900 ?_
  rw [pt_start]
  refine ⟨rfl, ?_⟩
  cases h120 : decide ((bs.length : Int) > 120) with
  | true => exact rfl
  | false =>
    simp only [decide_eq_false_iff_not] at h120
    refine ⟨rfl, fun bt bm => ⟨⟨rfl, rfl⟩, rfl, fun br => ?_⟩⟩
    refine G_loopAt (ι := Nat × PS × RPs) [] (bodyOf Try.f3) [1, 1, 1, 1, 0, 1, 0] 208 (fun x : Nat × PS × RPs => [(0, .vec 0 ao bs.length cap), (3, .ptr 1 bt 0), (4, .ptr 2 br 0), (5, .int .i64 (x.1 : Int))]) (fun x : Nat × PS × RPs => [⟨.sl ao cap, .roL 4 encStepP bs StepP.zero⟩, pkA bt psE (x.2.1), pkA br rpE (x.2.2)]) (fun x : Nat × PS × RPs => x.1 ≤ bs.length ∧ PL x.2.1 x.2.2 x.1) (fun x : Nat × PS × RPs => bs.length - x.1) (0, ⟨bm, [], none, 0, [], 0⟩, ⟨none, 0, [], 0, none, 0, []⟩) (by kernel_rfl) (fun J => by kernel_rfl) ⟨Nat.zero_le _, PL.empty bm⟩ rfl ⟨rfl, rfl, rfl, rfl, trivial⟩ (fun w hr => ?_) ?_
    · have q1 := Rep.nilvec 62 (sz := 2) (enc := encRpt) zP (fun _ => rfl) hr
      have q2 := Rep.nilvec 49 (sz := 2) (enc := encDN) DN.zero (fun _ => rfl) q1
      have q3 : Rep W F (pk 0 [] :: _) w := Rep.pk 0 (h := []) q2
      have q4 := Rep.pick (π := [3, 4, 5, 0, 1, 2]) (by decide) rfl q3
      have q5 := Rep.cellsEq (l := 0) (cs' := [.vec 1 none 0 0, .int .i64 0, .vec 2 none 0 0]) rfl (by rfl) q4
      have q6 : Rep W F (pkA br rpE ⟨none, 0, [], 0, none, 0, []⟩ :: _) w := Rep.pkA (S := rpE) (s := ⟨none, 0, [], 0, none, 0, []⟩) (b := br) (t := [_, _]) q5
      exact Rep.pick (π := [1, 2, 0]) (by decide) rfl q6
    rintro ⟨i, s, r⟩ ⟨hi, h⟩ u
    dsimp only at hi h
    try dsimp only
    simp only [List.nil_append, List.cons_append]
    refine G_run (kc := false) (ss := [13]) plT_ok hmPt 900 ?_
    rw [pt_l1]
    cases hlt : decide ((i : Int) < (bs.length : Int)) with
    | false => exact rfl
    | true =>
      simp only [decide_eq_true_eq] at hlt
      have hi2 : i < bs.length := by omega
      have hgb : ∀ d, bs.getD i d = bs[i] := fun d => by simp [List.getD, hi2]
      rw [Int.toNat_natCast, hgb]
      generalize bs[i] = x
      refine ⟨⟨rfl, rfl, rfl, by omega, by omega⟩, ⟨rfl, rfl, rfl, hi2, rfl⟩, fun b6 => ⟨⟨rfl, rfl, rfl, Nat.le_refl _⟩, rfl, ?_⟩⟩
      cases hn : decide ((x.name.size : Int) > 100) with
      | true => exact rfl
      | false =>
        simp only [decide_eq_false_iff_not] at hn
        refine ⟨rfl, ?_⟩
        cases ht : decide ((x.text.size : Int) > 400) with
        | true => exact rfl
        | false => exact pt13 (x := x) (b6 := b6) hi2 (by omega) h (by omega) rfl ⟨rfl, rfl, rfl, rfl, rfl, rfl, rfl, trivial⟩ (fun w hr => hr)
end Go.Proofs.Ytkcmgcoppecfpaa

/- A law's call with a slice of numbers as1 its argument. -/
namespace Go.Proofs.Ytkcmgcoppecfpaa
open Go Go.RowKit Go.ChangeShapes

theorem ro_ints {W : World} {k : IntKind} {a : Addr} {len cap : Nat} {zs : List Int} {enc : Int → List SV} (henc : ∀ x, enc x = [.int k x]) (hl : len ≤ cap) (hz : zs.length = cap) (hcell : ∀ i, i < zs.length → W.cell? (a.add i) = some (.int k (zs.getD i 0))) :
    has W (.sl (some a) cap) (.roL 1 enc (zs.take len) 0) [] := by
  by_cases h0 : len = 0
  · subst h0
    exact ⟨rfl, (fun x => by rw [henc]; rfl), by simp, .inl (by simp)⟩
  · obtain ⟨b, off, rfl, hc⟩ := ints_at hcell (by omega)
    have hc0 := hc 0 (by omega)
    have hc1 : ∃ cur T fr, W.heap[b]? = some (.cells cur T fr) := by
      simp only [World.cell?] at hc0
      split at hc0
      · rename_i cur T fr hh; exact ⟨_, _, _, hh⟩
      · cases hc0
    obtain ⟨cur, T, fr, hb⟩ := hc1
    refine ⟨rfl, (fun x => by rw [henc]; rfl), by simp; omega, .inr ⟨b, off, cur, T, fr, rfl, hb, ?_⟩⟩
    · have hfl : ∀ l : List Int, flatV enc l = l.map fun x => Value.int k x := by
        intro l
        induction l with
        | nil => rfl
        | cons x l ih =>
          have : flatV enc (x :: l) = denL (enc x) ++ flatV enc l := by simp [flatV]
          rw [this, ih, henc]; rfl
      rw [hfl, List.map_take]
      have hlt : (zs.take len).length = len := by simp; omega
      rw [hlt, Nat.mul_one]
      apply List.ext_getElem?
      intro j
      simp only [List.getElem?_take, List.getElem?_drop, List.getElem?_map]
      split
      · rename_i hj
        have h1 := hc j (by omega)
        simp only [World.cell?, hb] at h1
        have h2 : cur.toList[off + j]? = cur[off + j]? := by simp
        simp at h1
        rw [h2, h1]
        have : j < zs.length := by omega
        simp [this]
      · rfl

theorem arg_ints {P : Program} {H : Type} {enc : TypeId × Value → H} {t e : TypeId} {k : IntKind} {fuel : Nat} {W : World} {a0 : Option Addr} {len cap : Nat} {x : DataW H × List MemPlace} {enc' : Int → List SV}
    (henc : ∀ x, enc' x = [.int k x]) (ht : P.underlying t = some (.slice e)) (he : P.underlying e = some (.int k)) (hc : P.cellsOf e = 1)
    (hf : DataW.trod enc P W 0 (fun _ => true) true fuel t [.slice a0 len cap] = some x) :
    ∃ bs : List Int, bs.length = len ∧ (∀ z ∈ bs, (Lit.int k z).wf = true) ∧ has W (.sl a0 cap) (.roL 1 enc' bs 0) [] := by
  rcases open_ints ht he hc hf with ⟨hcs, _⟩ | ⟨a, len', cap', zs, hcs, _, hl, hm, hz, _, hcell, hwz⟩
  · simp only [List.cons.injEq, Value.slice.injEq, and_true] at hcs
    obtain ⟨rfl, rfl, rfl⟩ := hcs
    exact ⟨[], rfl, (fun z hz => by cases hz), rfl, fun x => by rw [henc]; rfl, by simp, .inl rfl⟩
  · simp at hcs
    obtain ⟨rfl, rfl, rfl⟩ := hcs
    simp only [if_true] at hz
    exact ⟨zs.take len, by simp; omega, fun z hz => hwz z (List.mem_of_mem_take hz), ro_ints (k := k) (len := len) henc hl hz hcell⟩

theorem ro_gen {W : World} {α : Type} {a : Addr} {len cap : Nat} {zs : List α} {enc : α → List SV} {sv : α → SV} {d : α} (henc : ∀ x, enc x = [sv x]) (hl : len ≤ cap) (hz : zs.length = cap) (hcell : ∀ i, i < zs.length → W.cell? (a.add i) = some (den (sv (zs.getD i d)))) :
    has W (.sl (some a) cap) (.roL 1 enc (zs.take len) d) [] := by
  by_cases h0 : len = 0
  · subst h0
    exact ⟨rfl, (fun x => by rw [henc]; rfl), by simp, .inl (by simp)⟩
  · obtain ⟨b, off, spot⟩ := a
    have hspot : spot = none := by simpa [Addr.add] using World.cell?_spot (hcell 0 (by omega))
    subst hspot
    have hc : ∀ j, j < zs.length → W.cell? ⟨b, off + j, none⟩ = some (den (sv (zs.getD j d))) := fun j hj => by rw [← Go.WideShapes.add_plain]; exact hcell j hj
    have hc0 := hc 0 (by omega)
    have hc1 : ∃ cur T fr, W.heap[b]? = some (.cells cur T fr) := by
      simp only [World.cell?] at hc0
      split at hc0
      · rename_i cur T fr hh; exact ⟨_, _, _, hh⟩
      · cases hc0
    obtain ⟨cur, T, fr, hb⟩ := hc1
    refine ⟨rfl, (fun x => by rw [henc]; rfl), by simp; omega, .inr ⟨b, off, cur, T, fr, rfl, hb, ?_⟩⟩
    have hfl : ∀ l : List α, flatV enc l = l.map fun x => den (sv x) := by
      intro l
      induction l with
      | nil => rfl
      | cons x l ih =>
        have : flatV enc (x :: l) = denL (enc x) ++ flatV enc l := by simp [flatV]
        rw [this, ih, henc]; rfl
    rw [hfl, List.map_take]
    have hlt : (zs.take len).length = len := by simp; omega
    rw [hlt, Nat.mul_one]
    apply List.ext_getElem?
    intro j
    simp only [List.getElem?_take, List.getElem?_drop, List.getElem?_map]
    split
    · rename_i hj
      have h1 := hc j (by omega)
      simp only [World.cell?, hb] at h1
      have h2 : cur.toList[off + j]? = cur[off + j]? := by simp
      simp at h1
      rw [h2, h1]
      have : j < zs.length := by omega
      simp [this]
    · rfl

theorem arg_bools {P : Program} {H : Type} {enc : TypeId × Value → H} {t e : TypeId} {fuel : Nat} {W : World} {a0 : Option Addr} {len cap : Nat} {x : DataW H × List MemPlace} {enc' : Bool → List SV}
    (henc : ∀ x, enc' x = [.bool x]) (ht : P.underlying t = some (.slice e)) (he : P.underlying e = some .bool) (hc : P.cellsOf e = 1)
    (hf : DataW.trod enc P W 0 (fun _ => true) true fuel t [.slice a0 len cap] = some x) :
    ∃ bs : List Bool, bs.length = len ∧ has W (.sl a0 cap) (.roL 1 enc' bs false) [] := by
  rcases Go.Deep.open_bools ht he hc hf with ⟨hcs, _⟩ | ⟨a, len', cap', B, hcs, _, hl, hm, _, hcell⟩
  · simp only [List.cons.injEq, Value.slice.injEq, and_true] at hcs
    obtain ⟨rfl, rfl, rfl⟩ := hcs
    exact ⟨[], rfl, rfl, fun x => by rw [henc]; rfl, by simp, .inl rfl⟩
  · simp at hcs
    obtain ⟨rfl, rfl, rfl⟩ := hcs
    have hlen : ((List.range cap).map B).length = cap := by simp
    refine ⟨((List.range cap).map B).take len, by simp; omega, ro_gen (sv := SV.bool) henc hl hlen fun i hi => ?_⟩
    rw [hlen] at hi
    rw [hcell i hi]
    simp [List.getD, hi, den]

theorem arg_strs {P : Program} {H : Type} {enc : TypeId × Value → H} {t e : TypeId} {fuel : Nat} {W : World} {a0 : Option Addr} {len cap : Nat} {x : DataW H × List MemPlace} {enc' : ByteArray → List SV}
    (henc : ∀ x, enc' x = [.str x]) (ht : P.underlying t = some (.slice e)) (he : P.underlying e = some .string) (hc : P.cellsOf e = 1)
    (hf : DataW.trod enc P W 0 (fun _ => true) true fuel t [.slice a0 len cap] = some x) :
    ∃ bs : List ByteArray, bs.length = len ∧ (∀ s ∈ bs, s.size ≤ maxLen) ∧ has W (.sl a0 cap) (.roL 1 enc' bs .empty) [] := by
  rcases Go.Deep.open_strs ht he hc hf with ⟨hcs, _⟩ | ⟨a, len', cap', m, S, hcs, _, hl, hm, hmm, _, hcell⟩
  · simp only [List.cons.injEq, Value.slice.injEq, and_true] at hcs
    obtain ⟨rfl, rfl, rfl⟩ := hcs
    exact ⟨[], rfl, (fun s hs => by cases hs), rfl, fun x => by rw [henc]; rfl, by simp, .inl rfl⟩
  · simp at hcs
    obtain ⟨rfl, rfl, rfl⟩ := hcs
    simp only [if_true] at hmm
    subst hmm
    have hlen : ((List.range m).map S).length = m := by simp
    refine ⟨((List.range m).map S).take len, by simp; omega, fun s hs => ?_, ro_gen (sv := SV.str) henc hl hlen fun i hi => ?_⟩
    · obtain ⟨i, hi, rfl⟩ := List.mem_map.1 (List.mem_of_mem_take hs)
      exact (hcell i (List.mem_range.1 hi)).2
    · rw [hlen] at hi
      rw [(hcell i hi).1]
      simp [List.getD, hi, den]

theorem calls_ints {P : Program} {H : Type} {enc : TypeId × Value → H} {f : FuncId} {t e : TypeId} {k : IntKind} {fuel : Nat} {W : World} {a0 : Option Addr} {len cap : Nat} {x : DataW H × List MemPlace} {v : SV} {enc' : Int → List SV}
    (henc : ∀ x, enc' x = [.int k x]) (ht : P.underlying t = some (.slice e)) (he : P.underlying e = some (.int k)) (hc : P.cellsOf e = 1)
    (hf : DataW.trod enc P W 0 (fun _ => true) true fuel t [.slice a0 len cap] = some x)
    (h : ∀ (ao : Option Addr) (bs : List Int) (cap : Nat), (∀ z ∈ bs, (Lit.int k z).wf = true) → Spec P f [⟨.sl ao cap, .roL 1 enc' bs 0⟩] [.vec 0 ao bs.length cap] fun _ r => r = v) :
    Calls P f #[.slice a0 len cap] W fun e W' => e = .returned (den v) ∧ Below W.heap.size W W' := by
  obtain ⟨bs, rfl, hw, hh⟩ := arg_ints henc ht he hc hf
  have h4 := Spec.rowR (W := W) (hs := [⟨.sl a0 cap, .roL 1 enc' bs 0⟩]) (fun e he => by rcases List.mem_singleton.1 he with rfl; exact hh) (h a0 bs cap hw)
  exact h4
end Go.Proofs.Ytkcmgcoppecfpaa

/- A law's call with a slice of rows (structs of plain fields) as1 its argument. -/
namespace Go.Proofs.Ytkcmgcoppecfpaa
open Go Go.RowKit Go.ChangeShapes

theorem arg_rows {P : Program} {H : Type} {enc : TypeId × Value → H} {t e : TypeId} {fuel : Nat} {W : World} {a0 : Option Addr} {len cap : Nat} {x : DataW H × List MemPlace} {α : Type} {enc' : α → List SV} {sz : Nat} {good : α → Prop} (d : α)
    (henc : ∀ x, (enc' x).length = sz) (ht : P.underlying t = some (.slice e)) (hc : P.cellsOf e = sz) (hpos : 0 < sz)
    (hel : ∀ n cs y, cs.length = sz → DataW.trod enc P W 0 (fun _ => true) true n e cs = some y → ∃ a, cs = denL (enc' a) ∧ good a)
    (hf : DataW.trod enc P W 0 (fun _ => true) true fuel t [.slice a0 len cap] = some x) :
    ∃ bs : List α, bs.length = len ∧ (∀ z ∈ bs, good z) ∧ has W (.sl a0 cap) (.roL sz enc' bs d) [] := by
  rcases Go.Deep.open_slice ht hf with ⟨hcs, _⟩ | ⟨a, len', cap', m, n, D, Pl, hcs, _, hl, hm, hmm, _, hx⟩
  · simp only [List.cons.injEq, Value.slice.injEq, and_true] at hcs
    obtain ⟨rfl, rfl, rfl⟩ := hcs
    exact ⟨[], rfl, (fun z hz => by cases hz), rfl, henc, by simp, .inl rfl⟩
  · simp only [List.cons.injEq, Value.slice.injEq, and_true] at hcs
    obtain ⟨rfl, rfl, rfl⟩ := hcs
    simp only [if_true] at hmm
    subst hmm
    have : Inhabited α := ⟨d⟩
    obtain ⟨A, hA⟩ := Go.Deep.choose_lt (α := α) (p := fun i a' => good a' ∧ ∀ j, j < sz → W.cell? (a.add (i * sz + j)) = (denL (enc' a'))[j]?) (fun i hi => by
      obtain ⟨cs', h1, h2⟩ := hx i hi
      rw [hc] at h1
      obtain ⟨_, hlen, hcell⟩ := World.cells?_some h1
      obtain ⟨a', rfl, hg⟩ := hel _ _ _ hlen h2
      refine ⟨a', hg, fun j hj => ?_⟩
      rw [← Go.Deep.add_add]
      exact hcell j hj)
    refine ⟨(List.range len).map A, by simp, fun z hz => ?_, rfl, henc, by simpa using hl, ?_⟩
    · obtain ⟨i, hi, rfl⟩ := List.mem_map.1 hz
      exact (hA i (by have := List.mem_range.1 hi; omega)).1
    · by_cases h0 : len = 0
      · subst h0; exact .inl rfl
      refine .inr ?_
      obtain ⟨b, off, spot⟩ := a
      have hc0 := (hA 0 (by omega)).2 0 hpos
      have hlt : 0 < (denL (enc' (A 0))).length := by rw [length_denL, henc]; exact hpos
      rw [List.getElem?_eq_getElem hlt] at hc0
      have hspot : spot = none := by simpa [Addr.add] using World.cell?_spot hc0
      subst hspot
      have hcc : ∀ i, i < m → ∀ j, j < sz → W.cell? ⟨b, off + (i * sz + j), none⟩ = (denL (enc' (A i)))[j]? := fun i hi j hj => by rw [← Go.WideShapes.add_plain]; exact (hA i hi).2 j hj
      have hc1 : ∃ cur T fr, W.heap[b]? = some (.cells cur T fr) := by
        have hc0 := hcc 0 (by omega) 0 hpos
        rw [List.getElem?_eq_getElem hlt] at hc0
        simp only [World.cell?] at hc0
        split at hc0
        · rename_i cur T fr hh; exact ⟨_, _, _, hh⟩
        · cases hc0
      obtain ⟨cur, T, fr, hb⟩ := hc1
      refine ⟨b, off, cur, T, fr, rfl, hb, ?_⟩
      have hfl : (flatV enc' ((List.range len).map A)).length = len * sz := by rw [length_flatV henc]; simp
      apply List.ext_getElem?
      intro q
      rw [List.getElem?_take, List.getElem?_drop]
      split
      · rename_i hq
        have hq : q < len * sz := by simpa using hq
        have hi : q / sz < len := (Nat.div_lt_iff_lt_mul hpos).2 hq
        have hj : q % sz < sz := Nat.mod_lt _ hpos
        have hqe : q = q / sz * sz + q % sz := by rw [Nat.mul_comm]; exact (Nat.div_add_mod q sz).symm
        have h1 := hcc (q / sz) (by omega) (q % sz) hj
        rw [hqe, flatV_get henc d _ _ _ (by simpa using hi) hj, ← hqe]
        simp only [List.getD, List.getElem?_map, List.getElem?_range hi, Option.map_some, Option.getD_some]
        rw [← h1, ← hqe]
        simp [World.cell?, hb]
      · rename_i hq
        have hq : ¬ q < len * sz := by simpa using hq
        rw [List.getElem?_eq_none (by omega)]

theorem fld_int {P : Program} {H : Type} {enc : TypeId × Value → H} {W : World} {n : Nat} {t : TypeId} {cs : List Value} {y : DataW H × List MemPlace} {k : IntKind} (ht : P.underlying t = some (.int k)) (h : DataW.trod enc P W 0 (fun _ => true) true n t cs = some y) : ∃ z, cs = [.int k z] ∧ (Lit.int k z).wf = true := by
  obtain ⟨z, h1, _, h2⟩ := DataW.trod_int ht h
  exact ⟨z, h1, h2⟩
theorem fld_str {P : Program} {H : Type} {enc : TypeId × Value → H} {W : World} {n : Nat} {t : TypeId} {cs : List Value} {y : DataW H × List MemPlace} (ht : P.underlying t = some .string) (h : DataW.trod enc P W 0 (fun _ => true) true n t cs = some y) : ∃ s : ByteArray, cs = [.string s] ∧ s.size ≤ maxLen := by
  obtain ⟨z, h1, _, h2⟩ := DataW.trod_string ht h
  exact ⟨z, h1, h2⟩
theorem fld_bool {P : Program} {H : Type} {enc : TypeId × Value → H} {W : World} {n : Nat} {t : TypeId} {cs : List Value} {y : DataW H × List MemPlace} (ht : P.underlying t = some .bool) (h : DataW.trod enc P W 0 (fun _ => true) true n t cs = some y) : ∃ s : Bool, cs = [.bool s] := by
  obtain ⟨z, h1, _⟩ := DataW.trod_bool ht h
  exact ⟨z, h1⟩
theorem cut_cells : ∀ (cs : List Value) (i : Nat) (v : Value), (cs.drop i).take 1 = [v] → cs[i]? = some v
  | [], i, v, h => by simp at h
  | c :: cs, 0, v, h => by simp at h; simp [h]
  | c :: cs, i + 1, v, h => by simpa using cut_cells cs i v (by simpa using h)
end Go.Proofs.Ytkcmgcoppecfpaa

/- A row of the argument of PortPlays. -/
namespace Go.Proofs.Ytkcmgcoppecfpaa
open Go Go.RowKit
open Go.ChangeShapes
theorem stepP_row {H : Type} {enc : TypeId × Value → H} {W : World} (n : Nat) (cs : List Value) (y : DataW H × List MemPlace) (hcs : cs.length = 4) (h : DataW.trod enc Try.prog W 0 (fun _ => true) true n 32 cs = some y) : ∃ a, cs = denL (encStepP a) ∧ True := by
  obtain ⟨xs, m, _, _, hl, hlen, hf⟩ := DataW.trod_struct Try.underlying32 h
  have hlen : xs.length = 4 := hlen
  match xs, hlen with
  | [y0, y1, y2, y3], _ =>
  have c3 : Try.prog.cellsOf 3 = 1 := by kernel_rfl
  have c9 : Try.prog.cellsOf 9 = 1 := by kernel_rfl
  have c4 : Try.prog.cellsOf 4 = 1 := by kernel_rfl
  have q0 := hf 0 _ rfl
  obtain ⟨a0, e0, w0⟩ := fld_int Try.underlying3 q0
  have q1 := hf 1 _ rfl
  obtain ⟨a1, e1, w1⟩ := fld_int Try.underlying3 q1
  have q2 := hf 2 _ rfl
  obtain ⟨a2, e2, w2⟩ := fld_str Try.underlying9 q2
  have q3 := hf 3 _ rfl
  obtain ⟨a3, e3, w3⟩ := fld_str Try.underlying9 q3
  clear hf
  obtain ⟨v0, cs0, rfl⟩ := List.exists_cons_of_length_eq_add_one hcs
  have hc0 : cs0.length = 3 := by simpa using hcs
  obtain ⟨v1, cs1, rfl⟩ := List.exists_cons_of_length_eq_add_one hc0
  have hc1 : cs1.length = 2 := by simpa using hc0
  obtain ⟨v2, cs2, rfl⟩ := List.exists_cons_of_length_eq_add_one hc1
  have hc2 : cs2.length = 1 := by simpa using hc1
  obtain ⟨v3, cs3, rfl⟩ := List.exists_cons_of_length_eq_add_one hc2
  have hc3 : cs3.length = 0 := by simpa using hc2
  obtain rfl := List.eq_nil_of_length_eq_zero hc3
  have g0 : (([v0, v1, v2, v3] : List Value).drop 0).take (Try.prog.cellsOf 3) = [.int .i64 a0] := e0
  rw [c3] at g0
  have k0 := cut_cells _ _ _ g0
  have j0 : v0 = .int .i64 a0 := Option.some.inj k0
  have g1 : (([v0, v1, v2, v3] : List Value).drop 1).take (Try.prog.cellsOf 3) = [.int .i64 a1] := e1
  rw [c3] at g1
  have k1 := cut_cells _ _ _ g1
  have j1 : v1 = .int .i64 a1 := Option.some.inj k1
  have g2 : (([v0, v1, v2, v3] : List Value).drop 2).take (Try.prog.cellsOf 9) = [.string a2] := e2
  rw [c9] at g2
  have k2 := cut_cells _ _ _ g2
  have j2 : v2 = .string a2 := Option.some.inj k2
  have g3 : (([v0, v1, v2, v3] : List Value).drop 3).take (Try.prog.cellsOf 9) = [.string a3] := e3
  rw [c9] at g3
  have k3 := cut_cells _ _ _ g3
  have j3 : v3 = .string a3 := Option.some.inj k3
  subst j0 j1 j2 j3
  exact ⟨⟨a0, a1, a2, a3⟩, rfl, trivial⟩
end Go.Proofs.Ytkcmgcoppecfpaa

