import Derived.Test.YtihajdkipkfiiaaMgTrackPlays13
import Derived.Test.YtihajdkipkfiiaaMgTrackPlays4
import Derived.ChangeSlices
import Derived.OpenShut
import Derived.Carry
import Derived.ProofKit
import Derived.Deep.Grids
import Derived.Deep.Strs
import Derived.Deep.Slices
import Derived.Test.YtihajdkipkfiiaaMgTrackPlays7
/- YtihajdkipkfiiaaTq -/
/- TrackPlays. -/
namespace Go.Proofs.Ytihajdkipkfiiaa
open Go Go.RowKit
set_option linter.unusedVariables false
set_option linter.unusedSimpArgs false
set_option linter.unnecessarySimpa false
set_option maxHeartbeats 0

set_option maxRecDepth 100000
section
variable {W : World} {F : List Ch} {ao : Option Addr} {cap : Nat} {bs : List StepT} {b : Nat} {s : Trk} {am : Option Addr} {cm : Nat} {m : PRow} {i : Nat} {x : StepT} {b6 : Nat} {aw : Option Addr} {cw : Nat} {ws : List Int} {st : Sy} {k a0 g0 n g g1 : Int} {m0 m1 : PRow}
variable {b7 : Nat} {us : List ByteArray} {au : Option Addr} {cu : Nat}
theorem any_next (us : List ByteArray) (q : Nat) (h : q < us.length) (v : ByteArray) : ((us.take (q + 1)).any fun y => sEq y v) = (((us.take q).any fun y => sEq y v) || sEq us[q] v) := by
  rw [List.take_succ_eq_append_getElem h, List.any_append]
  simp
theorem tqV (hm : m.length ≤ 100000) (hul : us.length ≤ 1000) (hthere : ∀ y ∈ m, y.2 ∈ us) (h1 : lenN st.tmps = 471) (h2 : liveOk st.tmps [(4, .vec 3 am (m).length cm), (27, .ptr 4 b7 0), (29, .int .i64 (0 : Int))]) (hh : ∀ w, Rep W F st.heap w → Rep W F [⟨.sl ao cap, .roL 5 encStepT bs StepT.zero⟩, factsT bs, pkA b trkE (s), ⟨.sl am cm, .vecL 88 2 encPr (m) zPr⟩, ⟨.blk b7, .cells [.vec 5 au us.length cu] 93⟩, ⟨.sl au cu, .vecL 9 1 encS us ByteArray.empty⟩] w) : G Try.prog (endQ Try.prog Try.f10 W F fun _ r => r = .bool true) W F (frm [] (bodyOf Try.f10) [1, 1, 1, 1, 1, 1, 1, 1, 1, 0, 1, 0] []) st := by
  refine G_loopAt (ι := Nat) [] (bodyOf Try.f10) [1, 1, 1, 1, 1, 1, 1, 1, 1, 0, 1, 0] 471 (fun j : Nat => [(4, .vec 3 am (m).length cm), (27, .ptr 4 b7 0), (29, .int .i64 (j : Int))]) (fun _ : Nat => [⟨.sl ao cap, .roL 5 encStepT bs StepT.zero⟩, factsT bs, pkA b trkE (s), ⟨.sl am cm, .vecL 88 2 encPr (m) zPr⟩, ⟨.blk b7, .cells [.vec 5 au us.length cu] 93⟩, ⟨.sl au cu, .vecL 9 1 encS us ByteArray.empty⟩]) (fun j : Nat => j ≤ m.length) (fun j : Nat => m.length - j) 0 (by kernel_rfl) (fun J => by kernel_rfl) (Nat.zero_le _) h1 h2 hh ?_
  rintro j hj u
  try dsimp only at hj
  try dsimp only
  simp only [List.nil_append, List.cons_append]
  refine G_run (kc := false) (ss := []) tqT_ok hmQ 2000 ?_
  rw [tq_V]
  have w1 : IntKind.wrap .i64 ((j : Int) + 1) = ((j + 1 : Nat) : Int) := IntWalk.i64_in _ (by omega)
  cases hlt : decide ((j : Int) < (m.length : Int)) with
  | false => exact rfl
  | true =>
    simp only [decide_eq_true_eq] at hlt
    have hj2 : j < m.length := by omega
    refine G_loopAt (ι := Nat) [(Back W F 471 (fun j : Nat => [(4, .vec 3 am (m).length cm), (27, .ptr 4 b7 0), (29, .int .i64 (j : Int))]) (fun _ : Nat => [⟨.sl ao cap, .roL 5 encStepT bs StepT.zero⟩, factsT bs, pkA b trkE (s), ⟨.sl am cm, .vecL 88 2 encPr (m) zPr⟩, ⟨.blk b7, .cells [.vec 5 au us.length cu] 93⟩, ⟨.sl au cu, .vecL 9 1 encS us ByteArray.empty⟩]) (fun j : Nat => j ≤ m.length) (fun j : Nat => m.length - j) (m.length - j))] (bodyOf Try.f10) [1, 1, 1, 1, 1, 1, 1, 1, 1, 0, 1, 0, 0, 1, 0, 0, 1, 0, 1, 0] 471 (fun q : Nat => [(4, .vec 3 am (m).length cm), (27, .ptr 4 b7 0), (29, .int .i64 (j : Int)), (30, .bool ((us.take q).any fun v => sEq v m[j].2)), (31, .int .i64 (q : Int))]) (fun _ : Nat => [⟨.sl ao cap, .roL 5 encStepT bs StepT.zero⟩, factsT bs, pkA b trkE (s), ⟨.sl am cm, .vecL 88 2 encPr (m) zPr⟩, ⟨.blk b7, .cells [.vec 5 au us.length cu] 93⟩, ⟨.sl au cu, .vecL 9 1 encS us ByteArray.empty⟩]) (fun q : Nat => q ≤ us.length) (fun q : Nat => us.length - q) 0 (by kernel_rfl) (fun J => by kernel_rfl) (Nat.zero_le _) rfl ⟨rfl, rfl, rfl, rfl, rfl, trivial⟩ (fun w hr => hr) ?_
    rintro q hq u
    try dsimp only at hq
    try dsimp only
    simp only [List.nil_append, List.cons_append]
    refine G_run (kc := false) (ss := []) tqT_ok hmQ 2000 ?_
    rw [tq_W]
    have w2 : IntKind.wrap .i64 ((q : Int) + 1) = ((q + 1 : Nat) : Int) := IntWalk.i64_in _ (by omega)
    refine ⟨rfl, ?_⟩
    cases hlt2 : decide ((q : Int) < (us.length : Int)) with
    | true =>
      simp only [decide_eq_true_eq] at hlt2
      have hq2 : q < us.length := by omega
      have hcx := any_next us q hq2 m[j].2
      have hgu : ∀ d, us.getD q d = us[q] := fun d => by simp [List.getD, hq2]
      have hgm : ∀ d, m.getD j d = m[j] := fun d => by simp [List.getD, hj2]
      cases hst : (us.take q).any fun y => sEq y m[j].2 with
      | true =>
        rw [hst, Bool.true_or] at hcx
        exact G_back (q + 1) hq2 (by omega) rfl (by rw [hcx]; exact ⟨rfl, rfl, rfl, rfl, congrArg (Value.int .i64) w2, trivial⟩) (fun w hr => hr)
      | false =>
        rw [hst, Bool.false_or] at hcx
        rw [Int.toNat_natCast, Int.toNat_natCast, hgu, hgm]
        refine ⟨rfl, ⟨rfl, rfl, rfl, by omega, by omega⟩, ⟨rfl, rfl, rfl, hq2⟩, ⟨rfl, rfl, rfl, by omega, by omega⟩, ⟨rfl, rfl, rfl, hj2⟩, ?_⟩
        exact G_back (q + 1) hq2 (by omega) rfl (by rw [hcx]; exact ⟨rfl, rfl, rfl, rfl, congrArg (Value.int .i64) w2, trivial⟩) (fun w hr => hr)
    | false =>
      simp only [decide_eq_false_iff_not] at hlt2
      obtain rfl : q = us.length := by omega
      rw [List.take_length]
      have hst : (us.any fun y => sEq y m[j].2) = true := List.any_eq_true.2 ⟨m[j].2, hthere _ (List.getElem_mem hj2), sEq_self _⟩
      rw [hst, Bool.not_true]
      exact G_back (j + 1) (by omega) (by omega) rfl ⟨rfl, rfl, congrArg (Value.int .i64) w1, trivial⟩ (fun w hr => hr)
theorem tq81 (hb : bs.length ≤ 100) (h : LT bs bs.length s m) (h1 : lenN st.tmps = 471) (h2 : liveOk st.tmps [(0, .vec 0 ao bs.length cap), (3, .ptr 2 b 0), (4, .vec 3 am (m).length cm)]) (hh : ∀ w, Rep W F st.heap w → Rep W F [⟨.sl ao cap, .roL 5 encStepT bs StepT.zero⟩, factsT bs, pkA b trkE (s), ⟨.sl am cm, .vecL 88 2 encPr (m) zPr⟩] w) : G Try.prog (endQ Try.prog Try.f10 W F fun _ r => r = .bool true) W F (frmR [] (bodyOf Try.f10) 81) st := by
  refine G_live 471 [(0, .vec 0 ao bs.length cap), (3, .ptr 2 b 0), (4, .vec 3 am (m).length cm)] [⟨.sl ao cap, .roL 5 encStepT bs StepT.zero⟩, factsT bs, pkA b trkE (s), ⟨.sl am cm, .vecL 88 2 encPr (m) zPr⟩] h1 h2 hh fun u => ?_
  refine G_run (kc := false) (ss := []) tqT_ok hmQ 1500 ?_
  rw [tq_81]
  have hml : m.length ≤ 100000 := by have := h.len; omega
  have hul := h.units
  have hwf := h.wfS (by omega)
  have hof : ∀ u ∈ sortS s.ps, ∃ p, (p, u) ∈ m := fun u hu => h.tm.unit_of hu
  have hthere : ∀ y ∈ m, y.2 ∈ sortS s.ps := fun y hy => h.tm.of_unit hy
  have hasc := sortS_lt h.tm.pk h.tm.ks
  intro b7
  refine ⟨rfl, rfl, rfl, HEq.rfl, hwf, fun ao1 cap1 bx => ⟨rfl, rfl, sortS s.ps, 5, ao1, cap1, rfl, rfl, rfl, ⟨⟨rfl, rfl, rfl⟩, by omega⟩, fun au cu => ?_⟩⟩
  generalize sortS s.ps = us at hul hof hthere hasc ⊢
  refine G_loopAt (ι := Nat) [] (bodyOf Try.f10) [1, 1, 1, 1, 1, 1, 1, 1, 0, 1, 0] 471 (fun j : Nat => [(4, .vec 3 am (m).length cm), (27, .ptr 4 b7 0), (28, .int .i64 (j : Int))]) (fun _ : Nat => [⟨.sl ao cap, .roL 5 encStepT bs StepT.zero⟩, factsT bs, pkA b trkE (s), ⟨.sl am cm, .vecL 88 2 encPr (m) zPr⟩, ⟨.blk b7, .cells [.vec 5 au us.length cu] 93⟩, ⟨.sl au cu, .vecL 9 1 encS us ByteArray.empty⟩]) (fun j : Nat => j ≤ us.length) (fun j : Nat => us.length - j) 0 (by kernel_rfl) (fun J => by kernel_rfl) (Nat.zero_le _) rfl ⟨rfl, rfl, rfl, trivial⟩ (fun w hr => by
    have g1 := Rep.pick (π := [0, 1, 2, 3, 4, 7]) (by decide) rfl hr
    exact Rep.cellsEq (l := 4) (cs' := [.vec 5 au us.length cu]) rfl (by rfl) g1) ?_
  rintro j hj u
  try dsimp only at hj
  try dsimp only
  simp only [List.nil_append, List.cons_append]
  refine G_run (kc := true) (ss := []) tqT_ok hmQ 2000 ?_
  rw [tq_U]
  have w1 : IntKind.wrap .i64 ((j : Int) + 1) = ((j + 1 : Nat) : Int) := IntWalk.i64_in _ (by omega)
  refine ⟨rfl, ?_⟩
  cases hlt : decide ((j : Int) < (us.length : Int)) with
  | false => exact tqV hml (by omega) hthere rfl ⟨rfl, rfl, rfl, trivial⟩ (fun w hr => hr)
  | true =>
    simp only [decide_eq_true_eq] at hlt
    have hj2 : j < us.length := by omega
    have hgu : ∀ d, us.getD j d = us[j] := fun d => by simp [List.getD, hj2]
    rw [Int.toNat_natCast, hgu]
    obtain ⟨p, hp⟩ := hof _ (List.getElem_mem hj2)
    have hne : ((((pidsP m us[j]).length : Nat) : Int) == 0) = false := by
      have := List.length_pos_of_mem (pidsP_mem.2 hp)
      exact beq_eq_false_iff_ne.2 (by omega)
    refine ⟨rfl, ⟨rfl, rfl, rfl, by omega, by omega⟩, ⟨rfl, rfl, rfl, hj2⟩, rfl, m, rfl, ⟨rfl, by omega⟩, fun a' c' => ⟨⟨rfl, rfl, rfl, rfl, rfl, rfl, trivial⟩, ?_⟩⟩
    rw [hne]
    have back : ∀ (tm : List SV) (e : Ent), lenN tm = 471 → liveOk tm [(4, .vec 3 am (m).length cm), (27, .ptr 4 b7 0), (28, .int .i64 ((j + 1 : Nat) : Int))] → G Try.prog (endQ Try.prog Try.f10 W F fun _ r => r = .bool true) W F (.loop (Back W F 471 (fun j : Nat => [(4, .vec 3 am (m).length cm), (27, .ptr 4 b7 0), (28, .int .i64 (j : Int))]) (fun _ : Nat => [⟨.sl ao cap, .roL 5 encStepT bs StepT.zero⟩, factsT bs, pkA b trkE (s), ⟨.sl am cm, .vecL 88 2 encPr (m) zPr⟩, ⟨.blk b7, .cells [.vec 5 au us.length cu] 93⟩, ⟨.sl au cu, .vecL 9 1 encS us ByteArray.empty⟩]) (fun j : Nat => j ≤ us.length) (fun j : Nat => us.length - j) (us.length - j)) :: .blk 10 :: frm [] (bodyOf Try.f10) [1, 1, 1, 1, 1, 1, 1, 1, 1] []) ⟨tm, [⟨.sl ao cap, .roL 5 encStepT bs StepT.zero⟩, factsT bs, pkA b trkE (s), ⟨.sl am cm, .vecL 88 2 encPr (m) zPr⟩, ⟨.blk b7, .cells [.vec 5 au us.length cu] 93⟩, ⟨.sl au cu, .vecL 9 1 encS us ByteArray.empty⟩, e]⟩ := fun tm e r1 r2 =>
      G_back (j + 1) hj2 (by omega) r1 r2 (fun w hr => Rep.dropR (t := [e]) hr)
    cases hj0 : decide ((j : Int) > 0) with
    | false => exact back _ _ rfl ⟨rfl, rfl, congrArg (Value.int .i64) w1, trivial⟩
    | true =>
      simp only [decide_eq_true_eq] at hj0
      have w2 : IntKind.wrap .i64 ((j : Int) - 1) = ((j - 1 : Nat) : Int) := by rw [IntWalk.i64_in _ (by omega)]; omega
      have hgu2 : ∀ d, us.getD (j - 1) d = us[j - 1] := fun d => by
        have : j - 1 < us.length := by omega
        simp [List.getD, this]
      have hlt3 : sLt us[j - 1] us[j] = true := List.pairwise_iff_getElem.1 hasc (j - 1) j (by omega) hj2 (by omega)
      rw [w2, Int.toNat_natCast, hgu2, hlt3, Bool.not_true]
      refine ⟨rfl, ⟨rfl, rfl, rfl, by omega, by omega⟩, ⟨rfl, rfl, rfl, by omega⟩, rfl, ⟨rfl, rfl, rfl, by omega, by omega⟩, ⟨rfl, rfl, rfl, hj2⟩, ?_⟩
      exact back _ _ rfl ⟨rfl, rfl, congrArg (Value.int .i64) w1, trivial⟩
theorem tq11 (hi : i < bs.length) (hb : bs.length ≤ 100) (h : LT bs i s m) (hX : x.unit.size ≤ 100 → x.pids.length ≤ 30 → XOk bs i x) (h1 : lenN st.tmps = 471) (h2 : liveOk st.tmps [(0, .vec 0 ao bs.length cap), (3, .ptr 2 b 0), (4, .vec 3 am (m).length cm), (5, .int .i64 (i : Int)), (6, .ptr 4 b6 0)]) (hh : ∀ w, Rep W F st.heap w → Rep W F [⟨.sl ao cap, .roL 5 encStepT bs StepT.zero⟩, factsT bs, pkA b trkE (s), ⟨.sl am cm, .vecL 88 2 encPr (m) zPr⟩, ⟨.blk b6, .cells [.int .i64 x.what, .int .i64 x.a, .int .i64 x.b, .str x.unit, .vec 5 x.ao x.pids.length x.cap] 84⟩, ⟨.sl x.ao x.cap, .roL 1 encI1 x.pids 0⟩] w) : G Try.prog (endQ Try.prog Try.f10 W F fun _ r => r = .bool true) W F (frmR [(Back W F 471 (fun x : Nat × Trk × Option Addr × Nat × PRow => [(0, .vec 0 ao bs.length cap), (3, .ptr 2 b 0), (4, .vec 3 x.2.2.1 (x.2.2.2.2).length x.2.2.2.1), (5, .int .i64 (x.1 : Int))]) (fun x : Nat × Trk × Option Addr × Nat × PRow => [⟨.sl ao cap, .roL 5 encStepT bs StepT.zero⟩, factsT bs, pkA b trkE (x.2.1), ⟨.sl x.2.2.1 x.2.2.2.1, .vecL 88 2 encPr (x.2.2.2.2) zPr⟩]) (fun x : Nat × Trk × Option Addr × Nat × PRow => x.1 ≤ bs.length ∧ LT bs x.1 x.2.1 x.2.2.2.2) (fun x : Nat × Trk × Option Addr × Nat × PRow => bs.length - x.1) (bs.length - i))] (bodyOf Try.f10) 11) st := by
  refine G_live 471 [(0, .vec 0 ao bs.length cap), (3, .ptr 2 b 0), (4, .vec 3 am (m).length cm), (5, .int .i64 (i : Int)), (6, .ptr 4 b6 0)] [⟨.sl ao cap, .roL 5 encStepT bs StepT.zero⟩, factsT bs, pkA b trkE (s), ⟨.sl am cm, .vecL 88 2 encPr (m) zPr⟩, ⟨.blk b6, .cells [.int .i64 x.what, .int .i64 x.a, .int .i64 x.b, .str x.unit, .vec 5 x.ao x.pids.length x.cap] 84⟩, ⟨.sl x.ao x.cap, .roL 1 encI1 x.pids 0⟩] h1 h2 hh fun u => ?_
  refine G_run (kc := false) (ss := [15, 43, 50, 57]) tqT_ok hmQ 1500 ?_
  rw [tq_11]
  have hml : m.length ≤ 10000 := by have := h.len; omega
  refine ⟨rfl, ?_⟩
  cases c1 : decide ((x.unit.size : Int) > 100) with
  | true => exact rfl
  | false =>
    simp only [decide_eq_false_iff_not] at c1
    refine ⟨rfl, ?_⟩
    cases c2 : decide ((x.pids.length : Int) > 30) with
    | true => exact rfl
    | false =>
      simp only [decide_eq_false_iff_not] at c2
      have hX := hX (by omega) (by omega)
      refine ⟨rfl, rfl, m, rfl, ⟨rfl, by omega⟩, rfl, ?_⟩
      have e43 : ∀ tm, lenN tm = 471 → liveOk tm [(0, .vec 0 ao bs.length cap), (3, .ptr 2 b 0), (4, .vec 3 am (m).length cm), (5, .int .i64 (i : Int)), (6, .ptr 4 b6 0), (7, .int .i64 (atP m x.a))] → G Try.prog (endQ Try.prog Try.f10 W F fun _ r => r = .bool true) W F (frmR [(Back W F 471 (fun x : Nat × Trk × Option Addr × Nat × PRow => [(0, .vec 0 ao bs.length cap), (3, .ptr 2 b 0), (4, .vec 3 x.2.2.1 (x.2.2.2.2).length x.2.2.2.1), (5, .int .i64 (x.1 : Int))]) (fun x : Nat × Trk × Option Addr × Nat × PRow => [⟨.sl ao cap, .roL 5 encStepT bs StepT.zero⟩, factsT bs, pkA b trkE (x.2.1), ⟨.sl x.2.2.1 x.2.2.2.1, .vecL 88 2 encPr (x.2.2.2.2) zPr⟩]) (fun x : Nat × Trk × Option Addr × Nat × PRow => x.1 ≤ bs.length ∧ LT bs x.1 x.2.1 x.2.2.2.2) (fun x : Nat × Trk × Option Addr × Nat × PRow => bs.length - x.1) (bs.length - i))] (bodyOf Try.f10) 43) ⟨tm, [⟨.sl ao cap, .roL 5 encStepT bs StepT.zero⟩, factsT bs, pkA b trkE (s), ⟨.sl am cm, .vecL 88 2 encPr (m) zPr⟩, ⟨.blk b6, .cells [.int .i64 x.what, .int .i64 x.a, .int .i64 x.b, .str x.unit, .vec 5 x.ao x.pids.length x.cap] 84⟩, ⟨.sl x.ao x.cap, .roL 1 encI1 x.pids 0⟩]⟩ := fun tm r1 r2 => tq43 hi hb hX h rfl r1 r2 (fun w hr => hr)
      have e50 : ∀ tm, lenN tm = 471 → liveOk tm [(0, .vec 0 ao bs.length cap), (3, .ptr 2 b 0), (4, .vec 3 am (m).length cm), (5, .int .i64 (i : Int)), (6, .ptr 4 b6 0), (7, .int .i64 (atP m x.a))] → G Try.prog (endQ Try.prog Try.f10 W F fun _ r => r = .bool true) W F (frmR [(Back W F 471 (fun x : Nat × Trk × Option Addr × Nat × PRow => [(0, .vec 0 ao bs.length cap), (3, .ptr 2 b 0), (4, .vec 3 x.2.2.1 (x.2.2.2.2).length x.2.2.2.1), (5, .int .i64 (x.1 : Int))]) (fun x : Nat × Trk × Option Addr × Nat × PRow => [⟨.sl ao cap, .roL 5 encStepT bs StepT.zero⟩, factsT bs, pkA b trkE (x.2.1), ⟨.sl x.2.2.1 x.2.2.2.1, .vecL 88 2 encPr (x.2.2.2.2) zPr⟩]) (fun x : Nat × Trk × Option Addr × Nat × PRow => x.1 ≤ bs.length ∧ LT bs x.1 x.2.1 x.2.2.2.2) (fun x : Nat × Trk × Option Addr × Nat × PRow => bs.length - x.1) (bs.length - i))] (bodyOf Try.f10) 50) ⟨tm, [⟨.sl ao cap, .roL 5 encStepT bs StepT.zero⟩, factsT bs, pkA b trkE (s), ⟨.sl am cm, .vecL 88 2 encPr (m) zPr⟩, ⟨.blk b6, .cells [.int .i64 x.what, .int .i64 x.a, .int .i64 x.b, .str x.unit, .vec 5 x.ao x.pids.length x.cap] 84⟩, ⟨.sl x.ao x.cap, .roL 1 encI1 x.pids 0⟩]⟩ := fun tm r1 r2 => tq50 hi hb hX h rfl r1 r2 (fun w hr => hr)
      have e57 : ∀ tm, lenN tm = 471 → liveOk tm [(0, .vec 0 ao bs.length cap), (3, .ptr 2 b 0), (4, .vec 3 am (m).length cm), (5, .int .i64 (i : Int)), (6, .ptr 4 b6 0), (7, .int .i64 (atP m x.a))] → G Try.prog (endQ Try.prog Try.f10 W F fun _ r => r = .bool true) W F (frmR [(Back W F 471 (fun x : Nat × Trk × Option Addr × Nat × PRow => [(0, .vec 0 ao bs.length cap), (3, .ptr 2 b 0), (4, .vec 3 x.2.2.1 (x.2.2.2.2).length x.2.2.2.1), (5, .int .i64 (x.1 : Int))]) (fun x : Nat × Trk × Option Addr × Nat × PRow => [⟨.sl ao cap, .roL 5 encStepT bs StepT.zero⟩, factsT bs, pkA b trkE (x.2.1), ⟨.sl x.2.2.1 x.2.2.2.1, .vecL 88 2 encPr (x.2.2.2.2) zPr⟩]) (fun x : Nat × Trk × Option Addr × Nat × PRow => x.1 ≤ bs.length ∧ LT bs x.1 x.2.1 x.2.2.2.2) (fun x : Nat × Trk × Option Addr × Nat × PRow => bs.length - x.1) (bs.length - i))] (bodyOf Try.f10) 57) ⟨tm, [⟨.sl ao cap, .roL 5 encStepT bs StepT.zero⟩, factsT bs, pkA b trkE (s), ⟨.sl am cm, .vecL 88 2 encPr (m) zPr⟩, ⟨.blk b6, .cells [.int .i64 x.what, .int .i64 x.a, .int .i64 x.b, .str x.unit, .vec 5 x.ao x.pids.length x.cap] 84⟩, ⟨.sl x.ao x.cap, .roL 1 encI1 x.pids 0⟩]⟩ := fun tm r1 r2 => tq57 hi hb hX h rfl r1 r2 (fun w hr => hr)
      have e15 : ∀ tm, lenN tm = 471 → liveOk tm [(0, .vec 0 ao bs.length cap), (3, .ptr 2 b 0), (4, .vec 3 am (m).length cm), (5, .int .i64 (i : Int)), (6, .ptr 4 b6 0), (7, .int .i64 (atP m x.a))] → G Try.prog (endQ Try.prog Try.f10 W F fun _ r => r = .bool true) W F (frmR [(Back W F 471 (fun x : Nat × Trk × Option Addr × Nat × PRow => [(0, .vec 0 ao bs.length cap), (3, .ptr 2 b 0), (4, .vec 3 x.2.2.1 (x.2.2.2.2).length x.2.2.2.1), (5, .int .i64 (x.1 : Int))]) (fun x : Nat × Trk × Option Addr × Nat × PRow => [⟨.sl ao cap, .roL 5 encStepT bs StepT.zero⟩, factsT bs, pkA b trkE (x.2.1), ⟨.sl x.2.2.1 x.2.2.2.1, .vecL 88 2 encPr (x.2.2.2.2) zPr⟩]) (fun x : Nat × Trk × Option Addr × Nat × PRow => x.1 ≤ bs.length ∧ LT bs x.1 x.2.1 x.2.2.2.2) (fun x : Nat × Trk × Option Addr × Nat × PRow => bs.length - x.1) (bs.length - i))] (bodyOf Try.f10) 15) ⟨tm, [⟨.sl ao cap, .roL 5 encStepT bs StepT.zero⟩, factsT bs, pkA b trkE (s), ⟨.sl am cm, .vecL 88 2 encPr (m) zPr⟩, ⟨.blk b6, .cells [.int .i64 x.what, .int .i64 x.a, .int .i64 x.b, .str x.unit, .vec 5 x.ao x.pids.length x.cap] 84⟩, ⟨.sl x.ao x.cap, .roL 1 encI1 x.pids 0⟩]⟩ := fun tm r1 r2 => tq15 hi hb hX h r1 r2 (fun w hr => hr)
      repeat' first
        | exact e43 _ rfl ⟨rfl, rfl, rfl, rfl, rfl, rfl, trivial⟩
        | exact e50 _ rfl ⟨rfl, rfl, rfl, rfl, rfl, rfl, trivial⟩
        | exact e57 _ rfl ⟨rfl, rfl, rfl, rfl, rfl, rfl, trivial⟩
        | exact e15 _ rfl ⟨rfl, rfl, rfl, rfl, rfl, rfl, trivial⟩
        | split
        | fail
end
theorem tq_ok (ao : Option Addr) (cap : Nat) (bs : List StepT) : Spec Try.prog 10 [⟨.sl ao cap, .roL 5 encStepT bs StepT.zero⟩, factsT bs] [.vec 0 ao bs.length cap] fun _ r => r = .bool true := by
  refine Spec.of_G 471 Try.func10 (c := bodyOf Try.f10) (by kernel_rfl) (by kernel_rfl) (Nat.le_of_ble_eq_true rfl) fun W F => ?_
  refine G_run (kc := false) (ss := []) tqT_ok hmQ 600 ?_
  rw [tq_start]
  refine ⟨rfl, ?_⟩
  cases h100 : decide ((bs.length : Int) > 100) with
  | true => exact rfl
  | false =>
    simp only [decide_eq_false_iff_not] at h100
    refine ⟨rfl, fun b bo bp => ?_⟩
    refine G_loopAt (ι := Nat × Trk × Option Addr × Nat × PRow) [] (bodyOf Try.f10) [1, 1, 1, 1, 1, 0, 1, 0] 471 (fun x : Nat × Trk × Option Addr × Nat × PRow => [(0, .vec 0 ao bs.length cap), (3, .ptr 2 b 0), (4, .vec 3 x.2.2.1 (x.2.2.2.2).length x.2.2.2.1), (5, .int .i64 (x.1 : Int))]) (fun x : Nat × Trk × Option Addr × Nat × PRow => [⟨.sl ao cap, .roL 5 encStepT bs StepT.zero⟩, factsT bs, pkA b trkE (x.2.1), ⟨.sl x.2.2.1 x.2.2.2.1, .vecL 88 2 encPr (x.2.2.2.2) zPr⟩]) (fun x : Nat × Trk × Option Addr × Nat × PRow => x.1 ≤ bs.length ∧ LT bs x.1 x.2.1 x.2.2.2.2) (fun x : Nat × Trk × Option Addr × Nat × PRow => bs.length - x.1) (0, ⟨bo, bp, [], []⟩, none, 0, []) (by kernel_rfl) (fun J => by kernel_rfl) ⟨Nat.zero_le _, TM.zero bo bp, Nat.zero_le _, (fun u => Nat.zero_le _), (fun y hy => by cases hy)⟩ rfl ⟨rfl, rfl, rfl, rfl, trivial⟩ (fun w hw => Rep.nilvec 88 (sz := 2) (enc := encPr) zPr (fun _ => rfl) hw) ?_
    rintro ⟨i, s, am, cm, m⟩ ⟨hi, h⟩ u
    dsimp only at hi h
    try dsimp only
    simp only [List.nil_append, List.cons_append]
    refine G_facts (bs := bs) 1 rfl fun hfacts => ?_
    refine G_run (kc := false) (ss := [11, 81]) tqT_ok hmQ 900 ?_
    rw [tq_l1]
    cases hlt : decide ((i : Int) < (bs.length : Int)) with
    | false =>
      simp only [decide_eq_false_iff_not] at hlt
      obtain rfl : i = bs.length := by omega
      exact tq81 (by omega) h rfl ⟨rfl, rfl, rfl, trivial⟩ (fun w hr => hr)
    | true =>
      simp only [decide_eq_true_eq] at hlt
      have hi2 : i < bs.length := by omega
      have hgb : ∀ d, bs.getD i d = bs[i] := fun d => by simp [List.getD, hi2]
      obtain ⟨q1, q2, q3, q4, q5⟩ := hfacts _ (List.getElem_mem hi2)
      have hun := un_new hi2
      rw [Int.toNat_natCast, hgb]
      generalize bs[i] = x at q1 q2 q3 q4 q5 hun ⊢
      refine ⟨⟨rfl, rfl, rfl, by omega, by omega⟩, ⟨rfl, rfl, rfl, hi2, rfl⟩, fun b6 => ⟨⟨rfl, rfl, rfl, Nat.le_refl _⟩, ?_⟩⟩
      exact tq11 (x := x) hi2 (by omega) h (fun r1 r2 => ⟨hun, q3, q4, q5, r1, r2⟩) rfl ⟨rfl, rfl, rfl, rfl, rfl, trivial⟩ (fun w hr => Rep.cellsEq (l := 4) (cs' := [.int .i64 x.what, .int .i64 x.a, .int .i64 x.b, .str x.unit, .vec 5 x.ao x.pids.length x.cap]) rfl (by rw [q2]; rfl) (Rep.addRo q1 hr))
end Go.Proofs.Ytihajdkipkfiiaa

/- YtihajdkipkfiiaaRow -/
/- A law's call with a slice of numbers as1 its argument. -/
namespace Go.Proofs.Ytihajdkipkfiiaa
open Go Go.RowKit Go.ChangeShapes
set_option linter.unusedVariables false
set_option linter.unusedSimpArgs false
set_option linter.unnecessarySimpa false

theorem ro_ints {W : World} {k : IntKind} {a : Addr} {len cap : Nat} {zs : List Int} {enc : Int → List SV} (henc : ∀ x, enc x = [.int k x]) (hl : len ≤ cap) (hz : zs.length = cap) (hcell : ∀ i, i < zs.length → W.cell? (a.add i) = some (.int k (zs.getD i 0))) :
    has W (.sl (some a) cap) (.roL 1 enc (zs.take len) 0) [] := by
  by_cases h0 : len = 0
  · subst h0
    exact ⟨rfl, (fun x => by rw [henc]; rfl), by simp, .inl (by simp)⟩
  · obtain ⟨b, off, rfl, hc⟩ := ints_at hcell (by omega)
    have hc0 := hc 0 (by omega)
    have hc1 : ∃ cur T fr, W.heap[b]? = some (.cells cur T fr) := by
      simp only [World.cell?] at hc0
      split at hc0
      · rename_i cur T fr hh; exact ⟨_, _, _, hh⟩
      · cases hc0
    obtain ⟨cur, T, fr, hb⟩ := hc1
    refine ⟨rfl, (fun x => by rw [henc]; rfl), by simp; omega, .inr ⟨b, off, cur, T, fr, rfl, hb, ?_⟩⟩
    · have hfl : ∀ l : List Int, flatV enc l = l.map fun x => Value.int k x := by
        intro l
        induction l with
        | nil => rfl
        | cons x l ih =>
          have : flatV enc (x :: l) = denL (enc x) ++ flatV enc l := by simp [flatV]
          rw [this, ih, henc]; rfl
      rw [hfl, List.map_take]
      have hlt : (zs.take len).length = len := by simp; omega
      rw [hlt, Nat.mul_one]
      apply List.ext_getElem?
      intro j
      simp only [List.getElem?_take, List.getElem?_drop, List.getElem?_map]
      split
      · rename_i hj
        have h1 := hc j (by omega)
        simp only [World.cell?, hb] at h1
        have h2 : cur.toList[off + j]? = cur[off + j]? := by simp
        simp at h1
        rw [h2, h1]
        have : j < zs.length := by omega
        simp [this]
      · rfl

/-- An argument that is a slice of numbers: the entry, its numbers. -/
theorem arg_ints {P : Program} {H : Type} {enc : TypeId × Value → H} {t e : TypeId} {k : IntKind} {fuel : Nat} {W : World} {a0 : Option Addr} {len cap : Nat} {x : DataW H × List MemPlace} {enc' : Int → List SV}
    (henc : ∀ x, enc' x = [.int k x]) (ht : P.underlying t = some (.slice e)) (he : P.underlying e = some (.int k)) (hc : P.cellsOf e = 1)
    (hf : DataW.trod enc P W 0 (fun _ => true) true fuel t [.slice a0 len cap] = some x) :
    ∃ bs : List Int, bs.length = len ∧ (∀ z ∈ bs, (Lit.int k z).wf = true) ∧ has W (.sl a0 cap) (.roL 1 enc' bs 0) [] := by
  rcases open_ints ht he hc hf with ⟨hcs, _⟩ | ⟨a, len', cap', zs, hcs, _, hl, hm, hz, _, hcell, hwz⟩
  · simp only [List.cons.injEq, Value.slice.injEq, and_true] at hcs
    obtain ⟨rfl, rfl, rfl⟩ := hcs
    exact ⟨[], rfl, (fun z hz => by cases hz), rfl, fun x => by rw [henc]; rfl, by simp, .inl rfl⟩
  · simp at hcs
    obtain ⟨rfl, rfl, rfl⟩ := hcs
    simp only [if_true] at hz
    exact ⟨zs.take len, by simp; omega, fun z hz => hwz z (List.mem_of_mem_take hz), ro_ints (k := k) (len := len) henc hl hz hcell⟩

/-- A slice whose cells are known, to be read. -/
theorem ro_gen {W : World} {α : Type} {a : Addr} {len cap : Nat} {zs : List α} {enc : α → List SV} {sv : α → SV} {d : α} (henc : ∀ x, enc x = [sv x]) (hl : len ≤ cap) (hz : zs.length = cap) (hcell : ∀ i, i < zs.length → W.cell? (a.add i) = some (den (sv (zs.getD i d)))) :
    has W (.sl (some a) cap) (.roL 1 enc (zs.take len) d) [] := by
  by_cases h0 : len = 0
  · subst h0
    exact ⟨rfl, (fun x => by rw [henc]; rfl), by simp, .inl (by simp)⟩
  · obtain ⟨b, off, spot⟩ := a
    have hspot : spot = none := by simpa [Addr.add] using World.cell?_spot (hcell 0 (by omega))
    subst hspot
    have hc : ∀ j, j < zs.length → W.cell? ⟨b, off + j, none⟩ = some (den (sv (zs.getD j d))) := fun j hj => by rw [← Go.WideShapes.add_plain]; exact hcell j hj
    have hc0 := hc 0 (by omega)
    have hc1 : ∃ cur T fr, W.heap[b]? = some (.cells cur T fr) := by
      simp only [World.cell?] at hc0
      split at hc0
      · rename_i cur T fr hh; exact ⟨_, _, _, hh⟩
      · cases hc0
    obtain ⟨cur, T, fr, hb⟩ := hc1
    refine ⟨rfl, (fun x => by rw [henc]; rfl), by simp; omega, .inr ⟨b, off, cur, T, fr, rfl, hb, ?_⟩⟩
    have hfl : ∀ l : List α, flatV enc l = l.map fun x => den (sv x) := by
      intro l
      induction l with
      | nil => rfl
      | cons x l ih =>
        have : flatV enc (x :: l) = denL (enc x) ++ flatV enc l := by simp [flatV]
        rw [this, ih, henc]; rfl
    rw [hfl, List.map_take]
    have hlt : (zs.take len).length = len := by simp; omega
    rw [hlt, Nat.mul_one]
    apply List.ext_getElem?
    intro j
    simp only [List.getElem?_take, List.getElem?_drop, List.getElem?_map]
    split
    · rename_i hj
      have h1 := hc j (by omega)
      simp only [World.cell?, hb] at h1
      have h2 : cur.toList[off + j]? = cur[off + j]? := by simp
      simp at h1
      rw [h2, h1]
      have : j < zs.length := by omega
      simp [this]
    · rfl

/-- An argument that is a slice of truth values. -/
theorem arg_bools {P : Program} {H : Type} {enc : TypeId × Value → H} {t e : TypeId} {fuel : Nat} {W : World} {a0 : Option Addr} {len cap : Nat} {x : DataW H × List MemPlace} {enc' : Bool → List SV}
    (henc : ∀ x, enc' x = [.bool x]) (ht : P.underlying t = some (.slice e)) (he : P.underlying e = some .bool) (hc : P.cellsOf e = 1)
    (hf : DataW.trod enc P W 0 (fun _ => true) true fuel t [.slice a0 len cap] = some x) :
    ∃ bs : List Bool, bs.length = len ∧ has W (.sl a0 cap) (.roL 1 enc' bs false) [] := by
  rcases Go.Deep.open_bools ht he hc hf with ⟨hcs, _⟩ | ⟨a, len', cap', B, hcs, _, hl, hm, _, hcell⟩
  · simp only [List.cons.injEq, Value.slice.injEq, and_true] at hcs
    obtain ⟨rfl, rfl, rfl⟩ := hcs
    exact ⟨[], rfl, rfl, fun x => by rw [henc]; rfl, by simp, .inl rfl⟩
  · simp at hcs
    obtain ⟨rfl, rfl, rfl⟩ := hcs
    have hlen : ((List.range cap).map B).length = cap := by simp
    refine ⟨((List.range cap).map B).take len, by simp; omega, ro_gen (sv := SV.bool) henc hl hlen fun i hi => ?_⟩
    rw [hlen] at hi
    rw [hcell i hi]
    simp [List.getD, hi, den]

/-- An argument that is a slice of texts. -/
theorem arg_strs {P : Program} {H : Type} {enc : TypeId × Value → H} {t e : TypeId} {fuel : Nat} {W : World} {a0 : Option Addr} {len cap : Nat} {x : DataW H × List MemPlace} {enc' : ByteArray → List SV}
    (henc : ∀ x, enc' x = [.str x]) (ht : P.underlying t = some (.slice e)) (he : P.underlying e = some .string) (hc : P.cellsOf e = 1)
    (hf : DataW.trod enc P W 0 (fun _ => true) true fuel t [.slice a0 len cap] = some x) :
    ∃ bs : List ByteArray, bs.length = len ∧ (∀ s ∈ bs, s.size ≤ maxLen) ∧ has W (.sl a0 cap) (.roL 1 enc' bs .empty) [] := by
  rcases Go.Deep.open_strs ht he hc hf with ⟨hcs, _⟩ | ⟨a, len', cap', m, S, hcs, _, hl, hm, hmm, _, hcell⟩
  · simp only [List.cons.injEq, Value.slice.injEq, and_true] at hcs
    obtain ⟨rfl, rfl, rfl⟩ := hcs
    exact ⟨[], rfl, (fun s hs => by cases hs), rfl, fun x => by rw [henc]; rfl, by simp, .inl rfl⟩
  · simp at hcs
    obtain ⟨rfl, rfl, rfl⟩ := hcs
    simp only [if_true] at hmm
    subst hmm
    have hlen : ((List.range m).map S).length = m := by simp
    refine ⟨((List.range m).map S).take len, by simp; omega, fun s hs => ?_, ro_gen (sv := SV.str) henc hl hlen fun i hi => ?_⟩
    · obtain ⟨i, hi, rfl⟩ := List.mem_map.1 (List.mem_of_mem_take hs)
      exact (hcell i (List.mem_range.1 hi)).2
    · rw [hlen] at hi
      rw [(hcell i hi).1]
      simp [List.getD, hi, den]

theorem calls_ints {P : Program} {H : Type} {enc : TypeId × Value → H} {f : FuncId} {t e : TypeId} {k : IntKind} {fuel : Nat} {W : World} {a0 : Option Addr} {len cap : Nat} {x : DataW H × List MemPlace} {v : SV} {enc' : Int → List SV}
    (henc : ∀ x, enc' x = [.int k x]) (ht : P.underlying t = some (.slice e)) (he : P.underlying e = some (.int k)) (hc : P.cellsOf e = 1)
    (hf : DataW.trod enc P W 0 (fun _ => true) true fuel t [.slice a0 len cap] = some x)
    (h : ∀ (ao : Option Addr) (bs : List Int) (cap : Nat), (∀ z ∈ bs, (Lit.int k z).wf = true) → Spec P f [⟨.sl ao cap, .roL 1 enc' bs 0⟩] [.vec 0 ao bs.length cap] fun _ r => r = v) :
    Calls P f #[.slice a0 len cap] W fun e W' => e = .returned (den v) ∧ Below W.heap.size W W' := by
  obtain ⟨bs, rfl, hw, hh⟩ := arg_ints henc ht he hc hf
  have h4 := Spec.rowR (W := W) (hs := [⟨.sl a0 cap, .roL 1 enc' bs 0⟩]) (fun e he => by rcases List.mem_singleton.1 he with rfl; exact hh) (h a0 bs cap hw)
  exact h4
end Go.Proofs.Ytihajdkipkfiiaa

/- YtihajdkipkfiiaaRow2 -/
/- A law's call with a slice of rows (structs of plain fields) as1 its argument. -/
namespace Go.Proofs.Ytihajdkipkfiiaa
open Go Go.RowKit Go.ChangeShapes
set_option linter.unusedVariables false
set_option linter.unusedSimpArgs false
set_option linter.unnecessarySimpa false

/-- An argument that is a slice of rows: the entry, its rows. -/
theorem arg_rows {P : Program} {H : Type} {enc : TypeId × Value → H} {t e : TypeId} {fuel : Nat} {W : World} {a0 : Option Addr} {len cap : Nat} {x : DataW H × List MemPlace} {α : Type} {enc' : α → List SV} {sz : Nat} {good : α → Prop} (d : α)
    (henc : ∀ x, (enc' x).length = sz) (ht : P.underlying t = some (.slice e)) (hc : P.cellsOf e = sz) (hpos : 0 < sz)
    (hel : ∀ n cs y, cs.length = sz → DataW.trod enc P W 0 (fun _ => true) true n e cs = some y → ∃ a, cs = denL (enc' a) ∧ good a)
    (hf : DataW.trod enc P W 0 (fun _ => true) true fuel t [.slice a0 len cap] = some x) :
    ∃ bs : List α, bs.length = len ∧ (∀ z ∈ bs, good z) ∧ has W (.sl a0 cap) (.roL sz enc' bs d) [] := by
  rcases Go.Deep.open_slice ht hf with ⟨hcs, _⟩ | ⟨a, len', cap', m, n, D, Pl, hcs, _, hl, hm, hmm, _, hx⟩
  · simp only [List.cons.injEq, Value.slice.injEq, and_true] at hcs
    obtain ⟨rfl, rfl, rfl⟩ := hcs
    exact ⟨[], rfl, (fun z hz => by cases hz), rfl, henc, by simp, .inl rfl⟩
  · simp only [List.cons.injEq, Value.slice.injEq, and_true] at hcs
    obtain ⟨rfl, rfl, rfl⟩ := hcs
    simp only [if_true] at hmm
    subst hmm
    have : Inhabited α := ⟨d⟩
    obtain ⟨A, hA⟩ := Go.Deep.choose_lt (α := α) (p := fun i a' => good a' ∧ ∀ j, j < sz → W.cell? (a.add (i * sz + j)) = (denL (enc' a'))[j]?) (fun i hi => by
      obtain ⟨cs', h1, h2⟩ := hx i hi
      rw [hc] at h1
      obtain ⟨_, hlen, hcell⟩ := World.cells?_some h1
      obtain ⟨a', rfl, hg⟩ := hel _ _ _ hlen h2
      refine ⟨a', hg, fun j hj => ?_⟩
      rw [← Go.Deep.add_add]
      exact hcell j hj)
    refine ⟨(List.range len).map A, by simp, fun z hz => ?_, rfl, henc, by simpa using hl, ?_⟩
    · obtain ⟨i, hi, rfl⟩ := List.mem_map.1 hz
      exact (hA i (by have := List.mem_range.1 hi; omega)).1
    · by_cases h0 : len = 0
      · subst h0; exact .inl rfl
      refine .inr ?_
      obtain ⟨b, off, spot⟩ := a
      have hc0 := (hA 0 (by omega)).2 0 hpos
      have hlt : 0 < (denL (enc' (A 0))).length := by rw [length_denL, henc]; exact hpos
      rw [List.getElem?_eq_getElem hlt] at hc0
      have hspot : spot = none := by simpa [Addr.add] using World.cell?_spot hc0
      subst hspot
      have hcc : ∀ i, i < m → ∀ j, j < sz → W.cell? ⟨b, off + (i * sz + j), none⟩ = (denL (enc' (A i)))[j]? := fun i hi j hj => by rw [← Go.WideShapes.add_plain]; exact (hA i hi).2 j hj
      have hc1 : ∃ cur T fr, W.heap[b]? = some (.cells cur T fr) := by
        have hc0 := hcc 0 (by omega) 0 hpos
        rw [List.getElem?_eq_getElem hlt] at hc0
        simp only [World.cell?] at hc0
        split at hc0
        · rename_i cur T fr hh; exact ⟨_, _, _, hh⟩
        · cases hc0
      obtain ⟨cur, T, fr, hb⟩ := hc1
      refine ⟨b, off, cur, T, fr, rfl, hb, ?_⟩
      have hfl : (flatV enc' ((List.range len).map A)).length = len * sz := by rw [length_flatV henc]; simp
      apply List.ext_getElem?
      intro q
      rw [List.getElem?_take, List.getElem?_drop]
      split
      · rename_i hq
        have hq : q < len * sz := by simpa using hq
        have hi : q / sz < len := (Nat.div_lt_iff_lt_mul hpos).2 hq
        have hj : q % sz < sz := Nat.mod_lt _ hpos
        have hqe : q = q / sz * sz + q % sz := by rw [Nat.mul_comm]; exact (Nat.div_add_mod q sz).symm
        have h1 := hcc (q / sz) (by omega) (q % sz) hj
        rw [hqe, flatV_get henc d _ _ _ (by simpa using hi) hj, ← hqe]
        simp only [List.getD, List.getElem?_map, List.getElem?_range hi, Option.map_some, Option.getD_some]
        rw [← h1, ← hqe]
        simp [World.cell?, hb]
      · rename_i hq
        have hq : ¬ q < len * sz := by simpa using hq
        rw [List.getElem?_eq_none (by omega)]

/-- A field of a row: a whole number. -/
theorem fld_int {P : Program} {H : Type} {enc : TypeId × Value → H} {W : World} {n : Nat} {t : TypeId} {cs : List Value} {y : DataW H × List MemPlace} {k : IntKind} (ht : P.underlying t = some (.int k)) (h : DataW.trod enc P W 0 (fun _ => true) true n t cs = some y) : ∃ z, cs = [.int k z] ∧ (Lit.int k z).wf = true := by
  obtain ⟨z, h1, _, h2⟩ := DataW.trod_int ht h
  exact ⟨z, h1, h2⟩
theorem fld_str {P : Program} {H : Type} {enc : TypeId × Value → H} {W : World} {n : Nat} {t : TypeId} {cs : List Value} {y : DataW H × List MemPlace} (ht : P.underlying t = some .string) (h : DataW.trod enc P W 0 (fun _ => true) true n t cs = some y) : ∃ s : ByteArray, cs = [.string s] ∧ s.size ≤ maxLen := by
  obtain ⟨z, h1, _, h2⟩ := DataW.trod_string ht h
  exact ⟨z, h1, h2⟩
theorem fld_bool {P : Program} {H : Type} {enc : TypeId × Value → H} {W : World} {n : Nat} {t : TypeId} {cs : List Value} {y : DataW H × List MemPlace} (ht : P.underlying t = some .bool) (h : DataW.trod enc P W 0 (fun _ => true) true n t cs = some y) : ∃ s : Bool, cs = [.bool s] := by
  obtain ⟨z, h1, _⟩ := DataW.trod_bool ht h
  exact ⟨z, h1⟩
/-- A struct's cells are its fields' cells. -/
theorem cut_cells : ∀ (cs : List Value) (i : Nat) (v : Value), (cs.drop i).take 1 = [v] → cs[i]? = some v
  | [], i, v, h => by simp at h
  | c :: cs, 0, v, h => by simp at h; simp [h]
  | c :: cs, i + 1, v, h => by simpa using cut_cells cs i v (by simpa using h)
end Go.Proofs.Ytihajdkipkfiiaa

/- YtihajdkipkfiiaaTqR -/
/- A row of the argument of TrackPlays. -/
namespace Go.Proofs.Ytihajdkipkfiiaa
open Go Go.RowKit
set_option linter.unusedVariables false
set_option linter.unusedSimpArgs false
set_option linter.unnecessarySimpa false
set_option maxHeartbeats 0
open Go.ChangeShapes
/-- A field of a row: a slice of whole numbers. -/
theorem fld_ints {P : Program} {H : Type} {enc : TypeId × Value → H} {W : World} {n : Nat} {t e : TypeId} {cs : List Value} {y : DataW H × List MemPlace} {k : IntKind} {enc' : Int → List SV} (henc : ∀ x, enc' x = [.int k x]) (ht : P.underlying t = some (.slice e)) (he : P.underlying e = some (.int k)) (hc : P.cellsOf e = 1)
    (h : DataW.trod enc P W 0 (fun _ => true) true n t cs = some y) : ∃ (a0 : Option Addr) (len cap : Nat) (bs : List Int), cs = [.slice a0 len cap] ∧ bs.length = len ∧ (∀ z ∈ bs, (Lit.int k z).wf = true) ∧ has W (.sl a0 cap) (.roL 1 enc' bs 0) [] := by
  rcases Go.Deep.open_slice ht h with ⟨rfl, _⟩ | ⟨a, len, cap, m, n', D, Pl, rfl, _⟩
  · obtain ⟨bs, h1, h2, h3⟩ := arg_ints henc ht he hc h
    exact ⟨none, 0, 0, bs, rfl, h1, h2, h3⟩
  · obtain ⟨bs, h1, h2, h3⟩ := arg_ints henc ht he hc h
    exact ⟨some a, len, cap, bs, rfl, h1, h2, h3⟩
theorem stepT_row {H : Type} {enc : TypeId × Value → H} {W : World} (n : Nat) (cs : List Value) (y : DataW H × List MemPlace) (hcs : cs.length = 5) (h : DataW.trod enc Try.prog W 0 (fun _ => true) true n 84 cs = some y) : ∃ a, cs = denL (encStepT a) ∧ goodT W a := by
  obtain ⟨xs, m, _, _, hl, hlen, hf⟩ := DataW.trod_struct Try.underlying84 h
  have hlen : xs.length = 5 := hlen
  match xs, hlen with
  | [y0, y1, y2, y3, y4], _ =>
  have c3 : Try.prog.cellsOf 3 = 1 := by kernel_rfl
  have c9 : Try.prog.cellsOf 9 = 1 := by kernel_rfl
  have c4 : Try.prog.cellsOf 32 = 1 := by kernel_rfl
  have q0 := hf 0 _ rfl
  obtain ⟨a0, e0, w0⟩ := fld_int Try.underlying3 q0
  have q1 := hf 1 _ rfl
  obtain ⟨a1, e1, w1⟩ := fld_int Try.underlying3 q1
  have q2 := hf 2 _ rfl
  obtain ⟨a2, e2, w2⟩ := fld_int Try.underlying3 q2
  have q3 := hf 3 _ rfl
  obtain ⟨a3, e3, w3⟩ := fld_str Try.underlying9 q3
  have q4 := hf 4 _ rfl
  obtain ⟨a4, len4, cap4, bs4, e4, l4, w4, g4⟩ := fld_ints (enc' := encI1) (fun _ => rfl) Try.underlying32 Try.underlying3 c3 q4
  clear hf
  obtain ⟨v0, cs0, rfl⟩ := List.exists_cons_of_length_eq_add_one hcs
  have hc0 : cs0.length = 4 := by simpa using hcs
  obtain ⟨v1, cs1, rfl⟩ := List.exists_cons_of_length_eq_add_one hc0
  have hc1 : cs1.length = 3 := by simpa using hc0
  obtain ⟨v2, cs2, rfl⟩ := List.exists_cons_of_length_eq_add_one hc1
  have hc2 : cs2.length = 2 := by simpa using hc1
  obtain ⟨v3, cs3, rfl⟩ := List.exists_cons_of_length_eq_add_one hc2
  have hc3 : cs3.length = 1 := by simpa using hc2
  obtain ⟨v4, cs4, rfl⟩ := List.exists_cons_of_length_eq_add_one hc3
  have hc4 : cs4.length = 0 := by simpa using hc3
  obtain rfl := List.eq_nil_of_length_eq_zero hc4
  have gg0 : (([v0, v1, v2, v3, v4] : List Value).drop 0).take (Try.prog.cellsOf 3) = [.int .i64 a0] := e0
  rw [c3] at gg0
  have k0 := cut_cells _ _ _ gg0
  have j0 : v0 = .int .i64 a0 := Option.some.inj k0
  have gg1 : (([v0, v1, v2, v3, v4] : List Value).drop 1).take (Try.prog.cellsOf 3) = [.int .i64 a1] := e1
  rw [c3] at gg1
  have k1 := cut_cells _ _ _ gg1
  have j1 : v1 = .int .i64 a1 := Option.some.inj k1
  have gg2 : (([v0, v1, v2, v3, v4] : List Value).drop 2).take (Try.prog.cellsOf 3) = [.int .i64 a2] := e2
  rw [c3] at gg2
  have k2 := cut_cells _ _ _ gg2
  have j2 : v2 = .int .i64 a2 := Option.some.inj k2
  have gg3 : (([v0, v1, v2, v3, v4] : List Value).drop 3).take (Try.prog.cellsOf 9) = [.string a3] := e3
  rw [c9] at gg3
  have k3 := cut_cells _ _ _ gg3
  have j3 : v3 = .string a3 := Option.some.inj k3
  have gg4 : (([v0, v1, v2, v3, v4] : List Value).drop 4).take (Try.prog.cellsOf 32) = [.slice a4 len4 cap4] := e4
  rw [c4] at gg4
  have k4 := cut_cells _ _ _ gg4
  have j4 : v4 = .slice a4 len4 cap4 := Option.some.inj k4
  subst j0 j1 j2 j3 j4
  exact ⟨⟨a0, a1, a2, a3, a4, len4, cap4, bs4⟩, rfl, g4, l4, w1, w2, w4⟩
end Go.Proofs.Ytihajdkipkfiiaa

