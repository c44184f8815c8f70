import Derived.Test.YtihajdkipkfiiaaMgTrackPlays12
import Derived.Test.YtihajdkipkfiiaaMgTrackPlays7
import Derived.Test.YtihajdkipkfiiaaMgTrackPlays6
import Derived.Test.YtihajdkipkfiiaaMgTrackPlays5
/- YtihajdkipkfiiaaTq3 -/
/- TrackPlays: Sync, the second loop. -/
namespace Go.Proofs.Ytihajdkipkfiiaa
open Go Go.RowKit
set_option linter.unusedVariables false
set_option linter.unusedSimpArgs false
set_option linter.unnecessarySimpa false
set_option maxHeartbeats 0

set_option maxRecDepth 100000
section
variable {W : World} {F : List Ch} {ao : Option Addr} {cap : Nat} {bs : List StepT} {b : Nat} {s : Trk} {am : Option Addr} {cm : Nat} {m : PRow} {i : Nat} {x : StepT} {b6 : Nat} {aw : Option Addr} {cw : Nat} {ws : List Int} {st : Sy} {k a0 g0 n g g1 : Int} {m0 m1 : PRow}
theorem tq38 (hi : i < bs.length) (hb : bs.length ≤ 100) (h : LT bs (i + 1) s m) (ha : a0 = n) (hg : g0 = g) (h1 : lenN st.tmps = 471) (h2 : liveOk st.tmps [(0, .vec 0 ao bs.length cap), (3, .ptr 2 b 0), (4, .vec 3 am (m).length cm), (5, .int .i64 (i : Int)), (6, .ptr 4 b6 0), (7, .int .i64 k), (12, .int .i64 a0), (13, .int .i64 g0), (14, .vec 6 aw ws.length cw), (15, .int .i64 (n)), (16, .int .i64 (g))]) (hh : ∀ w, Rep W F st.heap w → Rep W F [⟨.sl ao cap, .roL 5 encStepT bs StepT.zero⟩, factsT bs, pkA b trkE (s), ⟨.sl am cm, .vecL 88 2 encPr (m) zPr⟩, ⟨.blk b6, .cells [.int .i64 x.what, .int .i64 x.a, .int .i64 x.b, .str x.unit, .vec 5 x.ao x.pids.length x.cap] 84⟩, ⟨.sl x.ao x.cap, .roL 1 encI1 x.pids 0⟩, ⟨.sl aw cw, .vecL 3 1 encI1 ws 0⟩] w) : G Try.prog (endQ Try.prog Try.f10 W F fun _ r => r = .bool true) W F (frmR [(Back W F 471 (fun x : Nat × Trk × Option Addr × Nat × PRow => [(0, .vec 0 ao bs.length cap), (3, .ptr 2 b 0), (4, .vec 3 x.2.2.1 (x.2.2.2.2).length x.2.2.2.1), (5, .int .i64 (x.1 : Int))]) (fun x : Nat × Trk × Option Addr × Nat × PRow => [⟨.sl ao cap, .roL 5 encStepT bs StepT.zero⟩, factsT bs, pkA b trkE (x.2.1), ⟨.sl x.2.2.1 x.2.2.2.1, .vecL 88 2 encPr (x.2.2.2.2) zPr⟩]) (fun x : Nat × Trk × Option Addr × Nat × PRow => x.1 ≤ bs.length ∧ LT bs x.1 x.2.1 x.2.2.2.2) (fun x : Nat × Trk × Option Addr × Nat × PRow => bs.length - x.1) (bs.length - i))] (bodyOf Try.f10) 38) st := by
  refine G_live 471 [(0, .vec 0 ao bs.length cap), (3, .ptr 2 b 0), (4, .vec 3 am (m).length cm), (5, .int .i64 (i : Int)), (6, .ptr 4 b6 0), (7, .int .i64 k), (12, .int .i64 a0), (13, .int .i64 g0), (14, .vec 6 aw ws.length cw), (15, .int .i64 (n)), (16, .int .i64 (g))] [⟨.sl ao cap, .roL 5 encStepT bs StepT.zero⟩, factsT bs, pkA b trkE (s), ⟨.sl am cm, .vecL 88 2 encPr (m) zPr⟩, ⟨.blk b6, .cells [.int .i64 x.what, .int .i64 x.a, .int .i64 x.b, .str x.unit, .vec 5 x.ao x.pids.length x.cap] 84⟩, ⟨.sl x.ao x.cap, .roL 1 encI1 x.pids 0⟩, ⟨.sl aw cw, .vecL 3 1 encI1 ws 0⟩] h1 h2 hh fun u => ?_
  refine G_run (kc := false) (ss := [62]) tqT_ok hmQ 1500 ?_
  rw [tq_38]
  subst ha
  subst hg
  rw [bne_self_eq_false, bne_self_eq_false]
  exact tq62 hi hb h rfl ⟨rfl, rfl, rfl, rfl, rfl, trivial⟩ (fun w hr => Rep.dropR (t := [_]) hr)
theorem tqB (hi : i < bs.length) (hb : bs.length ≤ 100) (hX : XOk bs i x) (h : LT bs (i + 1) s (syncF m0 x.unit x.pids).1) (ha : a0 = (syncF m0 x.unit x.pids).2.1) (hg : g0 = (syncF m0 x.unit x.pids).2.2)
    (hc : (sEq x.unit ⟨#[]⟩ = true ∧ syncF m0 x.unit x.pids = (m1, 0, g1)) ∨ (sEq x.unit ⟨#[]⟩ = false ∧ syncF m0 x.unit x.pids = ((syNew x.unit m1 x.pids).1, (syNew x.unit m1 x.pids).2, g1))) (hasc : Asc m1) (hl : m1.length ≤ 10000)
    (h1 : lenN st.tmps = 471) (h2 : liveOk st.tmps [(0, .vec 0 ao bs.length cap), (3, .ptr 2 b 0), (4, .vec 3 am (m1).length cm), (5, .int .i64 (i : Int)), (6, .ptr 4 b6 0), (7, .int .i64 k), (12, .int .i64 a0), (13, .int .i64 g0), (14, .vec 6 aw ws.length cw), (15, .int .i64 ((syNew x.unit m1 (x.pids.take 0)).2)), (16, .int .i64 (g1)), (20, .int .i64 (0 : Int))]) (hh : ∀ w, Rep W F st.heap w → Rep W F [⟨.sl ao cap, .roL 5 encStepT bs StepT.zero⟩, factsT bs, pkA b trkE (s), ⟨.sl am cm, .vecL 88 2 encPr (m1) zPr⟩, ⟨.blk b6, .cells [.int .i64 x.what, .int .i64 x.a, .int .i64 x.b, .str x.unit, .vec 5 x.ao x.pids.length x.cap] 84⟩, ⟨.sl x.ao x.cap, .roL 1 encI1 x.pids 0⟩, ⟨.sl aw cw, .vecL 3 1 encI1 ws 0⟩] w) : G Try.prog (endQ Try.prog Try.f10 W F fun _ r => r = .bool true) W F (frm [(Back W F 471 (fun x : Nat × Trk × Option Addr × Nat × PRow => [(0, .vec 0 ao bs.length cap), (3, .ptr 2 b 0), (4, .vec 3 x.2.2.1 (x.2.2.2.2).length x.2.2.2.1), (5, .int .i64 (x.1 : Int))]) (fun x : Nat × Trk × Option Addr × Nat × PRow => [⟨.sl ao cap, .roL 5 encStepT bs StepT.zero⟩, factsT bs, pkA b trkE (x.2.1), ⟨.sl x.2.2.1 x.2.2.2.1, .vecL 88 2 encPr (x.2.2.2.2) zPr⟩]) (fun x : Nat × Trk × Option Addr × Nat × PRow => x.1 ≤ bs.length ∧ LT bs x.1 x.2.1 x.2.2.2.2) (fun x : Nat × Trk × Option Addr × Nat × PRow => bs.length - x.1) (bs.length - i))] (bodyOf Try.f10) [1, 1, 1, 1, 1, 0, 1, 0, 0, 1, 0, 0, 1, 1, 1, 0, 1, 0, 1, 1, 1, 1, 1, 1, 1, 1, 1, 1, 0, 1, 0] []) st := by
  refine G_loopAt (ι := Nat × Option Addr × Nat × PRow) [(Back W F 471 (fun x : Nat × Trk × Option Addr × Nat × PRow => [(0, .vec 0 ao bs.length cap), (3, .ptr 2 b 0), (4, .vec 3 x.2.2.1 (x.2.2.2.2).length x.2.2.2.1), (5, .int .i64 (x.1 : Int))]) (fun x : Nat × Trk × Option Addr × Nat × PRow => [⟨.sl ao cap, .roL 5 encStepT bs StepT.zero⟩, factsT bs, pkA b trkE (x.2.1), ⟨.sl x.2.2.1 x.2.2.2.1, .vecL 88 2 encPr (x.2.2.2.2) zPr⟩]) (fun x : Nat × Trk × Option Addr × Nat × PRow => x.1 ≤ bs.length ∧ LT bs x.1 x.2.1 x.2.2.2.2) (fun x : Nat × Trk × Option Addr × Nat × PRow => bs.length - x.1) (bs.length - i))] (bodyOf Try.f10) [1, 1, 1, 1, 1, 0, 1, 0, 0, 1, 0, 0, 1, 1, 1, 0, 1, 0, 1, 1, 1, 1, 1, 1, 1, 1, 1, 1, 0, 1, 0] 471 (fun y : Nat × Option Addr × Nat × PRow => [(0, .vec 0 ao bs.length cap), (3, .ptr 2 b 0), (4, .vec 3 y.2.1 (y.2.2.2).length y.2.2.1), (5, .int .i64 (i : Int)), (6, .ptr 4 b6 0), (7, .int .i64 k), (12, .int .i64 a0), (13, .int .i64 g0), (14, .vec 6 aw ws.length cw), (15, .int .i64 ((syNew x.unit m1 (x.pids.take y.1)).2)), (16, .int .i64 (g1)), (20, .int .i64 (y.1 : Int))]) (fun y : Nat × Option Addr × Nat × PRow => [⟨.sl ao cap, .roL 5 encStepT bs StepT.zero⟩, factsT bs, pkA b trkE (s), ⟨.sl y.2.1 y.2.2.1, .vecL 88 2 encPr (y.2.2.2) zPr⟩, ⟨.blk b6, .cells [.int .i64 x.what, .int .i64 x.a, .int .i64 x.b, .str x.unit, .vec 5 x.ao x.pids.length x.cap] 84⟩, ⟨.sl x.ao x.cap, .roL 1 encI1 x.pids 0⟩, ⟨.sl aw cw, .vecL 3 1 encI1 ws 0⟩]) (fun y : Nat × Option Addr × Nat × PRow => y.1 ≤ x.pids.length ∧ y.2.2.2 = (syNew x.unit m1 (x.pids.take y.1)).1 ∧ (x.unit = ⟨#[]⟩ → y.1 = 0)) (fun y : Nat × Option Addr × Nat × PRow => x.pids.length - y.1) (0, am, cm, m1) (by kernel_rfl) (fun J => by kernel_rfl) ⟨Nat.zero_le _, rfl, fun _ => rfl⟩ h1 h2 hh ?_
  rintro ⟨q, am, cm, m⟩ ⟨hq, hm, hz⟩ u
  dsimp only at hq hm hz
  try dsimp only
  simp only [List.nil_append, List.cons_append]
  refine G_run (kc := false) (ss := [33, 38]) tqT_ok hmQ 1500 ?_
  rw [tq_B]
  have hp30 := hX.hp
  have hcn := syNew_cnt x.unit m1 (x.pids.take q)
  have hle : (x.pids.take q).length ≤ 30 := by simp; omega
  have hml : m.length ≤ 100000 := by rw [hm]; omega
  have hma : Asc m := by rw [hm]; exact syNew_asc hasc _ _
  have w1 : IntKind.wrap .i64 ((q : Int) + 1) = ((q + 1 : Nat) : Int) := IntWalk.i64_in _ (by omega)
  have stop : ∀ (tm : List SV), (sEq x.unit ⟨#[]⟩ = true ∨ q = x.pids.length) → lenN tm = 471 → liveOk tm [(0, .vec 0 ao bs.length cap), (3, .ptr 2 b 0), (4, .vec 3 am (m).length cm), (5, .int .i64 (i : Int)), (6, .ptr 4 b6 0), (7, .int .i64 k), (12, .int .i64 a0), (13, .int .i64 g0), (14, .vec 6 aw ws.length cw), (15, .int .i64 ((syNew x.unit m1 (x.pids.take q)).2)), (16, .int .i64 (g1))] → G Try.prog (endQ Try.prog Try.f10 W F fun _ r => r = .bool true) W F (frmR [(Back W F 471 (fun x : Nat × Trk × Option Addr × Nat × PRow => [(0, .vec 0 ao bs.length cap), (3, .ptr 2 b 0), (4, .vec 3 x.2.2.1 (x.2.2.2.2).length x.2.2.2.1), (5, .int .i64 (x.1 : Int))]) (fun x : Nat × Trk × Option Addr × Nat × PRow => [⟨.sl ao cap, .roL 5 encStepT bs StepT.zero⟩, factsT bs, pkA b trkE (x.2.1), ⟨.sl x.2.2.1 x.2.2.2.1, .vecL 88 2 encPr (x.2.2.2.2) zPr⟩]) (fun x : Nat × Trk × Option Addr × Nat × PRow => x.1 ≤ bs.length ∧ LT bs x.1 x.2.1 x.2.2.2.2) (fun x : Nat × Trk × Option Addr × Nat × PRow => bs.length - x.1) (bs.length - i))] (bodyOf Try.f10) 38) ⟨tm, [⟨.sl ao cap, .roL 5 encStepT bs StepT.zero⟩, factsT bs, pkA b trkE (s), ⟨.sl am cm, .vecL 88 2 encPr (m) zPr⟩, ⟨.blk b6, .cells [.int .i64 x.what, .int .i64 x.a, .int .i64 x.b, .str x.unit, .vec 5 x.ao x.pids.length x.cap] 84⟩, ⟨.sl x.ao x.cap, .roL 1 encI1 x.pids 0⟩, ⟨.sl aw cw, .vecL 3 1 encI1 ws 0⟩]⟩ := fun tm hst r1 r2 => by
    have e : m = (syncF m0 x.unit x.pids).1 ∧ (syNew x.unit m1 (x.pids.take q)).2 = (syncF m0 x.unit x.pids).2.1 := by
      rcases hc with ⟨hu, e⟩ | ⟨hu, e⟩
      · have hq0 := hz ((sEqT _ _).1 hu)
        subst hq0
        rw [e]
        exact ⟨hm, rfl⟩
      · rcases hst with hst | hst
        · rw [hu] at hst; cases hst
        · subst hst
          rw [List.take_length] at hm ⊢
          rw [e]
          exact ⟨hm, rfl⟩
    have e3 : g0 = g1 := by
      rw [hg]
      rcases hc with ⟨_, e⟩ | ⟨_, e⟩ <;> rw [e]
    exact tq38 (m := m) hi hb (by rw [e.1]; exact h) (ha.trans e.2.symm) e3 r1 r2 (fun w hr => hr)
  refine ⟨rfl, ?_⟩
  cases hlt : decide ((q : Int) < (x.pids.length : Int)) with
  | false =>
    simp only [decide_eq_false_iff_not] at hlt
    exact stop _ (.inr (by omega)) rfl ⟨rfl, rfl, rfl, rfl, rfl, rfl, rfl, rfl, rfl, rfl, rfl, trivial⟩
  | true =>
    simp only [decide_eq_true_eq] at hlt
    have hq2 : q < x.pids.length := by omega
    refine ⟨rfl, ?_⟩
    cases hu : sEq x.unit ⟨#[]⟩ with
    | true =>
      rw [Bool.not_true]
      exact stop _ (.inl hu) rfl ⟨rfl, rfl, rfl, rfl, rfl, rfl, rfl, rfl, rfl, rfl, rfl, trivial⟩
    | false =>
      rw [Bool.not_false, Int.toNat_natCast]
      have hnx := syNew_next x.unit m1 x.pids q hq2
      have hgx : x.pids.getD q 0 = x.pids[q] := by simp [List.getD, hq2]
      rw [hgx]
      generalize hpe : x.pids[q] = p at hgx hnx ⊢
      refine ⟨rfl, ⟨rfl, rfl, rfl, by omega, by omega⟩, ⟨rfl, rfl, rfl, hq2⟩, rfl, m, rfl, ⟨rfl, by omega⟩, ?_⟩
      -- behind the row's change
      have same : ∀ (tm : List SV), syN x.unit (syNew x.unit m1 (x.pids.take q)) p = syNew x.unit m1 (x.pids.take q) → lenN tm = 471 → liveOk tm [(0, .vec 0 ao bs.length cap), (3, .ptr 2 b 0), (4, .vec 3 am (m).length cm), (5, .int .i64 (i : Int)), (6, .ptr 4 b6 0), (7, .int .i64 k), (12, .int .i64 a0), (13, .int .i64 g0), (14, .vec 6 aw ws.length cw), (15, .int .i64 ((syNew x.unit m1 (x.pids.take q)).2)), (16, .int .i64 (g1)), (20, .int .i64 ((q + 1 : Nat) : Int))] → G Try.prog (endQ Try.prog Try.f10 W F fun _ r => r = .bool true) W F (.loop (Back W F 471 (fun y : Nat × Option Addr × Nat × PRow => [(0, .vec 0 ao bs.length cap), (3, .ptr 2 b 0), (4, .vec 3 y.2.1 (y.2.2.2).length y.2.2.1), (5, .int .i64 (i : Int)), (6, .ptr 4 b6 0), (7, .int .i64 k), (12, .int .i64 a0), (13, .int .i64 g0), (14, .vec 6 aw ws.length cw), (15, .int .i64 ((syNew x.unit m1 (x.pids.take y.1)).2)), (16, .int .i64 (g1)), (20, .int .i64 (y.1 : Int))]) (fun y : Nat × Option Addr × Nat × PRow => [⟨.sl ao cap, .roL 5 encStepT bs StepT.zero⟩, factsT bs, pkA b trkE (s), ⟨.sl y.2.1 y.2.2.1, .vecL 88 2 encPr (y.2.2.2) zPr⟩, ⟨.blk b6, .cells [.int .i64 x.what, .int .i64 x.a, .int .i64 x.b, .str x.unit, .vec 5 x.ao x.pids.length x.cap] 84⟩, ⟨.sl x.ao x.cap, .roL 1 encI1 x.pids 0⟩, ⟨.sl aw cw, .vecL 3 1 encI1 ws 0⟩]) (fun y : Nat × Option Addr × Nat × PRow => y.1 ≤ x.pids.length ∧ y.2.2.2 = (syNew x.unit m1 (x.pids.take y.1)).1 ∧ (x.unit = ⟨#[]⟩ → y.1 = 0)) (fun y : Nat × Option Addr × Nat × PRow => x.pids.length - y.1) (x.pids.length - q)) :: .blk 7 :: frm [(Back W F 471 (fun x : Nat × Trk × Option Addr × Nat × PRow => [(0, .vec 0 ao bs.length cap), (3, .ptr 2 b 0), (4, .vec 3 x.2.2.1 (x.2.2.2.2).length x.2.2.2.1), (5, .int .i64 (x.1 : Int))]) (fun x : Nat × Trk × Option Addr × Nat × PRow => [⟨.sl ao cap, .roL 5 encStepT bs StepT.zero⟩, factsT bs, pkA b trkE (x.2.1), ⟨.sl x.2.2.1 x.2.2.2.1, .vecL 88 2 encPr (x.2.2.2.2) zPr⟩]) (fun x : Nat × Trk × Option Addr × Nat × PRow => x.1 ≤ bs.length ∧ LT bs x.1 x.2.1 x.2.2.2.2) (fun x : Nat × Trk × Option Addr × Nat × PRow => bs.length - x.1) (bs.length - i))] (bodyOf Try.f10) [1, 1, 1, 1, 1, 0, 1, 0, 0, 1, 0, 0, 1, 1, 1, 0, 1, 0, 1, 1, 1, 1, 1, 1, 1, 1, 1, 1, 1] []) ⟨tm, [⟨.sl ao cap, .roL 5 encStepT bs StepT.zero⟩, factsT bs, pkA b trkE (s), ⟨.sl am cm, .vecL 88 2 encPr (m) zPr⟩, ⟨.blk b6, .cells [.int .i64 x.what, .int .i64 x.a, .int .i64 x.b, .str x.unit, .vec 5 x.ao x.pids.length x.cap] 84⟩, ⟨.sl x.ao x.cap, .roL 1 encI1 x.pids 0⟩, ⟨.sl aw cw, .vecL 3 1 encI1 ws 0⟩]⟩ := fun tm e r1 r2 => by
        rw [e] at hnx
        exact G_back (q + 1, am, cm, m) ⟨by dsimp only; omega, by dsimp only; rw [hnx]; exact hm, fun hh => absurd hh ((sEqF _ _).1 hu)⟩ (by dsimp only; omega) r1 (by dsimp only; rw [hnx]; exact r2) (fun w hr => hr)
      have put36 : ∀ (st : Sy) (am' : Option Addr) (cm' : Nat), syN x.unit (syNew x.unit m1 (x.pids.take q)) p = (insP (rmP m p) (p, x.unit), (syNew x.unit m1 (x.pids.take q)).2 + 1) → lenN st.tmps = 471 → liveOk st.tmps [(0, .vec 0 ao bs.length cap), (3, .ptr 2 b 0), (4, .vec 3 am' (rmP m p).length cm'), (5, .int .i64 (i : Int)), (6, .ptr 4 b6 0), (7, .int .i64 k), (12, .int .i64 a0), (13, .int .i64 g0), (14, .vec 6 aw ws.length cw), (15, .int .i64 ((syNew x.unit m1 (x.pids.take q)).2)), (16, .int .i64 (g1)), (20, .int .i64 (q : Int))] → (∀ w, Rep W F st.heap w → Rep W F [⟨.sl ao cap, .roL 5 encStepT bs StepT.zero⟩, factsT bs, pkA b trkE (s), ⟨.sl am' cm', .vecL 88 2 encPr (rmP m p) zPr⟩, ⟨.blk b6, .cells [.int .i64 x.what, .int .i64 x.a, .int .i64 x.b, .str x.unit, .vec 5 x.ao x.pids.length x.cap] 84⟩, ⟨.sl x.ao x.cap, .roL 1 encI1 x.pids 0⟩, ⟨.sl aw cw, .vecL 3 1 encI1 ws 0⟩] w) → G Try.prog (endQ Try.prog Try.f10 W F fun _ r => r = .bool true) W F (frmR [(Back W F 471 (fun x : Nat × Trk × Option Addr × Nat × PRow => [(0, .vec 0 ao bs.length cap), (3, .ptr 2 b 0), (4, .vec 3 x.2.2.1 (x.2.2.2.2).length x.2.2.2.1), (5, .int .i64 (x.1 : Int))]) (fun x : Nat × Trk × Option Addr × Nat × PRow => [⟨.sl ao cap, .roL 5 encStepT bs StepT.zero⟩, factsT bs, pkA b trkE (x.2.1), ⟨.sl x.2.2.1 x.2.2.2.1, .vecL 88 2 encPr (x.2.2.2.2) zPr⟩]) (fun x : Nat × Trk × Option Addr × Nat × PRow => x.1 ≤ bs.length ∧ LT bs x.1 x.2.1 x.2.2.2.2) (fun x : Nat × Trk × Option Addr × Nat × PRow => bs.length - x.1) (bs.length - i)), (Back W F 471 (fun y : Nat × Option Addr × Nat × PRow => [(0, .vec 0 ao bs.length cap), (3, .ptr 2 b 0), (4, .vec 3 y.2.1 (y.2.2.2).length y.2.2.1), (5, .int .i64 (i : Int)), (6, .ptr 4 b6 0), (7, .int .i64 k), (12, .int .i64 a0), (13, .int .i64 g0), (14, .vec 6 aw ws.length cw), (15, .int .i64 ((syNew x.unit m1 (x.pids.take y.1)).2)), (16, .int .i64 (g1)), (20, .int .i64 (y.1 : Int))]) (fun y : Nat × Option Addr × Nat × PRow => [⟨.sl ao cap, .roL 5 encStepT bs StepT.zero⟩, factsT bs, pkA b trkE (s), ⟨.sl y.2.1 y.2.2.1, .vecL 88 2 encPr (y.2.2.2) zPr⟩, ⟨.blk b6, .cells [.int .i64 x.what, .int .i64 x.a, .int .i64 x.b, .str x.unit, .vec 5 x.ao x.pids.length x.cap] 84⟩, ⟨.sl x.ao x.cap, .roL 1 encI1 x.pids 0⟩, ⟨.sl aw cw, .vecL 3 1 encI1 ws 0⟩]) (fun y : Nat × Option Addr × Nat × PRow => y.1 ≤ x.pids.length ∧ y.2.2.2 = (syNew x.unit m1 (x.pids.take y.1)).1 ∧ (x.unit = ⟨#[]⟩ → y.1 = 0)) (fun y : Nat × Option Addr × Nat × PRow => x.pids.length - y.1) (x.pids.length - q))] (bodyOf Try.f10) 36) st := fun st am' cm' e r1 r2 gh => by
        refine G_live 471 [(0, .vec 0 ao bs.length cap), (3, .ptr 2 b 0), (4, .vec 3 am' (rmP m p).length cm'), (5, .int .i64 (i : Int)), (6, .ptr 4 b6 0), (7, .int .i64 k), (12, .int .i64 a0), (13, .int .i64 g0), (14, .vec 6 aw ws.length cw), (15, .int .i64 ((syNew x.unit m1 (x.pids.take q)).2)), (16, .int .i64 (g1)), (20, .int .i64 (q : Int))] [⟨.sl ao cap, .roL 5 encStepT bs StepT.zero⟩, factsT bs, pkA b trkE (s), ⟨.sl am' cm', .vecL 88 2 encPr (rmP m p) zPr⟩, ⟨.blk b6, .cells [.int .i64 x.what, .int .i64 x.a, .int .i64 x.b, .str x.unit, .vec 5 x.ao x.pids.length x.cap] 84⟩, ⟨.sl x.ao x.cap, .roL 1 encI1 x.pids 0⟩, ⟨.sl aw cw, .vecL 3 1 encI1 ws 0⟩] r1 r2 gh fun u => ?_
        refine G_run (kc := false) (ss := []) tqT_ok hmQ 1500 ?_
        rw [tq_36 (z := 0), Int.toNat_natCast, hgx]
        rw [e] at hnx
        have w2 : IntKind.wrap .i64 ((syNew x.unit m1 (x.pids.take q)).2 + 1) = (syNew x.unit m1 (x.pids.take (q + 1))).2 := by rw [hnx, IntWalk.i64_in _ (by omega)]
        have hrl : (rmP m p).length ≤ 1000000 := by have := rmP_len m p; omega
        have back : ∀ (tm : List SV) (a' : Option Addr) (c' : Nat), lenN tm = 471 → liveOk tm [(0, .vec 0 ao bs.length cap), (3, .ptr 2 b 0), (4, .vec 3 a' (insP (rmP m p) (p, x.unit)).length c'), (5, .int .i64 (i : Int)), (6, .ptr 4 b6 0), (7, .int .i64 k), (12, .int .i64 a0), (13, .int .i64 g0), (14, .vec 6 aw ws.length cw), (15, .int .i64 ((syNew x.unit m1 (x.pids.take (q + 1))).2)), (16, .int .i64 (g1)), (20, .int .i64 ((q + 1 : Nat) : Int))] → G Try.prog (endQ Try.prog Try.f10 W F fun _ r => r = .bool true) W F (.loop (Back W F 471 (fun y : Nat × Option Addr × Nat × PRow => [(0, .vec 0 ao bs.length cap), (3, .ptr 2 b 0), (4, .vec 3 y.2.1 (y.2.2.2).length y.2.2.1), (5, .int .i64 (i : Int)), (6, .ptr 4 b6 0), (7, .int .i64 k), (12, .int .i64 a0), (13, .int .i64 g0), (14, .vec 6 aw ws.length cw), (15, .int .i64 ((syNew x.unit m1 (x.pids.take y.1)).2)), (16, .int .i64 (g1)), (20, .int .i64 (y.1 : Int))]) (fun y : Nat × Option Addr × Nat × PRow => [⟨.sl ao cap, .roL 5 encStepT bs StepT.zero⟩, factsT bs, pkA b trkE (s), ⟨.sl y.2.1 y.2.2.1, .vecL 88 2 encPr (y.2.2.2) zPr⟩, ⟨.blk b6, .cells [.int .i64 x.what, .int .i64 x.a, .int .i64 x.b, .str x.unit, .vec 5 x.ao x.pids.length x.cap] 84⟩, ⟨.sl x.ao x.cap, .roL 1 encI1 x.pids 0⟩, ⟨.sl aw cw, .vecL 3 1 encI1 ws 0⟩]) (fun y : Nat × Option Addr × Nat × PRow => y.1 ≤ x.pids.length ∧ y.2.2.2 = (syNew x.unit m1 (x.pids.take y.1)).1 ∧ (x.unit = ⟨#[]⟩ → y.1 = 0)) (fun y : Nat × Option Addr × Nat × PRow => x.pids.length - y.1) (x.pids.length - q)) :: .blk 7 :: frm [(Back W F 471 (fun x : Nat × Trk × Option Addr × Nat × PRow => [(0, .vec 0 ao bs.length cap), (3, .ptr 2 b 0), (4, .vec 3 x.2.2.1 (x.2.2.2.2).length x.2.2.2.1), (5, .int .i64 (x.1 : Int))]) (fun x : Nat × Trk × Option Addr × Nat × PRow => [⟨.sl ao cap, .roL 5 encStepT bs StepT.zero⟩, factsT bs, pkA b trkE (x.2.1), ⟨.sl x.2.2.1 x.2.2.2.1, .vecL 88 2 encPr (x.2.2.2.2) zPr⟩]) (fun x : Nat × Trk × Option Addr × Nat × PRow => x.1 ≤ bs.length ∧ LT bs x.1 x.2.1 x.2.2.2.2) (fun x : Nat × Trk × Option Addr × Nat × PRow => bs.length - x.1) (bs.length - i))] (bodyOf Try.f10) [1, 1, 1, 1, 1, 0, 1, 0, 0, 1, 0, 0, 1, 1, 1, 0, 1, 0, 1, 1, 1, 1, 1, 1, 1, 1, 1, 1, 1] []) ⟨tm, [⟨.sl ao cap, .roL 5 encStepT bs StepT.zero⟩, factsT bs, pkA b trkE (s), ⟨.sl am' cm', .vecL 88 2 encPr (rmP m p) zPr⟩, ⟨.blk b6, .cells [.int .i64 x.what, .int .i64 x.a, .int .i64 x.b, .str x.unit, .vec 5 x.ao x.pids.length x.cap] 84⟩, ⟨.sl x.ao x.cap, .roL 1 encI1 x.pids 0⟩, ⟨.sl aw cw, .vecL 3 1 encI1 ws 0⟩, vecP a' c' (insP (rmP m p) (p, x.unit))]⟩ := fun tm a' c' r1 r2 =>
          G_back (q + 1, a', c', insP (rmP m p) (p, x.unit)) ⟨by dsimp only; omega, by dsimp only; rw [hnx], fun hh => absurd hh ((sEqF _ _).1 hu)⟩ (by dsimp only; omega) r1 r2 (fun w hr => Rep.pick (π := [0, 1, 2, 7, 4, 5, 6]) (by decide) rfl hr)
        repeat' first
          | exact rfl
          | exact hq2
          | exact hrl
          | exact back _ _ _ rfl ⟨rfl, rfl, rfl, rfl, rfl, rfl, rfl, rfl, rfl, congrArg (Value.int .i64) w2, rfl, congrArg (Value.int .i64) w1, trivial⟩
          | (refine ⟨rmP m p, rfl, ⟨rfl, hrl⟩, fun a' c' => ?_⟩)
          | apply And.intro
          | (show _ ≤ _; omega)
          | (show _ < _; omega)
          | fail
      have put34 : ∀ (tm : List SV), syN x.unit (syNew x.unit m1 (x.pids.take q)) p = (insP (rmP m p) (p, x.unit), (syNew x.unit m1 (x.pids.take q)).2 + 1) → lenN tm = 471 → liveOk tm [(0, .vec 0 ao bs.length cap), (3, .ptr 2 b 0), (4, .vec 3 am (m).length cm), (5, .int .i64 (i : Int)), (6, .ptr 4 b6 0), (7, .int .i64 k), (12, .int .i64 a0), (13, .int .i64 g0), (14, .vec 6 aw ws.length cw), (15, .int .i64 ((syNew x.unit m1 (x.pids.take q)).2)), (16, .int .i64 (g1)), (20, .int .i64 (q : Int)), (21, .int .i64 (atP m p))] → G Try.prog (endQ Try.prog Try.f10 W F fun _ r => r = .bool true) W F (frmR [(Back W F 471 (fun x : Nat × Trk × Option Addr × Nat × PRow => [(0, .vec 0 ao bs.length cap), (3, .ptr 2 b 0), (4, .vec 3 x.2.2.1 (x.2.2.2.2).length x.2.2.2.1), (5, .int .i64 (x.1 : Int))]) (fun x : Nat × Trk × Option Addr × Nat × PRow => [⟨.sl ao cap, .roL 5 encStepT bs StepT.zero⟩, factsT bs, pkA b trkE (x.2.1), ⟨.sl x.2.2.1 x.2.2.2.1, .vecL 88 2 encPr (x.2.2.2.2) zPr⟩]) (fun x : Nat × Trk × Option Addr × Nat × PRow => x.1 ≤ bs.length ∧ LT bs x.1 x.2.1 x.2.2.2.2) (fun x : Nat × Trk × Option Addr × Nat × PRow => bs.length - x.1) (bs.length - i)), (Back W F 471 (fun y : Nat × Option Addr × Nat × PRow => [(0, .vec 0 ao bs.length cap), (3, .ptr 2 b 0), (4, .vec 3 y.2.1 (y.2.2.2).length y.2.2.1), (5, .int .i64 (i : Int)), (6, .ptr 4 b6 0), (7, .int .i64 k), (12, .int .i64 a0), (13, .int .i64 g0), (14, .vec 6 aw ws.length cw), (15, .int .i64 ((syNew x.unit m1 (x.pids.take y.1)).2)), (16, .int .i64 (g1)), (20, .int .i64 (y.1 : Int))]) (fun y : Nat × Option Addr × Nat × PRow => [⟨.sl ao cap, .roL 5 encStepT bs StepT.zero⟩, factsT bs, pkA b trkE (s), ⟨.sl y.2.1 y.2.2.1, .vecL 88 2 encPr (y.2.2.2) zPr⟩, ⟨.blk b6, .cells [.int .i64 x.what, .int .i64 x.a, .int .i64 x.b, .str x.unit, .vec 5 x.ao x.pids.length x.cap] 84⟩, ⟨.sl x.ao x.cap, .roL 1 encI1 x.pids 0⟩, ⟨.sl aw cw, .vecL 3 1 encI1 ws 0⟩]) (fun y : Nat × Option Addr × Nat × PRow => y.1 ≤ x.pids.length ∧ y.2.2.2 = (syNew x.unit m1 (x.pids.take y.1)).1 ∧ (x.unit = ⟨#[]⟩ → y.1 = 0)) (fun y : Nat × Option Addr × Nat × PRow => x.pids.length - y.1) (x.pids.length - q))] (bodyOf Try.f10) 34) ⟨tm, [⟨.sl ao cap, .roL 5 encStepT bs StepT.zero⟩, factsT bs, pkA b trkE (s), ⟨.sl am cm, .vecL 88 2 encPr (m) zPr⟩, ⟨.blk b6, .cells [.int .i64 x.what, .int .i64 x.a, .int .i64 x.b, .str x.unit, .vec 5 x.ao x.pids.length x.cap] 84⟩, ⟨.sl x.ao x.cap, .roL 1 encI1 x.pids 0⟩, ⟨.sl aw cw, .vecL 3 1 encI1 ws 0⟩]⟩ := fun tm e r1 r2 => by
        refine G_live 471 [(0, .vec 0 ao bs.length cap), (3, .ptr 2 b 0), (4, .vec 3 am (m).length cm), (5, .int .i64 (i : Int)), (6, .ptr 4 b6 0), (7, .int .i64 k), (12, .int .i64 a0), (13, .int .i64 g0), (14, .vec 6 aw ws.length cw), (15, .int .i64 ((syNew x.unit m1 (x.pids.take q)).2)), (16, .int .i64 (g1)), (20, .int .i64 (q : Int)), (21, .int .i64 (atP m p))] [⟨.sl ao cap, .roL 5 encStepT bs StepT.zero⟩, factsT bs, pkA b trkE (s), ⟨.sl am cm, .vecL 88 2 encPr (m) zPr⟩, ⟨.blk b6, .cells [.int .i64 x.what, .int .i64 x.a, .int .i64 x.b, .str x.unit, .vec 5 x.ao x.pids.length x.cap] 84⟩, ⟨.sl x.ao x.cap, .roL 1 encI1 x.pids 0⟩, ⟨.sl aw cw, .vecL 3 1 encI1 ws 0⟩] r1 r2 (fun w hr => hr) fun u => ?_
        refine G_run (kc := false) (ss := [36]) tqT_ok hmQ 1500 ?_
        rw [tq_34]
        rcases atP_cases hma p with ⟨z0, z1, z2⟩ | ⟨i', v, hpv, z0, hi', hd, ho⟩
        · have e0 : decide (atP m p ≥ 0) = false := decide_eq_false (by omega)
          rw [e0]
          exact put36 _ am cm e rfl (by rw [z2]; exact ⟨rfl, rfl, rfl, rfl, rfl, rfl, rfl, rfl, rfl, rfl, rfl, rfl, trivial⟩) (fun w hr => by rw [z2]; exact hr)
        · have e0 : decide (atP m p ≥ 0) = true := decide_eq_true (by omega)
          rw [e0]
          refine ⟨rfl, m, i', rfl, ⟨rfl, by omega, z0, hi'⟩, fun a' c' => ?_⟩
          rw [ho]
          exact put36 _ a' c' e rfl ⟨rfl, rfl, rfl, rfl, rfl, rfl, rfl, rfl, rfl, rfl, rfl, rfl, trivial⟩ (fun w hr => Rep.pick (π := [0, 1, 2, 7, 4, 5, 6]) (by decide) rfl hr)
      refine G_live 471 [(0, .vec 0 ao bs.length cap), (3, .ptr 2 b 0), (4, .vec 3 am (m).length cm), (5, .int .i64 (i : Int)), (6, .ptr 4 b6 0), (7, .int .i64 k), (12, .int .i64 a0), (13, .int .i64 g0), (14, .vec 6 aw ws.length cw), (15, .int .i64 ((syNew x.unit m1 (x.pids.take q)).2)), (16, .int .i64 (g1)), (20, .int .i64 (q : Int)), (21, .int .i64 (atP m p))] [⟨.sl ao cap, .roL 5 encStepT bs StepT.zero⟩, factsT bs, pkA b trkE (s), ⟨.sl am cm, .vecL 88 2 encPr (m) zPr⟩, ⟨.blk b6, .cells [.int .i64 x.what, .int .i64 x.a, .int .i64 x.b, .str x.unit, .vec 5 x.ao x.pids.length x.cap] 84⟩, ⟨.sl x.ao x.cap, .roL 1 encI1 x.pids 0⟩, ⟨.sl aw cw, .vecL 3 1 encI1 ws 0⟩] rfl ⟨rfl, rfl, rfl, rfl, rfl, rfl, rfl, rfl, rfl, rfl, rfl, rfl, rfl, trivial⟩ (fun w hr => hr) fun u => ?_
      refine G_run (kc := false) (ss := [34]) tqT_ok hmQ 1500 ?_
      rw [tq_33, Int.toNat_natCast, hgx]
      refine ⟨rfl, ⟨rfl, rfl, rfl, by omega, by omega⟩, ⟨rfl, rfl, rfl, hq2⟩, ?_⟩
      cases h2p : decide (p < 2) with
      | true =>
        have e : syN x.unit (syNew x.unit m1 (x.pids.take q)) p = syNew x.unit m1 (x.pids.take q) := by simp only [syN, h2p, Bool.true_or]
        exact ⟨rfl, rfl, rfl, rfl, rfl, rfl, rfl, rfl, same _ e rfl ⟨rfl, rfl, rfl, rfl, rfl, rfl, rfl, rfl, rfl, rfl, rfl, congrArg (Value.int .i64) w1, trivial⟩⟩
      | false =>
        rcases atP_cases hma p with ⟨z0, z1, z2⟩ | ⟨i', v, hpv, z0, hi', hd, ho⟩
        · have e0 : decide (atP m p ≥ 0) = false := decide_eq_false (by omega)
          have e : syN x.unit (syNew x.unit m1 (x.pids.take q)) p = (insP (rmP m p) (p, x.unit), (syNew x.unit m1 (x.pids.take q)).2 + 1) := by
            simp only [syN, h2p, ← hm, e0, Bool.false_or, Bool.false_and]
          rw [e0]
          exact put34 _ e rfl ⟨rfl, rfl, rfl, rfl, rfl, rfl, rfl, rfl, rfl, rfl, rfl, rfl, rfl, trivial⟩
        · have e0 : decide (atP m p ≥ 0) = true := decide_eq_true (by omega)
          rw [e0]
          have ez : (atP m p).toNat = i' := by rw [z0, Int.toNat_natCast]
          rw [ez, hd]
          refine ⟨⟨rfl, rfl, rfl, by omega, by omega⟩, ⟨rfl, rfl, rfl, hi'⟩, rfl, ?_⟩
          cases hv : sEq v x.unit with
          | true =>
            have e : syN x.unit (syNew x.unit m1 (x.pids.take q)) p = syNew x.unit m1 (x.pids.take q) := by simp only [syN, h2p, ← hm, e0, ez, hd, hv, Bool.false_or, Bool.true_and]
            exact same _ e rfl ⟨rfl, rfl, rfl, rfl, rfl, rfl, rfl, rfl, rfl, rfl, rfl, congrArg (Value.int .i64) w1, trivial⟩
          | false =>
            have e : syN x.unit (syNew x.unit m1 (x.pids.take q)) p = (insP (rmP m p) (p, x.unit), (syNew x.unit m1 (x.pids.take q)).2 + 1) := by simp only [syN, h2p, ← hm, e0, ez, hd, hv, Bool.false_or, Bool.true_and]
            exact put34 _ e rfl ⟨rfl, rfl, rfl, rfl, rfl, rfl, rfl, rfl, rfl, rfl, rfl, rfl, rfl, trivial⟩
end
end Go.Proofs.Ytihajdkipkfiiaa

/- YtihajdkipkfiiaaTq3Run -/
namespace Go.Proofs.Ytihajdkipkfiiaa
set_option linter.unusedVariables false
open Go Go.RowKit
set_option maxHeartbeats 0
set_option maxRecDepth 100000
set_option linter.unusedVariables false
set_option maxRecDepth 100000

theorem tq_A5 (K : List Frm → Sy → Prop) (N : List Ent → SV → Prop) (J0 J1 J2 : Act → World → Prop) (ao : Option Addr) (cap : Nat) (bs : List StepT) (b : Nat) (s : Trk) (am : Option Addr) (cm : Nat) (m : PRow) (i : Nat) (x : StepT) (b6 : Nat) (k a0 g0 : Int) (ws : List Int) (aw : Option Addr) (cw : Nat) (n g : Int) (j q : Nat) (st : Bool) (u : Nat → Value) : (run Try.prog tqT false [] K (retP Try.prog Try.f10.results.toList N) 1500 (frm [J0, J1, J2] (bodyOf Try.f10) [1, 1, 1, 1, 1, 0, 1, 0, 0, 1, 0, 0, 1, 1, 1, 0, 1, 0, 1, 1, 1, 1, 1, 1, 1, 1, 1, 0, 1, 0, 0, 1, 0, 0, 1, 0, 1, 0, 0] []) ⟨mkT u 471 0 [(0, .vec 0 ao bs.length cap), (3, .ptr 2 b 0), (4, .vec 3 am (m).length cm), (5, .int .i64 (i : Int)), (6, .ptr 4 b6 0), (7, .int .i64 k), (12, .int .i64 a0), (13, .int .i64 g0), (14, .vec 6 aw ws.length cw), (15, .int .i64 n), (16, .int .i64 g), (17, .int .i64 (j : Int)), (18, .bool st), (19, .int .i64 (q : Int))], [⟨.sl ao cap, .roL 5 encStepT bs StepT.zero⟩, factsT bs, pkA b trkE (s), ⟨.sl am cm, .vecL 88 2 encPr (m) zPr⟩, ⟨.blk b6, .cells [.int .i64 x.what, .int .i64 x.a, .int .i64 x.b, .str x.unit, .vec 5 x.ao x.pids.length x.cap] 84⟩, ⟨.sl x.ao x.cap, .roL 1 encI1 x.pids 0⟩, ⟨.sl aw cw, .vecL 3 1 encI1 ws 0⟩]⟩) = (
b6 = b6 ∧
 match decide ((↑q : Int) < (↑(List.length x.8) : Int)) with
 | true =>
  match st with
  | true =>
   K
    (Frm.loop J2 ::
     Frm.blk 5 ::
      frm [J0, J1] (bodyOf Try.f10)
       [1, 1, 1, 1, 1, 0, 1, 0, 0, 1, 0, 0, 1, 1, 1, 0,
        1, 0, 1, 1, 1, 1, 1, 1, 1, 1, 1, 0, 1, 0, 0, 1,
        0, 0, 1, 1]
       [])
    (Sy.mk (SV.vec 0 ao (List.length bs) cap :: (SV.raw (u 1) :: (SV.raw (u 2) :: (SV.ptr 2 b 0 :: (SV.vec 3 am (List.length m) cm :: (SV.int IntKind.i64 (↑i : Int) :: (SV.ptr 4 b6 0 :: (SV.int IntKind.i64 k :: (rawR u 8 (SV.int IntKind.i64 a0 :: (SV.int IntKind.i64 g0 :: (SV.vec 6 aw (List.length ws) cw :: (SV.int IntKind.i64 n :: (SV.int IntKind.i64 g :: (SV.int IntKind.i64 (↑j : Int) :: (SV.bool true :: (SV.int IntKind.i64 (IntKind.wrap IntKind.i64 ((↑q : Int) + (1 : Int))) :: (rawR u 20 (SV.int IntKind.i64 (↑q : Int) :: (SV.ptr 4 b6 4 :: (SV.vec 5 x.ao (List.length x.8) x.7 :: (SV.int IntKind.i64 (↑(List.length x.8) : Int) :: (SV.bool true :: (SV.int IntKind.i64 (↑q : Int) :: (SV.int IntKind.i64 (IntKind.wrap IntKind.i64 ((↑q : Int) + (1 : Int))) :: (SV.bool st :: (SV.bool true :: (rawE (SV.bool true :: (rawR u 109 [] 362)) 10)))))))))) 69))))))))) 4)))))))))
     [Ent.mk (Loc.sl ao cap) (SObj.roL 5 encStepT bs (StepT.mk (0 : Int) (0 : Int) (0 : Int) (ByteArray.mk #[]) (@none Addr) 0 0 [])), factsT bs, pkA b trkE s,
      Ent.mk (Loc.sl am cm) (SObj.vecL (88 : TypeId) 2 encPr m ((0 : Int), ByteArray.mk #[])),
      Ent.mk (Loc.blk b6) (SObj.cells [SV.int IntKind.i64 x.1, SV.int IntKind.i64 x.2, SV.int IntKind.i64 x.3, SV.str x.4, SV.vec 5 x.ao (List.length x.8) x.7] (84 : TypeId)),
      Ent.mk (Loc.sl x.ao x.7) (SObj.roL 1 encI1 x.8 (0 : Int)), Ent.mk (Loc.sl aw cw) (SObj.vecL (3 : TypeId) 1 encI1 ws (0 : Int))])
  | false =>
   b6 = b6 ∧
    (x.ao = x.ao ∧ x.7 = x.7 ∧ List.length x.8 = List.length x.8 ∧ (0 : Int) ≤ (↑q : Int) ∧ (↑q : Int) < (↑(List.length x.8) : Int)) ∧
     (Addr.blkD x.ao = Addr.blkD x.ao ∧ Addr.offD x.ao = Addr.offD x.ao ∧ 1 = 1 ∧ Int.toNat (↑q : Int) < List.length x.8) ∧
      (aw = aw ∧ cw = cw ∧ List.length ws = List.length ws ∧ (0 : Int) ≤ (↑j : Int) ∧ (↑j : Int) < (↑(List.length ws) : Int)) ∧
       (Addr.blkD aw = Addr.blkD aw ∧ Addr.offD aw = Addr.offD aw ∧ 1 = 1 ∧ Int.toNat (↑j : Int) < List.length ws) ∧
        K
         (Frm.loop J2 ::
          Frm.blk 5 ::
           frm [J0, J1] (bodyOf Try.f10)
            [1, 1, 1, 1, 1, 0, 1, 0, 0, 1, 0, 0, 1, 1, 1, 0,
             1, 0, 1, 1, 1, 1, 1, 1, 1, 1, 1, 0, 1, 0, 0,
             1, 0, 0, 1, 1]
            [])
         (Sy.mk (SV.vec 0 ao (List.length bs) cap :: (SV.raw (u 1) :: (SV.raw (u 2) :: (SV.ptr 2 b 0 :: (SV.vec 3 am (List.length m) cm :: (SV.int IntKind.i64 (↑i : Int) :: (SV.ptr 4 b6 0 :: (SV.int IntKind.i64 k :: (rawR u 8 (SV.int IntKind.i64 a0 :: (SV.int IntKind.i64 g0 :: (SV.vec 6 aw (List.length ws) cw :: (SV.int IntKind.i64 n :: (SV.int IntKind.i64 g :: (SV.int IntKind.i64 (↑j : Int) :: ((SV.bool (List.getD x.8 (Int.toNat (↑q : Int)) (0 : Int) == List.getD ws (Int.toNat (↑j : Int)) (0 : Int))) :: (SV.int IntKind.i64 (IntKind.wrap IntKind.i64 ((↑q : Int) + (1 : Int))) :: (rawR u 20 (SV.int IntKind.i64 (↑q : Int) :: (SV.ptr 4 b6 4 :: (SV.vec 5 x.ao (List.length x.8) x.7 :: (SV.int IntKind.i64 (↑(List.length x.8) : Int) :: (SV.bool true :: (SV.int IntKind.i64 (↑q : Int) :: (SV.int IntKind.i64 (IntKind.wrap IntKind.i64 ((↑q : Int) + (1 : Int))) :: (SV.bool st :: (SV.bool false :: (SV.ptr 4 b6 4 :: (SV.vec 5 x.ao (List.length x.8) x.7 :: (SV.int IntKind.i64 (↑q : Int) :: (SV.eptr 5 (Addr.blkD x.ao) (Addr.offD x.ao) 1 (Int.toNat (↑q : Int)) 0 :: (SV.int IntKind.i64 (List.getD x.8 (Int.toNat (↑q : Int)) (0 : Int)) :: (SV.vec 6 aw (List.length ws) cw :: (SV.int IntKind.i64 (↑j : Int) :: (SV.eptr 6 (Addr.blkD aw) (Addr.offD aw) 1 (Int.toNat (↑j : Int)) 0 :: (SV.int IntKind.i64 (List.getD ws (Int.toNat (↑j : Int)) (0 : Int)) :: ((SV.bool (List.getD x.8 (Int.toNat (↑q : Int)) (0 : Int) == List.getD ws (Int.toNat (↑j : Int)) (0 : Int))) :: ((SV.bool (List.getD x.8 (Int.toNat (↑q : Int)) (0 : Int) == List.getD ws (Int.toNat (↑j : Int)) (0 : Int))) :: (rawR u 109 [] 362))))))))))))))))))))) 69))))))))) 4)))))))))
          [Ent.mk (Loc.sl ao cap) (SObj.roL 5 encStepT bs (StepT.mk (0 : Int) (0 : Int) (0 : Int) (ByteArray.mk #[]) (@none Addr) 0 0 [])), factsT bs, pkA b trkE s,
           Ent.mk (Loc.sl am cm) (SObj.vecL (88 : TypeId) 2 encPr m ((0 : Int), ByteArray.mk #[])),
           Ent.mk (Loc.blk b6) (SObj.cells [SV.int IntKind.i64 x.1, SV.int IntKind.i64 x.2, SV.int IntKind.i64 x.3, SV.str x.4, SV.vec 5 x.ao (List.length x.8) x.7] (84 : TypeId)),
           Ent.mk (Loc.sl x.ao x.7) (SObj.roL 1 encI1 x.8 (0 : Int)), Ent.mk (Loc.sl aw cw) (SObj.vecL (3 : TypeId) 1 encI1 ws (0 : Int))])
 | false =>
  match !st with
  | true =>
   (aw = aw ∧ cw = cw ∧ List.length ws = List.length ws ∧ (0 : Int) ≤ (↑j : Int) ∧ (↑j : Int) < (↑(List.length ws) : Int)) ∧
    (Addr.blkD aw = Addr.blkD aw ∧ Addr.offD aw = Addr.offD aw ∧ 1 = 1 ∧ Int.toNat (↑j : Int) < List.length ws) ∧
     true = true ∧
      ∃ (m_1 : PRow),
       some (Ent.mk (Loc.sl am cm) (SObj.vecL (88 : TypeId) 2 encPr m ((0 : Int), ByteArray.mk #[]))) = some (vecP am cm m_1) ∧
        (List.length m = List.length m_1 ∧ List.length m_1 ≤ 1000000) ∧
         true = true ∧
          ∃ (m_2 : PRow),
           ∃ (i_1 : Nat),
            some (Ent.mk (Loc.sl am cm) (SObj.vecL (88 : TypeId) 2 encPr m ((0 : Int), ByteArray.mk #[]))) = some (vecP am cm m_2) ∧
             (List.length m = List.length m_2 ∧ List.length m_2 ≤ 1000000 ∧ atP m_1 (List.getD ws (Int.toNat (↑j : Int)) (0 : Int)) = (↑i_1 : Int) ∧ i_1 < List.length m_2) ∧
              ∀ (ao' : Option Addr) (cap' : Nat),
               K
                (Frm.loop J1 ::
                 Frm.blk 3 ::
                  frm [J0] (bodyOf Try.f10)
                   [1, 1, 1, 1, 1, 0, 1, 0, 0, 1, 0, 0, 1, 1,
                    1, 0, 1, 0, 1, 1, 1, 1, 1, 1, 1, 1, 1, 1]
                   [])
                (Sy.mk (SV.vec 0 ao (List.length bs) cap :: (SV.raw (u 1) :: (SV.raw (u 2) :: (SV.ptr 2 b 0 :: (SV.vec 7 ao' (List.length (outP m_2 i_1)) cap' :: (SV.int IntKind.i64 (↑i : Int) :: (SV.ptr 4 b6 0 :: (SV.int IntKind.i64 k :: (rawR u 8 (SV.int IntKind.i64 a0 :: (SV.int IntKind.i64 g0 :: (SV.vec 6 aw (List.length ws) cw :: (SV.int IntKind.i64 n :: (SV.int IntKind.i64 (IntKind.wrap IntKind.i64 (g + (1 : Int))) :: (SV.int IntKind.i64 (IntKind.wrap IntKind.i64 ((↑j : Int) + (1 : Int))) :: (SV.bool st :: (SV.int IntKind.i64 (↑q : Int) :: (rawR u 20 (SV.int IntKind.i64 (↑j : Int) :: (SV.int IntKind.i64 (IntKind.wrap IntKind.i64 ((↑j : Int) + (1 : Int))) :: (SV.int IntKind.i64 (↑q : Int) :: (SV.ptr 4 b6 4 :: (SV.vec 5 x.ao (List.length x.8) x.7 :: (SV.int IntKind.i64 (↑(List.length x.8) : Int) :: (SV.bool false :: (rawR u 94 (SV.bool st :: (SV.bool true :: (SV.int IntKind.i64 g :: (SV.int IntKind.i64 (IntKind.wrap IntKind.i64 (g + (1 : Int))) :: (SV.vec 3 am (List.length m) cm :: (SV.vec 3 am (List.length m) cm :: (SV.vec 6 aw (List.length ws) cw :: (SV.int IntKind.i64 (↑j : Int) :: (SV.eptr 6 (Addr.blkD aw) (Addr.offD aw) 1 (Int.toNat (↑j : Int)) 0 :: (SV.int IntKind.i64 (List.getD ws (Int.toNat (↑j : Int)) (0 : Int)) :: (SV.int IntKind.i64 (atP m_1 (List.getD ws (Int.toNat (↑j : Int)) (0 : Int))) :: (SV.vec 7 ao' (List.length (outP m_2 i_1)) cap' :: (rawR u 121 [] 350))))))))))))) 15)))))))) 67))))))))) 4)))))))))
                 [Ent.mk (Loc.sl ao cap) (SObj.roL 5 encStepT bs (StepT.mk (0 : Int) (0 : Int) (0 : Int) (ByteArray.mk #[]) (@none Addr) 0 0 [])), factsT bs,
                  pkA b trkE s, Ent.mk (Loc.sl am cm) (SObj.vecL (88 : TypeId) 2 encPr m ((0 : Int), ByteArray.mk #[])),
                  Ent.mk (Loc.blk b6)
                   (SObj.cells [SV.int IntKind.i64 x.1, SV.int IntKind.i64 x.2, SV.int IntKind.i64 x.3, SV.str x.4, SV.vec 5 x.ao (List.length x.8) x.7] (84 : TypeId)),
                  Ent.mk (Loc.sl x.ao x.7) (SObj.roL 1 encI1 x.8 (0 : Int)), Ent.mk (Loc.sl aw cw) (SObj.vecL (3 : TypeId) 1 encI1 ws (0 : Int)),
                  vecP ao' cap' (outP m_2 i_1)])
  | false =>
   K
    (Frm.loop J1 ::
     Frm.blk 3 ::
      frm [J0] (bodyOf Try.f10)
       [1, 1, 1, 1, 1, 0, 1, 0, 0, 1, 0, 0, 1, 1, 1, 0,
        1, 0, 1, 1, 1, 1, 1, 1, 1, 1, 1, 1]
       [])
    (Sy.mk (SV.vec 0 ao (List.length bs) cap :: (SV.raw (u 1) :: (SV.raw (u 2) :: (SV.ptr 2 b 0 :: (SV.vec 3 am (List.length m) cm :: (SV.int IntKind.i64 (↑i : Int) :: (SV.ptr 4 b6 0 :: (SV.int IntKind.i64 k :: (rawR u 8 (SV.int IntKind.i64 a0 :: (SV.int IntKind.i64 g0 :: (SV.vec 6 aw (List.length ws) cw :: (SV.int IntKind.i64 n :: (SV.int IntKind.i64 g :: (SV.int IntKind.i64 (IntKind.wrap IntKind.i64 ((↑j : Int) + (1 : Int))) :: (SV.bool st :: (SV.int IntKind.i64 (↑q : Int) :: (rawR u 20 (SV.int IntKind.i64 (↑j : Int) :: (SV.int IntKind.i64 (IntKind.wrap IntKind.i64 ((↑j : Int) + (1 : Int))) :: (SV.int IntKind.i64 (↑q : Int) :: (SV.ptr 4 b6 4 :: (SV.vec 5 x.ao (List.length x.8) x.7 :: (SV.int IntKind.i64 (↑(List.length x.8) : Int) :: (SV.bool false :: (rawR u 94 (SV.bool st :: (SV.bool false :: (rawR u 111 [] 360))) 15)))))))) 67))))))))) 4)))))))))
     [Ent.mk (Loc.sl ao cap) (SObj.roL 5 encStepT bs (StepT.mk (0 : Int) (0 : Int) (0 : Int) (ByteArray.mk #[]) (@none Addr) 0 0 [])), factsT bs, pkA b trkE s,
      Ent.mk (Loc.sl am cm) (SObj.vecL (88 : TypeId) 2 encPr m ((0 : Int), ByteArray.mk #[])),
      Ent.mk (Loc.blk b6) (SObj.cells [SV.int IntKind.i64 x.1, SV.int IntKind.i64 x.2, SV.int IntKind.i64 x.3, SV.str x.4, SV.vec 5 x.ao (List.length x.8) x.7] (84 : TypeId)),
      Ent.mk (Loc.sl x.ao x.7) (SObj.roL 1 encI1 x.8 (0 : Int)), Ent.mk (Loc.sl aw cw) (SObj.vecL (3 : TypeId) 1 encI1 ws (0 : Int))])) := by kernel_rfl
end Go.Proofs.Ytihajdkipkfiiaa

/- YtihajdkipkfiiaaTq4 -/
/- TrackPlays: Sync, the first loop. -/
namespace Go.Proofs.Ytihajdkipkfiiaa
open Go Go.RowKit
set_option linter.unusedVariables false
set_option linter.unusedSimpArgs false
set_option linter.unnecessarySimpa false
set_option maxHeartbeats 0

set_option maxRecDepth 100000
section
variable {W : World} {F : List Ch} {ao : Option Addr} {cap : Nat} {bs : List StepT} {b : Nat} {s : Trk} {am : Option Addr} {cm : Nat} {m : PRow} {i : Nat} {x : StepT} {b6 : Nat} {aw : Option Addr} {cw : Nat} {ws : List Int} {st : Sy} {k a0 g0 n g g1 : Int} {m0 m1 : PRow}
theorem tqA (hi : i < bs.length) (hb : bs.length ≤ 100) (hX : XOk bs i x) (h : LT bs (i + 1) s (syncF m0 x.unit x.pids).1) (ha : a0 = (syncF m0 x.unit x.pids).2.1) (hg : g0 = (syncF m0 x.unit x.pids).2.2) (hasc : Asc m0) (hl : m0.length ≤ 10000) (hws : ws = pidsP m0 x.unit)
    (h1 : lenN st.tmps = 471) (h2 : liveOk st.tmps [(0, .vec 0 ao bs.length cap), (3, .ptr 2 b 0), (4, .vec 3 am (m0).length cm), (5, .int .i64 (i : Int)), (6, .ptr 4 b6 0), (7, .int .i64 k), (12, .int .i64 a0), (13, .int .i64 g0), (14, .vec 6 aw ws.length cw), (15, .int .i64 (0)), (16, .int .i64 ((syGone x.pids m0 (ws.take 0)).2)), (17, .int .i64 (0 : Int))]) (hh : ∀ w, Rep W F st.heap w → Rep W F [⟨.sl ao cap, .roL 5 encStepT bs StepT.zero⟩, factsT bs, pkA b trkE (s), ⟨.sl am cm, .vecL 88 2 encPr (m0) zPr⟩, ⟨.blk b6, .cells [.int .i64 x.what, .int .i64 x.a, .int .i64 x.b, .str x.unit, .vec 5 x.ao x.pids.length x.cap] 84⟩, ⟨.sl x.ao x.cap, .roL 1 encI1 x.pids 0⟩, ⟨.sl aw cw, .vecL 3 1 encI1 ws 0⟩] w) : G Try.prog (endQ Try.prog Try.f10 W F fun _ r => r = .bool true) W F (frm [(Back W F 471 (fun x : Nat × Trk × Option Addr × Nat × PRow => [(0, .vec 0 ao bs.length cap), (3, .ptr 2 b 0), (4, .vec 3 x.2.2.1 (x.2.2.2.2).length x.2.2.2.1), (5, .int .i64 (x.1 : Int))]) (fun x : Nat × Trk × Option Addr × Nat × PRow => [⟨.sl ao cap, .roL 5 encStepT bs StepT.zero⟩, factsT bs, pkA b trkE (x.2.1), ⟨.sl x.2.2.1 x.2.2.2.1, .vecL 88 2 encPr (x.2.2.2.2) zPr⟩]) (fun x : Nat × Trk × Option Addr × Nat × PRow => x.1 ≤ bs.length ∧ LT bs x.1 x.2.1 x.2.2.2.2) (fun x : Nat × Trk × Option Addr × Nat × PRow => bs.length - x.1) (bs.length - i))] (bodyOf Try.f10) [1, 1, 1, 1, 1, 0, 1, 0, 0, 1, 0, 0, 1, 1, 1, 0, 1, 0, 1, 1, 1, 1, 1, 1, 1, 1, 1, 0, 1, 0] []) st := by
  refine G_loopAt (ι := Nat × Option Addr × Nat × PRow) [(Back W F 471 (fun x : Nat × Trk × Option Addr × Nat × PRow => [(0, .vec 0 ao bs.length cap), (3, .ptr 2 b 0), (4, .vec 3 x.2.2.1 (x.2.2.2.2).length x.2.2.2.1), (5, .int .i64 (x.1 : Int))]) (fun x : Nat × Trk × Option Addr × Nat × PRow => [⟨.sl ao cap, .roL 5 encStepT bs StepT.zero⟩, factsT bs, pkA b trkE (x.2.1), ⟨.sl x.2.2.1 x.2.2.2.1, .vecL 88 2 encPr (x.2.2.2.2) zPr⟩]) (fun x : Nat × Trk × Option Addr × Nat × PRow => x.1 ≤ bs.length ∧ LT bs x.1 x.2.1 x.2.2.2.2) (fun x : Nat × Trk × Option Addr × Nat × PRow => bs.length - x.1) (bs.length - i))] (bodyOf Try.f10) [1, 1, 1, 1, 1, 0, 1, 0, 0, 1, 0, 0, 1, 1, 1, 0, 1, 0, 1, 1, 1, 1, 1, 1, 1, 1, 1, 0, 1, 0] 471 (fun y : Nat × Option Addr × Nat × PRow => [(0, .vec 0 ao bs.length cap), (3, .ptr 2 b 0), (4, .vec 3 y.2.1 (y.2.2.2).length y.2.2.1), (5, .int .i64 (i : Int)), (6, .ptr 4 b6 0), (7, .int .i64 k), (12, .int .i64 a0), (13, .int .i64 g0), (14, .vec 6 aw ws.length cw), (15, .int .i64 (0)), (16, .int .i64 ((syGone x.pids m0 (ws.take y.1)).2)), (17, .int .i64 (y.1 : Int))]) (fun y : Nat × Option Addr × Nat × PRow => [⟨.sl ao cap, .roL 5 encStepT bs StepT.zero⟩, factsT bs, pkA b trkE (s), ⟨.sl y.2.1 y.2.2.1, .vecL 88 2 encPr (y.2.2.2) zPr⟩, ⟨.blk b6, .cells [.int .i64 x.what, .int .i64 x.a, .int .i64 x.b, .str x.unit, .vec 5 x.ao x.pids.length x.cap] 84⟩, ⟨.sl x.ao x.cap, .roL 1 encI1 x.pids 0⟩, ⟨.sl aw cw, .vecL 3 1 encI1 ws 0⟩]) (fun y : Nat × Option Addr × Nat × PRow => y.1 ≤ ws.length ∧ y.2.2.2 = (syGone x.pids m0 (ws.take y.1)).1 ∧ (x.unit = ⟨#[]⟩ → y.1 = 0)) (fun y : Nat × Option Addr × Nat × PRow => ws.length - y.1) (0, am, cm, m0) (by kernel_rfl) (fun J => by kernel_rfl) ⟨Nat.zero_le _, rfl, fun _ => rfl⟩ h1 h2 hh ?_
  rintro ⟨j, am, cm, m⟩ ⟨hj, hm, hz⟩ u
  dsimp only at hj hm hz
  try dsimp only
  simp only [List.nil_append, List.cons_append]
  refine G_run (kc := false) (ss := [26]) tqT_ok hmQ 900 ?_
  rw [tq_A]
  have hp30 := hX.hp
  have hwl : ws.length ≤ 10000 := by rw [hws]; have := pidsP_leT m0 x.unit; omega
  have hcn := syGone_cnt x.pids m0 (ws.take j)
  have hle : (ws.take j).length ≤ 10000 := by simp; omega
  have hml : m.length ≤ 10000 := by rw [hm]; have := syGone_le x.pids m0 (ws.take j); omega
  have hma : Asc m := by rw [hm]; exact syGone_asc hasc _ _
  have w1 : IntKind.wrap .i64 ((j : Int) + 1) = ((j + 1 : Nat) : Int) := IntWalk.i64_in _ (by omega)
  have next : ∀ (tm : List SV), (x.unit = ⟨#[]⟩ ∨ j = ws.length) → lenN tm = 471 → liveOk tm [(0, .vec 0 ao bs.length cap), (3, .ptr 2 b 0), (4, .vec 3 am (m).length cm), (5, .int .i64 (i : Int)), (6, .ptr 4 b6 0), (7, .int .i64 k), (12, .int .i64 a0), (13, .int .i64 g0), (14, .vec 6 aw ws.length cw), (15, .int .i64 ((0 : Int))), (16, .int .i64 ((syGone x.pids m0 (ws.take j)).2)), (20, .int .i64 (0 : Int))] → G Try.prog (endQ Try.prog Try.f10 W F fun _ r => r = .bool true) W F (frm [(Back W F 471 (fun x : Nat × Trk × Option Addr × Nat × PRow => [(0, .vec 0 ao bs.length cap), (3, .ptr 2 b 0), (4, .vec 3 x.2.2.1 (x.2.2.2.2).length x.2.2.2.1), (5, .int .i64 (x.1 : Int))]) (fun x : Nat × Trk × Option Addr × Nat × PRow => [⟨.sl ao cap, .roL 5 encStepT bs StepT.zero⟩, factsT bs, pkA b trkE (x.2.1), ⟨.sl x.2.2.1 x.2.2.2.1, .vecL 88 2 encPr (x.2.2.2.2) zPr⟩]) (fun x : Nat × Trk × Option Addr × Nat × PRow => x.1 ≤ bs.length ∧ LT bs x.1 x.2.1 x.2.2.2.2) (fun x : Nat × Trk × Option Addr × Nat × PRow => bs.length - x.1) (bs.length - i))] (bodyOf Try.f10) [1, 1, 1, 1, 1, 0, 1, 0, 0, 1, 0, 0, 1, 1, 1, 0, 1, 0, 1, 1, 1, 1, 1, 1, 1, 1, 1, 1, 0, 1, 0] []) ⟨tm, [⟨.sl ao cap, .roL 5 encStepT bs StepT.zero⟩, factsT bs, pkA b trkE (s), ⟨.sl am cm, .vecL 88 2 encPr (m) zPr⟩, ⟨.blk b6, .cells [.int .i64 x.what, .int .i64 x.a, .int .i64 x.b, .str x.unit, .vec 5 x.ao x.pids.length x.cap] 84⟩, ⟨.sl x.ao x.cap, .roL 1 encI1 x.pids 0⟩, ⟨.sl aw cw, .vecL 3 1 encI1 ws 0⟩]⟩ := fun tm hst r1 r2 => by
    refine tqB (m0 := m0) (m1 := m) (g1 := (syGone x.pids m0 (ws.take j)).2) hi hb hX h ha hg ?_ hma hml r1 r2 (fun w hr => hr)
    by_cases hu : x.unit = ⟨#[]⟩
    · left
      have hj0 := hz hu
      subst hj0
      refine ⟨(sEqT _ _).2 hu, ?_⟩
      unfold syncF
      rw [(sEqT _ _).2 hu, hm]
      rfl
    · right
      have hjl : j = ws.length := by
        rcases hst with h | h
        · exact absurd h hu
        · exact h
      subst hjl
      refine ⟨(sEqF _ _).2 hu, ?_⟩
      unfold syncF
      rw [(sEqF _ _).2 hu]
      rw [List.take_length] at hm ⊢
      rw [hm, hws]
  cases hlt : decide ((j : Int) < (ws.length : Int)) with
  | false =>
    simp only [decide_eq_false_iff_not] at hlt
    exact next _ (.inr (by omega)) rfl ⟨rfl, rfl, rfl, rfl, rfl, rfl, rfl, rfl, rfl, rfl, rfl, rfl, trivial⟩
  | true =>
    simp only [decide_eq_true_eq] at hlt
    have hj2 : j < ws.length := by omega
    refine ⟨rfl, ?_⟩
    rcases Bool.eq_false_or_eq_true (sEq x.unit ⟨#[]⟩) with hu | hu
    · rw [hu, Bool.not_true]
      exact next _ (.inl ((sEqT _ _).1 hu)) rfl ⟨rfl, rfl, rfl, rfl, rfl, rfl, rfl, rfl, rfl, rfl, rfl, rfl, trivial⟩
    · rw [hu, Bool.not_false]
      have hne := (sEqF _ _).1 hu
      have hnx := syGone_next x.pids m0 ws j hj2
      refine G_loopAt (ι := Nat) [(Back W F 471 (fun x : Nat × Trk × Option Addr × Nat × PRow => [(0, .vec 0 ao bs.length cap), (3, .ptr 2 b 0), (4, .vec 3 x.2.2.1 (x.2.2.2.2).length x.2.2.2.1), (5, .int .i64 (x.1 : Int))]) (fun x : Nat × Trk × Option Addr × Nat × PRow => [⟨.sl ao cap, .roL 5 encStepT bs StepT.zero⟩, factsT bs, pkA b trkE (x.2.1), ⟨.sl x.2.2.1 x.2.2.2.1, .vecL 88 2 encPr (x.2.2.2.2) zPr⟩]) (fun x : Nat × Trk × Option Addr × Nat × PRow => x.1 ≤ bs.length ∧ LT bs x.1 x.2.1 x.2.2.2.2) (fun x : Nat × Trk × Option Addr × Nat × PRow => bs.length - x.1) (bs.length - i)), (Back W F 471 (fun y : Nat × Option Addr × Nat × PRow => [(0, .vec 0 ao bs.length cap), (3, .ptr 2 b 0), (4, .vec 3 y.2.1 (y.2.2.2).length y.2.2.1), (5, .int .i64 (i : Int)), (6, .ptr 4 b6 0), (7, .int .i64 k), (12, .int .i64 a0), (13, .int .i64 g0), (14, .vec 6 aw ws.length cw), (15, .int .i64 (0)), (16, .int .i64 ((syGone x.pids m0 (ws.take y.1)).2)), (17, .int .i64 (y.1 : Int))]) (fun y : Nat × Option Addr × Nat × PRow => [⟨.sl ao cap, .roL 5 encStepT bs StepT.zero⟩, factsT bs, pkA b trkE (s), ⟨.sl y.2.1 y.2.2.1, .vecL 88 2 encPr (y.2.2.2) zPr⟩, ⟨.blk b6, .cells [.int .i64 x.what, .int .i64 x.a, .int .i64 x.b, .str x.unit, .vec 5 x.ao x.pids.length x.cap] 84⟩, ⟨.sl x.ao x.cap, .roL 1 encI1 x.pids 0⟩, ⟨.sl aw cw, .vecL 3 1 encI1 ws 0⟩]) (fun y : Nat × Option Addr × Nat × PRow => y.1 ≤ ws.length ∧ y.2.2.2 = (syGone x.pids m0 (ws.take y.1)).1 ∧ (x.unit = ⟨#[]⟩ → y.1 = 0)) (fun y : Nat × Option Addr × Nat × PRow => ws.length - y.1) (ws.length - j))] (bodyOf Try.f10) [1, 1, 1, 1, 1, 0, 1, 0, 0, 1, 0, 0, 1, 1, 1, 0, 1, 0, 1, 1, 1, 1, 1, 1, 1, 1, 1, 0, 1, 0, 0, 1, 0, 0, 1, 0, 1, 0] 471 (fun q : Nat => [(0, .vec 0 ao bs.length cap), (3, .ptr 2 b 0), (4, .vec 3 am (m).length cm), (5, .int .i64 (i : Int)), (6, .ptr 4 b6 0), (7, .int .i64 k), (12, .int .i64 a0), (13, .int .i64 g0), (14, .vec 6 aw ws.length cw), (15, .int .i64 (0)), (16, .int .i64 ((syGone x.pids m0 (ws.take j)).2)), (17, .int .i64 (j : Int)), (18, .bool ((x.pids.take q).contains ws[j])), (19, .int .i64 (q : Int))]) (fun _ : Nat => [⟨.sl ao cap, .roL 5 encStepT bs StepT.zero⟩, factsT bs, pkA b trkE (s), ⟨.sl am cm, .vecL 88 2 encPr (m) zPr⟩, ⟨.blk b6, .cells [.int .i64 x.what, .int .i64 x.a, .int .i64 x.b, .str x.unit, .vec 5 x.ao x.pids.length x.cap] 84⟩, ⟨.sl x.ao x.cap, .roL 1 encI1 x.pids 0⟩, ⟨.sl aw cw, .vecL 3 1 encI1 ws 0⟩]) (fun q : Nat => q ≤ x.pids.length) (fun q : Nat => x.pids.length - q) 0 (by kernel_rfl) (fun J => by kernel_rfl) (Nat.zero_le _) rfl ⟨rfl, rfl, rfl, rfl, rfl, rfl, rfl, rfl, rfl, rfl, rfl, rfl, rfl, rfl, trivial⟩ (fun w hr => hr) ?_
      rintro q hq u
      try dsimp only at hq
      try dsimp only
      simp only [List.nil_append, List.cons_append]
      refine G_run (kc := false) (ss := []) tqT_ok hmQ 1500 ?_
      rw [tq_A5]
      have w2 : IntKind.wrap .i64 ((q : Int) + 1) = ((q + 1 : Nat) : Int) := IntWalk.i64_in _ (by omega)
      have hgw : ws.getD j 0 = ws[j] := by simp [List.getD, hj2]
      refine ⟨rfl, ?_⟩
      cases hlt2 : decide ((q : Int) < (x.pids.length : Int)) with
      | true =>
        simp only [decide_eq_true_eq] at hlt2
        have hq2 : q < x.pids.length := by omega
        have hcx := contains_next x.pids q hq2 ws[j]
        have hgx : x.pids.getD q 0 = x.pids[q] := by simp [List.getD, hq2]
        cases hst : (x.pids.take q).contains ws[j] with
        | true =>
          rw [hst, Bool.true_or] at hcx
          exact G_back (q + 1) hq2 (by omega) rfl (by rw [hcx]; exact ⟨rfl, rfl, rfl, rfl, rfl, rfl, rfl, rfl, rfl, rfl, rfl, rfl, rfl, congrArg (Value.int .i64) w2, trivial⟩) (fun w hr => hr)
        | false =>
          rw [hst, Bool.false_or] at hcx
          rw [Int.toNat_natCast, Int.toNat_natCast, hgw, hgx]
          refine ⟨rfl, ⟨rfl, rfl, rfl, by omega, by omega⟩, ⟨rfl, rfl, rfl, hq2⟩, ⟨rfl, rfl, rfl, by omega, by omega⟩, ⟨rfl, rfl, rfl, hj2⟩, ?_⟩
          exact G_back (q + 1) hq2 (by omega) rfl (by rw [hcx]; exact ⟨rfl, rfl, rfl, rfl, rfl, rfl, rfl, rfl, rfl, rfl, rfl, rfl, rfl, congrArg (Value.int .i64) w2, trivial⟩) (fun w hr => hr)
      | false =>
        simp only [decide_eq_false_iff_not] at hlt2
        obtain rfl : q = x.pids.length := by omega
        rw [List.take_length]
        cases hst : x.pids.contains ws[j] with
        | true =>
          rw [Bool.not_true]
          simp only [syG, hst] at hnx
          exact G_back (j + 1, am, cm, m) ⟨by dsimp only; omega, by dsimp only; rw [hnx]; exact hm, fun hh => absurd hh hne⟩ (by dsimp only; omega) rfl (by dsimp only; rw [hnx]; exact ⟨rfl, rfl, rfl, rfl, rfl, rfl, rfl, rfl, rfl, rfl, rfl, congrArg (Value.int .i64) w1, trivial⟩) (fun w hr => hr)
        | false =>
          rw [Bool.not_false, Int.toNat_natCast j, hgw]
          simp only [syG, hst] at hnx
          have hthere : (ws[j], x.unit) ∈ m := by
            subst hws
            rw [hm]
            exact syGone_there hasc x.unit x.pids hj2
          obtain ⟨i', z0, hi', hd, ho⟩ := outP_at hma hthere
          have w3 : IntKind.wrap .i64 ((syGone x.pids m0 (ws.take j)).2 + 1) = (syGone x.pids m0 (ws.take (j + 1))).2 := by rw [hnx, IntWalk.i64_in _ (by omega)]
          refine ⟨⟨rfl, rfl, rfl, by omega, by omega⟩, ⟨rfl, rfl, rfl, hj2⟩, rfl, m, rfl, ⟨rfl, by omega⟩, rfl, m, i', rfl, ⟨rfl, by omega, z0, hi'⟩, fun a' c' => ?_⟩
          rw [ho]
          exact G_back (j + 1, a', c', rmP m ws[j]) ⟨by dsimp only; omega, by dsimp only; rw [hnx, hm], fun hh => absurd hh hne⟩ (by dsimp only; omega) rfl ⟨rfl, rfl, rfl, rfl, rfl, rfl, rfl, rfl, rfl, rfl, congrArg (Value.int .i64) w3, congrArg (Value.int .i64) w1, trivial⟩ (fun w hr => Rep.pick (π := [0, 1, 2, 7, 4, 5, 6]) (by decide) rfl hr)
theorem tq15 (hi : i < bs.length) (hb : bs.length ≤ 100) (hX : XOk bs i x) (h : LT bs i s m) (h1 : lenN st.tmps = 471) (h2 : liveOk st.tmps [(0, .vec 0 ao bs.length cap), (3, .ptr 2 b 0), (4, .vec 3 am (m).length cm), (5, .int .i64 (i : Int)), (6, .ptr 4 b6 0), (7, .int .i64 k)]) (hh : ∀ w, Rep W F st.heap w → Rep W F [⟨.sl ao cap, .roL 5 encStepT bs StepT.zero⟩, factsT bs, pkA b trkE (s), ⟨.sl am cm, .vecL 88 2 encPr (m) zPr⟩, ⟨.blk b6, .cells [.int .i64 x.what, .int .i64 x.a, .int .i64 x.b, .str x.unit, .vec 5 x.ao x.pids.length x.cap] 84⟩, ⟨.sl x.ao x.cap, .roL 1 encI1 x.pids 0⟩] w) : G Try.prog (endQ Try.prog Try.f10 W F fun _ r => r = .bool true) W F (frmR [(Back W F 471 (fun x : Nat × Trk × Option Addr × Nat × PRow => [(0, .vec 0 ao bs.length cap), (3, .ptr 2 b 0), (4, .vec 3 x.2.2.1 (x.2.2.2.2).length x.2.2.2.1), (5, .int .i64 (x.1 : Int))]) (fun x : Nat × Trk × Option Addr × Nat × PRow => [⟨.sl ao cap, .roL 5 encStepT bs StepT.zero⟩, factsT bs, pkA b trkE (x.2.1), ⟨.sl x.2.2.1 x.2.2.2.1, .vecL 88 2 encPr (x.2.2.2.2) zPr⟩]) (fun x : Nat × Trk × Option Addr × Nat × PRow => x.1 ≤ bs.length ∧ LT bs x.1 x.2.1 x.2.2.2.2) (fun x : Nat × Trk × Option Addr × Nat × PRow => bs.length - x.1) (bs.length - i))] (bodyOf Try.f10) 15) st := by
  refine G_live 471 [(0, .vec 0 ao bs.length cap), (3, .ptr 2 b 0), (4, .vec 3 am (m).length cm), (5, .int .i64 (i : Int)), (6, .ptr 4 b6 0), (7, .int .i64 k)] [⟨.sl ao cap, .roL 5 encStepT bs StepT.zero⟩, factsT bs, pkA b trkE (s), ⟨.sl am cm, .vecL 88 2 encPr (m) zPr⟩, ⟨.blk b6, .cells [.int .i64 x.what, .int .i64 x.a, .int .i64 x.b, .str x.unit, .vec 5 x.ao x.pids.length x.cap] 84⟩, ⟨.sl x.ao x.cap, .roL 1 encI1 x.pids 0⟩] h1 h2 hh fun u => ?_
  refine G_run (kc := false) (ss := [62]) tqT_ok hmQ 1500 ?_
  rw [tq_15]
  have hml : m.length ≤ 10000 := by have := h.len; omega
  have hp30 := hX.hp
  have loop : ∀ (tm : List SV) (s' : Trk) (ao2 : Option Addr) (cap2 : Nat) (aw : Option Addr) (cw : Nat), TM s' (syncF m x.unit x.pids).1 → lenN tm = 471 → liveOk tm [(0, .vec 0 ao bs.length cap), (3, .ptr 2 b 0), (4, .vec 3 am (m).length cm), (5, .int .i64 (i : Int)), (6, .ptr 4 b6 0), (7, .int .i64 k), (12, .int .i64 (syncF m x.unit x.pids).2.1), (13, .int .i64 (syncF m x.unit x.pids).2.2), (14, .vec 7 aw (pidsP m x.unit).length cw), (15, .int .i64 0), (16, .int .i64 0), (17, .int .i64 0)] → G Try.prog (endQ Try.prog Try.f10 W F fun _ r => r = .bool true) W F (frm [(Back W F 471 (fun x : Nat × Trk × Option Addr × Nat × PRow => [(0, .vec 0 ao bs.length cap), (3, .ptr 2 b 0), (4, .vec 3 x.2.2.1 (x.2.2.2.2).length x.2.2.2.1), (5, .int .i64 (x.1 : Int))]) (fun x : Nat × Trk × Option Addr × Nat × PRow => [⟨.sl ao cap, .roL 5 encStepT bs StepT.zero⟩, factsT bs, pkA b trkE (x.2.1), ⟨.sl x.2.2.1 x.2.2.2.1, .vecL 88 2 encPr (x.2.2.2.2) zPr⟩]) (fun x : Nat × Trk × Option Addr × Nat × PRow => x.1 ≤ bs.length ∧ LT bs x.1 x.2.1 x.2.2.2.2) (fun x : Nat × Trk × Option Addr × Nat × PRow => bs.length - x.1) (bs.length - i))] (bodyOf Try.f10) [1, 1, 1, 1, 1, 0, 1, 0, 0, 1, 0, 0, 1, 1, 1, 0, 1, 0, 1, 1, 1, 1, 1, 1, 1, 1, 1, 0, 1, 0] []) ⟨tm, [⟨.sl ao cap, .roL 5 encStepT bs StepT.zero⟩, factsT bs, pkA b trkE (s'), ⟨.sl am cm, .vecL 88 2 encPr (m) zPr⟩, ⟨.blk b6, .cells [.int .i64 x.what, .int .i64 x.a, .int .i64 x.b, .str x.unit, .vec 5 x.ao x.pids.length x.cap] 84⟩, ⟨.sl x.ao x.cap, .roL 1 encI1 x.pids 0⟩, ⟨.sl ao2 cap2, .vecL 3 1 encI1 x.pids 0⟩, ⟨.sl aw cw, .vecL 3 1 encI1 (pidsP m x.unit) 0⟩]⟩ := fun tm s' ao2 cap2 aw cw ht r1 r2 =>
    tqA (m0 := m) (ws := pidsP m x.unit) hi hb hX (h.sync hX.un (by omega) ht) rfl rfl h.tm.asc hml rfl r1 r2 (fun w hr => Rep.pick (π := [0, 1, 2, 3, 4, 5, 7]) (by decide) rfl hr)
  repeat' first
    | exact rfl
    | exact HEq.rfl
    | exact h.tm
    | exact hX.hu
    | exact hX.wp
    | exact loop _ _ _ _ _ _ (by assumption) rfl ⟨rfl, rfl, rfl, rfl, rfl, rfl, rfl, rfl, rfl, rfl, rfl, rfl, trivial⟩
    | (refine ⟨x.pids, m, rfl, ⟨h.tm, rfl⟩, ⟨rfl, by omega, by omega, hX.hu, hX.wp⟩, fun s' hs' => ?_⟩)
    | (refine ⟨m, rfl, ⟨rfl, by omega⟩, fun aw cw => ?_⟩)
    | apply And.intro
    | (refine ⟨rfl, ?_⟩)
    | (refine fun ao2 cap2 _ => ?_)
    | (show _ ≤ _; omega)
    | fail
end
end Go.Proofs.Ytihajdkipkfiiaa

/- YtihajdkipkfiiaaTq7Run -/
namespace Go.Proofs.Ytihajdkipkfiiaa
set_option linter.unusedVariables false
open Go Go.RowKit
set_option maxHeartbeats 0
set_option maxRecDepth 100000
set_option linter.unusedVariables false
set_option maxRecDepth 100000

theorem tq_81 (K : List Frm → Sy → Prop) (N : List Ent → SV → Prop) (ao : Option Addr) (cap : Nat) (bs : List StepT) (b : Nat) (s : Trk) (am : Option Addr) (cm : Nat) (m : PRow) (u : Nat → Value) : (run Try.prog tqT false [] K (retP Try.prog Try.f10.results.toList N) 1500 (frmR [] (bodyOf Try.f10) 81) ⟨mkT u 471 0 [(0, .vec 0 ao bs.length cap), (3, .ptr 2 b 0), (4, .vec 3 am (m).length cm)], [⟨.sl ao cap, .roL 5 encStepT bs StepT.zero⟩, factsT bs, pkA b trkE (s), ⟨.sl am cm, .vecL 88 2 encPr (m) zPr⟩]⟩) = (
∀ (b_1 : Nat),
 true = true ∧
  b = b ∧
   ∃ (h : Trk = Trk),
    AdtIs (fun (s : Trk) (b : Nat) ↦ packs (trkE s b)) trkE ∧
     wfS (cast h s).ps ∧
      ∀ (ao_1 : Option Addr) (cap_1 bx : Nat),
       true = true ∧
        58 = (58 : FuncId) ∧
         ∃ (xs : List ByteArray),
          ∃ (lv : Nat),
           ∃ (ao_2 : Option Addr),
            ∃ (cap_2 : Nat),
             some (Ent.mk (Loc.blk b_1) (SObj.cells [SV.raw (Value.slice (@none Addr) 0 0)] 93)) =
              some (Ent.mk (Loc.blk b_1) (SObj.cells [SV.raw (Value.slice (@none Addr) 0 0)] (93 : TypeId))) ∧
              some (Ent.mk (Loc.blk bx) (SObj.cells [SV.vec 5 ao_1 (List.length (sortS s.4)) cap_1] (93 : TypeId))) =
               some (Ent.mk (Loc.blk bx) (SObj.cells [SV.vec lv ao_2 (List.length xs) cap_2] (93 : TypeId))) ∧
               nth
                [Ent.mk (Loc.sl ao cap) (SObj.roL 5 encStepT bs (StepT.mk (0 : Int) (0 : Int) (0 : Int) (ByteArray.mk #[]) (@none Addr) 0 0 [])), factsT bs,
                 pkA b trkE s, Ent.mk (Loc.sl am cm) (SObj.vecL (88 : TypeId) 2 encPr m ((0 : Int), ByteArray.mk #[])),
                 Ent.mk (Loc.blk b_1) (SObj.cells [SV.raw (Value.slice (@none Addr) 0 0)] 93),
                 Ent.mk (Loc.sl ao_1 cap_1) (SObj.vecL (9 : TypeId) 1 encS (sortS s.4) ByteArray.empty),
                 Ent.mk (Loc.blk bx) (SObj.cells [SV.vec 5 ao_1 (List.length (sortS s.4)) cap_1] (93 : TypeId))]
                lv =
                some (Ent.mk (Loc.sl ao_2 cap_2) (SObj.vecL (9 : TypeId) 1 encS xs ByteArray.empty)) ∧
                ((false = false ∧ Nat.beq 4 lv = false ∧ Nat.beq 6 lv = false) ∧ List.length xs ≤ 400) ∧
                 ∀ (ag : Option Addr) (cg : Nat),
                  K (frm [] (bodyOf Try.f10) [1, 1, 1, 1, 1, 1, 1, 1, 0, 1, 0] [])
                   (Sy.mk (SV.vec 0 ao (List.length bs) cap :: (SV.raw (u 1) :: (SV.raw (u 2) :: (SV.ptr 2 b 0 :: (SV.vec 3 am (List.length m) cm :: (rawR u 5 (SV.ptr 4 b_1 0 :: (SV.int IntKind.i64 (0 : Int) :: (rawR u 29 (SV.ptr 2 b 0 :: (SV.func (Fn.func (104 : FuncId)) [] [SV.ptr 6 bx 0] :: (SV.func (Fn.func 58) [] [SV.ptr 4 b_1 0] :: (SV.tuple [] :: (rawR u 414 [] 57))))) 381))) 22))))))
                    [Ent.mk (Loc.sl ao cap) (SObj.roL 5 encStepT bs (StepT.mk (0 : Int) (0 : Int) (0 : Int) (ByteArray.mk #[]) (@none Addr) 0 0 [])),
                     factsT bs, pkA b trkE s, Ent.mk (Loc.sl am cm) (SObj.vecL (88 : TypeId) 2 encPr m ((0 : Int), ByteArray.mk #[])),
                     Ent.mk (Loc.blk b_1) (SObj.cells [SV.vec 7 ag (List.length xs) cg] (93 : TypeId)),
                     Ent.mk (Loc.sl ao_1 cap_1) (SObj.vecL (9 : TypeId) 1 encS (sortS s.4) ByteArray.empty),
                     Ent.mk (Loc.blk bx) (SObj.cells [SV.vec 5 ao_1 (List.length (sortS s.4)) cap_1] (93 : TypeId)),
                     Ent.mk (Loc.sl ag cg) (SObj.vecL (9 : TypeId) 1 encS xs ByteArray.empty)])) := by kernel_rfl
end Go.Proofs.Ytihajdkipkfiiaa

/- YtihajdkipkfiiaaTq8Run -/
namespace Go.Proofs.Ytihajdkipkfiiaa
set_option linter.unusedVariables false
open Go Go.RowKit
set_option maxHeartbeats 0
set_option maxRecDepth 100000
set_option linter.unusedVariables false
set_option maxRecDepth 100000

theorem tq_U (K : List Frm → Sy → Prop) (N : List Ent → SV → Prop) (J0 : Act → World → Prop) (ao : Option Addr) (cap : Nat) (bs : List StepT) (b : Nat) (s : Trk) (am : Option Addr) (cm : Nat) (m : PRow) (b7 : Nat) (us : List ByteArray) (au : Option Addr) (cu : Nat) (j : Nat) (u : Nat → Value) : (run Try.prog tqT true [] K (retP Try.prog Try.f10.results.toList N) 2000 (frm [J0] (bodyOf Try.f10) [1, 1, 1, 1, 1, 1, 1, 1, 0, 1, 0, 0] []) ⟨mkT u 471 0 [(4, .vec 3 am m.length cm), (27, .ptr 4 b7 0), (28, .int .i64 (j : Int))], [⟨.sl ao cap, .roL 5 encStepT bs StepT.zero⟩, factsT bs, pkA b trkE (s), ⟨.sl am cm, .vecL 88 2 encPr (m) zPr⟩, ⟨.blk b7, .cells [.vec 5 au us.length cu] 93⟩, ⟨.sl au cu, .vecL 9 1 encS us ByteArray.empty⟩]⟩) = (
b7 = b7 ∧
 match decide ((↑j : Int) < (↑(List.length us) : Int)) with
 | true =>
  b7 = b7 ∧
   (au = au ∧ cu = cu ∧ List.length us = List.length us ∧ (0 : Int) ≤ (↑j : Int) ∧ (↑j : Int) < (↑(List.length us) : Int)) ∧
    (Addr.blkD au = Addr.blkD au ∧ Addr.offD au = Addr.offD au ∧ 1 = 1 ∧ Int.toNat (↑j : Int) < List.length us) ∧
     true = true ∧
      ∃ (m_1 : PRow),
       some (Ent.mk (Loc.sl am cm) (SObj.vecL (88 : TypeId) 2 encPr m ((0 : Int), ByteArray.mk #[]))) = some (vecP am cm m_1) ∧
        (List.length m = List.length m_1 ∧ List.length m_1 ≤ 1000000) ∧
         ∀ (ao' : Option Addr) (cap' : Nat),
          (Ent.mk (Loc.sl ao cap) (SObj.roL 5 encStepT bs (StepT.mk (0 : Int) (0 : Int) (0 : Int) (ByteArray.mk #[]) (@none Addr) 0 0 [])) =
           Ent.mk (Loc.sl ao cap) (SObj.roL 5 encStepT bs (StepT.mk (0 : Int) (0 : Int) (0 : Int) (ByteArray.mk #[]) (@none Addr) 0 0 [])) ∧
           factsT bs = factsT bs ∧
            pkA b trkE s = pkA b trkE s ∧
             Ent.mk (Loc.sl am cm) (SObj.vecL (88 : TypeId) 2 encPr m ((0 : Int), ByteArray.mk #[])) =
              Ent.mk (Loc.sl am cm) (SObj.vecL (88 : TypeId) 2 encPr m ((0 : Int), ByteArray.mk #[])) ∧
              Ent.mk (Loc.blk b7) (SObj.cells [SV.vec 5 au (List.length us) cu] (93 : TypeId)) =
               Ent.mk (Loc.blk b7) (SObj.cells [SV.vec 5 au (List.length us) cu] (93 : TypeId)) ∧
               Ent.mk (Loc.sl au cu) (SObj.vecL (9 : TypeId) 1 encS us ByteArray.empty) = Ent.mk (Loc.sl au cu) (SObj.vecL (9 : TypeId) 1 encS us ByteArray.empty) ∧
                True) ∧
           match (↑(List.length (pidsP m_1 (List.getD us (Int.toNat (↑j : Int)) ByteArray.empty))) : Int) == (0 : Int) with
           | true =>
            true = true ∧
             true = true ∧
              true = true ∧
               true = true ∧
                true = true ∧
                 true = true ∧
                  true = true ∧
                   true = true ∧
                    true = true ∧
                     true = true ∧
                      N
                       [Ent.mk (Loc.sl ao cap) (SObj.roL 5 encStepT bs (StepT.mk (0 : Int) (0 : Int) (0 : Int) (ByteArray.mk #[]) (@none Addr) 0 0 [])),
                        factsT bs, pkA b trkE s, Ent.mk (Loc.sl am cm) (SObj.vecL (88 : TypeId) 2 encPr m ((0 : Int), ByteArray.mk #[])),
                        Ent.mk (Loc.blk b7) (SObj.cells [SV.vec 5 au (List.length us) cu] (93 : TypeId)),
                        Ent.mk (Loc.sl au cu) (SObj.vecL (9 : TypeId) 1 encS us ByteArray.empty),
                        Ent.mk (Loc.sl ao' cap') (SObj.vecL (3 : TypeId) 1 encI1 (pidsP m_1 (List.getD us (Int.toNat (↑j : Int)) ByteArray.empty)) (0 : Int))]
                       (SV.bool false)
           | false =>
            match decide ((↑j : Int) > (0 : Int)) with
            | true =>
             b7 = b7 ∧
              (au = au ∧
               cu = cu ∧
                List.length us = List.length us ∧
                 (0 : Int) ≤ IntKind.wrap IntKind.i64 ((↑j : Int) - (1 : Int)) ∧ IntKind.wrap IntKind.i64 ((↑j : Int) - (1 : Int)) < (↑(List.length us) : Int)) ∧
               (Addr.blkD au = Addr.blkD au ∧ Addr.offD au = Addr.offD au ∧ 1 = 1 ∧ Int.toNat (IntKind.wrap IntKind.i64 ((↑j : Int) - (1 : Int))) < List.length us) ∧
                b7 = b7 ∧
                 (au = au ∧ cu = cu ∧ List.length us = List.length us ∧ (0 : Int) ≤ (↑j : Int) ∧ (↑j : Int) < (↑(List.length us) : Int)) ∧
                  (Addr.blkD au = Addr.blkD au ∧ Addr.offD au = Addr.offD au ∧ 1 = 1 ∧ Int.toNat (↑j : Int) < List.length us) ∧
                   match
                    !sLt (List.getD us (Int.toNat (IntKind.wrap IntKind.i64 ((↑j : Int) - (1 : Int)))) ByteArray.empty) (List.getD us (Int.toNat (↑j : Int)) ByteArray.empty) with
                   | true =>
                    N
                     [Ent.mk (Loc.sl ao cap) (SObj.roL 5 encStepT bs (StepT.mk (0 : Int) (0 : Int) (0 : Int) (ByteArray.mk #[]) (@none Addr) 0 0 [])),
                      factsT bs, pkA b trkE s, Ent.mk (Loc.sl am cm) (SObj.vecL (88 : TypeId) 2 encPr m ((0 : Int), ByteArray.mk #[])),
                      Ent.mk (Loc.blk b7) (SObj.cells [SV.vec 5 au (List.length us) cu] (93 : TypeId)),
                      Ent.mk (Loc.sl au cu) (SObj.vecL (9 : TypeId) 1 encS us ByteArray.empty),
                      Ent.mk (Loc.sl ao' cap') (SObj.vecL (3 : TypeId) 1 encI1 (pidsP m_1 (List.getD us (Int.toNat (↑j : Int)) ByteArray.empty)) (0 : Int))]
                     (SV.bool false)
                   | false =>
                    K
                     (Frm.loop J0 ::
                      Frm.blk 10 :: frm [] (bodyOf Try.f10) [1, 1, 1, 1, 1, 1, 1, 1, 1] [])
                     (Sy.mk (rawR u 0 (SV.vec 3 am (List.length m) cm :: (rawR u 5 (SV.ptr 4 b7 0 :: (SV.int IntKind.i64 (IntKind.wrap IntKind.i64 ((↑j : Int) + (1 : Int))) :: (rawR u 29 (SV.int IntKind.i64 (↑j : Int) :: (SV.vec 5 au (List.length us) cu :: (SV.int IntKind.i64 (↑(List.length us) : Int) :: (SV.bool true :: (SV.int IntKind.i64 (↑j : Int) :: (SV.int IntKind.i64 (IntKind.wrap IntKind.i64 ((↑j : Int) + (1 : Int))) :: (SV.vec 3 am (List.length m) cm :: (SV.vec 5 au (List.length us) cu :: (SV.int IntKind.i64 (↑j : Int) :: (SV.eptr 5 (Addr.blkD au) (Addr.offD au) 1 (Int.toNat (↑j : Int)) 0 :: (SV.str (List.getD us (Int.toNat (↑j : Int)) ByteArray.empty) :: (SV.vec 6 ao' (List.length (pidsP m_1 (List.getD us (Int.toNat (↑j : Int)) ByteArray.empty))) cap' :: (SV.int IntKind.i64 (↑(List.length (pidsP m_1 (List.getD us (Int.toNat (↑j : Int)) ByteArray.empty))) : Int) :: ((SV.bool ((↑(List.length (pidsP m_1 (List.getD us (Int.toNat (↑j : Int)) ByteArray.empty))) : Int) == (0 : Int))) :: (SV.bool false :: (SV.int IntKind.i64 (↑j : Int) :: (SV.bool (decide ((↑j : Int) > (0 : Int))) :: (SV.bool true :: (SV.vec 5 au (List.length us) cu :: (SV.int IntKind.i64 (↑j : Int) :: (SV.int IntKind.i64 (IntKind.wrap IntKind.i64 ((↑j : Int) - (1 : Int))) :: (SV.eptr 5 (Addr.blkD au) (Addr.offD au) 1 (Int.toNat (IntKind.wrap IntKind.i64 ((↑j : Int) - (1 : Int)))) 0 :: (SV.str (List.getD us (Int.toNat (IntKind.wrap IntKind.i64 ((↑j : Int) - (1 : Int)))) ByteArray.empty) :: (SV.vec 5 au (List.length us) cu :: (SV.int IntKind.i64 (↑j : Int) :: (SV.eptr 5 (Addr.blkD au) (Addr.offD au) 1 (Int.toNat (↑j : Int)) 0 :: (SV.str (List.getD us (Int.toNat (↑j : Int)) ByteArray.empty) :: ((SV.bool !sLt (List.getD us (Int.toNat (IntKind.wrap IntKind.i64 ((↑j : Int) - (1 : Int)))) ByteArray.empty) (List.getD us (Int.toNat (↑j : Int)) ByteArray.empty)) :: ((SV.bool !sLt (List.getD us (Int.toNat (IntKind.wrap IntKind.i64 ((↑j : Int) - (1 : Int)))) ByteArray.empty) (List.getD us (Int.toNat (↑j : Int)) ByteArray.empty)) :: (SV.bool false :: (rawR u 444 [] 27))))))))))))))))))))))))))))))) 385))) 22)) 4)
                      [Ent.mk (Loc.sl ao cap) (SObj.roL 5 encStepT bs (StepT.mk (0 : Int) (0 : Int) (0 : Int) (ByteArray.mk #[]) (@none Addr) 0 0 [])),
                       factsT bs, pkA b trkE s, Ent.mk (Loc.sl am cm) (SObj.vecL (88 : TypeId) 2 encPr m ((0 : Int), ByteArray.mk #[])),
                       Ent.mk (Loc.blk b7) (SObj.cells [SV.vec 5 au (List.length us) cu] (93 : TypeId)),
                       Ent.mk (Loc.sl au cu) (SObj.vecL (9 : TypeId) 1 encS us ByteArray.empty),
                       Ent.mk (Loc.sl ao' cap') (SObj.vecL (3 : TypeId) 1 encI1 (pidsP m_1 (List.getD us (Int.toNat (↑j : Int)) ByteArray.empty)) (0 : Int))])
            | false =>
             K (Frm.loop J0 :: Frm.blk 10 :: frm [] (bodyOf Try.f10) [1, 1, 1, 1, 1, 1, 1, 1, 1] [])
              (Sy.mk (rawR u 0 (SV.vec 3 am (List.length m) cm :: (rawR u 5 (SV.ptr 4 b7 0 :: (SV.int IntKind.i64 (IntKind.wrap IntKind.i64 ((↑j : Int) + (1 : Int))) :: (rawR u 29 (SV.int IntKind.i64 (↑j : Int) :: (SV.vec 5 au (List.length us) cu :: (SV.int IntKind.i64 (↑(List.length us) : Int) :: (SV.bool true :: (SV.int IntKind.i64 (↑j : Int) :: (SV.int IntKind.i64 (IntKind.wrap IntKind.i64 ((↑j : Int) + (1 : Int))) :: (SV.vec 3 am (List.length m) cm :: (SV.vec 5 au (List.length us) cu :: (SV.int IntKind.i64 (↑j : Int) :: (SV.eptr 5 (Addr.blkD au) (Addr.offD au) 1 (Int.toNat (↑j : Int)) 0 :: (SV.str (List.getD us (Int.toNat (↑j : Int)) ByteArray.empty) :: (SV.vec 6 ao' (List.length (pidsP m_1 (List.getD us (Int.toNat (↑j : Int)) ByteArray.empty))) cap' :: (SV.int IntKind.i64 (↑(List.length (pidsP m_1 (List.getD us (Int.toNat (↑j : Int)) ByteArray.empty))) : Int) :: ((SV.bool ((↑(List.length (pidsP m_1 (List.getD us (Int.toNat (↑j : Int)) ByteArray.empty))) : Int) == (0 : Int))) :: (SV.bool false :: (SV.int IntKind.i64 (↑j : Int) :: (SV.bool (decide ((↑j : Int) > (0 : Int))) :: (SV.bool false :: (rawE (SV.bool false :: (SV.bool false :: (rawR u 444 [] 27))) 10))))))))))))))))))) 385))) 22)) 4)
               [Ent.mk (Loc.sl ao cap) (SObj.roL 5 encStepT bs (StepT.mk (0 : Int) (0 : Int) (0 : Int) (ByteArray.mk #[]) (@none Addr) 0 0 [])), factsT bs,
                pkA b trkE s, Ent.mk (Loc.sl am cm) (SObj.vecL (88 : TypeId) 2 encPr m ((0 : Int), ByteArray.mk #[])),
                Ent.mk (Loc.blk b7) (SObj.cells [SV.vec 5 au (List.length us) cu] (93 : TypeId)),
                Ent.mk (Loc.sl au cu) (SObj.vecL (9 : TypeId) 1 encS us ByteArray.empty),
                Ent.mk (Loc.sl ao' cap') (SObj.vecL (3 : TypeId) 1 encI1 (pidsP m_1 (List.getD us (Int.toNat (↑j : Int)) ByteArray.empty)) (0 : Int))])
 | false =>
  K (frm [] (bodyOf Try.f10) [1, 1, 1, 1, 1, 1, 1, 1, 1, 0, 1, 0] [])
   (Sy.mk (rawR u 0 (SV.vec 3 am (List.length m) cm :: (rawR u 5 (SV.ptr 4 b7 0 :: (SV.int IntKind.i64 (↑j : Int) :: (SV.int IntKind.i64 (0 : Int) :: (rawR u 30 (SV.int IntKind.i64 (↑j : Int) :: (SV.vec 5 au (List.length us) cu :: (SV.int IntKind.i64 (↑(List.length us) : Int) :: (SV.bool false :: (rawR u 418 [] 53))))) 384)))) 22)) 4)
    [Ent.mk (Loc.sl ao cap) (SObj.roL 5 encStepT bs (StepT.mk (0 : Int) (0 : Int) (0 : Int) (ByteArray.mk #[]) (@none Addr) 0 0 [])), factsT bs, pkA b trkE s,
     Ent.mk (Loc.sl am cm) (SObj.vecL (88 : TypeId) 2 encPr m ((0 : Int), ByteArray.mk #[])), Ent.mk (Loc.blk b7) (SObj.cells [SV.vec 5 au (List.length us) cu] (93 : TypeId)),
     Ent.mk (Loc.sl au cu) (SObj.vecL (9 : TypeId) 1 encS us ByteArray.empty)])) := by kernel_rfl


theorem tq_V (K : List Frm → Sy → Prop) (N : List Ent → SV → Prop) (J0 : Act → World → Prop) (ao : Option Addr) (cap : Nat) (bs : List StepT) (b : Nat) (s : Trk) (am : Option Addr) (cm : Nat) (m : PRow) (b7 : Nat) (us : List ByteArray) (au : Option Addr) (cu : Nat) (j : Nat) (u : Nat → Value) : (run Try.prog tqT false [] K (retP Try.prog Try.f10.results.toList N) 2000 (frm [J0] (bodyOf Try.f10) [1, 1, 1, 1, 1, 1, 1, 1, 1, 0, 1, 0, 0] []) ⟨mkT u 471 0 [(4, .vec 3 am m.length cm), (27, .ptr 4 b7 0), (29, .int .i64 (j : Int))], [⟨.sl ao cap, .roL 5 encStepT bs StepT.zero⟩, factsT bs, pkA b trkE (s), ⟨.sl am cm, .vecL 88 2 encPr (m) zPr⟩, ⟨.blk b7, .cells [.vec 5 au us.length cu] 93⟩, ⟨.sl au cu, .vecL 9 1 encS us ByteArray.empty⟩]⟩) = (
match decide ((↑j : Int) < (↑(List.length m) : Int)) with
| true =>
 K
  (frm [J0] (bodyOf Try.f10)
   [1, 1, 1, 1, 1, 1, 1, 1, 1, 0, 1, 0, 0, 1, 0, 0, 1,
    0, 1, 0]
   [])
  (Sy.mk (rawR u 0 (SV.vec 3 am (List.length m) cm :: (rawR u 5 (SV.ptr 4 b7 0 :: (SV.raw (u 28) :: (SV.int IntKind.i64 (↑j : Int) :: (SV.bool false :: (SV.int IntKind.i64 (0 : Int) :: (rawR u 32 (SV.int IntKind.i64 (↑j : Int) :: (SV.vec 3 am (List.length m) cm :: (SV.int IntKind.i64 (↑(List.length m) : Int) :: (SV.bool true :: (rawR u 448 [] 23))))) 412)))))) 22)) 4)
   [Ent.mk (Loc.sl ao cap) (SObj.roL 5 encStepT bs (StepT.mk (0 : Int) (0 : Int) (0 : Int) (ByteArray.mk #[]) (@none Addr) 0 0 [])), factsT bs, pkA b trkE s,
    Ent.mk (Loc.sl am cm) (SObj.vecL (88 : TypeId) 2 encPr m ((0 : Int), ByteArray.mk #[])), Ent.mk (Loc.blk b7) (SObj.cells [SV.vec 5 au (List.length us) cu] (93 : TypeId)),
    Ent.mk (Loc.sl au cu) (SObj.vecL (9 : TypeId) 1 encS us ByteArray.empty)])
| false =>
 N
  [Ent.mk (Loc.sl ao cap) (SObj.roL 5 encStepT bs (StepT.mk (0 : Int) (0 : Int) (0 : Int) (ByteArray.mk #[]) (@none Addr) 0 0 [])), factsT bs, pkA b trkE s,
   Ent.mk (Loc.sl am cm) (SObj.vecL (88 : TypeId) 2 encPr m ((0 : Int), ByteArray.mk #[])), Ent.mk (Loc.blk b7) (SObj.cells [SV.vec 5 au (List.length us) cu] (93 : TypeId)),
   Ent.mk (Loc.sl au cu) (SObj.vecL (9 : TypeId) 1 encS us ByteArray.empty)]
  (SV.bool true)) := by kernel_rfl


theorem tq_W (K : List Frm → Sy → Prop) (N : List Ent → SV → Prop) (J0 J1 : Act → World → Prop) (ao : Option Addr) (cap : Nat) (bs : List StepT) (b : Nat) (s : Trk) (am : Option Addr) (cm : Nat) (m : PRow) (b7 : Nat) (us : List ByteArray) (au : Option Addr) (cu : Nat) (j q : Nat) (st : Bool) (u : Nat → Value) : (run Try.prog tqT false [] K (retP Try.prog Try.f10.results.toList N) 2000 (frm [J0, J1] (bodyOf Try.f10) [1, 1, 1, 1, 1, 1, 1, 1, 1, 0, 1, 0, 0, 1, 0, 0, 1, 0, 1, 0, 0] []) ⟨mkT u 471 0 [(4, .vec 3 am m.length cm), (27, .ptr 4 b7 0), (29, .int .i64 (j : Int)), (30, .bool st), (31, .int .i64 (q : Int))], [⟨.sl ao cap, .roL 5 encStepT bs StepT.zero⟩, factsT bs, pkA b trkE (s), ⟨.sl am cm, .vecL 88 2 encPr (m) zPr⟩, ⟨.blk b7, .cells [.vec 5 au us.length cu] 93⟩, ⟨.sl au cu, .vecL 9 1 encS us ByteArray.empty⟩]⟩) = (
b7 = b7 ∧
 match decide ((↑q : Int) < (↑(List.length us) : Int)) with
 | true =>
  match st with
  | true =>
   K
    (Frm.loop J1 ::
     Frm.blk 14 ::
      frm [J0] (bodyOf Try.f10)
       [1, 1, 1, 1, 1, 1, 1, 1, 1, 0, 1, 0, 0, 1, 0, 0,
        1, 1]
       [])
    (Sy.mk (rawR u 0 (SV.vec 3 am (List.length m) cm :: (rawR u 5 (SV.ptr 4 b7 0 :: (SV.raw (u 28) :: (SV.int IntKind.i64 (↑j : Int) :: (SV.bool true :: (SV.int IntKind.i64 (IntKind.wrap IntKind.i64 ((↑q : Int) + (1 : Int))) :: (rawR u 32 (SV.int IntKind.i64 (↑q : Int) :: (SV.vec 5 au (List.length us) cu :: (SV.int IntKind.i64 (↑(List.length us) : Int) :: (SV.bool true :: (SV.int IntKind.i64 (↑q : Int) :: (SV.int IntKind.i64 (IntKind.wrap IntKind.i64 ((↑q : Int) + (1 : Int))) :: (SV.bool st :: (SV.bool true :: (rawE (SV.bool true :: (SV.raw (u 469) :: (SV.raw (u 470) :: []))) 10))))))))) 418)))))) 22)) 4)
     [Ent.mk (Loc.sl ao cap) (SObj.roL 5 encStepT bs (StepT.mk (0 : Int) (0 : Int) (0 : Int) (ByteArray.mk #[]) (@none Addr) 0 0 [])), factsT bs, pkA b trkE s,
      Ent.mk (Loc.sl am cm) (SObj.vecL (88 : TypeId) 2 encPr m ((0 : Int), ByteArray.mk #[])), Ent.mk (Loc.blk b7) (SObj.cells [SV.vec 5 au (List.length us) cu] (93 : TypeId)),
      Ent.mk (Loc.sl au cu) (SObj.vecL (9 : TypeId) 1 encS us ByteArray.empty)])
  | false =>
   b7 = b7 ∧
    (au = au ∧ cu = cu ∧ List.length us = List.length us ∧ (0 : Int) ≤ (↑q : Int) ∧ (↑q : Int) < (↑(List.length us) : Int)) ∧
     (Addr.blkD au = Addr.blkD au ∧ Addr.offD au = Addr.offD au ∧ 1 = 1 ∧ Int.toNat (↑q : Int) < List.length us) ∧
      (am = am ∧ cm = cm ∧ List.length m = List.length m ∧ (0 : Int) ≤ (↑j : Int) ∧ (↑j : Int) < (↑(List.length m) : Int)) ∧
       (Addr.blkD am = Addr.blkD am ∧ Addr.offD am = Addr.offD am ∧ 2 = 2 ∧ Int.toNat (↑j : Int) < List.length m) ∧
        K
         (Frm.loop J1 ::
          Frm.blk 14 ::
           frm [J0] (bodyOf Try.f10)
            [1, 1, 1, 1, 1, 1, 1, 1, 1, 0, 1, 0, 0, 1, 0, 0,
             1, 1]
            [])
         (Sy.mk (rawR u 0 (SV.vec 3 am (List.length m) cm :: (rawR u 5 (SV.ptr 4 b7 0 :: (SV.raw (u 28) :: (SV.int IntKind.i64 (↑j : Int) :: (SV.bool (sEq (List.getD us (Int.toNat (↑q : Int)) ByteArray.empty) (List.getD m (Int.toNat (↑j : Int)) ((0 : Int), ByteArray.mk #[])).2) :: (SV.int IntKind.i64 (IntKind.wrap IntKind.i64 ((↑q : Int) + (1 : Int))) :: (rawR u 32 (SV.int IntKind.i64 (↑q : Int) :: (SV.vec 5 au (List.length us) cu :: (SV.int IntKind.i64 (↑(List.length us) : Int) :: (SV.bool true :: (SV.int IntKind.i64 (↑q : Int) :: (SV.int IntKind.i64 (IntKind.wrap IntKind.i64 ((↑q : Int) + (1 : Int))) :: (SV.bool st :: (SV.bool false :: (SV.vec 5 au (List.length us) cu :: (SV.int IntKind.i64 (↑q : Int) :: (SV.eptr 5 (Addr.blkD au) (Addr.offD au) 1 (Int.toNat (↑q : Int)) 0 :: (SV.str (List.getD us (Int.toNat (↑q : Int)) ByteArray.empty) :: (SV.vec 3 am (List.length m) cm :: (SV.int IntKind.i64 (↑j : Int) :: (SV.eptr 3 (Addr.blkD am) (Addr.offD am) 2 (Int.toNat (↑j : Int)) 0 :: (SV.eptr 3 (Addr.blkD am) (Addr.offD am) 2 (Int.toNat (↑j : Int)) 1 :: (SV.str (List.getD m (Int.toNat (↑j : Int)) ((0 : Int), ByteArray.mk #[])).2 :: (SV.bool (sEq (List.getD us (Int.toNat (↑q : Int)) ByteArray.empty) (List.getD m (Int.toNat (↑j : Int)) ((0 : Int), ByteArray.mk #[])).2) :: (SV.bool (sEq (List.getD us (Int.toNat (↑q : Int)) ByteArray.empty) (List.getD m (Int.toNat (↑j : Int)) ((0 : Int), ByteArray.mk #[])).2) :: (SV.raw (u 469) :: (SV.raw (u 470) :: []))))))))))))))))))))) 418)))))) 22)) 4)
          [Ent.mk (Loc.sl ao cap) (SObj.roL 5 encStepT bs (StepT.mk (0 : Int) (0 : Int) (0 : Int) (ByteArray.mk #[]) (@none Addr) 0 0 [])), factsT bs, pkA b trkE s,
           Ent.mk (Loc.sl am cm) (SObj.vecL (88 : TypeId) 2 encPr m ((0 : Int), ByteArray.mk #[])),
           Ent.mk (Loc.blk b7) (SObj.cells [SV.vec 5 au (List.length us) cu] (93 : TypeId)), Ent.mk (Loc.sl au cu) (SObj.vecL (9 : TypeId) 1 encS us ByteArray.empty)])
 | false =>
  match !st with
  | true =>
   N
    [Ent.mk (Loc.sl ao cap) (SObj.roL 5 encStepT bs (StepT.mk (0 : Int) (0 : Int) (0 : Int) (ByteArray.mk #[]) (@none Addr) 0 0 [])), factsT bs, pkA b trkE s,
     Ent.mk (Loc.sl am cm) (SObj.vecL (88 : TypeId) 2 encPr m ((0 : Int), ByteArray.mk #[])), Ent.mk (Loc.blk b7) (SObj.cells [SV.vec 5 au (List.length us) cu] (93 : TypeId)),
     Ent.mk (Loc.sl au cu) (SObj.vecL (9 : TypeId) 1 encS us ByteArray.empty)]
    (SV.bool false)
  | false =>
   K (Frm.loop J0 :: Frm.blk 12 :: frm [] (bodyOf Try.f10) [1, 1, 1, 1, 1, 1, 1, 1, 1, 1] [])
    (Sy.mk (rawR u 0 (SV.vec 3 am (List.length m) cm :: (rawR u 5 (SV.ptr 4 b7 0 :: (SV.raw (u 28) :: (SV.int IntKind.i64 (IntKind.wrap IntKind.i64 ((↑j : Int) + (1 : Int))) :: (SV.bool st :: (SV.int IntKind.i64 (↑q : Int) :: (rawR u 32 (SV.int IntKind.i64 (↑j : Int) :: (SV.int IntKind.i64 (IntKind.wrap IntKind.i64 ((↑j : Int) + (1 : Int))) :: (SV.int IntKind.i64 (↑q : Int) :: (SV.vec 5 au (List.length us) cu :: (SV.int IntKind.i64 (↑(List.length us) : Int) :: (SV.bool false :: (rawR u 454 (SV.bool st :: (SV.bool false :: [])) 15))))))) 416)))))) 22)) 4)
     [Ent.mk (Loc.sl ao cap) (SObj.roL 5 encStepT bs (StepT.mk (0 : Int) (0 : Int) (0 : Int) (ByteArray.mk #[]) (@none Addr) 0 0 [])), factsT bs, pkA b trkE s,
      Ent.mk (Loc.sl am cm) (SObj.vecL (88 : TypeId) 2 encPr m ((0 : Int), ByteArray.mk #[])), Ent.mk (Loc.blk b7) (SObj.cells [SV.vec 5 au (List.length us) cu] (93 : TypeId)),
      Ent.mk (Loc.sl au cu) (SObj.vecL (9 : TypeId) 1 encS us ByteArray.empty)])) := by kernel_rfl
end Go.Proofs.Ytihajdkipkfiiaa

