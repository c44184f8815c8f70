import Derived.Test.YtihajdkipkfiiaaMgTrackPlays8
import Derived.Test.YtihajdkipkfiiaaMgTrackPlays9
import Derived.Test.YtihajdkipkfiiaaMgTrackPlays7
import Derived.Test.YtihajdkipkfiiaaMgTrackPlays6
import Derived.Test.YtihajdkipkfiiaaMgTrackPlays5
/- YtihajdkipkfiiaaTq1 -/
/- TrackPlays: what is to be killed. -/
namespace Go.Proofs.Ytihajdkipkfiiaa
open Go Go.RowKit
set_option linter.unusedVariables false
set_option linter.unusedSimpArgs false
set_option linter.unnecessarySimpa false
set_option maxHeartbeats 0

set_option maxRecDepth 100000
theorem hmQ : Try.prog.follows .mixedOrders = true := by kernel_rfl
theorem tOk_litQ {s : Trk} {pid : Int} (h2 : (match mget s.of (.i .i64 pid) with | none => true | some n => (mget s.ps (.s n)).isSome) = true) : tOk s pid := by
  intro n hn
  rw [hn] at h2
  exact Option.isSome_iff_exists.1 h2
theorem tkQ_ok : AllOk Try.prog tkT := ⟨tNew_ok, tAdd_ok, tFork_ok, tGone_ok, tUnit_ok, tPids_ok, trivial⟩
theorem knownQ_ok : CtrOk Try.prog 29 trueC := by
  intro args hs N h
  unfold trueC at h
  split at h
  · refine Spec.lift (Φ := fun r => r = .bool true) ?_ (fun r hr => by rw [hr]; exact h)
    refine Spec.of_G 52 Try.func29 (c := bodyOf Try.f29) (by kernel_rfl) (by kernel_rfl) (Nat.le_of_ble_eq_true rfl) fun W F => ?_
    refine G_run (kc := false) (ss := []) tkQ_ok hmQ 3000 ?_
    rw [known19]
    repeat' first
      | exact rfl
      | exact HEq.rfl
      | exact tOk_litQ rfl
      | (refine fun _ => ?_)
      | apply And.intro
      | (refine ⟨rfl, ?_⟩)
      | fail
  · exact h.elim
theorem tqT_ok : AllOk Try.prog tqT := ⟨knownQ_ok, vals5_ok, valsS_ok, ints_ok, targ_ok, sync_ok, units_ok, atC_ok, putC_ok, withoutC_ok, pidsPC_ok, tkQ_ok⟩
/-- What the entry of facts tells. -/
theorem G_facts {P : Program} {Q : Exit → Act → World → Prop} {W : World} {F : List Ch} {k : List Frm} {st : Sy} {bs : List StepT} (l : Nat) (hl : nth st.heap l = some (factsT bs))
    (h : (∀ x ∈ bs, goodT W x) → G P Q W F k st) : G P Q W F k st := fun w hr => by
  obtain ⟨c, L, hc, _, _⟩ := hr.get hl
  exact h hc.2 w hr
/-- A row that is only read lies in the first world. -/
theorem Rep.addRo {W w : World} {F : List Ch} {h : List Ent} {sz : Nat} {α : Type} {enc : α → List SV} {xs : List α} {d : α} {ao : Option Addr} {cap : Nat} (hg : has W (.sl ao cap) (.roL sz enc xs d) []) (hr : Rep W F h w) : Rep W F (snoc h ⟨.sl ao cap, .roL sz enc xs d⟩) w :=
  hr.new (c := []) hg fun L hL => hL.perm (by simp)
/-- What is known of a call. -/
structure XOk (bs : List StepT) (i : Nat) (x : StepT) : Prop where
  un : x.unit ∈ (bs.take (i + 1)).map (·.unit)
  wa : (Lit.int .i64 x.a).wf = true
  wb : (Lit.int .i64 x.b).wf = true
  wp : ∀ p ∈ x.pids, (Lit.int .i64 p).wf = true
  hu : x.unit.size ≤ 100
  hp : x.pids.length ≤ 30
section
variable {W : World} {F : List Ch} {ao : Option Addr} {cap : Nat} {bs : List StepT} {b : Nat} {s : Trk} {am : Option Addr} {cm : Nat} {m : PRow} {i : Nat} {x : StepT} {b6 : Nat} {aw : Option Addr} {cw : Nat} {ws : List Int} {st : Sy}
theorem tq79 (hi : i < bs.length) (hb : bs.length ≤ 100) (h : LT bs (i + 1) s m) (hw : ws = targL s x.unit (x.a.tmod 5) x.a x.b) (h1 : lenN st.tmps = 471) (h2 : liveOk st.tmps [(0, .vec 0 ao bs.length cap), (3, .ptr 2 b 0), (4, .vec 3 am (m).length cm), (5, .int .i64 (i : Int)), (6, .ptr 4 b6 0), (26, .vec 6 aw ws.length cw)]) (hh : ∀ w, Rep W F st.heap w → Rep W F [⟨.sl ao cap, .roL 5 encStepT bs StepT.zero⟩, factsT bs, pkA b trkE (s), ⟨.sl am cm, .vecL 88 2 encPr (m) zPr⟩, ⟨.blk b6, .cells [.int .i64 x.what, .int .i64 x.a, .int .i64 x.b, .str x.unit, .vec 5 x.ao x.pids.length x.cap] 84⟩, ⟨.sl x.ao x.cap, .roL 1 encI1 x.pids 0⟩, ⟨.sl aw cw, .vecL 3 1 encI1 ws 0⟩] w) : G Try.prog (endQ Try.prog Try.f10 W F fun _ r => r = .bool true) W F (frmR [(Back W F 471 (fun x : Nat × Trk × Option Addr × Nat × PRow => [(0, .vec 0 ao bs.length cap), (3, .ptr 2 b 0), (4, .vec 3 x.2.2.1 (x.2.2.2.2).length x.2.2.2.1), (5, .int .i64 (x.1 : Int))]) (fun x : Nat × Trk × Option Addr × Nat × PRow => [⟨.sl ao cap, .roL 5 encStepT bs StepT.zero⟩, factsT bs, pkA b trkE (x.2.1), ⟨.sl x.2.2.1 x.2.2.2.1, .vecL 88 2 encPr (x.2.2.2.2) zPr⟩]) (fun x : Nat × Trk × Option Addr × Nat × PRow => x.1 ≤ bs.length ∧ LT bs x.1 x.2.1 x.2.2.2.2) (fun x : Nat × Trk × Option Addr × Nat × PRow => bs.length - x.1) (bs.length - i))] (bodyOf Try.f10) 79) st := by
  refine G_live 471 [(0, .vec 0 ao bs.length cap), (3, .ptr 2 b 0), (4, .vec 3 am (m).length cm), (5, .int .i64 (i : Int)), (6, .ptr 4 b6 0), (26, .vec 6 aw ws.length cw)] [⟨.sl ao cap, .roL 5 encStepT bs StepT.zero⟩, factsT bs, pkA b trkE (s), ⟨.sl am cm, .vecL 88 2 encPr (m) zPr⟩, ⟨.blk b6, .cells [.int .i64 x.what, .int .i64 x.a, .int .i64 x.b, .str x.unit, .vec 5 x.ao x.pids.length x.cap] 84⟩, ⟨.sl x.ao x.cap, .roL 1 encI1 x.pids 0⟩, ⟨.sl aw cw, .vecL 3 1 encI1 ws 0⟩] h1 h2 hh fun u => ?_
  refine G_run (kc := false) (ss := []) tqT_ok hmQ 1500 ?_
  rw [tq_79, ← hw]
  have w1 : IntKind.wrap .i64 ((i : Int) + 1) = ((i + 1 : Nat) : Int) := IntWalk.i64_in _ (by omega)
  have hml : m.length ≤ 100000 := by have := h.len; omega
  obtain ⟨hpo, hpl⟩ := h.tm.pids (by omega) x.unit
  have hpn : (pidsL s x.unit).length ≤ 1000000 := by rw [hpl]; have := pidsP_leT m x.unit; omega
  have hwl : ws.length ≤ 1000000 := by
    rw [hw]
    unfold targL mainL
    repeat' split
    all_goals first
      | exact hpn
      | exact Nat.le_of_ble_eq_true rfl
  have back : ∀ (tm : List SV) (e1 e2 e3 e4 : Ent), lenN tm = 471 → liveOk tm [(0, .vec 0 ao bs.length cap), (3, .ptr 2 b 0), (4, .vec 3 am (m).length cm), (5, .int .i64 ((i + 1 : Nat) : Int))] → G Try.prog (endQ Try.prog Try.f10 W F fun _ r => r = .bool true) W F (.loop (Back W F 471 (fun x : Nat × Trk × Option Addr × Nat × PRow => [(0, .vec 0 ao bs.length cap), (3, .ptr 2 b 0), (4, .vec 3 x.2.2.1 (x.2.2.2.2).length x.2.2.2.1), (5, .int .i64 (x.1 : Int))]) (fun x : Nat × Trk × Option Addr × Nat × PRow => [⟨.sl ao cap, .roL 5 encStepT bs StepT.zero⟩, factsT bs, pkA b trkE (x.2.1), ⟨.sl x.2.2.1 x.2.2.2.1, .vecL 88 2 encPr (x.2.2.2.2) zPr⟩]) (fun x : Nat × Trk × Option Addr × Nat × PRow => x.1 ≤ bs.length ∧ LT bs x.1 x.2.1 x.2.2.2.2) (fun x : Nat × Trk × Option Addr × Nat × PRow => bs.length - x.1) (bs.length - i)) :: .blk 0 :: frm [] (bodyOf Try.f10) [1, 1, 1, 1, 1, 1] []) ⟨tm, [⟨.sl ao cap, .roL 5 encStepT bs StepT.zero⟩, factsT bs, pkA b trkE (s), ⟨.sl am cm, .vecL 88 2 encPr (m) zPr⟩, e1, e2, e3, e4]⟩ := fun tm e1 e2 e3 e4 g1 g2 =>
    G_back (i + 1, s, am, cm, m) ⟨by dsimp only; omega, h⟩ (by dsimp only; omega) g1 g2 (fun w hw => Rep.dropR (t := [e1, e2, e3, e4]) hw)
  refine ⟨rfl, rfl, by decide, rfl, rfl, rfl, rfl, rfl, HEq.rfl, ⟨hpo, hpn⟩, fun ao1 cap1 => ⟨rfl, ws, rfl, rfl, ⟨rfl, rfl, rfl, hwl⟩, ?_⟩⟩
  exact back _ _ _ _ _ rfl ⟨rfl, rfl, rfl, congrArg (Value.int .i64) w1, trivial⟩
theorem tq77 (hi : i < bs.length) (hb : bs.length ≤ 100) (h : LT bs (i + 1) s m) (hw : (match decide (x.b > 1) && decide (x.b > x.a) with | true => ws ++ [x.b] | false => ws) = targL s x.unit (x.a.tmod 5) x.a x.b) (hwl : ws.length ≤ 1000000) (h1 : lenN st.tmps = 471) (h2 : liveOk st.tmps [(0, .vec 0 ao bs.length cap), (3, .ptr 2 b 0), (4, .vec 3 am (m).length cm), (5, .int .i64 (i : Int)), (6, .ptr 4 b6 0), (26, .vec 6 aw ws.length cw)]) (hh : ∀ w, Rep W F st.heap w → Rep W F [⟨.sl ao cap, .roL 5 encStepT bs StepT.zero⟩, factsT bs, pkA b trkE (s), ⟨.sl am cm, .vecL 88 2 encPr (m) zPr⟩, ⟨.blk b6, .cells [.int .i64 x.what, .int .i64 x.a, .int .i64 x.b, .str x.unit, .vec 5 x.ao x.pids.length x.cap] 84⟩, ⟨.sl x.ao x.cap, .roL 1 encI1 x.pids 0⟩, ⟨.sl aw cw, .vecL 3 1 encI1 ws 0⟩] w) : G Try.prog (endQ Try.prog Try.f10 W F fun _ r => r = .bool true) W F (frmR [(Back W F 471 (fun x : Nat × Trk × Option Addr × Nat × PRow => [(0, .vec 0 ao bs.length cap), (3, .ptr 2 b 0), (4, .vec 3 x.2.2.1 (x.2.2.2.2).length x.2.2.2.1), (5, .int .i64 (x.1 : Int))]) (fun x : Nat × Trk × Option Addr × Nat × PRow => [⟨.sl ao cap, .roL 5 encStepT bs StepT.zero⟩, factsT bs, pkA b trkE (x.2.1), ⟨.sl x.2.2.1 x.2.2.2.1, .vecL 88 2 encPr (x.2.2.2.2) zPr⟩]) (fun x : Nat × Trk × Option Addr × Nat × PRow => x.1 ≤ bs.length ∧ LT bs x.1 x.2.1 x.2.2.2.2) (fun x : Nat × Trk × Option Addr × Nat × PRow => bs.length - x.1) (bs.length - i))] (bodyOf Try.f10) 77) st := by
  refine G_live 471 [(0, .vec 0 ao bs.length cap), (3, .ptr 2 b 0), (4, .vec 3 am (m).length cm), (5, .int .i64 (i : Int)), (6, .ptr 4 b6 0), (26, .vec 6 aw ws.length cw)] [⟨.sl ao cap, .roL 5 encStepT bs StepT.zero⟩, factsT bs, pkA b trkE (s), ⟨.sl am cm, .vecL 88 2 encPr (m) zPr⟩, ⟨.blk b6, .cells [.int .i64 x.what, .int .i64 x.a, .int .i64 x.b, .str x.unit, .vec 5 x.ao x.pids.length x.cap] 84⟩, ⟨.sl x.ao x.cap, .roL 1 encI1 x.pids 0⟩, ⟨.sl aw cw, .vecL 3 1 encI1 ws 0⟩] h1 h2 hh fun u => ?_
  refine G_run (kc := false) (ss := [79]) tqT_ok hmQ 1500 ?_
  rw [tq_77]
  have same : ∀ tm, ws = targL s x.unit (x.a.tmod 5) x.a x.b → lenN tm = 471 → liveOk tm [(0, .vec 0 ao bs.length cap), (3, .ptr 2 b 0), (4, .vec 3 am (m).length cm), (5, .int .i64 (i : Int)), (6, .ptr 4 b6 0), (26, .vec 6 aw ws.length cw)] → G Try.prog (endQ Try.prog Try.f10 W F fun _ r => r = .bool true) W F (frmR [(Back W F 471 (fun x : Nat × Trk × Option Addr × Nat × PRow => [(0, .vec 0 ao bs.length cap), (3, .ptr 2 b 0), (4, .vec 3 x.2.2.1 (x.2.2.2.2).length x.2.2.2.1), (5, .int .i64 (x.1 : Int))]) (fun x : Nat × Trk × Option Addr × Nat × PRow => [⟨.sl ao cap, .roL 5 encStepT bs StepT.zero⟩, factsT bs, pkA b trkE (x.2.1), ⟨.sl x.2.2.1 x.2.2.2.1, .vecL 88 2 encPr (x.2.2.2.2) zPr⟩]) (fun x : Nat × Trk × Option Addr × Nat × PRow => x.1 ≤ bs.length ∧ LT bs x.1 x.2.1 x.2.2.2.2) (fun x : Nat × Trk × Option Addr × Nat × PRow => bs.length - x.1) (bs.length - i))] (bodyOf Try.f10) 79) ⟨tm, [⟨.sl ao cap, .roL 5 encStepT bs StepT.zero⟩, factsT bs, pkA b trkE (s), ⟨.sl am cm, .vecL 88 2 encPr (m) zPr⟩, ⟨.blk b6, .cells [.int .i64 x.what, .int .i64 x.a, .int .i64 x.b, .str x.unit, .vec 5 x.ao x.pids.length x.cap] 84⟩, ⟨.sl x.ao x.cap, .roL 1 encI1 x.pids 0⟩, ⟨.sl aw cw, .vecL 3 1 encI1 ws 0⟩]⟩ := fun tm e g1 g2 => tq79 hi hb h e g1 g2 (fun w hr => hr)
  have more : ∀ tm (ao2 : Option Addr) (cap2 : Nat) (e8 : Ent), ws ++ [x.b] = targL s x.unit (x.a.tmod 5) x.a x.b → lenN tm = 471 → liveOk tm [(0, .vec 0 ao bs.length cap), (3, .ptr 2 b 0), (4, .vec 3 am (m).length cm), (5, .int .i64 (i : Int)), (6, .ptr 4 b6 0), (26, .vec 6 ao2 (ws ++ [x.b]).length cap2)] → G Try.prog (endQ Try.prog Try.f10 W F fun _ r => r = .bool true) W F (frmR [(Back W F 471 (fun x : Nat × Trk × Option Addr × Nat × PRow => [(0, .vec 0 ao bs.length cap), (3, .ptr 2 b 0), (4, .vec 3 x.2.2.1 (x.2.2.2.2).length x.2.2.2.1), (5, .int .i64 (x.1 : Int))]) (fun x : Nat × Trk × Option Addr × Nat × PRow => [⟨.sl ao cap, .roL 5 encStepT bs StepT.zero⟩, factsT bs, pkA b trkE (x.2.1), ⟨.sl x.2.2.1 x.2.2.2.1, .vecL 88 2 encPr (x.2.2.2.2) zPr⟩]) (fun x : Nat × Trk × Option Addr × Nat × PRow => x.1 ≤ bs.length ∧ LT bs x.1 x.2.1 x.2.2.2.2) (fun x : Nat × Trk × Option Addr × Nat × PRow => bs.length - x.1) (bs.length - i))] (bodyOf Try.f10) 79) ⟨tm, [⟨.sl ao cap, .roL 5 encStepT bs StepT.zero⟩, factsT bs, pkA b trkE (s), ⟨.sl am cm, .vecL 88 2 encPr (m) zPr⟩, ⟨.blk b6, .cells [.int .i64 x.what, .int .i64 x.a, .int .i64 x.b, .str x.unit, .vec 5 x.ao x.pids.length x.cap] 84⟩, ⟨.sl x.ao x.cap, .roL 1 encI1 x.pids 0⟩, ⟨.sl ao2 cap2, .vecL 3 1 encI1 (ws ++ [x.b]) 0⟩, e8]⟩ := fun tm ao2 cap2 e8 e g1 g2 => tq79 hi hb h e g1 g2 (fun w hr => Rep.pick (π := [0, 1, 2, 3, 4, 5, 6]) (by decide) rfl hr)
  refine ⟨rfl, ?_⟩
  cases c1 : decide (x.b > 1) with
  | false =>
    rw [c1] at hw
    exact same _ hw rfl ⟨rfl, rfl, rfl, rfl, rfl, rfl, trivial⟩
  | true =>
    rw [c1] at hw
    refine ⟨rfl, rfl, ?_⟩
    cases c2 : decide (x.b > x.a) with
    | false =>
      rw [c2] at hw
      exact same _ hw rfl ⟨rfl, rfl, rfl, rfl, rfl, rfl, trivial⟩
    | true =>
      rw [c2] at hw
      refine ⟨rfl, ⟨rfl, rfl, by decide, by decide⟩, fun b1 => ⟨⟨rfl, rfl, rfl, rfl, rfl, rfl, rfl, by decide, rfl, by omega, by omega⟩, [x.b], rfl, rfl, fun ao2 cap2 _ => ?_⟩⟩
      exact more _ _ _ _ hw rfl ⟨rfl, rfl, rfl, rfl, rfl, by rw [List.length_append]; rfl, trivial⟩
theorem tq75 (hi : i < bs.length) (hb : bs.length ≤ 100) (h : LT bs (i + 1) s m) (hm1 : (x.a.tmod 5 == 1) = false) (hm2 : (x.a.tmod 5 == 2) = true) (hw : ws = match decide (x.a > 1) with | true => [x.a] | false => []) (h1 : lenN st.tmps = 471) (h2 : liveOk st.tmps [(0, .vec 0 ao bs.length cap), (3, .ptr 2 b 0), (4, .vec 3 am (m).length cm), (5, .int .i64 (i : Int)), (6, .ptr 4 b6 0), (26, .vec 6 aw ws.length cw)]) (hh : ∀ w, Rep W F st.heap w → Rep W F [⟨.sl ao cap, .roL 5 encStepT bs StepT.zero⟩, factsT bs, pkA b trkE (s), ⟨.sl am cm, .vecL 88 2 encPr (m) zPr⟩, ⟨.blk b6, .cells [.int .i64 x.what, .int .i64 x.a, .int .i64 x.b, .str x.unit, .vec 5 x.ao x.pids.length x.cap] 84⟩, ⟨.sl x.ao x.cap, .roL 1 encI1 x.pids 0⟩, ⟨.sl aw cw, .vecL 3 1 encI1 ws 0⟩] w) : G Try.prog (endQ Try.prog Try.f10 W F fun _ r => r = .bool true) W F (frmR [(Back W F 471 (fun x : Nat × Trk × Option Addr × Nat × PRow => [(0, .vec 0 ao bs.length cap), (3, .ptr 2 b 0), (4, .vec 3 x.2.2.1 (x.2.2.2.2).length x.2.2.2.1), (5, .int .i64 (x.1 : Int))]) (fun x : Nat × Trk × Option Addr × Nat × PRow => [⟨.sl ao cap, .roL 5 encStepT bs StepT.zero⟩, factsT bs, pkA b trkE (x.2.1), ⟨.sl x.2.2.1 x.2.2.2.1, .vecL 88 2 encPr (x.2.2.2.2) zPr⟩]) (fun x : Nat × Trk × Option Addr × Nat × PRow => x.1 ≤ bs.length ∧ LT bs x.1 x.2.1 x.2.2.2.2) (fun x : Nat × Trk × Option Addr × Nat × PRow => bs.length - x.1) (bs.length - i))] (bodyOf Try.f10) 75) st := by
  refine G_live 471 [(0, .vec 0 ao bs.length cap), (3, .ptr 2 b 0), (4, .vec 3 am (m).length cm), (5, .int .i64 (i : Int)), (6, .ptr 4 b6 0), (26, .vec 6 aw ws.length cw)] [⟨.sl ao cap, .roL 5 encStepT bs StepT.zero⟩, factsT bs, pkA b trkE (s), ⟨.sl am cm, .vecL 88 2 encPr (m) zPr⟩, ⟨.blk b6, .cells [.int .i64 x.what, .int .i64 x.a, .int .i64 x.b, .str x.unit, .vec 5 x.ao x.pids.length x.cap] 84⟩, ⟨.sl x.ao x.cap, .roL 1 encI1 x.pids 0⟩, ⟨.sl aw cw, .vecL 3 1 encI1 ws 0⟩] h1 h2 hh fun u => ?_
  refine G_run (kc := false) (ss := [77]) tqT_ok hmQ 1500 ?_
  rw [tq_75]
  have ht : targL s x.unit (x.a.tmod 5) x.a x.b = mainW x.a x.b := by
    unfold targL
    rw [hm1, hm2]
    exact main_eq _ _
  have hwl : ws.length ≤ 1 := by rw [hw]; split <;> simp
  have same : ∀ tm, (match decide (x.b > 1) && decide (x.b > x.a) with | true => ws ++ [x.b] | false => ws) = mainW x.a x.b → lenN tm = 471 → liveOk tm [(0, .vec 0 ao bs.length cap), (3, .ptr 2 b 0), (4, .vec 3 am (m).length cm), (5, .int .i64 (i : Int)), (6, .ptr 4 b6 0), (26, .vec 6 aw ws.length cw)] → G Try.prog (endQ Try.prog Try.f10 W F fun _ r => r = .bool true) W F (frmR [(Back W F 471 (fun x : Nat × Trk × Option Addr × Nat × PRow => [(0, .vec 0 ao bs.length cap), (3, .ptr 2 b 0), (4, .vec 3 x.2.2.1 (x.2.2.2.2).length x.2.2.2.1), (5, .int .i64 (x.1 : Int))]) (fun x : Nat × Trk × Option Addr × Nat × PRow => [⟨.sl ao cap, .roL 5 encStepT bs StepT.zero⟩, factsT bs, pkA b trkE (x.2.1), ⟨.sl x.2.2.1 x.2.2.2.1, .vecL 88 2 encPr (x.2.2.2.2) zPr⟩]) (fun x : Nat × Trk × Option Addr × Nat × PRow => x.1 ≤ bs.length ∧ LT bs x.1 x.2.1 x.2.2.2.2) (fun x : Nat × Trk × Option Addr × Nat × PRow => bs.length - x.1) (bs.length - i))] (bodyOf Try.f10) 77) ⟨tm, [⟨.sl ao cap, .roL 5 encStepT bs StepT.zero⟩, factsT bs, pkA b trkE (s), ⟨.sl am cm, .vecL 88 2 encPr (m) zPr⟩, ⟨.blk b6, .cells [.int .i64 x.what, .int .i64 x.a, .int .i64 x.b, .str x.unit, .vec 5 x.ao x.pids.length x.cap] 84⟩, ⟨.sl x.ao x.cap, .roL 1 encI1 x.pids 0⟩, ⟨.sl aw cw, .vecL 3 1 encI1 ws 0⟩]⟩ := fun tm e g1 g2 => tq77 hi hb h (by rw [ht]; exact e) (by omega) g1 g2 (fun w hr => hr)
  refine ⟨rfl, ?_⟩
  cases c1 : decide (x.b > 1) with
  | false =>
    refine same _ ?_ rfl ⟨rfl, rfl, rfl, rfl, rfl, rfl, trivial⟩
    simp only [c1, Bool.false_and]
    rw [hw]
    unfold mainW
    simp only [c1, Bool.false_and]
    cases decide (x.a > 1) <;> rfl
  | true =>
    refine ⟨rfl, rfl, ?_⟩
    cases c2 : decide (x.b < x.a) with
    | false =>
      refine same _ ?_ rfl ⟨rfl, rfl, rfl, rfl, rfl, rfl, trivial⟩
      rw [hw]
      unfold mainW
      simp only [c1, c2, Bool.true_and]
      cases decide (x.a > 1) <;> cases decide (x.b > x.a) <;> rfl
    | true =>
      have ha : decide (x.a > 1) = true := by
        simp only [decide_eq_true_eq] at c1 c2 ⊢
        omega
      have hws : ws = [x.a] := by rw [hw, ha]
      have h3 : decide (x.b > x.a) = false := by
        simp only [decide_eq_true_eq] at c2
        exact decide_eq_false (by omega)
      subst hws
      have more : ∀ tm (ao2 : Option Addr) (cap2 : Nat) (e8 : Ent), lenN tm = 471 → liveOk tm [(0, .vec 0 ao bs.length cap), (3, .ptr 2 b 0), (4, .vec 3 am (m).length cm), (5, .int .i64 (i : Int)), (6, .ptr 4 b6 0), (26, .vec 6 ao2 2 cap2)] → G Try.prog (endQ Try.prog Try.f10 W F fun _ r => r = .bool true) W F (frmR [(Back W F 471 (fun x : Nat × Trk × Option Addr × Nat × PRow => [(0, .vec 0 ao bs.length cap), (3, .ptr 2 b 0), (4, .vec 3 x.2.2.1 (x.2.2.2.2).length x.2.2.2.1), (5, .int .i64 (x.1 : Int))]) (fun x : Nat × Trk × Option Addr × Nat × PRow => [⟨.sl ao cap, .roL 5 encStepT bs StepT.zero⟩, factsT bs, pkA b trkE (x.2.1), ⟨.sl x.2.2.1 x.2.2.2.1, .vecL 88 2 encPr (x.2.2.2.2) zPr⟩]) (fun x : Nat × Trk × Option Addr × Nat × PRow => x.1 ≤ bs.length ∧ LT bs x.1 x.2.1 x.2.2.2.2) (fun x : Nat × Trk × Option Addr × Nat × PRow => bs.length - x.1) (bs.length - i))] (bodyOf Try.f10) 77) ⟨tm, [⟨.sl ao cap, .roL 5 encStepT bs StepT.zero⟩, factsT bs, pkA b trkE (s), ⟨.sl am cm, .vecL 88 2 encPr (m) zPr⟩, ⟨.blk b6, .cells [.int .i64 x.what, .int .i64 x.a, .int .i64 x.b, .str x.unit, .vec 5 x.ao x.pids.length x.cap] 84⟩, ⟨.sl x.ao x.cap, .roL 1 encI1 x.pids 0⟩, e8, ⟨.sl ao2 cap2, .vecL 3 1 encI1 [x.b, x.a] 0⟩]⟩ := fun tm ao2 cap2 e8 g1 g2 => tq77 (ws := [x.b, x.a]) (aw := ao2) (cw := cap2) hi hb h (by
          rw [ht]
          unfold mainW
          simp only [ha, c1, c2, h3, Bool.and_self, Bool.and_false]) (Nat.le_of_ble_eq_true rfl) g1 g2 (fun w hr => Rep.pick (π := [0, 1, 2, 3, 4, 5, 7]) (by decide) rfl hr)
      refine ⟨rfl, ⟨rfl, rfl, by decide, by decide⟩, fun b1 => ⟨⟨rfl, rfl, rfl, rfl, rfl, rfl, fun _ => rfl, Nat.le_of_ble_eq_true rfl, Nat.le_of_ble_eq_true rfl⟩, [x.b], rfl, rfl, fun ao2 cap2 _ => ?_⟩⟩
      exact more _ _ _ _ rfl ⟨rfl, rfl, rfl, rfl, rfl, rfl, trivial⟩
theorem tq68 (hi : i < bs.length) (hb : bs.length ≤ 100) (h : LT bs (i + 1) s m) (h1 : lenN st.tmps = 471) (h2 : liveOk st.tmps [(0, .vec 0 ao bs.length cap), (3, .ptr 2 b 0), (4, .vec 3 am (m).length cm), (5, .int .i64 (i : Int)), (6, .ptr 4 b6 0)]) (hh : ∀ w, Rep W F st.heap w → Rep W F [⟨.sl ao cap, .roL 5 encStepT bs StepT.zero⟩, factsT bs, pkA b trkE (s), ⟨.sl am cm, .vecL 88 2 encPr (m) zPr⟩, ⟨.blk b6, .cells [.int .i64 x.what, .int .i64 x.a, .int .i64 x.b, .str x.unit, .vec 5 x.ao x.pids.length x.cap] 84⟩, ⟨.sl x.ao x.cap, .roL 1 encI1 x.pids 0⟩] w) : G Try.prog (endQ Try.prog Try.f10 W F fun _ r => r = .bool true) W F (frmR [(Back W F 471 (fun x : Nat × Trk × Option Addr × Nat × PRow => [(0, .vec 0 ao bs.length cap), (3, .ptr 2 b 0), (4, .vec 3 x.2.2.1 (x.2.2.2.2).length x.2.2.2.1), (5, .int .i64 (x.1 : Int))]) (fun x : Nat × Trk × Option Addr × Nat × PRow => [⟨.sl ao cap, .roL 5 encStepT bs StepT.zero⟩, factsT bs, pkA b trkE (x.2.1), ⟨.sl x.2.2.1 x.2.2.2.1, .vecL 88 2 encPr (x.2.2.2.2) zPr⟩]) (fun x : Nat × Trk × Option Addr × Nat × PRow => x.1 ≤ bs.length ∧ LT bs x.1 x.2.1 x.2.2.2.2) (fun x : Nat × Trk × Option Addr × Nat × PRow => bs.length - x.1) (bs.length - i))] (bodyOf Try.f10) 68) st := by
  refine G_live 471 [(0, .vec 0 ao bs.length cap), (3, .ptr 2 b 0), (4, .vec 3 am (m).length cm), (5, .int .i64 (i : Int)), (6, .ptr 4 b6 0)] [⟨.sl ao cap, .roL 5 encStepT bs StepT.zero⟩, factsT bs, pkA b trkE (s), ⟨.sl am cm, .vecL 88 2 encPr (m) zPr⟩, ⟨.blk b6, .cells [.int .i64 x.what, .int .i64 x.a, .int .i64 x.b, .str x.unit, .vec 5 x.ao x.pids.length x.cap] 84⟩, ⟨.sl x.ao x.cap, .roL 1 encI1 x.pids 0⟩] h1 h2 hh fun u => ?_
  refine G_run (kc := false) (ss := [75, 79]) tqT_ok hmQ 1500 ?_
  rw [tq_68]
  have w1 : IntKind.wrap .i64 ((i : Int) + 1) = ((i + 1 : Nat) : Int) := IntWalk.i64_in _ (by omega)
  have hml : m.length ≤ 100000 := by have := h.len; omega
  obtain ⟨hpo, hpl⟩ := h.tm.pids (by omega) x.unit
  refine ⟨rfl, by decide, ?_⟩
  cases hm1 : x.a.tmod 5 == 1 with
  | true =>
    refine ⟨rfl, rfl, m, rfl, ⟨rfl, by omega⟩, fun aw cw => ?_⟩
    exact tq79 hi hb h (by unfold targL; rw [hm1]; exact hpl.symm) rfl ⟨rfl, rfl, rfl, rfl, rfl, rfl, trivial⟩ (fun w hr => hr)
  | false =>
    cases hm2 : x.a.tmod 5 == 2 with
    | false =>
      exact tq79 (ws := []) (aw := none) (cw := 0) hi hb h (by unfold targL; rw [hm1, hm2]) rfl ⟨rfl, rfl, rfl, rfl, rfl, rfl, trivial⟩ (fun w hr => Rep.nilvec 3 (sz := 1) (enc := encI1) 0 (fun _ => rfl) hr)
    | true =>
      refine ⟨rfl, ?_⟩
      cases ha : decide (x.a > 1) with
      | false => exact tq75 (ws := []) (aw := none) (cw := 0) hi hb h hm1 hm2 (by rw [ha]) rfl ⟨rfl, rfl, rfl, rfl, rfl, rfl, trivial⟩ (fun w hr => Rep.nilvec 3 (sz := 1) (enc := encI1) 0 (fun _ => rfl) hr)
      | true =>
        refine ⟨rfl, ⟨rfl, rfl, by decide, by decide⟩, fun b1 => ⟨⟨rfl, rfl, by decide, rfl, Nat.le_of_ble_eq_true rfl, Nat.le_of_ble_eq_true rfl⟩, fun ao2 cap2 _ => ?_⟩⟩
        exact tq75 (ws := [x.a]) (aw := ao2) (cw := cap2) hi hb h hm1 hm2 (by rw [ha]) rfl ⟨rfl, rfl, rfl, rfl, rfl, rfl, trivial⟩ (fun w hr => Rep.pick (π := [0, 1, 2, 3, 4, 5, 7]) (by decide) rfl (Rep.vecOf (l := 7) encI1 [x.a] 0 rfl rfl rfl (fun _ => rfl) hr))
end
end Go.Proofs.Ytihajdkipkfiiaa

/- YtihajdkipkfiiaaTq5Run -/
namespace Go.Proofs.Ytihajdkipkfiiaa
set_option linter.unusedVariables false
open Go Go.RowKit
set_option maxHeartbeats 0
set_option maxRecDepth 100000
set_option linter.unusedVariables false
set_option maxRecDepth 100000

theorem tq_62 (K : List Frm → Sy → Prop) (N : List Ent → SV → Prop) (J0 : Act → World → Prop) (ao : Option Addr) (cap : Nat) (bs : List StepT) (b : Nat) (s : Trk) (am : Option Addr) (cm : Nat) (m : PRow) (i : Nat) (x : StepT) (b6 : Nat) (u : Nat → Value) : (run Try.prog tqT true [66] K (retP Try.prog Try.f10.results.toList N) 1500 (frmR [J0] (bodyOf Try.f10) 62) ⟨mkT u 471 0 [(0, .vec 0 ao bs.length cap), (3, .ptr 2 b 0), (4, .vec 3 am (m).length cm), (5, .int .i64 (i : Int)), (6, .ptr 4 b6 0)], [⟨.sl ao cap, .roL 5 encStepT bs StepT.zero⟩, factsT bs, pkA b trkE (s), ⟨.sl am cm, .vecL 88 2 encPr (m) zPr⟩, ⟨.blk b6, .cells [.int .i64 x.what, .int .i64 x.a, .int .i64 x.b, .str x.unit, .vec 5 x.ao x.pids.length x.cap] 84⟩, ⟨.sl x.ao x.cap, .roL 1 encI1 x.pids 0⟩]⟩) = (
∀ (b_1 : Nat),
 b6 = b6 ∧
  true = true ∧
   b = b ∧
    ∃ (h : Trk = Trk),
     AdtIs (fun (s : Trk) (b : Nat) ↦ packs (trkE s b)) trkE ∧
      pidsOk (cast h s) x.4 ∧
       ∀ (ao_1 : Option Addr) (cap_1 bx : Nat),
        true = true ∧
         55 = (55 : FuncId) ∧
          ∃ (xs : List Int),
           ∃ (lv : Nat),
            ∃ (ao_2 : Option Addr),
             ∃ (cap_2 : Nat),
              some (Ent.mk (Loc.blk b_1) (SObj.cells [SV.raw (Value.slice (@none Addr) 0 0)] 32)) =
               some (Ent.mk (Loc.blk b_1) (SObj.cells [SV.raw (Value.slice (@none Addr) 0 0)] (32 : TypeId))) ∧
               some (Ent.mk (Loc.blk bx) (SObj.cells [SV.vec 7 ao_1 (List.length (pidsL s x.4)) cap_1] (32 : TypeId))) =
                some (Ent.mk (Loc.blk bx) (SObj.cells [SV.vec lv ao_2 (List.length xs) cap_2] (32 : TypeId))) ∧
                nth
                 [Ent.mk (Loc.sl ao cap) (SObj.roL 5 encStepT bs (StepT.mk (0 : Int) (0 : Int) (0 : Int) (ByteArray.mk #[]) (@none Addr) 0 0 [])),
                  factsT bs, pkA b trkE s, Ent.mk (Loc.sl am cm) (SObj.vecL (88 : TypeId) 2 encPr m ((0 : Int), ByteArray.mk #[])),
                  Ent.mk (Loc.blk b6)
                   (SObj.cells [SV.int IntKind.i64 x.1, SV.int IntKind.i64 x.2, SV.int IntKind.i64 x.3, SV.str x.4, SV.vec 5 x.ao (List.length x.8) x.7] (84 : TypeId)),
                  Ent.mk (Loc.sl x.ao x.7) (SObj.roL 1 encI1 x.8 (0 : Int)),
                  Ent.mk (Loc.blk b_1) (SObj.cells [SV.raw (Value.slice (@none Addr) 0 0)] 32),
                  Ent.mk (Loc.sl ao_1 cap_1) (SObj.vecL (3 : TypeId) 1 encI1 (pidsL s x.4) (0 : Int)),
                  Ent.mk (Loc.blk bx) (SObj.cells [SV.vec 7 ao_1 (List.length (pidsL s x.4)) cap_1] (32 : TypeId))]
                 lv =
                 some (Ent.mk (Loc.sl ao_2 cap_2) (SObj.vecL (3 : TypeId) 1 encI1 xs (0 : Int))) ∧
                 ((false = false ∧ Nat.beq 6 lv = false ∧ Nat.beq 8 lv = false) ∧ List.length xs ≤ 400) ∧
                  ∀ (ag : Option Addr) (cg : Nat),
                   b6 = b6 ∧
                    true = true ∧
                     b = b ∧
                      ∃ (h : Trk = Trk),
                       AdtIs (fun (s : Trk) (b : Nat) ↦ packs (trkE s b)) trkE ∧
                        b6 = b6 ∧
                         true = true ∧
                          ∃ (m_1 : PRow),
                           some (Ent.mk (Loc.sl am cm) (SObj.vecL (88 : TypeId) 2 encPr m ((0 : Int), ByteArray.mk #[]))) = some (vecP am cm m_1) ∧
                            (List.length m = List.length m_1 ∧ List.length m_1 ≤ 1000000) ∧
                             K (frmR [J0] (bodyOf Try.f10) 66)
                              (Sy.mk (SV.vec 0 ao (List.length bs) cap :: (SV.raw (u 1) :: (SV.raw (u 2) :: (SV.ptr 2 b 0 :: (SV.vec 3 am (List.length m) cm :: (SV.int IntKind.i64 (↑i : Int) :: (SV.ptr 4 b6 0 :: (rawR u 7 (SV.ptr 6 b_1 0 :: ((SV.str (match mget s.3 (Key.i IntKind.i64 x.3) with | some x => x | none => ByteArray.mk #[])) :: (SV.bool (Option.isSome (mget s.3 (Key.i IntKind.i64 x.3))) :: (SV.int IntKind.i64 (atP m_1 x.3) :: (rawR u 26 (SV.ptr 2 b 0 :: (SV.ptr 4 b6 3 :: (SV.str x.4 :: (SV.func (Fn.func (99 : FuncId)) [] [SV.ptr 8 bx 0] :: (SV.func (Fn.func 55) [] [SV.ptr 6 b_1 0] :: (SV.tuple [] :: ((SV.tuple [SV.str (match mget s.3 (Key.i IntKind.i64 x.3) with | some x => x | none => ByteArray.mk #[]), SV.bool (Option.isSome (mget s.3 (Key.i IntKind.i64 x.3)))]) :: (SV.ptr 2 b 0 :: (SV.ptr 4 b6 2 :: (SV.int IntKind.i64 x.3 :: ((SV.tuple [SV.str (match mget s.3 (Key.i IntKind.i64 x.3) with | some x => x | none => ByteArray.mk #[]), SV.bool (Option.isSome (mget s.3 (Key.i IntKind.i64 x.3)))]) :: ((SV.str (match mget s.3 (Key.i IntKind.i64 x.3) with | some x => x | none => ByteArray.mk #[])) :: (SV.bool (Option.isSome (mget s.3 (Key.i IntKind.i64 x.3))) :: (SV.vec 3 am (List.length m) cm :: (SV.ptr 4 b6 2 :: (SV.int IntKind.i64 x.3 :: (SV.int IntKind.i64 (atP m_1 x.3) :: (rawR u 314 [] 157)))))))))))))))))) 271))))) 15))))))))
                               [Ent.mk (Loc.sl ao cap)
                                (SObj.roL 5 encStepT bs (StepT.mk (0 : Int) (0 : Int) (0 : Int) (ByteArray.mk #[]) (@none Addr) 0 0 [])),
                                factsT bs, pkA b trkE s, Ent.mk (Loc.sl am cm) (SObj.vecL (88 : TypeId) 2 encPr m ((0 : Int), ByteArray.mk #[])),
                                Ent.mk (Loc.blk b6)
                                 (SObj.cells
                                  [SV.int IntKind.i64 x.1, SV.int IntKind.i64 x.2, SV.int IntKind.i64 x.3, SV.str x.4, SV.vec 5 x.ao (List.length x.8) x.7]
                                  (84 : TypeId)),
                                Ent.mk (Loc.sl x.ao x.7) (SObj.roL 1 encI1 x.8 (0 : Int)),
                                Ent.mk (Loc.blk b_1) (SObj.cells [SV.vec 9 ag (List.length xs) cg] (32 : TypeId)),
                                Ent.mk (Loc.sl ao_1 cap_1) (SObj.vecL (3 : TypeId) 1 encI1 (pidsL s x.4) (0 : Int)),
                                Ent.mk (Loc.blk bx) (SObj.cells [SV.vec 7 ao_1 (List.length (pidsL s x.4)) cap_1] (32 : TypeId)),
                                Ent.mk (Loc.sl ag cg) (SObj.vecL (3 : TypeId) 1 encI1 xs (0 : Int))])) := by kernel_rfl


theorem tq_66 (K : List Frm → Sy → Prop) (N : List Ent → SV → Prop) (J0 : Act → World → Prop) (ao : Option Addr) (cap : Nat) (bs : List StepT) (b : Nat) (s : Trk) (am : Option Addr) (cm : Nat) (m : PRow) (i : Nat) (x : StepT) (b6 : Nat) (b7 : Nat) (aw : Option Addr) (cw : Nat) (ws : List Int) (n : ByteArray) (ok : Bool) (z : Int) (u : Nat → Value) : (run Try.prog tqT true [68] K (retP Try.prog Try.f10.results.toList N) 2500 (frmR [J0] (bodyOf Try.f10) 66) ⟨mkT u 471 0 [(0, .vec 0 ao bs.length cap), (3, .ptr 2 b 0), (4, .vec 3 am (m).length cm), (5, .int .i64 (i : Int)), (6, .ptr 4 b6 0), (22, .ptr 6 b7 0), (23, .str n), (24, .bool ok), (25, .int .i64 z)], [⟨.sl ao cap, .roL 5 encStepT bs StepT.zero⟩, factsT bs, pkA b trkE (s), ⟨.sl am cm, .vecL 88 2 encPr (m) zPr⟩, ⟨.blk b6, .cells [.int .i64 x.what, .int .i64 x.a, .int .i64 x.b, .str x.unit, .vec 5 x.ao x.pids.length x.cap] 84⟩, ⟨.sl x.ao x.cap, .roL 1 encI1 x.pids 0⟩, ⟨.blk b7, .cells [.vec 7 aw ws.length cw] 32⟩, ⟨.sl aw cw, .vecL 3 1 encI1 ws 0⟩]⟩) = (
b7 = b7 ∧
 b6 = b6 ∧
  true = true ∧
   ∃ (m_1 : PRow),
    some (Ent.mk (Loc.sl am cm) (SObj.vecL (88 : TypeId) 2 encPr m ((0 : Int), ByteArray.mk #[]))) = some (vecP am cm m_1) ∧
     (List.length m = List.length m_1 ∧ List.length m_1 ≤ 1000000) ∧
      ∀ (ao' : Option Addr) (cap' : Nat),
       (Ent.mk (Loc.sl ao cap) (SObj.roL 5 encStepT bs (StepT.mk (0 : Int) (0 : Int) (0 : Int) (ByteArray.mk #[]) (@none Addr) 0 0 [])) =
        Ent.mk (Loc.sl ao cap) (SObj.roL 5 encStepT bs (StepT.mk (0 : Int) (0 : Int) (0 : Int) (ByteArray.mk #[]) (@none Addr) 0 0 [])) ∧
        factsT bs = factsT bs ∧
         pkA b trkE s = pkA b trkE s ∧
          Ent.mk (Loc.sl am cm) (SObj.vecL (88 : TypeId) 2 encPr m ((0 : Int), ByteArray.mk #[])) =
           Ent.mk (Loc.sl am cm) (SObj.vecL (88 : TypeId) 2 encPr m ((0 : Int), ByteArray.mk #[])) ∧
           Ent.mk (Loc.blk b6)
            (SObj.cells [SV.int IntKind.i64 x.1, SV.int IntKind.i64 x.2, SV.int IntKind.i64 x.3, SV.str x.4, SV.vec 5 x.ao (List.length x.8) x.7] (84 : TypeId)) =
            Ent.mk (Loc.blk b6)
             (SObj.cells [SV.int IntKind.i64 x.1, SV.int IntKind.i64 x.2, SV.int IntKind.i64 x.3, SV.str x.4, SV.vec 5 x.ao (List.length x.8) x.7] (84 : TypeId)) ∧
            Ent.mk (Loc.sl x.ao x.7) (SObj.roL 1 encI1 x.8 (0 : Int)) = Ent.mk (Loc.sl x.ao x.7) (SObj.roL 1 encI1 x.8 (0 : Int)) ∧
             Ent.mk (Loc.blk b7) (SObj.cells [SV.vec 7 aw (List.length ws) cw] (32 : TypeId)) =
              Ent.mk (Loc.blk b7) (SObj.cells [SV.vec 7 aw (List.length ws) cw] (32 : TypeId)) ∧
              Ent.mk (Loc.sl aw cw) (SObj.vecL (3 : TypeId) 1 encI1 ws (0 : Int)) = Ent.mk (Loc.sl aw cw) (SObj.vecL (3 : TypeId) 1 encI1 ws (0 : Int)) ∧ True) ∧
        true = true ∧
         ∃ (xs : List Int),
          some (Ent.mk (Loc.sl aw cw) (SObj.vecL (3 : TypeId) 1 encI1 ws (0 : Int))) = some (Ent.mk (Loc.sl aw cw) (SObj.vecL (3 : TypeId) 1 encI1 xs (0 : Int))) ∧
           some (Ent.mk (Loc.sl ao' cap') (SObj.vecL (3 : TypeId) 1 encI1 (pidsP m_1 x.4) (0 : Int))) =
            some (Ent.mk (Loc.sl ao' cap') (SObj.vecL (3 : TypeId) 1 encI1 xs (0 : Int))) ∧
            (false = false ∧ List.length ws = List.length xs ∧ List.length (pidsP m_1 x.4) = List.length xs ∧ List.length xs ≤ 1000000) ∧
             (Ent.mk (Loc.sl ao cap) (SObj.roL 5 encStepT bs (StepT.mk (0 : Int) (0 : Int) (0 : Int) (ByteArray.mk #[]) (@none Addr) 0 0 [])) =
              Ent.mk (Loc.sl ao cap) (SObj.roL 5 encStepT bs (StepT.mk (0 : Int) (0 : Int) (0 : Int) (ByteArray.mk #[]) (@none Addr) 0 0 [])) ∧
              factsT bs = factsT bs ∧
               pkA b trkE s = pkA b trkE s ∧
                Ent.mk (Loc.sl am cm) (SObj.vecL (88 : TypeId) 2 encPr m ((0 : Int), ByteArray.mk #[])) =
                 Ent.mk (Loc.sl am cm) (SObj.vecL (88 : TypeId) 2 encPr m ((0 : Int), ByteArray.mk #[])) ∧
                 Ent.mk (Loc.blk b6)
                  (SObj.cells [SV.int IntKind.i64 x.1, SV.int IntKind.i64 x.2, SV.int IntKind.i64 x.3, SV.str x.4, SV.vec 5 x.ao (List.length x.8) x.7] (84 : TypeId)) =
                  Ent.mk (Loc.blk b6)
                   (SObj.cells [SV.int IntKind.i64 x.1, SV.int IntKind.i64 x.2, SV.int IntKind.i64 x.3, SV.str x.4, SV.vec 5 x.ao (List.length x.8) x.7] (84 : TypeId)) ∧
                  Ent.mk (Loc.sl x.ao x.7) (SObj.roL 1 encI1 x.8 (0 : Int)) = Ent.mk (Loc.sl x.ao x.7) (SObj.roL 1 encI1 x.8 (0 : Int)) ∧
                   Ent.mk (Loc.blk b7) (SObj.cells [SV.vec 7 aw (List.length ws) cw] (32 : TypeId)) =
                    Ent.mk (Loc.blk b7) (SObj.cells [SV.vec 7 aw (List.length ws) cw] (32 : TypeId)) ∧
                    Ent.mk (Loc.sl aw cw) (SObj.vecL (3 : TypeId) 1 encI1 ws (0 : Int)) = Ent.mk (Loc.sl aw cw) (SObj.vecL (3 : TypeId) 1 encI1 ws (0 : Int)) ∧
                     True) ∧
              match !ok == decide (z ≥ (0 : Int)) with
              | true =>
               true = true ∧
                true = true ∧
                 true = true ∧
                  true = true ∧
                   true = true ∧
                    true = true ∧
                     true = true ∧
                      true = true ∧
                       true = true ∧
                        N
                         [Ent.mk (Loc.sl ao cap)
                          (SObj.roL 5 encStepT bs (StepT.mk (0 : Int) (0 : Int) (0 : Int) (ByteArray.mk #[]) (@none Addr) 0 0 [])),
                          factsT bs, pkA b trkE s, Ent.mk (Loc.sl am cm) (SObj.vecL (88 : TypeId) 2 encPr m ((0 : Int), ByteArray.mk #[])),
                          Ent.mk (Loc.blk b6)
                           (SObj.cells [SV.int IntKind.i64 x.1, SV.int IntKind.i64 x.2, SV.int IntKind.i64 x.3, SV.str x.4, SV.vec 5 x.ao (List.length x.8) x.7]
                            (84 : TypeId)),
                          Ent.mk (Loc.sl x.ao x.7) (SObj.roL 1 encI1 x.8 (0 : Int)),
                          Ent.mk (Loc.blk b7) (SObj.cells [SV.vec 7 aw (List.length ws) cw] (32 : TypeId)),
                          Ent.mk (Loc.sl aw cw) (SObj.vecL (3 : TypeId) 1 encI1 ws (0 : Int)),
                          Ent.mk (Loc.sl ao' cap') (SObj.vecL (3 : TypeId) 1 encI1 (pidsP m_1 x.4) (0 : Int))]
                         (SV.bool false)
              | false =>
               match ok with
               | true =>
                (am = am ∧ cm = cm ∧ List.length m = List.length m ∧ (0 : Int) ≤ z ∧ z < (↑(List.length m) : Int)) ∧
                 (Addr.blkD am = Addr.blkD am ∧ Addr.offD am = Addr.offD am ∧ 2 = 2 ∧ Int.toNat z < List.length m) ∧
                  match !sEq n (List.getD m (Int.toNat z) ((0 : Int), ByteArray.mk #[])).2 with
                  | true =>
                   true = true ∧
                    true = true ∧
                     N
                      [Ent.mk (Loc.sl ao cap) (SObj.roL 5 encStepT bs (StepT.mk (0 : Int) (0 : Int) (0 : Int) (ByteArray.mk #[]) (@none Addr) 0 0 [])),
                       factsT bs, pkA b trkE s, Ent.mk (Loc.sl am cm) (SObj.vecL (88 : TypeId) 2 encPr m ((0 : Int), ByteArray.mk #[])),
                       Ent.mk (Loc.blk b6)
                        (SObj.cells [SV.int IntKind.i64 x.1, SV.int IntKind.i64 x.2, SV.int IntKind.i64 x.3, SV.str x.4, SV.vec 5 x.ao (List.length x.8) x.7]
                         (84 : TypeId)),
                       Ent.mk (Loc.sl x.ao x.7) (SObj.roL 1 encI1 x.8 (0 : Int)),
                       Ent.mk (Loc.blk b7) (SObj.cells [SV.vec 7 aw (List.length ws) cw] (32 : TypeId)),
                       Ent.mk (Loc.sl aw cw) (SObj.vecL (3 : TypeId) 1 encI1 ws (0 : Int)),
                       Ent.mk (Loc.sl ao' cap') (SObj.vecL (3 : TypeId) 1 encI1 (pidsP m_1 x.4) (0 : Int))]
                      (SV.bool false)
                  | false =>
                   match !ok with
                   | true =>
                    match !sEq n (ByteArray.mk #[]) with
                    | true =>
                     N
                      [Ent.mk (Loc.sl ao cap) (SObj.roL 5 encStepT bs (StepT.mk (0 : Int) (0 : Int) (0 : Int) (ByteArray.mk #[]) (@none Addr) 0 0 [])),
                       factsT bs, pkA b trkE s, Ent.mk (Loc.sl am cm) (SObj.vecL (88 : TypeId) 2 encPr m ((0 : Int), ByteArray.mk #[])),
                       Ent.mk (Loc.blk b6)
                        (SObj.cells [SV.int IntKind.i64 x.1, SV.int IntKind.i64 x.2, SV.int IntKind.i64 x.3, SV.str x.4, SV.vec 5 x.ao (List.length x.8) x.7]
                         (84 : TypeId)),
                       Ent.mk (Loc.sl x.ao x.7) (SObj.roL 1 encI1 x.8 (0 : Int)),
                       Ent.mk (Loc.blk b7) (SObj.cells [SV.vec 7 aw (List.length ws) cw] (32 : TypeId)),
                       Ent.mk (Loc.sl aw cw) (SObj.vecL (3 : TypeId) 1 encI1 ws (0 : Int)),
                       Ent.mk (Loc.sl ao' cap') (SObj.vecL (3 : TypeId) 1 encI1 (pidsP m_1 x.4) (0 : Int))]
                      (SV.bool false)
                    | false =>
                     K (frmR [J0] (bodyOf Try.f10) 68)
                      (Sy.mk (SV.vec 0 ao (List.length bs) cap :: (SV.raw (u 1) :: (SV.raw (u 2) :: (SV.ptr 2 b 0 :: (SV.vec 3 am (List.length m) cm :: (SV.int IntKind.i64 (↑i : Int) :: (SV.ptr 4 b6 0 :: (rawR u 7 (SV.ptr 6 b7 0 :: (SV.str n :: (SV.bool ok :: (SV.int IntKind.i64 z :: (rawR u 26 (SV.vec 7 aw (List.length ws) cw :: (SV.vec 3 am (List.length m) cm :: (SV.ptr 4 b6 3 :: (SV.str x.4 :: (SV.vec 8 ao' (List.length (pidsP m_1 x.4)) cap' :: (SV.bool true :: (SV.bool false :: (SV.bool false :: (SV.bool ok :: (SV.int IntKind.i64 z :: (SV.bool (decide (z ≥ (0 : Int))) :: ((SV.bool !ok == decide (z ≥ (0 : Int))) :: ((SV.bool !ok == decide (z ≥ (0 : Int))) :: (SV.bool false :: (SV.bool ok :: (SV.bool true :: (SV.str n :: (SV.vec 3 am (List.length m) cm :: (SV.int IntKind.i64 z :: (SV.eptr 3 (Addr.blkD am) (Addr.offD am) 2 (Int.toNat z) 0 :: (SV.eptr 3 (Addr.blkD am) (Addr.offD am) 2 (Int.toNat z) 1 :: (SV.str (List.getD m (Int.toNat z) ((0 : Int), ByteArray.mk #[])).2 :: ((SV.bool !sEq n (List.getD m (Int.toNat z) ((0 : Int), ByteArray.mk #[])).2) :: ((SV.bool !sEq n (List.getD m (Int.toNat z) ((0 : Int), ByteArray.mk #[])).2) :: ((SV.bool !sEq n (List.getD m (Int.toNat z) ((0 : Int), ByteArray.mk #[])).2) :: (SV.bool false :: (SV.bool ok :: ((SV.bool !ok) :: (SV.bool true :: (SV.str n :: ((SV.bool !sEq n (ByteArray.mk #[])) :: ((SV.bool !sEq n (ByteArray.mk #[])) :: (SV.bool false :: (rawR u 347 [] 124)))))))))))))))))))))))))))))))))) 288))))) 15))))))))
                       [Ent.mk (Loc.sl ao cap) (SObj.roL 5 encStepT bs (StepT.mk (0 : Int) (0 : Int) (0 : Int) (ByteArray.mk #[]) (@none Addr) 0 0 [])),
                        factsT bs, pkA b trkE s, Ent.mk (Loc.sl am cm) (SObj.vecL (88 : TypeId) 2 encPr m ((0 : Int), ByteArray.mk #[])),
                        Ent.mk (Loc.blk b6)
                         (SObj.cells [SV.int IntKind.i64 x.1, SV.int IntKind.i64 x.2, SV.int IntKind.i64 x.3, SV.str x.4, SV.vec 5 x.ao (List.length x.8) x.7]
                          (84 : TypeId)),
                        Ent.mk (Loc.sl x.ao x.7) (SObj.roL 1 encI1 x.8 (0 : Int)),
                        Ent.mk (Loc.blk b7) (SObj.cells [SV.vec 7 aw (List.length ws) cw] (32 : TypeId)),
                        Ent.mk (Loc.sl aw cw) (SObj.vecL (3 : TypeId) 1 encI1 ws (0 : Int)),
                        Ent.mk (Loc.sl ao' cap') (SObj.vecL (3 : TypeId) 1 encI1 (pidsP m_1 x.4) (0 : Int))])
                   | false =>
                    K (frmR [J0] (bodyOf Try.f10) 68)
                     (Sy.mk (SV.vec 0 ao (List.length bs) cap :: (SV.raw (u 1) :: (SV.raw (u 2) :: (SV.ptr 2 b 0 :: (SV.vec 3 am (List.length m) cm :: (SV.int IntKind.i64 (↑i : Int) :: (SV.ptr 4 b6 0 :: (rawR u 7 (SV.ptr 6 b7 0 :: (SV.str n :: (SV.bool ok :: (SV.int IntKind.i64 z :: (rawR u 26 (SV.vec 7 aw (List.length ws) cw :: (SV.vec 3 am (List.length m) cm :: (SV.ptr 4 b6 3 :: (SV.str x.4 :: (SV.vec 8 ao' (List.length (pidsP m_1 x.4)) cap' :: (SV.bool true :: (SV.bool false :: (SV.bool false :: (SV.bool ok :: (SV.int IntKind.i64 z :: (SV.bool (decide (z ≥ (0 : Int))) :: ((SV.bool !ok == decide (z ≥ (0 : Int))) :: ((SV.bool !ok == decide (z ≥ (0 : Int))) :: (SV.bool false :: (SV.bool ok :: (SV.bool true :: (SV.str n :: (SV.vec 3 am (List.length m) cm :: (SV.int IntKind.i64 z :: (SV.eptr 3 (Addr.blkD am) (Addr.offD am) 2 (Int.toNat z) 0 :: (SV.eptr 3 (Addr.blkD am) (Addr.offD am) 2 (Int.toNat z) 1 :: (SV.str (List.getD m (Int.toNat z) ((0 : Int), ByteArray.mk #[])).2 :: ((SV.bool !sEq n (List.getD m (Int.toNat z) ((0 : Int), ByteArray.mk #[])).2) :: ((SV.bool !sEq n (List.getD m (Int.toNat z) ((0 : Int), ByteArray.mk #[])).2) :: ((SV.bool !sEq n (List.getD m (Int.toNat z) ((0 : Int), ByteArray.mk #[])).2) :: (SV.bool false :: (SV.bool ok :: ((SV.bool !ok) :: (SV.bool false :: (SV.raw (Value.tuple #[]) :: (SV.raw (Value.tuple #[]) :: (SV.bool false :: (SV.bool false :: (rawR u 347 [] 124)))))))))))))))))))))))))))))))))) 288))))) 15))))))))
                      [Ent.mk (Loc.sl ao cap) (SObj.roL 5 encStepT bs (StepT.mk (0 : Int) (0 : Int) (0 : Int) (ByteArray.mk #[]) (@none Addr) 0 0 [])),
                       factsT bs, pkA b trkE s, Ent.mk (Loc.sl am cm) (SObj.vecL (88 : TypeId) 2 encPr m ((0 : Int), ByteArray.mk #[])),
                       Ent.mk (Loc.blk b6)
                        (SObj.cells [SV.int IntKind.i64 x.1, SV.int IntKind.i64 x.2, SV.int IntKind.i64 x.3, SV.str x.4, SV.vec 5 x.ao (List.length x.8) x.7]
                         (84 : TypeId)),
                       Ent.mk (Loc.sl x.ao x.7) (SObj.roL 1 encI1 x.8 (0 : Int)),
                       Ent.mk (Loc.blk b7) (SObj.cells [SV.vec 7 aw (List.length ws) cw] (32 : TypeId)),
                       Ent.mk (Loc.sl aw cw) (SObj.vecL (3 : TypeId) 1 encI1 ws (0 : Int)),
                       Ent.mk (Loc.sl ao' cap') (SObj.vecL (3 : TypeId) 1 encI1 (pidsP m_1 x.4) (0 : Int))])
               | false =>
                match !ok with
                | true =>
                 match !sEq n (ByteArray.mk #[]) with
                 | true =>
                  N
                   [Ent.mk (Loc.sl ao cap) (SObj.roL 5 encStepT bs (StepT.mk (0 : Int) (0 : Int) (0 : Int) (ByteArray.mk #[]) (@none Addr) 0 0 [])),
                    factsT bs, pkA b trkE s, Ent.mk (Loc.sl am cm) (SObj.vecL (88 : TypeId) 2 encPr m ((0 : Int), ByteArray.mk #[])),
                    Ent.mk (Loc.blk b6)
                     (SObj.cells [SV.int IntKind.i64 x.1, SV.int IntKind.i64 x.2, SV.int IntKind.i64 x.3, SV.str x.4, SV.vec 5 x.ao (List.length x.8) x.7] (84 : TypeId)),
                    Ent.mk (Loc.sl x.ao x.7) (SObj.roL 1 encI1 x.8 (0 : Int)), Ent.mk (Loc.blk b7) (SObj.cells [SV.vec 7 aw (List.length ws) cw] (32 : TypeId)),
                    Ent.mk (Loc.sl aw cw) (SObj.vecL (3 : TypeId) 1 encI1 ws (0 : Int)),
                    Ent.mk (Loc.sl ao' cap') (SObj.vecL (3 : TypeId) 1 encI1 (pidsP m_1 x.4) (0 : Int))]
                   (SV.bool false)
                 | false =>
                  K (frmR [J0] (bodyOf Try.f10) 68)
                   (Sy.mk (SV.vec 0 ao (List.length bs) cap :: (SV.raw (u 1) :: (SV.raw (u 2) :: (SV.ptr 2 b 0 :: (SV.vec 3 am (List.length m) cm :: (SV.int IntKind.i64 (↑i : Int) :: (SV.ptr 4 b6 0 :: (rawR u 7 (SV.ptr 6 b7 0 :: (SV.str n :: (SV.bool ok :: (SV.int IntKind.i64 z :: (rawR u 26 (SV.vec 7 aw (List.length ws) cw :: (SV.vec 3 am (List.length m) cm :: (SV.ptr 4 b6 3 :: (SV.str x.4 :: (SV.vec 8 ao' (List.length (pidsP m_1 x.4)) cap' :: (SV.bool true :: (SV.bool false :: (SV.bool false :: (SV.bool ok :: (SV.int IntKind.i64 z :: (SV.bool (decide (z ≥ (0 : Int))) :: ((SV.bool !ok == decide (z ≥ (0 : Int))) :: ((SV.bool !ok == decide (z ≥ (0 : Int))) :: (SV.bool false :: (SV.bool ok :: (SV.bool false :: (rawE (SV.bool false :: (SV.bool false :: (SV.bool false :: (SV.bool ok :: ((SV.bool !ok) :: (SV.bool true :: (SV.str n :: ((SV.bool !sEq n (ByteArray.mk #[])) :: ((SV.bool !sEq n (ByteArray.mk #[])) :: (SV.bool false :: (rawR u 347 [] 124))))))))))) 7))))))))))))))))) 288))))) 15))))))))
                    [Ent.mk (Loc.sl ao cap) (SObj.roL 5 encStepT bs (StepT.mk (0 : Int) (0 : Int) (0 : Int) (ByteArray.mk #[]) (@none Addr) 0 0 [])),
                     factsT bs, pkA b trkE s, Ent.mk (Loc.sl am cm) (SObj.vecL (88 : TypeId) 2 encPr m ((0 : Int), ByteArray.mk #[])),
                     Ent.mk (Loc.blk b6)
                      (SObj.cells [SV.int IntKind.i64 x.1, SV.int IntKind.i64 x.2, SV.int IntKind.i64 x.3, SV.str x.4, SV.vec 5 x.ao (List.length x.8) x.7]
                       (84 : TypeId)),
                     Ent.mk (Loc.sl x.ao x.7) (SObj.roL 1 encI1 x.8 (0 : Int)), Ent.mk (Loc.blk b7) (SObj.cells [SV.vec 7 aw (List.length ws) cw] (32 : TypeId)),
                     Ent.mk (Loc.sl aw cw) (SObj.vecL (3 : TypeId) 1 encI1 ws (0 : Int)),
                     Ent.mk (Loc.sl ao' cap') (SObj.vecL (3 : TypeId) 1 encI1 (pidsP m_1 x.4) (0 : Int))])
                | false =>
                 K (frmR [J0] (bodyOf Try.f10) 68)
                  (Sy.mk (SV.vec 0 ao (List.length bs) cap :: (SV.raw (u 1) :: (SV.raw (u 2) :: (SV.ptr 2 b 0 :: (SV.vec 3 am (List.length m) cm :: (SV.int IntKind.i64 (↑i : Int) :: (SV.ptr 4 b6 0 :: (rawR u 7 (SV.ptr 6 b7 0 :: (SV.str n :: (SV.bool ok :: (SV.int IntKind.i64 z :: (rawR u 26 (SV.vec 7 aw (List.length ws) cw :: (SV.vec 3 am (List.length m) cm :: (SV.ptr 4 b6 3 :: (SV.str x.4 :: (SV.vec 8 ao' (List.length (pidsP m_1 x.4)) cap' :: (SV.bool true :: (SV.bool false :: (SV.bool false :: (SV.bool ok :: (SV.int IntKind.i64 z :: (SV.bool (decide (z ≥ (0 : Int))) :: ((SV.bool !ok == decide (z ≥ (0 : Int))) :: ((SV.bool !ok == decide (z ≥ (0 : Int))) :: (SV.bool false :: (SV.bool ok :: (SV.bool false :: (rawE (SV.bool false :: (SV.bool false :: (SV.bool false :: (SV.bool ok :: ((SV.bool !ok) :: (SV.bool false :: (SV.raw (Value.tuple #[]) :: (SV.raw (Value.tuple #[]) :: (SV.bool false :: (SV.bool false :: (rawR u 347 [] 124))))))))))) 7))))))))))))))))) 288))))) 15))))))))
                   [Ent.mk (Loc.sl ao cap) (SObj.roL 5 encStepT bs (StepT.mk (0 : Int) (0 : Int) (0 : Int) (ByteArray.mk #[]) (@none Addr) 0 0 [])),
                    factsT bs, pkA b trkE s, Ent.mk (Loc.sl am cm) (SObj.vecL (88 : TypeId) 2 encPr m ((0 : Int), ByteArray.mk #[])),
                    Ent.mk (Loc.blk b6)
                     (SObj.cells [SV.int IntKind.i64 x.1, SV.int IntKind.i64 x.2, SV.int IntKind.i64 x.3, SV.str x.4, SV.vec 5 x.ao (List.length x.8) x.7] (84 : TypeId)),
                    Ent.mk (Loc.sl x.ao x.7) (SObj.roL 1 encI1 x.8 (0 : Int)), Ent.mk (Loc.blk b7) (SObj.cells [SV.vec 7 aw (List.length ws) cw] (32 : TypeId)),
                    Ent.mk (Loc.sl aw cw) (SObj.vecL (3 : TypeId) 1 encI1 ws (0 : Int)),
                    Ent.mk (Loc.sl ao' cap') (SObj.vecL (3 : TypeId) 1 encI1 (pidsP m_1 x.4) (0 : Int))])) := by kernel_rfl
end Go.Proofs.Ytihajdkipkfiiaa

