import Derived.Test.YtihajdkipkfiiaaMgTrackPlays10
import Derived.Test.YtihajdkipkfiiaaMgTrackPlays11
import Derived.Test.YtihajdkipkfiiaaMgTrackPlays7
import Derived.Test.YtihajdkipkfiiaaMgTrackPlays6
import Derived.Test.YtihajdkipkfiiaaMgTrackPlays5
/- YtihajdkipkfiiaaTq2 -/
/- TrackPlays: calls. -/
namespace Go.Proofs.Ytihajdkipkfiiaa
open Go Go.RowKit
set_option linter.unusedVariables false
set_option linter.unusedSimpArgs false
set_option linter.unnecessarySimpa false
set_option maxHeartbeats 0

set_option maxRecDepth 100000
section
variable {W : World} {F : List Ch} {ao : Option Addr} {cap : Nat} {bs : List StepT} {b : Nat} {s : Trk} {am : Option Addr} {cm : Nat} {m : PRow} {i : Nat} {x : StepT} {b6 : Nat} {aw : Option Addr} {cw : Nat} {ws : List Int} {st : Sy} {b7 : Nat} {n : ByteArray} {ok : Bool} {z : Int}
theorem tq66 (hi : i < bs.length) (hb : bs.length ≤ 100) (h : LT bs (i + 1) s m) (hw : ws = pidsP m x.unit) (hz : (z = -1 ∧ ok = false ∧ n = ⟨#[]⟩) ∨ ∃ i' : Nat, z = (i' : Int) ∧ i' < m.length ∧ ok = true ∧ ∀ d, (m.getD i' d).2 = n) (h1 : lenN st.tmps = 471) (h2 : liveOk st.tmps [(0, .vec 0 ao bs.length cap), (3, .ptr 2 b 0), (4, .vec 3 am (m).length cm), (5, .int .i64 (i : Int)), (6, .ptr 4 b6 0), (22, .ptr 6 b7 0), (23, .str n), (24, .bool ok), (25, .int .i64 z)]) (hh : ∀ w, Rep W F st.heap w → Rep W F [⟨.sl ao cap, .roL 5 encStepT bs StepT.zero⟩, factsT bs, pkA b trkE (s), ⟨.sl am cm, .vecL 88 2 encPr (m) zPr⟩, ⟨.blk b6, .cells [.int .i64 x.what, .int .i64 x.a, .int .i64 x.b, .str x.unit, .vec 5 x.ao x.pids.length x.cap] 84⟩, ⟨.sl x.ao x.cap, .roL 1 encI1 x.pids 0⟩, ⟨.blk b7, .cells [.vec 7 aw ws.length cw] 32⟩, ⟨.sl aw cw, .vecL 3 1 encI1 ws 0⟩] w) : G Try.prog (endQ Try.prog Try.f10 W F fun _ r => r = .bool true) W F (frmR [(Back W F 471 (fun x : Nat × Trk × Option Addr × Nat × PRow => [(0, .vec 0 ao bs.length cap), (3, .ptr 2 b 0), (4, .vec 3 x.2.2.1 (x.2.2.2.2).length x.2.2.2.1), (5, .int .i64 (x.1 : Int))]) (fun x : Nat × Trk × Option Addr × Nat × PRow => [⟨.sl ao cap, .roL 5 encStepT bs StepT.zero⟩, factsT bs, pkA b trkE (x.2.1), ⟨.sl x.2.2.1 x.2.2.2.1, .vecL 88 2 encPr (x.2.2.2.2) zPr⟩]) (fun x : Nat × Trk × Option Addr × Nat × PRow => x.1 ≤ bs.length ∧ LT bs x.1 x.2.1 x.2.2.2.2) (fun x : Nat × Trk × Option Addr × Nat × PRow => bs.length - x.1) (bs.length - i))] (bodyOf Try.f10) 66) st := by
  refine G_live 471 [(0, .vec 0 ao bs.length cap), (3, .ptr 2 b 0), (4, .vec 3 am (m).length cm), (5, .int .i64 (i : Int)), (6, .ptr 4 b6 0), (22, .ptr 6 b7 0), (23, .str n), (24, .bool ok), (25, .int .i64 z)] [⟨.sl ao cap, .roL 5 encStepT bs StepT.zero⟩, factsT bs, pkA b trkE (s), ⟨.sl am cm, .vecL 88 2 encPr (m) zPr⟩, ⟨.blk b6, .cells [.int .i64 x.what, .int .i64 x.a, .int .i64 x.b, .str x.unit, .vec 5 x.ao x.pids.length x.cap] 84⟩, ⟨.sl x.ao x.cap, .roL 1 encI1 x.pids 0⟩, ⟨.blk b7, .cells [.vec 7 aw ws.length cw] 32⟩, ⟨.sl aw cw, .vecL 3 1 encI1 ws 0⟩] h1 h2 hh fun u => ?_
  refine G_run (kc := true) (ss := [68]) tqT_ok hmQ 2500 ?_
  rw [tq_66]
  have w1 : IntKind.wrap .i64 ((i : Int) + 1) = ((i + 1 : Nat) : Int) := IntWalk.i64_in _ (by omega)
  have hml : m.length ≤ 100000 := by have := h.len; omega
  subst hw
  have hwl : (pidsP m x.unit).length ≤ 1000000 := by have := pidsP_leT m x.unit; omega
  have fin : ∀ (tm : List SV) (e1 e2 e3 : Ent), lenN tm = 471 → liveOk tm [(0, .vec 0 ao bs.length cap), (3, .ptr 2 b 0), (4, .vec 3 am (m).length cm), (5, .int .i64 (i : Int)), (6, .ptr 4 b6 0)] → G Try.prog (endQ Try.prog Try.f10 W F fun _ r => r = .bool true) W F (frmR [(Back W F 471 (fun x : Nat × Trk × Option Addr × Nat × PRow => [(0, .vec 0 ao bs.length cap), (3, .ptr 2 b 0), (4, .vec 3 x.2.2.1 (x.2.2.2.2).length x.2.2.2.1), (5, .int .i64 (x.1 : Int))]) (fun x : Nat × Trk × Option Addr × Nat × PRow => [⟨.sl ao cap, .roL 5 encStepT bs StepT.zero⟩, factsT bs, pkA b trkE (x.2.1), ⟨.sl x.2.2.1 x.2.2.2.1, .vecL 88 2 encPr (x.2.2.2.2) zPr⟩]) (fun x : Nat × Trk × Option Addr × Nat × PRow => x.1 ≤ bs.length ∧ LT bs x.1 x.2.1 x.2.2.2.2) (fun x : Nat × Trk × Option Addr × Nat × PRow => bs.length - x.1) (bs.length - i))] (bodyOf Try.f10) 68) ⟨tm, [⟨.sl ao cap, .roL 5 encStepT bs StepT.zero⟩, factsT bs, pkA b trkE (s), ⟨.sl am cm, .vecL 88 2 encPr (m) zPr⟩, ⟨.blk b6, .cells [.int .i64 x.what, .int .i64 x.a, .int .i64 x.b, .str x.unit, .vec 5 x.ao x.pids.length x.cap] 84⟩, ⟨.sl x.ao x.cap, .roL 1 encI1 x.pids 0⟩, e1, e2, e3]⟩ := fun tm e1 e2 e3 g1 g2 => tq68 hi hb h g1 g2 (fun w hr => Rep.dropR (t := [_, _, _]) hr)
  refine ⟨rfl, rfl, rfl, m, rfl, ⟨rfl, by omega⟩, fun ao1 cap1 => ⟨⟨rfl, rfl, rfl, rfl, rfl, rfl, rfl, rfl, trivial⟩, rfl, pidsP m x.unit, rfl, rfl, ⟨rfl, rfl, rfl, hwl⟩, ⟨rfl, rfl, rfl, rfl, rfl, rfl, rfl, rfl, trivial⟩, ?_⟩⟩
  rcases hz with ⟨rfl, rfl, rfl⟩ | ⟨i', rfl, hi', rfl, hd⟩
  · have e1 : decide ((-1 : Int) ≥ 0) = false := by decide
    rw [e1, sEq_self]
    simp only [beq_self_eq_true, Bool.not_true, Bool.not_false]
    exact fin _ _ _ _ rfl ⟨rfl, rfl, rfl, rfl, rfl, trivial⟩
  · have e1 : decide ((i' : Int) ≥ 0) = true := decide_eq_true (by omega)
    rw [e1, Int.toNat_natCast, hd, sEq_self]
    refine ⟨⟨rfl, rfl, rfl, by omega, by omega⟩, ⟨rfl, rfl, rfl, hi'⟩, ?_⟩
    exact fin _ _ _ _ rfl ⟨rfl, rfl, rfl, rfl, rfl, trivial⟩
theorem TM.unitOf (h : TM s m) (p : Int) : (atP m p = -1 ∧ (mget s.of (.i .i64 p)).isSome = false ∧ (mget s.of (.i .i64 p)).getD ⟨#[]⟩ = ⟨#[]⟩) ∨ ∃ i' : Nat, atP m p = (i' : Int) ∧ i' < m.length ∧ (mget s.of (.i .i64 p)).isSome = true ∧ ∀ d, (m.getD i' d).2 = (mget s.of (.i .i64 p)).getD ⟨#[]⟩ := by
  rcases atP_cases h.asc p with ⟨h0, h1, _⟩ | ⟨i', n, hm, h0, hi, hd, _⟩
  · left; rw [h.none h1]; exact ⟨h0, rfl, rfl⟩
  · right
    rw [(h.o p n).2 hm]
    exact ⟨i', h0, hi, rfl, fun d => by rw [hd]; rfl⟩
theorem tq62 (hi : i < bs.length) (hb : bs.length ≤ 100) (h : LT bs (i + 1) s m) (h1 : lenN st.tmps = 471) (h2 : liveOk st.tmps [(0, .vec 0 ao bs.length cap), (3, .ptr 2 b 0), (4, .vec 3 am (m).length cm), (5, .int .i64 (i : Int)), (6, .ptr 4 b6 0)]) (hh : ∀ w, Rep W F st.heap w → Rep W F [⟨.sl ao cap, .roL 5 encStepT bs StepT.zero⟩, factsT bs, pkA b trkE (s), ⟨.sl am cm, .vecL 88 2 encPr (m) zPr⟩, ⟨.blk b6, .cells [.int .i64 x.what, .int .i64 x.a, .int .i64 x.b, .str x.unit, .vec 5 x.ao x.pids.length x.cap] 84⟩, ⟨.sl x.ao x.cap, .roL 1 encI1 x.pids 0⟩] w) : G Try.prog (endQ Try.prog Try.f10 W F fun _ r => r = .bool true) W F (frmR [(Back W F 471 (fun x : Nat × Trk × Option Addr × Nat × PRow => [(0, .vec 0 ao bs.length cap), (3, .ptr 2 b 0), (4, .vec 3 x.2.2.1 (x.2.2.2.2).length x.2.2.2.1), (5, .int .i64 (x.1 : Int))]) (fun x : Nat × Trk × Option Addr × Nat × PRow => [⟨.sl ao cap, .roL 5 encStepT bs StepT.zero⟩, factsT bs, pkA b trkE (x.2.1), ⟨.sl x.2.2.1 x.2.2.2.1, .vecL 88 2 encPr (x.2.2.2.2) zPr⟩]) (fun x : Nat × Trk × Option Addr × Nat × PRow => x.1 ≤ bs.length ∧ LT bs x.1 x.2.1 x.2.2.2.2) (fun x : Nat × Trk × Option Addr × Nat × PRow => bs.length - x.1) (bs.length - i))] (bodyOf Try.f10) 62) st := by
  refine G_live 471 [(0, .vec 0 ao bs.length cap), (3, .ptr 2 b 0), (4, .vec 3 am (m).length cm), (5, .int .i64 (i : Int)), (6, .ptr 4 b6 0)] [⟨.sl ao cap, .roL 5 encStepT bs StepT.zero⟩, factsT bs, pkA b trkE (s), ⟨.sl am cm, .vecL 88 2 encPr (m) zPr⟩, ⟨.blk b6, .cells [.int .i64 x.what, .int .i64 x.a, .int .i64 x.b, .str x.unit, .vec 5 x.ao x.pids.length x.cap] 84⟩, ⟨.sl x.ao x.cap, .roL 1 encI1 x.pids 0⟩] h1 h2 hh fun u => ?_
  refine G_run (kc := true) (ss := [66]) tqT_ok hmQ 1500 ?_
  rw [tq_62]
  have w1 : IntKind.wrap .i64 ((i : Int) + 1) = ((i + 1 : Nat) : Int) := IntWalk.i64_in _ (by omega)
  have hml : m.length ≤ 100000 := by have := h.len; omega
  obtain ⟨hpo, hpl⟩ := h.tm.pids (by omega) x.unit
  have hcn := h.cnt x.unit
  rw [hpl]
  intro b7
  refine ⟨rfl, rfl, rfl, rfl, HEq.rfl, hpo, fun ao1 cap1 bx => ⟨rfl, rfl, pidsP m x.unit, 7, ao1, cap1, rfl, rfl, rfl, ⟨⟨rfl, rfl, rfl⟩, by omega⟩, fun ag cg => ⟨rfl, rfl, rfl, rfl, HEq.rfl, rfl, rfl, m, rfl, ⟨rfl, by omega⟩, ?_⟩⟩⟩
  exact tq66 (ws := pidsP m x.unit) (aw := ag) (cw := cg) (b7 := b7) hi hb h rfl (h.tm.unitOf x.b) rfl ⟨rfl, rfl, rfl, rfl, rfl, rfl, congrArg Value.string (by cases mget s.of (Key.i IntKind.i64 x.b) <;> rfl), rfl, rfl, trivial⟩ (fun w hr => by
    have g1 := Rep.pick (π := [0, 1, 2, 3, 4, 5, 6, 9]) (by decide) rfl hr
    exact Rep.cellsEq (l := 6) (cs' := [.vec 7 ag (pidsP m x.unit).length cg]) rfl (by rfl) g1)
variable {k : Int}
theorem tq43 (hi : i < bs.length) (hb : bs.length ≤ 100) (hX : XOk bs i x) (h : LT bs i s m) (hk : k = atP m x.a) (h1 : lenN st.tmps = 471) (h2 : liveOk st.tmps [(0, .vec 0 ao bs.length cap), (3, .ptr 2 b 0), (4, .vec 3 am (m).length cm), (5, .int .i64 (i : Int)), (6, .ptr 4 b6 0), (7, .int .i64 k)]) (hh : ∀ w, Rep W F st.heap w → Rep W F [⟨.sl ao cap, .roL 5 encStepT bs StepT.zero⟩, factsT bs, pkA b trkE (s), ⟨.sl am cm, .vecL 88 2 encPr (m) zPr⟩, ⟨.blk b6, .cells [.int .i64 x.what, .int .i64 x.a, .int .i64 x.b, .str x.unit, .vec 5 x.ao x.pids.length x.cap] 84⟩, ⟨.sl x.ao x.cap, .roL 1 encI1 x.pids 0⟩] w) : G Try.prog (endQ Try.prog Try.f10 W F fun _ r => r = .bool true) W F (frmR [(Back W F 471 (fun x : Nat × Trk × Option Addr × Nat × PRow => [(0, .vec 0 ao bs.length cap), (3, .ptr 2 b 0), (4, .vec 3 x.2.2.1 (x.2.2.2.2).length x.2.2.2.1), (5, .int .i64 (x.1 : Int))]) (fun x : Nat × Trk × Option Addr × Nat × PRow => [⟨.sl ao cap, .roL 5 encStepT bs StepT.zero⟩, factsT bs, pkA b trkE (x.2.1), ⟨.sl x.2.2.1 x.2.2.2.1, .vecL 88 2 encPr (x.2.2.2.2) zPr⟩]) (fun x : Nat × Trk × Option Addr × Nat × PRow => x.1 ≤ bs.length ∧ LT bs x.1 x.2.1 x.2.2.2.2) (fun x : Nat × Trk × Option Addr × Nat × PRow => bs.length - x.1) (bs.length - i))] (bodyOf Try.f10) 43) st := by
  refine G_live 471 [(0, .vec 0 ao bs.length cap), (3, .ptr 2 b 0), (4, .vec 3 am (m).length cm), (5, .int .i64 (i : Int)), (6, .ptr 4 b6 0), (7, .int .i64 k)] [⟨.sl ao cap, .roL 5 encStepT bs StepT.zero⟩, factsT bs, pkA b trkE (s), ⟨.sl am cm, .vecL 88 2 encPr (m) zPr⟩, ⟨.blk b6, .cells [.int .i64 x.what, .int .i64 x.a, .int .i64 x.b, .str x.unit, .vec 5 x.ao x.pids.length x.cap] 84⟩, ⟨.sl x.ao x.cap, .roL 1 encI1 x.pids 0⟩] h1 h2 hh fun u => ?_
  refine G_run (kc := false) (ss := [62]) tqT_ok hmQ 1500 ?_
  rw [tq_43]
  have w1 : IntKind.wrap .i64 ((i : Int) + 1) = ((i + 1 : Nat) : Int) := IntWalk.i64_in _ (by omega)
  have hml : m.length ≤ 100000 := by have := h.len; omega
  have ea := fun nb => h.tm.add x.unit x.a hX.wa hX.hu nb
  have same : ∀ (tm : List SV) (nb : Nat), TM (tAdd s x.unit x.a nb).1 m → lenN tm = 471 → liveOk tm [(0, .vec 0 ao bs.length cap), (3, .ptr 2 b 0), (4, .vec 3 am (m).length cm), (5, .int .i64 (i : Int)), (6, .ptr 4 b6 0)] → G Try.prog (endQ Try.prog Try.f10 W F fun _ r => r = .bool true) W F (frmR [(Back W F 471 (fun x : Nat × Trk × Option Addr × Nat × PRow => [(0, .vec 0 ao bs.length cap), (3, .ptr 2 b 0), (4, .vec 3 x.2.2.1 (x.2.2.2.2).length x.2.2.2.1), (5, .int .i64 (x.1 : Int))]) (fun x : Nat × Trk × Option Addr × Nat × PRow => [⟨.sl ao cap, .roL 5 encStepT bs StepT.zero⟩, factsT bs, pkA b trkE (x.2.1), ⟨.sl x.2.2.1 x.2.2.2.1, .vecL 88 2 encPr (x.2.2.2.2) zPr⟩]) (fun x : Nat × Trk × Option Addr × Nat × PRow => x.1 ≤ bs.length ∧ LT bs x.1 x.2.1 x.2.2.2.2) (fun x : Nat × Trk × Option Addr × Nat × PRow => bs.length - x.1) (bs.length - i))] (bodyOf Try.f10) 62) ⟨tm, [⟨.sl ao cap, .roL 5 encStepT bs StepT.zero⟩, factsT bs, pkA b trkE ((tAdd s x.unit x.a nb).1), ⟨.sl am cm, .vecL 88 2 encPr (m) zPr⟩, ⟨.blk b6, .cells [.int .i64 x.what, .int .i64 x.a, .int .i64 x.b, .str x.unit, .vec 5 x.ao x.pids.length x.cap] 84⟩, ⟨.sl x.ao x.cap, .roL 1 encI1 x.pids 0⟩]⟩ := fun tm nb ht g1 g2 => tq62 hi hb (h.same ht) g1 g2 (fun w hr => hr)
  have put : ∀ (tm : List SV) (nb : Nat) (a' : Option Addr) (c' : Nat), TM (tAdd s x.unit x.a nb).1 (insP m (x.a, x.unit)) → lenN tm = 471 → liveOk tm [(0, .vec 0 ao bs.length cap), (3, .ptr 2 b 0), (4, .vec 6 a' (insP m (x.a, x.unit)).length c'), (5, .int .i64 (i : Int)), (6, .ptr 4 b6 0)] → G Try.prog (endQ Try.prog Try.f10 W F fun _ r => r = .bool true) W F (frmR [(Back W F 471 (fun x : Nat × Trk × Option Addr × Nat × PRow => [(0, .vec 0 ao bs.length cap), (3, .ptr 2 b 0), (4, .vec 3 x.2.2.1 (x.2.2.2.2).length x.2.2.2.1), (5, .int .i64 (x.1 : Int))]) (fun x : Nat × Trk × Option Addr × Nat × PRow => [⟨.sl ao cap, .roL 5 encStepT bs StepT.zero⟩, factsT bs, pkA b trkE (x.2.1), ⟨.sl x.2.2.1 x.2.2.2.1, .vecL 88 2 encPr (x.2.2.2.2) zPr⟩]) (fun x : Nat × Trk × Option Addr × Nat × PRow => x.1 ≤ bs.length ∧ LT bs x.1 x.2.1 x.2.2.2.2) (fun x : Nat × Trk × Option Addr × Nat × PRow => bs.length - x.1) (bs.length - i))] (bodyOf Try.f10) 62) ⟨tm, [⟨.sl ao cap, .roL 5 encStepT bs StepT.zero⟩, factsT bs, pkA b trkE ((tAdd s x.unit x.a nb).1), ⟨.sl am cm, .vecL 88 2 encPr (m) zPr⟩, ⟨.blk b6, .cells [.int .i64 x.what, .int .i64 x.a, .int .i64 x.b, .str x.unit, .vec 5 x.ao x.pids.length x.cap] 84⟩, ⟨.sl x.ao x.cap, .roL 1 encI1 x.pids 0⟩, vecP a' c' (insP m (x.a, x.unit))]⟩ := fun tm nb a' c' ht g1 g2 => tq62 (am := a') (cm := c') hi hb (h.ins hX.un ht) g1 g2 (fun w hr => Rep.pick (π := [0, 1, 2, 6, 4, 5]) (by decide) rfl hr)
  unfold addOk at ea
  rw [← hk] at ea
  refine ⟨rfl, ?_⟩
  cases hu : sEq x.unit ⟨#[]⟩ with
  | true =>
    simp only [hu, Bool.not_true, Bool.false_and] at ea
    rw [Bool.not_true]
    refine ⟨rfl, rfl, rfl, rfl, rfl, HEq.rfl, fun nb => ?_⟩
    rw [(ea nb).1]
    exact same _ nb (ea nb).2 rfl ⟨rfl, rfl, rfl, rfl, rfl, trivial⟩
  | false =>
    simp only [hu, Bool.not_false, Bool.true_and] at ea
    rw [Bool.not_false]
    refine ⟨rfl, ?_⟩
    cases h2a : decide (x.a ≥ 2) with
    | false =>
      simp only [h2a, Bool.false_and] at ea
      refine ⟨rfl, rfl, rfl, rfl, rfl, HEq.rfl, fun nb => ?_⟩
      rw [(ea nb).1]
      exact same _ nb (ea nb).2 rfl ⟨rfl, rfl, rfl, rfl, rfl, trivial⟩
    | true =>
      simp only [h2a, Bool.true_and] at ea
      refine ⟨rfl, rfl, rfl, rfl, rfl, HEq.rfl, fun nb => ?_⟩
      rw [(ea nb).1]
      cases hk0 : decide (k < 0) with
      | false =>
        simp only [hk0] at ea
        exact same _ nb (ea nb).2 rfl ⟨rfl, rfl, rfl, rfl, rfl, trivial⟩
      | true =>
        simp only [hk0] at ea
        refine ⟨rfl, rfl, ⟨rfl, rfl⟩, rfl, m, rfl, ⟨rfl, by omega⟩, fun a' c' => ?_⟩
        exact put _ nb a' c' (ea nb).2 rfl ⟨rfl, rfl, rfl, rfl, rfl, trivial⟩
theorem tq50 (hi : i < bs.length) (hb : bs.length ≤ 100) (hX : XOk bs i x) (h : LT bs i s m) (hk : k = atP m x.a) (h1 : lenN st.tmps = 471) (h2 : liveOk st.tmps [(0, .vec 0 ao bs.length cap), (3, .ptr 2 b 0), (4, .vec 3 am (m).length cm), (5, .int .i64 (i : Int)), (6, .ptr 4 b6 0), (7, .int .i64 k)]) (hh : ∀ w, Rep W F st.heap w → Rep W F [⟨.sl ao cap, .roL 5 encStepT bs StepT.zero⟩, factsT bs, pkA b trkE (s), ⟨.sl am cm, .vecL 88 2 encPr (m) zPr⟩, ⟨.blk b6, .cells [.int .i64 x.what, .int .i64 x.a, .int .i64 x.b, .str x.unit, .vec 5 x.ao x.pids.length x.cap] 84⟩, ⟨.sl x.ao x.cap, .roL 1 encI1 x.pids 0⟩] w) : G Try.prog (endQ Try.prog Try.f10 W F fun _ r => r = .bool true) W F (frmR [(Back W F 471 (fun x : Nat × Trk × Option Addr × Nat × PRow => [(0, .vec 0 ao bs.length cap), (3, .ptr 2 b 0), (4, .vec 3 x.2.2.1 (x.2.2.2.2).length x.2.2.2.1), (5, .int .i64 (x.1 : Int))]) (fun x : Nat × Trk × Option Addr × Nat × PRow => [⟨.sl ao cap, .roL 5 encStepT bs StepT.zero⟩, factsT bs, pkA b trkE (x.2.1), ⟨.sl x.2.2.1 x.2.2.2.1, .vecL 88 2 encPr (x.2.2.2.2) zPr⟩]) (fun x : Nat × Trk × Option Addr × Nat × PRow => x.1 ≤ bs.length ∧ LT bs x.1 x.2.1 x.2.2.2.2) (fun x : Nat × Trk × Option Addr × Nat × PRow => bs.length - x.1) (bs.length - i))] (bodyOf Try.f10) 50) st := by
  refine G_live 471 [(0, .vec 0 ao bs.length cap), (3, .ptr 2 b 0), (4, .vec 3 am (m).length cm), (5, .int .i64 (i : Int)), (6, .ptr 4 b6 0), (7, .int .i64 k)] [⟨.sl ao cap, .roL 5 encStepT bs StepT.zero⟩, factsT bs, pkA b trkE (s), ⟨.sl am cm, .vecL 88 2 encPr (m) zPr⟩, ⟨.blk b6, .cells [.int .i64 x.what, .int .i64 x.a, .int .i64 x.b, .str x.unit, .vec 5 x.ao x.pids.length x.cap] 84⟩, ⟨.sl x.ao x.cap, .roL 1 encI1 x.pids 0⟩] h1 h2 hh fun u => ?_
  refine G_run (kc := false) (ss := [62]) tqT_ok hmQ 1500 ?_
  rw [tq_50]
  have w1 : IntKind.wrap .i64 ((i : Int) + 1) = ((i + 1 : Nat) : Int) := IntWalk.i64_in _ (by omega)
  have hml : m.length ≤ 100000 := by have := h.len; omega
  have same : ∀ (tm : List SV) (nb : Nat), TM (tFork s x.a x.b nb).1 m → lenN tm = 471 → liveOk tm [(0, .vec 0 ao bs.length cap), (3, .ptr 2 b 0), (4, .vec 3 am (m).length cm), (5, .int .i64 (i : Int)), (6, .ptr 4 b6 0)] → G Try.prog (endQ Try.prog Try.f10 W F fun _ r => r = .bool true) W F (frmR [(Back W F 471 (fun x : Nat × Trk × Option Addr × Nat × PRow => [(0, .vec 0 ao bs.length cap), (3, .ptr 2 b 0), (4, .vec 3 x.2.2.1 (x.2.2.2.2).length x.2.2.2.1), (5, .int .i64 (x.1 : Int))]) (fun x : Nat × Trk × Option Addr × Nat × PRow => [⟨.sl ao cap, .roL 5 encStepT bs StepT.zero⟩, factsT bs, pkA b trkE (x.2.1), ⟨.sl x.2.2.1 x.2.2.2.1, .vecL 88 2 encPr (x.2.2.2.2) zPr⟩]) (fun x : Nat × Trk × Option Addr × Nat × PRow => x.1 ≤ bs.length ∧ LT bs x.1 x.2.1 x.2.2.2.2) (fun x : Nat × Trk × Option Addr × Nat × PRow => bs.length - x.1) (bs.length - i))] (bodyOf Try.f10) 62) ⟨tm, [⟨.sl ao cap, .roL 5 encStepT bs StepT.zero⟩, factsT bs, pkA b trkE ((tFork s x.a x.b nb).1), ⟨.sl am cm, .vecL 88 2 encPr (m) zPr⟩, ⟨.blk b6, .cells [.int .i64 x.what, .int .i64 x.a, .int .i64 x.b, .str x.unit, .vec 5 x.ao x.pids.length x.cap] 84⟩, ⟨.sl x.ao x.cap, .roL 1 encI1 x.pids 0⟩]⟩ := fun tm nb ht g1 g2 => tq62 hi hb (h.same ht) g1 g2 (fun w hr => hr)
  subst hk
  rcases atP_cases h.tm.asc x.a with ⟨h0, h1, _⟩ | ⟨i', n, hm, h0, hi', hd, _⟩
  · have e0 : decide (atP m x.a ≥ 0) = false := decide_eq_false (by omega)
    rw [e0]
    refine ⟨rfl, rfl, rfl, rfl, rfl, HEq.rfl, fun nb => ?_⟩
    obtain ⟨_, e1⟩ := (h.tm.fork x.a x.b hX.wb nb).1 (by omega)
    have hf : ((tFork s x.a x.b nb).2 == 0) = false := by rw [e1]; rfl
    rw [hf]
    exact same _ nb (by rw [e1]; exact h.tm) rfl ⟨rfl, rfl, rfl, rfl, rfl, trivial⟩
  · have e0 : decide (atP m x.a ≥ 0) = true := decide_eq_true (by omega)
    have hun : n.size ≤ 100 := (h.tm.wf _ hm).2.2.2
    have hne := (h.tm.wf _ hm).2.2.1
    have huu : n ∈ (bs.take (i + 1)).map (·.unit) := un_mono (h.un _ hm)
    have put : ∀ (tm : List SV) (nb : Nat) (a' : Option Addr) (c' : Nat), TM (tFork s x.a x.b nb).1 (insP m (x.b, n)) → lenN tm = 471 → liveOk tm [(0, .vec 0 ao bs.length cap), (3, .ptr 2 b 0), (4, .vec 6 a' (insP m (x.b, n)).length c'), (5, .int .i64 (i : Int)), (6, .ptr 4 b6 0)] → G Try.prog (endQ Try.prog Try.f10 W F fun _ r => r = .bool true) W F (frmR [(Back W F 471 (fun x : Nat × Trk × Option Addr × Nat × PRow => [(0, .vec 0 ao bs.length cap), (3, .ptr 2 b 0), (4, .vec 3 x.2.2.1 (x.2.2.2.2).length x.2.2.2.1), (5, .int .i64 (x.1 : Int))]) (fun x : Nat × Trk × Option Addr × Nat × PRow => [⟨.sl ao cap, .roL 5 encStepT bs StepT.zero⟩, factsT bs, pkA b trkE (x.2.1), ⟨.sl x.2.2.1 x.2.2.2.1, .vecL 88 2 encPr (x.2.2.2.2) zPr⟩]) (fun x : Nat × Trk × Option Addr × Nat × PRow => x.1 ≤ bs.length ∧ LT bs x.1 x.2.1 x.2.2.2.2) (fun x : Nat × Trk × Option Addr × Nat × PRow => bs.length - x.1) (bs.length - i))] (bodyOf Try.f10) 62) ⟨tm, [⟨.sl ao cap, .roL 5 encStepT bs StepT.zero⟩, factsT bs, pkA b trkE ((tFork s x.a x.b nb).1), ⟨.sl am cm, .vecL 88 2 encPr (m) zPr⟩, ⟨.blk b6, .cells [.int .i64 x.what, .int .i64 x.a, .int .i64 x.b, .str x.unit, .vec 5 x.ao x.pids.length x.cap] 84⟩, ⟨.sl x.ao x.cap, .roL 1 encI1 x.pids 0⟩, vecP a' c' (insP m (x.b, n))]⟩ := fun tm nb a' c' ht g1 g2 => tq62 (am := a') (cm := c') hi hb (h.ins huu ht) g1 g2 (fun w hr => Rep.pick (π := [0, 1, 2, 6, 4, 5]) (by decide) rfl hr)
    have ea := fun nb => h.tm.add n x.b hX.wb hun nb
    have ef := fun nb => ((h.tm.fork x.a x.b hX.wb nb).2 i' n h0 hd hm).2
    unfold addOk at ea
    rw [(sEqF _ _).2 hne] at ea
    simp only [Bool.not_false, Bool.true_and] at ea
    rw [e0]
    refine ⟨rfl, ?_⟩
    cases h2b : decide (x.b ≥ 2) with
    | false =>
      simp only [h2b, Bool.false_and] at ea
      refine ⟨rfl, rfl, rfl, rfl, rfl, HEq.rfl, fun nb => ?_⟩
      have hf : ((tFork s x.a x.b nb).2 == 0) = false := by rw [ef]; exact (ea nb).1
      rw [hf]
      exact same _ nb (by rw [ef]; exact (ea nb).2) rfl ⟨rfl, rfl, rfl, rfl, rfl, trivial⟩
    | true =>
      simp only [h2b, Bool.true_and] at ea
      refine ⟨rfl, rfl, m, rfl, ⟨rfl, by omega⟩, rfl, rfl, rfl, rfl, rfl, HEq.rfl, fun nb => ?_⟩
      cases hb0 : decide (atP m x.b < 0) with
      | false =>
        simp only [hb0] at ea
        have hf : ((tFork s x.a x.b nb).2 == 0) = false := by rw [ef]; exact (ea nb).1
        rw [hf]
        exact same _ nb (by rw [ef]; exact (ea nb).2) rfl ⟨rfl, rfl, rfl, rfl, rfl, trivial⟩
      | true =>
        simp only [hb0] at ea
        have hf : ((tFork s x.a x.b nb).2 == 0) = true := by rw [ef]; exact (ea nb).1
        have ht : TM (tFork s x.a x.b nb).1 (insP m (x.b, n)) := by rw [ef]; exact (ea nb).2
        rw [hf, h0, Int.toNat_natCast, hd]
        repeat' first
          | exact rfl
          | exact hi'
          | exact put _ nb _ _ ht rfl ⟨rfl, rfl, rfl, rfl, rfl, trivial⟩
          | (refine ⟨m, rfl, ⟨rfl, by omega⟩, fun a' c' => ?_⟩)
          | apply And.intro
          | (show _ ≤ _; omega)
          | (show _ < _; omega)
          | fail
theorem tq57 (hi : i < bs.length) (hb : bs.length ≤ 100) (hX : XOk bs i x) (h : LT bs i s m) (hk : k = atP m x.a) (h1 : lenN st.tmps = 471) (h2 : liveOk st.tmps [(0, .vec 0 ao bs.length cap), (3, .ptr 2 b 0), (4, .vec 3 am (m).length cm), (5, .int .i64 (i : Int)), (6, .ptr 4 b6 0), (7, .int .i64 k)]) (hh : ∀ w, Rep W F st.heap w → Rep W F [⟨.sl ao cap, .roL 5 encStepT bs StepT.zero⟩, factsT bs, pkA b trkE (s), ⟨.sl am cm, .vecL 88 2 encPr (m) zPr⟩, ⟨.blk b6, .cells [.int .i64 x.what, .int .i64 x.a, .int .i64 x.b, .str x.unit, .vec 5 x.ao x.pids.length x.cap] 84⟩, ⟨.sl x.ao x.cap, .roL 1 encI1 x.pids 0⟩] w) : G Try.prog (endQ Try.prog Try.f10 W F fun _ r => r = .bool true) W F (frmR [(Back W F 471 (fun x : Nat × Trk × Option Addr × Nat × PRow => [(0, .vec 0 ao bs.length cap), (3, .ptr 2 b 0), (4, .vec 3 x.2.2.1 (x.2.2.2.2).length x.2.2.2.1), (5, .int .i64 (x.1 : Int))]) (fun x : Nat × Trk × Option Addr × Nat × PRow => [⟨.sl ao cap, .roL 5 encStepT bs StepT.zero⟩, factsT bs, pkA b trkE (x.2.1), ⟨.sl x.2.2.1 x.2.2.2.1, .vecL 88 2 encPr (x.2.2.2.2) zPr⟩]) (fun x : Nat × Trk × Option Addr × Nat × PRow => x.1 ≤ bs.length ∧ LT bs x.1 x.2.1 x.2.2.2.2) (fun x : Nat × Trk × Option Addr × Nat × PRow => bs.length - x.1) (bs.length - i))] (bodyOf Try.f10) 57) st := by
  refine G_live 471 [(0, .vec 0 ao bs.length cap), (3, .ptr 2 b 0), (4, .vec 3 am (m).length cm), (5, .int .i64 (i : Int)), (6, .ptr 4 b6 0), (7, .int .i64 k)] [⟨.sl ao cap, .roL 5 encStepT bs StepT.zero⟩, factsT bs, pkA b trkE (s), ⟨.sl am cm, .vecL 88 2 encPr (m) zPr⟩, ⟨.blk b6, .cells [.int .i64 x.what, .int .i64 x.a, .int .i64 x.b, .str x.unit, .vec 5 x.ao x.pids.length x.cap] 84⟩, ⟨.sl x.ao x.cap, .roL 1 encI1 x.pids 0⟩] h1 h2 hh fun u => ?_
  refine G_run (kc := false) (ss := [62]) tqT_ok hmQ 1500 ?_
  rw [tq_57]
  have w1 : IntKind.wrap .i64 ((i : Int) + 1) = ((i + 1 : Nat) : Int) := IntWalk.i64_in _ (by omega)
  have hml : m.length ≤ 100000 := by have := h.len; omega
  subst hk
  refine ⟨rfl, rfl, rfl, rfl, HEq.rfl, h.tm.tok x.a, ?_⟩
  rcases atP_cases h.tm.asc x.a with ⟨h0, h1, _⟩ | ⟨i', n, hm, h0, hi', hd, ho⟩
  · have e1 : tGone s x.a = (s, ⟨#[]⟩, 190) := by simp only [tGone, h.tm.none h1]
    have d1 : decide ((-1 : Int) < 0) = true := by decide
    have d2 : decide ((-1 : Int) ≥ 0) = false := by decide
    have d3 : ((190 : Int) != 190) = false := by decide
    rw [h0, e1, d1, d2]
    dsimp only
    rw [d3, sEq_self, Bool.not_true]
    dsimp only
    have same : ∀ (tm : List SV), lenN tm = 471 → liveOk tm [(0, .vec 0 ao bs.length cap), (3, .ptr 2 b 0), (4, .vec 3 am (m).length cm), (5, .int .i64 (i : Int)), (6, .ptr 4 b6 0)] → G Try.prog (endQ Try.prog Try.f10 W F fun _ r => r = .bool true) W F (frmR [(Back W F 471 (fun x : Nat × Trk × Option Addr × Nat × PRow => [(0, .vec 0 ao bs.length cap), (3, .ptr 2 b 0), (4, .vec 3 x.2.2.1 (x.2.2.2.2).length x.2.2.2.1), (5, .int .i64 (x.1 : Int))]) (fun x : Nat × Trk × Option Addr × Nat × PRow => [⟨.sl ao cap, .roL 5 encStepT bs StepT.zero⟩, factsT bs, pkA b trkE (x.2.1), ⟨.sl x.2.2.1 x.2.2.2.1, .vecL 88 2 encPr (x.2.2.2.2) zPr⟩]) (fun x : Nat × Trk × Option Addr × Nat × PRow => x.1 ≤ bs.length ∧ LT bs x.1 x.2.1 x.2.2.2.2) (fun x : Nat × Trk × Option Addr × Nat × PRow => bs.length - x.1) (bs.length - i))] (bodyOf Try.f10) 62) ⟨tm, [⟨.sl ao cap, .roL 5 encStepT bs StepT.zero⟩, factsT bs, pkA b trkE (s), ⟨.sl am cm, .vecL 88 2 encPr (m) zPr⟩, ⟨.blk b6, .cells [.int .i64 x.what, .int .i64 x.a, .int .i64 x.b, .str x.unit, .vec 5 x.ao x.pids.length x.cap] 84⟩, ⟨.sl x.ao x.cap, .roL 1 encI1 x.pids 0⟩]⟩ := fun tm g1 g2 => tq62 hi hb (h.same h.tm) g1 g2 (fun w hr => hr)
    repeat' first
      | exact rfl
      | exact same _ rfl ⟨rfl, rfl, rfl, rfl, rfl, trivial⟩
      | apply And.intro
      | fail
  · obtain ⟨e1, e2⟩ := h.tm.gone hm
    have e0 : decide ((i' : Int) ≥ 0) = true := decide_eq_true (by omega)
    have e3 : decide ((i' : Int) < 0) = false := decide_eq_false (by omega)
    have out : ∀ (tm : List SV) (a' : Option Addr) (c' : Nat), lenN tm = 471 → liveOk tm [(0, .vec 0 ao bs.length cap), (3, .ptr 2 b 0), (4, .vec 6 a' (outP m i').length c'), (5, .int .i64 (i : Int)), (6, .ptr 4 b6 0)] → G Try.prog (endQ Try.prog Try.f10 W F fun _ r => r = .bool true) W F (frmR [(Back W F 471 (fun x : Nat × Trk × Option Addr × Nat × PRow => [(0, .vec 0 ao bs.length cap), (3, .ptr 2 b 0), (4, .vec 3 x.2.2.1 (x.2.2.2.2).length x.2.2.2.1), (5, .int .i64 (x.1 : Int))]) (fun x : Nat × Trk × Option Addr × Nat × PRow => [⟨.sl ao cap, .roL 5 encStepT bs StepT.zero⟩, factsT bs, pkA b trkE (x.2.1), ⟨.sl x.2.2.1 x.2.2.2.1, .vecL 88 2 encPr (x.2.2.2.2) zPr⟩]) (fun x : Nat × Trk × Option Addr × Nat × PRow => x.1 ≤ bs.length ∧ LT bs x.1 x.2.1 x.2.2.2.2) (fun x : Nat × Trk × Option Addr × Nat × PRow => bs.length - x.1) (bs.length - i))] (bodyOf Try.f10) 62) ⟨tm, [⟨.sl ao cap, .roL 5 encStepT bs StepT.zero⟩, factsT bs, pkA b trkE ((tGone s x.a).1), ⟨.sl am cm, .vecL 88 2 encPr (m) zPr⟩, ⟨.blk b6, .cells [.int .i64 x.what, .int .i64 x.a, .int .i64 x.b, .str x.unit, .vec 5 x.ao x.pids.length x.cap] 84⟩, ⟨.sl x.ao x.cap, .roL 1 encI1 x.pids 0⟩, vecP a' c' (outP m i')]⟩ := fun tm a' c' g1 g2 => by
      rw [ho] at g2 ⊢
      exact tq62 (am := a') (cm := c') hi hb (h.rm e2) g1 g2 (fun w hr => Rep.pick (π := [0, 1, 2, 6, 4, 5]) (by decide) rfl hr)
    rw [h0, e1, e0, e3, Int.toNat_natCast, hd]
    dsimp only
    rw [sEq_self]
    repeat' first
      | exact rfl
      | exact hi'
      | exact out _ _ _ rfl ⟨rfl, rfl, rfl, rfl, rfl, trivial⟩
      | (refine ⟨m, i', rfl, ⟨rfl, by omega, rfl, hi'⟩, fun a' c' => ?_⟩)
      | apply And.intro
      | (show _ ≤ _; omega)
      | (show _ < _; omega)
      | fail
end
end Go.Proofs.Ytihajdkipkfiiaa

/- YtihajdkipkfiiaaTq4Run -/
namespace Go.Proofs.Ytihajdkipkfiiaa
set_option linter.unusedVariables false
open Go Go.RowKit
set_option maxHeartbeats 0
set_option maxRecDepth 100000
set_option linter.unusedVariables false
set_option maxRecDepth 100000

theorem tq_B (K : List Frm → Sy → Prop) (N : List Ent → SV → Prop) (J0 J1 : Act → World → Prop) (ao : Option Addr) (cap : Nat) (bs : List StepT) (b : Nat) (s : Trk) (am : Option Addr) (cm : Nat) (m : PRow) (i : Nat) (x : StepT) (b6 : Nat) (k a0 g0 : Int) (ws : List Int) (aw : Option Addr) (cw : Nat) (n g : Int) (q : Nat) (u : Nat → Value) : (run Try.prog tqT false [33, 38] K (retP Try.prog Try.f10.results.toList N) 1500 (frm [J0, J1] (bodyOf Try.f10) [1, 1, 1, 1, 1, 0, 1, 0, 0, 1, 0, 0, 1, 1, 1, 0, 1, 0, 1, 1, 1, 1, 1, 1, 1, 1, 1, 1, 0, 1, 0, 0] []) ⟨mkT u 471 0 [(0, .vec 0 ao bs.length cap), (3, .ptr 2 b 0), (4, .vec 3 am (m).length cm), (5, .int .i64 (i : Int)), (6, .ptr 4 b6 0), (7, .int .i64 k), (12, .int .i64 a0), (13, .int .i64 g0), (14, .vec 6 aw ws.length cw), (15, .int .i64 n), (16, .int .i64 g), (20, .int .i64 (q : Int))], [⟨.sl ao cap, .roL 5 encStepT bs StepT.zero⟩, factsT bs, pkA b trkE (s), ⟨.sl am cm, .vecL 88 2 encPr (m) zPr⟩, ⟨.blk b6, .cells [.int .i64 x.what, .int .i64 x.a, .int .i64 x.b, .str x.unit, .vec 5 x.ao x.pids.length x.cap] 84⟩, ⟨.sl x.ao x.cap, .roL 1 encI1 x.pids 0⟩, ⟨.sl aw cw, .vecL 3 1 encI1 ws 0⟩]⟩) = (
b6 = b6 ∧
 match decide ((↑q : Int) < (↑(List.length x.8) : Int)) with
 | true =>
  b6 = b6 ∧
   match !sEq x.4 (ByteArray.mk #[]) with
   | true =>
    b6 = b6 ∧
     (x.ao = x.ao ∧ x.7 = x.7 ∧ List.length x.8 = List.length x.8 ∧ (0 : Int) ≤ (↑q : Int) ∧ (↑q : Int) < (↑(List.length x.8) : Int)) ∧
      (Addr.blkD x.ao = Addr.blkD x.ao ∧ Addr.offD x.ao = Addr.offD x.ao ∧ 1 = 1 ∧ Int.toNat (↑q : Int) < List.length x.8) ∧
       true = true ∧
        ∃ (m_1 : PRow),
         some (Ent.mk (Loc.sl am cm) (SObj.vecL (88 : TypeId) 2 encPr m ((0 : Int), ByteArray.mk #[]))) = some (vecP am cm m_1) ∧
          (List.length m = List.length m_1 ∧ List.length m_1 ≤ 1000000) ∧
           K (frmR [J0, J1] (bodyOf Try.f10) 33)
            (Sy.mk (SV.vec 0 ao (List.length bs) cap :: (SV.raw (u 1) :: (SV.raw (u 2) :: (SV.ptr 2 b 0 :: (SV.vec 3 am (List.length m) cm :: (SV.int IntKind.i64 (↑i : Int) :: (SV.ptr 4 b6 0 :: (SV.int IntKind.i64 k :: (rawR u 8 (SV.int IntKind.i64 a0 :: (SV.int IntKind.i64 g0 :: (SV.vec 6 aw (List.length ws) cw :: (SV.int IntKind.i64 n :: (SV.int IntKind.i64 g :: (rawR u 17 (SV.int IntKind.i64 (↑q : Int) :: (SV.int IntKind.i64 (atP m_1 (List.getD x.8 (Int.toNat (↑q : Int)) (0 : Int))) :: (rawR u 22 (SV.int IntKind.i64 (↑q : Int) :: (SV.ptr 4 b6 4 :: (SV.vec 5 x.ao (List.length x.8) x.7 :: (SV.int IntKind.i64 (↑(List.length x.8) : Int) :: (SV.bool (decide ((↑q : Int) < (↑(List.length x.8) : Int))) :: (SV.bool true :: (SV.ptr 4 b6 3 :: (SV.str x.4 :: ((SV.bool !sEq x.4 (ByteArray.mk #[])) :: (SV.bool true :: (SV.raw (u 131) :: (SV.raw (u 132) :: (SV.vec 3 am (List.length m) cm :: (SV.ptr 4 b6 4 :: (SV.vec 5 x.ao (List.length x.8) x.7 :: (SV.int IntKind.i64 (↑q : Int) :: (SV.eptr 5 (Addr.blkD x.ao) (Addr.offD x.ao) 1 (Int.toNat (↑q : Int)) 0 :: (SV.int IntKind.i64 (List.getD x.8 (Int.toNat (↑q : Int)) (0 : Int)) :: (SV.int IntKind.i64 (atP m_1 (List.getD x.8 (Int.toNat (↑q : Int)) (0 : Int))) :: (rawR u 140 [] 331)))))))))))))))))))) 99))) 3)))))) 4)))))))))
             [Ent.mk (Loc.sl ao cap) (SObj.roL 5 encStepT bs (StepT.mk (0 : Int) (0 : Int) (0 : Int) (ByteArray.mk #[]) (@none Addr) 0 0 [])), factsT bs,
              pkA b trkE s, Ent.mk (Loc.sl am cm) (SObj.vecL (88 : TypeId) 2 encPr m ((0 : Int), ByteArray.mk #[])),
              Ent.mk (Loc.blk b6)
               (SObj.cells [SV.int IntKind.i64 x.1, SV.int IntKind.i64 x.2, SV.int IntKind.i64 x.3, SV.str x.4, SV.vec 5 x.ao (List.length x.8) x.7] (84 : TypeId)),
              Ent.mk (Loc.sl x.ao x.7) (SObj.roL 1 encI1 x.8 (0 : Int)), Ent.mk (Loc.sl aw cw) (SObj.vecL (3 : TypeId) 1 encI1 ws (0 : Int))])
   | false =>
    K (frmR [J0] (bodyOf Try.f10) 38)
     (Sy.mk (SV.vec 0 ao (List.length bs) cap :: (SV.raw (u 1) :: (SV.raw (u 2) :: (SV.ptr 2 b 0 :: (SV.vec 3 am (List.length m) cm :: (SV.int IntKind.i64 (↑i : Int) :: (SV.ptr 4 b6 0 :: (SV.int IntKind.i64 k :: (rawR u 8 (SV.int IntKind.i64 a0 :: (SV.int IntKind.i64 g0 :: (SV.vec 6 aw (List.length ws) cw :: (SV.int IntKind.i64 n :: (SV.int IntKind.i64 g :: (rawR u 17 (SV.int IntKind.i64 (↑q : Int) :: (rawR u 21 (SV.int IntKind.i64 (↑q : Int) :: (SV.ptr 4 b6 4 :: (SV.vec 5 x.ao (List.length x.8) x.7 :: (SV.int IntKind.i64 (↑(List.length x.8) : Int) :: (SV.bool (decide ((↑q : Int) < (↑(List.length x.8) : Int))) :: (SV.bool true :: (SV.ptr 4 b6 3 :: (SV.str x.4 :: ((SV.bool !sEq x.4 (ByteArray.mk #[])) :: (SV.bool false :: (rawR u 131 [] 340))))))))))) 100)) 3)))))) 4)))))))))
      [Ent.mk (Loc.sl ao cap) (SObj.roL 5 encStepT bs (StepT.mk (0 : Int) (0 : Int) (0 : Int) (ByteArray.mk #[]) (@none Addr) 0 0 [])), factsT bs, pkA b trkE s,
       Ent.mk (Loc.sl am cm) (SObj.vecL (88 : TypeId) 2 encPr m ((0 : Int), ByteArray.mk #[])),
       Ent.mk (Loc.blk b6) (SObj.cells [SV.int IntKind.i64 x.1, SV.int IntKind.i64 x.2, SV.int IntKind.i64 x.3, SV.str x.4, SV.vec 5 x.ao (List.length x.8) x.7] (84 : TypeId)),
       Ent.mk (Loc.sl x.ao x.7) (SObj.roL 1 encI1 x.8 (0 : Int)), Ent.mk (Loc.sl aw cw) (SObj.vecL (3 : TypeId) 1 encI1 ws (0 : Int))])
 | false =>
  K (frmR [J0] (bodyOf Try.f10) 38)
   (Sy.mk (SV.vec 0 ao (List.length bs) cap :: (SV.raw (u 1) :: (SV.raw (u 2) :: (SV.ptr 2 b 0 :: (SV.vec 3 am (List.length m) cm :: (SV.int IntKind.i64 (↑i : Int) :: (SV.ptr 4 b6 0 :: (SV.int IntKind.i64 k :: (rawR u 8 (SV.int IntKind.i64 a0 :: (SV.int IntKind.i64 g0 :: (SV.vec 6 aw (List.length ws) cw :: (SV.int IntKind.i64 n :: (SV.int IntKind.i64 g :: (rawR u 17 (SV.int IntKind.i64 (↑q : Int) :: (rawR u 21 (SV.int IntKind.i64 (↑q : Int) :: (SV.ptr 4 b6 4 :: (SV.vec 5 x.ao (List.length x.8) x.7 :: (SV.int IntKind.i64 (↑(List.length x.8) : Int) :: (SV.bool (decide ((↑q : Int) < (↑(List.length x.8) : Int))) :: (SV.bool false :: (rawE (SV.bool false :: (rawR u 131 [] 340)) 3))))))) 100)) 3)))))) 4)))))))))
    [Ent.mk (Loc.sl ao cap) (SObj.roL 5 encStepT bs (StepT.mk (0 : Int) (0 : Int) (0 : Int) (ByteArray.mk #[]) (@none Addr) 0 0 [])), factsT bs, pkA b trkE s,
     Ent.mk (Loc.sl am cm) (SObj.vecL (88 : TypeId) 2 encPr m ((0 : Int), ByteArray.mk #[])),
     Ent.mk (Loc.blk b6) (SObj.cells [SV.int IntKind.i64 x.1, SV.int IntKind.i64 x.2, SV.int IntKind.i64 x.3, SV.str x.4, SV.vec 5 x.ao (List.length x.8) x.7] (84 : TypeId)),
     Ent.mk (Loc.sl x.ao x.7) (SObj.roL 1 encI1 x.8 (0 : Int)), Ent.mk (Loc.sl aw cw) (SObj.vecL (3 : TypeId) 1 encI1 ws (0 : Int))])) := by kernel_rfl


theorem tq_33 (K : List Frm → Sy → Prop) (N : List Ent → SV → Prop) (J0 J1 : Act → World → Prop) (ao : Option Addr) (cap : Nat) (bs : List StepT) (b : Nat) (s : Trk) (am : Option Addr) (cm : Nat) (m : PRow) (i : Nat) (x : StepT) (b6 : Nat) (k a0 g0 : Int) (ws : List Int) (aw : Option Addr) (cw : Nat) (n g : Int) (q : Nat) (z : Int) (u : Nat → Value) : (run Try.prog tqT false [34] K (retP Try.prog Try.f10.results.toList N) 1500 (frmR [J0, J1] (bodyOf Try.f10) 33) ⟨mkT u 471 0 [(0, .vec 0 ao bs.length cap), (3, .ptr 2 b 0), (4, .vec 3 am (m).length cm), (5, .int .i64 (i : Int)), (6, .ptr 4 b6 0), (7, .int .i64 k), (12, .int .i64 a0), (13, .int .i64 g0), (14, .vec 6 aw ws.length cw), (15, .int .i64 n), (16, .int .i64 g), (20, .int .i64 (q : Int)), (21, .int .i64 z)], [⟨.sl ao cap, .roL 5 encStepT bs StepT.zero⟩, factsT bs, pkA b trkE (s), ⟨.sl am cm, .vecL 88 2 encPr (m) zPr⟩, ⟨.blk b6, .cells [.int .i64 x.what, .int .i64 x.a, .int .i64 x.b, .str x.unit, .vec 5 x.ao x.pids.length x.cap] 84⟩, ⟨.sl x.ao x.cap, .roL 1 encI1 x.pids 0⟩, ⟨.sl aw cw, .vecL 3 1 encI1 ws 0⟩]⟩) = (
b6 = b6 ∧
 (x.ao = x.ao ∧ x.7 = x.7 ∧ List.length x.8 = List.length x.8 ∧ (0 : Int) ≤ (↑q : Int) ∧ (↑q : Int) < (↑(List.length x.8) : Int)) ∧
  (Addr.blkD x.ao = Addr.blkD x.ao ∧ Addr.offD x.ao = Addr.offD x.ao ∧ 1 = 1 ∧ Int.toNat (↑q : Int) < List.length x.8) ∧
   match decide (List.getD x.8 (Int.toNat (↑q : Int)) (0 : Int) < (2 : Int)) with
   | true =>
    true = true ∧
     true = true ∧
      true = true ∧
       true = true ∧
        true = true ∧
         true = true ∧
          true = true ∧
           true = true ∧
            K
             (Frm.loop J1 ::
              Frm.blk 7 ::
               frm [J0] (bodyOf Try.f10)
                [1, 1, 1, 1, 1, 0, 1, 0, 0, 1, 0, 0, 1, 1, 1,
                 0, 1, 0, 1, 1, 1, 1, 1, 1, 1, 1, 1, 1, 1]
                [])
             (Sy.mk (SV.vec 0 ao (List.length bs) cap :: (SV.raw (u 1) :: (SV.raw (u 2) :: (SV.ptr 2 b 0 :: (SV.vec 3 am (List.length m) cm :: (SV.int IntKind.i64 (↑i : Int) :: (SV.ptr 4 b6 0 :: (SV.int IntKind.i64 k :: (rawR u 8 (SV.int IntKind.i64 a0 :: (SV.int IntKind.i64 g0 :: (SV.vec 6 aw (List.length ws) cw :: (SV.int IntKind.i64 n :: (SV.int IntKind.i64 g :: (rawR u 17 (SV.int IntKind.i64 (IntKind.wrap IntKind.i64 ((↑q : Int) + (1 : Int))) :: (SV.int IntKind.i64 z :: (rawR u 22 (SV.int IntKind.i64 (↑q : Int) :: (SV.int IntKind.i64 (IntKind.wrap IntKind.i64 ((↑q : Int) + (1 : Int))) :: (rawR u 133 (SV.ptr 4 b6 4 :: (SV.vec 5 x.ao (List.length x.8) x.7 :: (SV.int IntKind.i64 (↑q : Int) :: (SV.eptr 5 (Addr.blkD x.ao) (Addr.offD x.ao) 1 (Int.toNat (↑q : Int)) 0 :: (SV.int IntKind.i64 (List.getD x.8 (Int.toNat (↑q : Int)) (0 : Int)) :: (SV.bool (decide (List.getD x.8 (Int.toNat (↑q : Int)) (0 : Int) < (2 : Int))) :: (SV.bool true :: (rawE (SV.bool true :: (rawR u 160 [] 311)) 12)))))))) 7))) 109))) 3)))))) 4)))))))))
              [Ent.mk (Loc.sl ao cap) (SObj.roL 5 encStepT bs (StepT.mk (0 : Int) (0 : Int) (0 : Int) (ByteArray.mk #[]) (@none Addr) 0 0 [])), factsT bs,
               pkA b trkE s, Ent.mk (Loc.sl am cm) (SObj.vecL (88 : TypeId) 2 encPr m ((0 : Int), ByteArray.mk #[])),
               Ent.mk (Loc.blk b6)
                (SObj.cells [SV.int IntKind.i64 x.1, SV.int IntKind.i64 x.2, SV.int IntKind.i64 x.3, SV.str x.4, SV.vec 5 x.ao (List.length x.8) x.7] (84 : TypeId)),
               Ent.mk (Loc.sl x.ao x.7) (SObj.roL 1 encI1 x.8 (0 : Int)), Ent.mk (Loc.sl aw cw) (SObj.vecL (3 : TypeId) 1 encI1 ws (0 : Int))])
   | false =>
    match decide (z ≥ (0 : Int)) with
    | true =>
     (am = am ∧ cm = cm ∧ List.length m = List.length m ∧ (0 : Int) ≤ z ∧ z < (↑(List.length m) : Int)) ∧
      (Addr.blkD am = Addr.blkD am ∧ Addr.offD am = Addr.offD am ∧ 2 = 2 ∧ Int.toNat z < List.length m) ∧
       b6 = b6 ∧
        match sEq (List.getD m (Int.toNat z) ((0 : Int), ByteArray.mk #[])).2 x.4 with
        | true =>
         K
          (Frm.loop J1 ::
           Frm.blk 7 ::
            frm [J0] (bodyOf Try.f10)
             [1, 1, 1, 1, 1, 0, 1, 0, 0, 1, 0, 0, 1, 1, 1,
              0, 1, 0, 1, 1, 1, 1, 1, 1, 1, 1, 1, 1, 1]
             [])
          (Sy.mk (SV.vec 0 ao (List.length bs) cap :: (SV.raw (u 1) :: (SV.raw (u 2) :: (SV.ptr 2 b 0 :: (SV.vec 3 am (List.length m) cm :: (SV.int IntKind.i64 (↑i : Int) :: (SV.ptr 4 b6 0 :: (SV.int IntKind.i64 k :: (rawR u 8 (SV.int IntKind.i64 a0 :: (SV.int IntKind.i64 g0 :: (SV.vec 6 aw (List.length ws) cw :: (SV.int IntKind.i64 n :: (SV.int IntKind.i64 g :: (rawR u 17 (SV.int IntKind.i64 (IntKind.wrap IntKind.i64 ((↑q : Int) + (1 : Int))) :: (SV.int IntKind.i64 z :: (rawR u 22 (SV.int IntKind.i64 (↑q : Int) :: (SV.int IntKind.i64 (IntKind.wrap IntKind.i64 ((↑q : Int) + (1 : Int))) :: (rawR u 133 (SV.ptr 4 b6 4 :: (SV.vec 5 x.ao (List.length x.8) x.7 :: (SV.int IntKind.i64 (↑q : Int) :: (SV.eptr 5 (Addr.blkD x.ao) (Addr.offD x.ao) 1 (Int.toNat (↑q : Int)) 0 :: (SV.int IntKind.i64 (List.getD x.8 (Int.toNat (↑q : Int)) (0 : Int)) :: (SV.bool (decide (List.getD x.8 (Int.toNat (↑q : Int)) (0 : Int) < (2 : Int))) :: (SV.bool false :: (SV.int IntKind.i64 z :: (SV.bool (decide (z ≥ (0 : Int))) :: (SV.bool true :: (SV.vec 3 am (List.length m) cm :: (SV.int IntKind.i64 z :: (SV.eptr 3 (Addr.blkD am) (Addr.offD am) 2 (Int.toNat z) 0 :: (SV.eptr 3 (Addr.blkD am) (Addr.offD am) 2 (Int.toNat z) 1 :: (SV.str (List.getD m (Int.toNat z) ((0 : Int), ByteArray.mk #[])).2 :: (SV.ptr 4 b6 3 :: (SV.str x.4 :: (SV.bool (sEq (List.getD m (Int.toNat z) ((0 : Int), ByteArray.mk #[])).2 x.4) :: (SV.bool (sEq (List.getD m (Int.toNat z) ((0 : Int), ByteArray.mk #[])).2 x.4) :: (SV.bool true :: (rawR u 160 [] 311))))))))))))))))))))) 7))) 109))) 3)))))) 4)))))))))
           [Ent.mk (Loc.sl ao cap) (SObj.roL 5 encStepT bs (StepT.mk (0 : Int) (0 : Int) (0 : Int) (ByteArray.mk #[]) (@none Addr) 0 0 [])), factsT bs, pkA b trkE s,
            Ent.mk (Loc.sl am cm) (SObj.vecL (88 : TypeId) 2 encPr m ((0 : Int), ByteArray.mk #[])),
            Ent.mk (Loc.blk b6)
             (SObj.cells [SV.int IntKind.i64 x.1, SV.int IntKind.i64 x.2, SV.int IntKind.i64 x.3, SV.str x.4, SV.vec 5 x.ao (List.length x.8) x.7] (84 : TypeId)),
            Ent.mk (Loc.sl x.ao x.7) (SObj.roL 1 encI1 x.8 (0 : Int)), Ent.mk (Loc.sl aw cw) (SObj.vecL (3 : TypeId) 1 encI1 ws (0 : Int))])
        | false =>
         K (frmR [J0, J1] (bodyOf Try.f10) 34)
          (Sy.mk (SV.vec 0 ao (List.length bs) cap :: (SV.raw (u 1) :: (SV.raw (u 2) :: (SV.ptr 2 b 0 :: (SV.vec 3 am (List.length m) cm :: (SV.int IntKind.i64 (↑i : Int) :: (SV.ptr 4 b6 0 :: (SV.int IntKind.i64 k :: (rawR u 8 (SV.int IntKind.i64 a0 :: (SV.int IntKind.i64 g0 :: (SV.vec 6 aw (List.length ws) cw :: (SV.int IntKind.i64 n :: (SV.int IntKind.i64 g :: (rawR u 17 (SV.int IntKind.i64 (↑q : Int) :: (SV.int IntKind.i64 z :: (rawR u 22 (SV.ptr 4 b6 4 :: (SV.vec 5 x.ao (List.length x.8) x.7 :: (SV.int IntKind.i64 (↑q : Int) :: (SV.eptr 5 (Addr.blkD x.ao) (Addr.offD x.ao) 1 (Int.toNat (↑q : Int)) 0 :: (SV.int IntKind.i64 (List.getD x.8 (Int.toNat (↑q : Int)) (0 : Int)) :: (SV.bool (decide (List.getD x.8 (Int.toNat (↑q : Int)) (0 : Int) < (2 : Int))) :: (SV.bool false :: (SV.int IntKind.i64 z :: (SV.bool (decide (z ≥ (0 : Int))) :: (SV.bool true :: (SV.vec 3 am (List.length m) cm :: (SV.int IntKind.i64 z :: (SV.eptr 3 (Addr.blkD am) (Addr.offD am) 2 (Int.toNat z) 0 :: (SV.eptr 3 (Addr.blkD am) (Addr.offD am) 2 (Int.toNat z) 1 :: (SV.str (List.getD m (Int.toNat z) ((0 : Int), ByteArray.mk #[])).2 :: (SV.ptr 4 b6 3 :: (SV.str x.4 :: (SV.bool (sEq (List.getD m (Int.toNat z) ((0 : Int), ByteArray.mk #[])).2 x.4) :: (SV.bool (sEq (List.getD m (Int.toNat z) ((0 : Int), ByteArray.mk #[])).2 x.4) :: (SV.bool false :: (rawR u 160 [] 311))))))))))))))))))))) 118))) 3)))))) 4)))))))))
           [Ent.mk (Loc.sl ao cap) (SObj.roL 5 encStepT bs (StepT.mk (0 : Int) (0 : Int) (0 : Int) (ByteArray.mk #[]) (@none Addr) 0 0 [])), factsT bs, pkA b trkE s,
            Ent.mk (Loc.sl am cm) (SObj.vecL (88 : TypeId) 2 encPr m ((0 : Int), ByteArray.mk #[])),
            Ent.mk (Loc.blk b6)
             (SObj.cells [SV.int IntKind.i64 x.1, SV.int IntKind.i64 x.2, SV.int IntKind.i64 x.3, SV.str x.4, SV.vec 5 x.ao (List.length x.8) x.7] (84 : TypeId)),
            Ent.mk (Loc.sl x.ao x.7) (SObj.roL 1 encI1 x.8 (0 : Int)), Ent.mk (Loc.sl aw cw) (SObj.vecL (3 : TypeId) 1 encI1 ws (0 : Int))])
    | false =>
     K (frmR [J0, J1] (bodyOf Try.f10) 34)
      (Sy.mk (SV.vec 0 ao (List.length bs) cap :: (SV.raw (u 1) :: (SV.raw (u 2) :: (SV.ptr 2 b 0 :: (SV.vec 3 am (List.length m) cm :: (SV.int IntKind.i64 (↑i : Int) :: (SV.ptr 4 b6 0 :: (SV.int IntKind.i64 k :: (rawR u 8 (SV.int IntKind.i64 a0 :: (SV.int IntKind.i64 g0 :: (SV.vec 6 aw (List.length ws) cw :: (SV.int IntKind.i64 n :: (SV.int IntKind.i64 g :: (rawR u 17 (SV.int IntKind.i64 (↑q : Int) :: (SV.int IntKind.i64 z :: (rawR u 22 (SV.ptr 4 b6 4 :: (SV.vec 5 x.ao (List.length x.8) x.7 :: (SV.int IntKind.i64 (↑q : Int) :: (SV.eptr 5 (Addr.blkD x.ao) (Addr.offD x.ao) 1 (Int.toNat (↑q : Int)) 0 :: (SV.int IntKind.i64 (List.getD x.8 (Int.toNat (↑q : Int)) (0 : Int)) :: (SV.bool (decide (List.getD x.8 (Int.toNat (↑q : Int)) (0 : Int) < (2 : Int))) :: (SV.bool false :: (SV.int IntKind.i64 z :: (SV.bool (decide (z ≥ (0 : Int))) :: (SV.bool false :: (rawE (SV.bool false :: (SV.bool false :: (rawR u 160 [] 311))) 8))))))))))) 118))) 3)))))) 4)))))))))
       [Ent.mk (Loc.sl ao cap) (SObj.roL 5 encStepT bs (StepT.mk (0 : Int) (0 : Int) (0 : Int) (ByteArray.mk #[]) (@none Addr) 0 0 [])), factsT bs, pkA b trkE s,
        Ent.mk (Loc.sl am cm) (SObj.vecL (88 : TypeId) 2 encPr m ((0 : Int), ByteArray.mk #[])),
        Ent.mk (Loc.blk b6) (SObj.cells [SV.int IntKind.i64 x.1, SV.int IntKind.i64 x.2, SV.int IntKind.i64 x.3, SV.str x.4, SV.vec 5 x.ao (List.length x.8) x.7] (84 : TypeId)),
        Ent.mk (Loc.sl x.ao x.7) (SObj.roL 1 encI1 x.8 (0 : Int)), Ent.mk (Loc.sl aw cw) (SObj.vecL (3 : TypeId) 1 encI1 ws (0 : Int))])) := by kernel_rfl


theorem tq_34 (K : List Frm → Sy → Prop) (N : List Ent → SV → Prop) (J0 J1 : Act → World → Prop) (ao : Option Addr) (cap : Nat) (bs : List StepT) (b : Nat) (s : Trk) (am : Option Addr) (cm : Nat) (m : PRow) (i : Nat) (x : StepT) (b6 : Nat) (k a0 g0 : Int) (ws : List Int) (aw : Option Addr) (cw : Nat) (n g : Int) (q : Nat) (z : Int) (u : Nat → Value) : (run Try.prog tqT false [36] K (retP Try.prog Try.f10.results.toList N) 1500 (frmR [J0, J1] (bodyOf Try.f10) 34) ⟨mkT u 471 0 [(0, .vec 0 ao bs.length cap), (3, .ptr 2 b 0), (4, .vec 3 am (m).length cm), (5, .int .i64 (i : Int)), (6, .ptr 4 b6 0), (7, .int .i64 k), (12, .int .i64 a0), (13, .int .i64 g0), (14, .vec 6 aw ws.length cw), (15, .int .i64 n), (16, .int .i64 g), (20, .int .i64 (q : Int)), (21, .int .i64 z)], [⟨.sl ao cap, .roL 5 encStepT bs StepT.zero⟩, factsT bs, pkA b trkE (s), ⟨.sl am cm, .vecL 88 2 encPr (m) zPr⟩, ⟨.blk b6, .cells [.int .i64 x.what, .int .i64 x.a, .int .i64 x.b, .str x.unit, .vec 5 x.ao x.pids.length x.cap] 84⟩, ⟨.sl x.ao x.cap, .roL 1 encI1 x.pids 0⟩, ⟨.sl aw cw, .vecL 3 1 encI1 ws 0⟩]⟩) = (
match decide (z ≥ (0 : Int)) with
| true =>
 true = true ∧
  ∃ (m_1 : PRow),
   ∃ (i_1 : Nat),
    some (Ent.mk (Loc.sl am cm) (SObj.vecL (88 : TypeId) 2 encPr m ((0 : Int), ByteArray.mk #[]))) = some (vecP am cm m_1) ∧
     (List.length m = List.length m_1 ∧ List.length m_1 ≤ 1000000 ∧ z = (↑i_1 : Int) ∧ i_1 < List.length m_1) ∧
      ∀ (ao' : Option Addr) (cap' : Nat),
       K (frmR [J0, J1] (bodyOf Try.f10) 36)
        (Sy.mk (SV.vec 0 ao (List.length bs) cap :: (SV.raw (u 1) :: (SV.raw (u 2) :: (SV.ptr 2 b 0 :: (SV.vec 7 ao' (List.length (outP m_1 i_1)) cap' :: (SV.int IntKind.i64 (↑i : Int) :: (SV.ptr 4 b6 0 :: (SV.int IntKind.i64 k :: (rawR u 8 (SV.int IntKind.i64 a0 :: (SV.int IntKind.i64 g0 :: (SV.vec 6 aw (List.length ws) cw :: (SV.int IntKind.i64 n :: (SV.int IntKind.i64 g :: (rawR u 17 (SV.int IntKind.i64 (↑q : Int) :: (SV.int IntKind.i64 z :: (rawR u 22 (SV.int IntKind.i64 z :: (SV.bool true :: (SV.vec 3 am (List.length m) cm :: (SV.int IntKind.i64 z :: (SV.vec 7 ao' (List.length (outP m_1 i_1)) cap' :: (rawR u 165 [] 306)))))) 138))) 3)))))) 4)))))))))
         [Ent.mk (Loc.sl ao cap) (SObj.roL 5 encStepT bs (StepT.mk (0 : Int) (0 : Int) (0 : Int) (ByteArray.mk #[]) (@none Addr) 0 0 [])), factsT bs, pkA b trkE s,
          Ent.mk (Loc.sl am cm) (SObj.vecL (88 : TypeId) 2 encPr m ((0 : Int), ByteArray.mk #[])),
          Ent.mk (Loc.blk b6) (SObj.cells [SV.int IntKind.i64 x.1, SV.int IntKind.i64 x.2, SV.int IntKind.i64 x.3, SV.str x.4, SV.vec 5 x.ao (List.length x.8) x.7] (84 : TypeId)),
          Ent.mk (Loc.sl x.ao x.7) (SObj.roL 1 encI1 x.8 (0 : Int)), Ent.mk (Loc.sl aw cw) (SObj.vecL (3 : TypeId) 1 encI1 ws (0 : Int)), vecP ao' cap' (outP m_1 i_1)])
| false =>
 K (frmR [J0, J1] (bodyOf Try.f10) 36)
  (Sy.mk (SV.vec 0 ao (List.length bs) cap :: (SV.raw (u 1) :: (SV.raw (u 2) :: (SV.ptr 2 b 0 :: (SV.vec 3 am (List.length m) cm :: (SV.int IntKind.i64 (↑i : Int) :: (SV.ptr 4 b6 0 :: (SV.int IntKind.i64 k :: (rawR u 8 (SV.int IntKind.i64 a0 :: (SV.int IntKind.i64 g0 :: (SV.vec 6 aw (List.length ws) cw :: (SV.int IntKind.i64 n :: (SV.int IntKind.i64 g :: (rawR u 17 (SV.int IntKind.i64 (↑q : Int) :: (SV.int IntKind.i64 z :: (rawR u 22 (SV.int IntKind.i64 z :: (SV.bool false :: (rawR u 162 [] 309))) 138))) 3)))))) 4)))))))))
   [Ent.mk (Loc.sl ao cap) (SObj.roL 5 encStepT bs (StepT.mk (0 : Int) (0 : Int) (0 : Int) (ByteArray.mk #[]) (@none Addr) 0 0 [])), factsT bs, pkA b trkE s,
    Ent.mk (Loc.sl am cm) (SObj.vecL (88 : TypeId) 2 encPr m ((0 : Int), ByteArray.mk #[])),
    Ent.mk (Loc.blk b6) (SObj.cells [SV.int IntKind.i64 x.1, SV.int IntKind.i64 x.2, SV.int IntKind.i64 x.3, SV.str x.4, SV.vec 5 x.ao (List.length x.8) x.7] (84 : TypeId)),
    Ent.mk (Loc.sl x.ao x.7) (SObj.roL 1 encI1 x.8 (0 : Int)), Ent.mk (Loc.sl aw cw) (SObj.vecL (3 : TypeId) 1 encI1 ws (0 : Int))])) := by kernel_rfl


theorem tq_36 (K : List Frm → Sy → Prop) (N : List Ent → SV → Prop) (J0 J1 : Act → World → Prop) (ao : Option Addr) (cap : Nat) (bs : List StepT) (b : Nat) (s : Trk) (am : Option Addr) (cm : Nat) (m : PRow) (i : Nat) (x : StepT) (b6 : Nat) (k a0 g0 : Int) (ws : List Int) (aw : Option Addr) (cw : Nat) (n g : Int) (q : Nat) (z : Int) (u : Nat → Value) : (run Try.prog tqT false [] K (retP Try.prog Try.f10.results.toList N) 1500 (frmR [J0, J1] (bodyOf Try.f10) 36) ⟨mkT u 471 0 [(0, .vec 0 ao bs.length cap), (3, .ptr 2 b 0), (4, .vec 3 am (m).length cm), (5, .int .i64 (i : Int)), (6, .ptr 4 b6 0), (7, .int .i64 k), (12, .int .i64 a0), (13, .int .i64 g0), (14, .vec 6 aw ws.length cw), (15, .int .i64 n), (16, .int .i64 g), (20, .int .i64 (q : Int))], [⟨.sl ao cap, .roL 5 encStepT bs StepT.zero⟩, factsT bs, pkA b trkE (s), ⟨.sl am cm, .vecL 88 2 encPr (m) zPr⟩, ⟨.blk b6, .cells [.int .i64 x.what, .int .i64 x.a, .int .i64 x.b, .str x.unit, .vec 5 x.ao x.pids.length x.cap] 84⟩, ⟨.sl x.ao x.cap, .roL 1 encI1 x.pids 0⟩, ⟨.sl aw cw, .vecL 3 1 encI1 ws 0⟩]⟩) = (
(b6 = b6 ∧
 ((x.ao = x.ao ∧ x.7 = x.7 ∧ List.length x.8 = List.length x.8 ∧ (0 : Int) ≤ (↑q : Int) ∧ (↑q : Int) < (↑(List.length x.8) : Int)) ∧
  ((Addr.blkD x.ao = Addr.blkD x.ao ∧ Addr.offD x.ao = Addr.offD x.ao ∧ 1 = 1 ∧ Int.toNat (↑q : Int) < List.length x.8) ∧
   b6 = b6 ∧
    (true = true ∧ true = true) ∧
     true = true ∧
      ∃ (m_1 : PRow),
       some (Ent.mk (Loc.sl am cm) (SObj.vecL (88 : TypeId) 2 encPr m ((0 : Int), ByteArray.mk #[]))) = some (vecP am cm m_1) ∧
        (List.length m = List.length m_1 ∧ List.length m_1 ≤ 1000000) ∧
         ∀ (ao' : Option Addr) (cap' : Nat),
          K
           (Frm.loop J1 ::
            Frm.blk 7 ::
             frm [J0] (bodyOf Try.f10)
              [1, 1, 1, 1, 1, 0, 1, 0, 0, 1, 0, 0, 1, 1, 1,
               0, 1, 0, 1, 1, 1, 1, 1, 1, 1, 1, 1, 1, 1]
              [])
           (Sy.mk (SV.vec 0 ao (List.length bs) cap :: (SV.raw (u 1) :: (SV.raw (u 2) :: (SV.ptr 2 b 0 :: (SV.vec 7 ao' (List.length (insP m_1 (List.getD x.8 (Int.toNat (↑q : Int)) (0 : Int), x.4))) cap' :: (SV.int IntKind.i64 (↑i : Int) :: (SV.ptr 4 b6 0 :: (SV.int IntKind.i64 k :: (rawR u 8 (SV.int IntKind.i64 a0 :: (SV.int IntKind.i64 g0 :: (SV.vec 6 aw (List.length ws) cw :: (SV.int IntKind.i64 (IntKind.wrap IntKind.i64 (n + (1 : Int))) :: (SV.int IntKind.i64 g :: (rawR u 17 (SV.int IntKind.i64 (IntKind.wrap IntKind.i64 ((↑q : Int) + (1 : Int))) :: (rawR u 21 (SV.int IntKind.i64 (↑q : Int) :: (SV.int IntKind.i64 (IntKind.wrap IntKind.i64 ((↑q : Int) + (1 : Int))) :: (rawR u 133 (SV.vec 3 am (List.length m) cm :: (SV.ptr 4 b6 4 :: (SV.vec 5 x.ao (List.length x.8) x.7 :: (SV.int IntKind.i64 (↑q : Int) :: (SV.eptr 5 (Addr.blkD x.ao) (Addr.offD x.ao) 1 (Int.toNat (↑q : Int)) 0 :: (SV.int IntKind.i64 (List.getD x.8 (Int.toNat (↑q : Int)) (0 : Int)) :: (SV.ptr 4 b6 3 :: (SV.str x.4 :: (SV.agg [SV.int IntKind.i64 (List.getD x.8 (Int.toNat (↑q : Int)) (0 : Int)), SV.str x.4] :: (SV.vec 7 ao' (List.length (insP m_1 (List.getD x.8 (Int.toNat (↑q : Int)) (0 : Int), x.4))) cap' :: (SV.int IntKind.i64 n :: (SV.int IntKind.i64 (IntKind.wrap IntKind.i64 (n + (1 : Int))) :: (rawR u 177 [] 294))))))))))))) 32))) 110)) 3)))))) 4)))))))))
            [Ent.mk (Loc.sl ao cap) (SObj.roL 5 encStepT bs (StepT.mk (0 : Int) (0 : Int) (0 : Int) (ByteArray.mk #[]) (@none Addr) 0 0 [])), factsT bs,
             pkA b trkE s, Ent.mk (Loc.sl am cm) (SObj.vecL (88 : TypeId) 2 encPr m ((0 : Int), ByteArray.mk #[])),
             Ent.mk (Loc.blk b6)
              (SObj.cells [SV.int IntKind.i64 x.1, SV.int IntKind.i64 x.2, SV.int IntKind.i64 x.3, SV.str x.4, SV.vec 5 x.ao (List.length x.8) x.7] (84 : TypeId)),
             Ent.mk (Loc.sl x.ao x.7) (SObj.roL 1 encI1 x.8 (0 : Int)), Ent.mk (Loc.sl aw cw) (SObj.vecL (3 : TypeId) 1 encI1 ws (0 : Int)),
             vecP ao' cap' (insP m_1 (List.getD x.8 (Int.toNat (↑q : Int)) (0 : Int), x.4))])) ∧
   b6 = b6 ∧
    (Addr.blkD x.ao = Addr.blkD x.ao ∧ Addr.offD x.ao = Addr.offD x.ao ∧ 1 = 1 ∧ Int.toNat (↑q : Int) < List.length x.8) ∧
     (true = true ∧ true = true) ∧
      true = true ∧
       ∃ (m_1 : PRow),
        some (Ent.mk (Loc.sl am cm) (SObj.vecL (88 : TypeId) 2 encPr m ((0 : Int), ByteArray.mk #[]))) = some (vecP am cm m_1) ∧
         (List.length m = List.length m_1 ∧ List.length m_1 ≤ 1000000) ∧
          ∀ (ao' : Option Addr) (cap' : Nat),
           K
            (Frm.loop J1 ::
             Frm.blk 7 ::
              frm [J0] (bodyOf Try.f10)
               [1, 1, 1, 1, 1, 0, 1, 0, 0, 1, 0, 0, 1, 1, 1,
                0, 1, 0, 1, 1, 1, 1, 1, 1, 1, 1, 1, 1, 1]
               [])
            (Sy.mk (SV.vec 0 ao (List.length bs) cap :: (SV.raw (u 1) :: (SV.raw (u 2) :: (SV.ptr 2 b 0 :: (SV.vec 7 ao' (List.length (insP m_1 (List.getD x.8 (Int.toNat (↑q : Int)) (0 : Int), x.4))) cap' :: (SV.int IntKind.i64 (↑i : Int) :: (SV.ptr 4 b6 0 :: (SV.int IntKind.i64 k :: (rawR u 8 (SV.int IntKind.i64 a0 :: (SV.int IntKind.i64 g0 :: (SV.vec 6 aw (List.length ws) cw :: (SV.int IntKind.i64 (IntKind.wrap IntKind.i64 (n + (1 : Int))) :: (SV.int IntKind.i64 g :: (rawR u 17 (SV.int IntKind.i64 (IntKind.wrap IntKind.i64 ((↑q : Int) + (1 : Int))) :: (rawR u 21 (SV.int IntKind.i64 (↑q : Int) :: (SV.int IntKind.i64 (IntKind.wrap IntKind.i64 ((↑q : Int) + (1 : Int))) :: (rawR u 133 (SV.vec 3 am (List.length m) cm :: (SV.ptr 4 b6 4 :: (SV.vec 5 x.ao (List.length x.8) x.7 :: (SV.int IntKind.i64 (↑q : Int) :: (SV.eptr 5 (Addr.blkD x.ao) (Addr.offD x.ao) 1 (Int.toNat (↑q : Int)) 0 :: (SV.int IntKind.i64 (List.getD x.8 (Int.toNat (↑q : Int)) (0 : Int)) :: (SV.ptr 4 b6 3 :: (SV.str x.4 :: (SV.agg [SV.int IntKind.i64 (List.getD x.8 (Int.toNat (↑q : Int)) (0 : Int)), SV.str x.4] :: (SV.vec 7 ao' (List.length (insP m_1 (List.getD x.8 (Int.toNat (↑q : Int)) (0 : Int), x.4))) cap' :: (SV.int IntKind.i64 n :: (SV.int IntKind.i64 (IntKind.wrap IntKind.i64 (n + (1 : Int))) :: (rawR u 177 [] 294))))))))))))) 32))) 110)) 3)))))) 4)))))))))
             [Ent.mk (Loc.sl ao cap) (SObj.roL 5 encStepT bs (StepT.mk (0 : Int) (0 : Int) (0 : Int) (ByteArray.mk #[]) (@none Addr) 0 0 [])), factsT bs,
              pkA b trkE s, Ent.mk (Loc.sl am cm) (SObj.vecL (88 : TypeId) 2 encPr m ((0 : Int), ByteArray.mk #[])),
              Ent.mk (Loc.blk b6)
               (SObj.cells [SV.int IntKind.i64 x.1, SV.int IntKind.i64 x.2, SV.int IntKind.i64 x.3, SV.str x.4, SV.vec 5 x.ao (List.length x.8) x.7] (84 : TypeId)),
              Ent.mk (Loc.sl x.ao x.7) (SObj.roL 1 encI1 x.8 (0 : Int)), Ent.mk (Loc.sl aw cw) (SObj.vecL (3 : TypeId) 1 encI1 ws (0 : Int)),
              vecP ao' cap' (insP m_1 (List.getD x.8 (Int.toNat (↑q : Int)) (0 : Int), x.4))])) ∧
  b6 = b6 ∧
   (x.ao = x.ao ∧ x.7 = x.7 ∧ List.length x.8 = List.length x.8 ∧ (0 : Int) ≤ (↑q : Int) ∧ (↑q : Int) < (↑(List.length x.8) : Int)) ∧
    (Addr.blkD x.ao = Addr.blkD x.ao ∧ Addr.offD x.ao = Addr.offD x.ao ∧ 1 = 1 ∧ Int.toNat (↑q : Int) < List.length x.8) ∧
     (true = true ∧ true = true) ∧
      true = true ∧
       ∃ (m_1 : PRow),
        some (Ent.mk (Loc.sl am cm) (SObj.vecL (88 : TypeId) 2 encPr m ((0 : Int), ByteArray.mk #[]))) = some (vecP am cm m_1) ∧
         (List.length m = List.length m_1 ∧ List.length m_1 ≤ 1000000) ∧
          ∀ (ao' : Option Addr) (cap' : Nat),
           K
            (Frm.loop J1 ::
             Frm.blk 7 ::
              frm [J0] (bodyOf Try.f10)
               [1, 1, 1, 1, 1, 0, 1, 0, 0, 1, 0, 0, 1, 1, 1,
                0, 1, 0, 1, 1, 1, 1, 1, 1, 1, 1, 1, 1, 1]
               [])
            (Sy.mk (SV.vec 0 ao (List.length bs) cap :: (SV.raw (u 1) :: (SV.raw (u 2) :: (SV.ptr 2 b 0 :: (SV.vec 7 ao' (List.length (insP m_1 (List.getD x.8 (Int.toNat (↑q : Int)) (0 : Int), x.4))) cap' :: (SV.int IntKind.i64 (↑i : Int) :: (SV.ptr 4 b6 0 :: (SV.int IntKind.i64 k :: (rawR u 8 (SV.int IntKind.i64 a0 :: (SV.int IntKind.i64 g0 :: (SV.vec 6 aw (List.length ws) cw :: (SV.int IntKind.i64 (IntKind.wrap IntKind.i64 (n + (1 : Int))) :: (SV.int IntKind.i64 g :: (rawR u 17 (SV.int IntKind.i64 (IntKind.wrap IntKind.i64 ((↑q : Int) + (1 : Int))) :: (rawR u 21 (SV.int IntKind.i64 (↑q : Int) :: (SV.int IntKind.i64 (IntKind.wrap IntKind.i64 ((↑q : Int) + (1 : Int))) :: (rawR u 133 (SV.vec 3 am (List.length m) cm :: (SV.ptr 4 b6 4 :: (SV.vec 5 x.ao (List.length x.8) x.7 :: (SV.int IntKind.i64 (↑q : Int) :: (SV.eptr 5 (Addr.blkD x.ao) (Addr.offD x.ao) 1 (Int.toNat (↑q : Int)) 0 :: (SV.int IntKind.i64 (List.getD x.8 (Int.toNat (↑q : Int)) (0 : Int)) :: (SV.ptr 4 b6 3 :: (SV.str x.4 :: (SV.agg [SV.int IntKind.i64 (List.getD x.8 (Int.toNat (↑q : Int)) (0 : Int)), SV.str x.4] :: (SV.vec 7 ao' (List.length (insP m_1 (List.getD x.8 (Int.toNat (↑q : Int)) (0 : Int), x.4))) cap' :: (SV.int IntKind.i64 n :: (SV.int IntKind.i64 (IntKind.wrap IntKind.i64 (n + (1 : Int))) :: (rawR u 177 [] 294))))))))))))) 32))) 110)) 3)))))) 4)))))))))
             [Ent.mk (Loc.sl ao cap) (SObj.roL 5 encStepT bs (StepT.mk (0 : Int) (0 : Int) (0 : Int) (ByteArray.mk #[]) (@none Addr) 0 0 [])), factsT bs,
              pkA b trkE s, Ent.mk (Loc.sl am cm) (SObj.vecL (88 : TypeId) 2 encPr m ((0 : Int), ByteArray.mk #[])),
              Ent.mk (Loc.blk b6)
               (SObj.cells [SV.int IntKind.i64 x.1, SV.int IntKind.i64 x.2, SV.int IntKind.i64 x.3, SV.str x.4, SV.vec 5 x.ao (List.length x.8) x.7] (84 : TypeId)),
              Ent.mk (Loc.sl x.ao x.7) (SObj.roL 1 encI1 x.8 (0 : Int)), Ent.mk (Loc.sl aw cw) (SObj.vecL (3 : TypeId) 1 encI1 ws (0 : Int)),
              vecP ao' cap' (insP m_1 (List.getD x.8 (Int.toNat (↑q : Int)) (0 : Int), x.4))])) ∧
 b6 = b6 ∧
  b6 = b6 ∧
   (x.ao = x.ao ∧ x.7 = x.7 ∧ List.length x.8 = List.length x.8 ∧ (0 : Int) ≤ (↑q : Int) ∧ (↑q : Int) < (↑(List.length x.8) : Int)) ∧
    (Addr.blkD x.ao = Addr.blkD x.ao ∧ Addr.offD x.ao = Addr.offD x.ao ∧ 1 = 1 ∧ Int.toNat (↑q : Int) < List.length x.8) ∧
     (true = true ∧ true = true) ∧
      true = true ∧
       ∃ (m_1 : PRow),
        some (Ent.mk (Loc.sl am cm) (SObj.vecL (88 : TypeId) 2 encPr m ((0 : Int), ByteArray.mk #[]))) = some (vecP am cm m_1) ∧
         (List.length m = List.length m_1 ∧ List.length m_1 ≤ 1000000) ∧
          ∀ (ao' : Option Addr) (cap' : Nat),
           K
            (Frm.loop J1 ::
             Frm.blk 7 ::
              frm [J0] (bodyOf Try.f10)
               [1, 1, 1, 1, 1, 0, 1, 0, 0, 1, 0, 0, 1, 1, 1,
                0, 1, 0, 1, 1, 1, 1, 1, 1, 1, 1, 1, 1, 1]
               [])
            (Sy.mk (SV.vec 0 ao (List.length bs) cap :: (SV.raw (u 1) :: (SV.raw (u 2) :: (SV.ptr 2 b 0 :: (SV.vec 7 ao' (List.length (insP m_1 (List.getD x.8 (Int.toNat (↑q : Int)) (0 : Int), x.4))) cap' :: (SV.int IntKind.i64 (↑i : Int) :: (SV.ptr 4 b6 0 :: (SV.int IntKind.i64 k :: (rawR u 8 (SV.int IntKind.i64 a0 :: (SV.int IntKind.i64 g0 :: (SV.vec 6 aw (List.length ws) cw :: (SV.int IntKind.i64 (IntKind.wrap IntKind.i64 (n + (1 : Int))) :: (SV.int IntKind.i64 g :: (rawR u 17 (SV.int IntKind.i64 (IntKind.wrap IntKind.i64 ((↑q : Int) + (1 : Int))) :: (rawR u 21 (SV.int IntKind.i64 (↑q : Int) :: (SV.int IntKind.i64 (IntKind.wrap IntKind.i64 ((↑q : Int) + (1 : Int))) :: (rawR u 133 (SV.vec 3 am (List.length m) cm :: (SV.ptr 4 b6 4 :: (SV.vec 5 x.ao (List.length x.8) x.7 :: (SV.int IntKind.i64 (↑q : Int) :: (SV.eptr 5 (Addr.blkD x.ao) (Addr.offD x.ao) 1 (Int.toNat (↑q : Int)) 0 :: (SV.int IntKind.i64 (List.getD x.8 (Int.toNat (↑q : Int)) (0 : Int)) :: (SV.ptr 4 b6 3 :: (SV.str x.4 :: (SV.agg [SV.int IntKind.i64 (List.getD x.8 (Int.toNat (↑q : Int)) (0 : Int)), SV.str x.4] :: (SV.vec 7 ao' (List.length (insP m_1 (List.getD x.8 (Int.toNat (↑q : Int)) (0 : Int), x.4))) cap' :: (SV.int IntKind.i64 n :: (SV.int IntKind.i64 (IntKind.wrap IntKind.i64 (n + (1 : Int))) :: (rawR u 177 [] 294))))))))))))) 32))) 110)) 3)))))) 4)))))))))
             [Ent.mk (Loc.sl ao cap) (SObj.roL 5 encStepT bs (StepT.mk (0 : Int) (0 : Int) (0 : Int) (ByteArray.mk #[]) (@none Addr) 0 0 [])), factsT bs,
              pkA b trkE s, Ent.mk (Loc.sl am cm) (SObj.vecL (88 : TypeId) 2 encPr m ((0 : Int), ByteArray.mk #[])),
              Ent.mk (Loc.blk b6)
               (SObj.cells [SV.int IntKind.i64 x.1, SV.int IntKind.i64 x.2, SV.int IntKind.i64 x.3, SV.str x.4, SV.vec 5 x.ao (List.length x.8) x.7] (84 : TypeId)),
              Ent.mk (Loc.sl x.ao x.7) (SObj.roL 1 encI1 x.8 (0 : Int)), Ent.mk (Loc.sl aw cw) (SObj.vecL (3 : TypeId) 1 encI1 ws (0 : Int)),
              vecP ao' cap' (insP m_1 (List.getD x.8 (Int.toNat (↑q : Int)) (0 : Int), x.4))])) := by kernel_rfl
end Go.Proofs.Ytihajdkipkfiiaa

/- YtihajdkipkfiiaaTq2Run -/
namespace Go.Proofs.Ytihajdkipkfiiaa
set_option linter.unusedVariables false
open Go Go.RowKit
set_option maxHeartbeats 0
set_option maxRecDepth 100000
set_option linter.unusedVariables false
set_option maxRecDepth 100000

theorem tq_A (K : List Frm → Sy → Prop) (N : List Ent → SV → Prop) (J0 J1 : Act → World → Prop) (ao : Option Addr) (cap : Nat) (bs : List StepT) (b : Nat) (s : Trk) (am : Option Addr) (cm : Nat) (m : PRow) (i : Nat) (x : StepT) (b6 : Nat) (k a0 g0 : Int) (ws : List Int) (aw : Option Addr) (cw : Nat) (n g : Int) (j : Nat) (u : Nat → Value) : (run Try.prog tqT false [26] K (retP Try.prog Try.f10.results.toList N) 900 (frm [J0, J1] (bodyOf Try.f10) [1, 1, 1, 1, 1, 0, 1, 0, 0, 1, 0, 0, 1, 1, 1, 0, 1, 0, 1, 1, 1, 1, 1, 1, 1, 1, 1, 0, 1, 0, 0] []) ⟨mkT u 471 0 [(0, .vec 0 ao bs.length cap), (3, .ptr 2 b 0), (4, .vec 3 am (m).length cm), (5, .int .i64 (i : Int)), (6, .ptr 4 b6 0), (7, .int .i64 k), (12, .int .i64 a0), (13, .int .i64 g0), (14, .vec 6 aw ws.length cw), (15, .int .i64 n), (16, .int .i64 g), (17, .int .i64 (j : Int))], [⟨.sl ao cap, .roL 5 encStepT bs StepT.zero⟩, factsT bs, pkA b trkE (s), ⟨.sl am cm, .vecL 88 2 encPr (m) zPr⟩, ⟨.blk b6, .cells [.int .i64 x.what, .int .i64 x.a, .int .i64 x.b, .str x.unit, .vec 5 x.ao x.pids.length x.cap] 84⟩, ⟨.sl x.ao x.cap, .roL 1 encI1 x.pids 0⟩, ⟨.sl aw cw, .vecL 3 1 encI1 ws 0⟩]⟩) = (
match decide ((↑j : Int) < (↑(List.length ws) : Int)) with
| true =>
 b6 = b6 ∧
  match !sEq x.4 (ByteArray.mk #[]) with
  | true =>
   K
    (frm [J0, J1] (bodyOf Try.f10)
     [1, 1, 1, 1, 1, 0, 1, 0, 0, 1, 0, 0, 1, 1, 1, 0, 1,
      0, 1, 1, 1, 1, 1, 1, 1, 1, 1, 0, 1, 0, 0, 1, 0, 0,
      1, 0, 1, 0]
     [])
    (Sy.mk (SV.vec 0 ao (List.length bs) cap :: (SV.raw (u 1) :: (SV.raw (u 2) :: (SV.ptr 2 b 0 :: (SV.vec 3 am (List.length m) cm :: (SV.int IntKind.i64 (↑i : Int) :: (SV.ptr 4 b6 0 :: (SV.int IntKind.i64 k :: (rawR u 8 (SV.int IntKind.i64 a0 :: (SV.int IntKind.i64 g0 :: (SV.vec 6 aw (List.length ws) cw :: (SV.int IntKind.i64 n :: (SV.int IntKind.i64 g :: (SV.int IntKind.i64 (↑j : Int) :: (SV.bool false :: (SV.int IntKind.i64 (0 : Int) :: (rawR u 20 (SV.int IntKind.i64 (↑j : Int) :: (SV.vec 6 aw (List.length ws) cw :: (SV.int IntKind.i64 (↑(List.length ws) : Int) :: (SV.bool (decide ((↑j : Int) < (↑(List.length ws) : Int))) :: (SV.bool true :: (SV.ptr 4 b6 3 :: (SV.str x.4 :: ((SV.bool !sEq x.4 (ByteArray.mk #[])) :: (SV.bool true :: (rawR u 87 [] 384)))))))))) 58))))))))) 4)))))))))
     [Ent.mk (Loc.sl ao cap) (SObj.roL 5 encStepT bs (StepT.mk (0 : Int) (0 : Int) (0 : Int) (ByteArray.mk #[]) (@none Addr) 0 0 [])), factsT bs, pkA b trkE s,
      Ent.mk (Loc.sl am cm) (SObj.vecL (88 : TypeId) 2 encPr m ((0 : Int), ByteArray.mk #[])),
      Ent.mk (Loc.blk b6) (SObj.cells [SV.int IntKind.i64 x.1, SV.int IntKind.i64 x.2, SV.int IntKind.i64 x.3, SV.str x.4, SV.vec 5 x.ao (List.length x.8) x.7] (84 : TypeId)),
      Ent.mk (Loc.sl x.ao x.7) (SObj.roL 1 encI1 x.8 (0 : Int)), Ent.mk (Loc.sl aw cw) (SObj.vecL (3 : TypeId) 1 encI1 ws (0 : Int))])
  | false =>
   K
    (frm [J0] (bodyOf Try.f10)
     [1, 1, 1, 1, 1, 0, 1, 0, 0, 1, 0, 0, 1, 1, 1, 0, 1,
      0, 1, 1, 1, 1, 1, 1, 1, 1, 1, 1, 0, 1, 0]
     [])
    (Sy.mk (SV.vec 0 ao (List.length bs) cap :: (SV.raw (u 1) :: (SV.raw (u 2) :: (SV.ptr 2 b 0 :: (SV.vec 3 am (List.length m) cm :: (SV.int IntKind.i64 (↑i : Int) :: (SV.ptr 4 b6 0 :: (SV.int IntKind.i64 k :: (rawR u 8 (SV.int IntKind.i64 a0 :: (SV.int IntKind.i64 g0 :: (SV.vec 6 aw (List.length ws) cw :: (SV.int IntKind.i64 n :: (SV.int IntKind.i64 g :: (SV.int IntKind.i64 (↑j : Int) :: (SV.raw (u 18) :: (SV.raw (u 19) :: (SV.int IntKind.i64 (0 : Int) :: (rawR u 21 (SV.int IntKind.i64 (↑j : Int) :: (SV.vec 6 aw (List.length ws) cw :: (SV.int IntKind.i64 (↑(List.length ws) : Int) :: (SV.bool (decide ((↑j : Int) < (↑(List.length ws) : Int))) :: (SV.bool true :: (SV.ptr 4 b6 3 :: (SV.str x.4 :: ((SV.bool !sEq x.4 (ByteArray.mk #[])) :: (SV.bool false :: (rawR u 87 [] 384)))))))))) 57)))))))))) 4)))))))))
     [Ent.mk (Loc.sl ao cap) (SObj.roL 5 encStepT bs (StepT.mk (0 : Int) (0 : Int) (0 : Int) (ByteArray.mk #[]) (@none Addr) 0 0 [])), factsT bs, pkA b trkE s,
      Ent.mk (Loc.sl am cm) (SObj.vecL (88 : TypeId) 2 encPr m ((0 : Int), ByteArray.mk #[])),
      Ent.mk (Loc.blk b6) (SObj.cells [SV.int IntKind.i64 x.1, SV.int IntKind.i64 x.2, SV.int IntKind.i64 x.3, SV.str x.4, SV.vec 5 x.ao (List.length x.8) x.7] (84 : TypeId)),
      Ent.mk (Loc.sl x.ao x.7) (SObj.roL 1 encI1 x.8 (0 : Int)), Ent.mk (Loc.sl aw cw) (SObj.vecL (3 : TypeId) 1 encI1 ws (0 : Int))])
| false =>
 K
  (frm [J0] (bodyOf Try.f10)
   [1, 1, 1, 1, 1, 0, 1, 0, 0, 1, 0, 0, 1, 1, 1, 0, 1,
    0, 1, 1, 1, 1, 1, 1, 1, 1, 1, 1, 0, 1, 0]
   [])
  (Sy.mk (SV.vec 0 ao (List.length bs) cap :: (SV.raw (u 1) :: (SV.raw (u 2) :: (SV.ptr 2 b 0 :: (SV.vec 3 am (List.length m) cm :: (SV.int IntKind.i64 (↑i : Int) :: (SV.ptr 4 b6 0 :: (SV.int IntKind.i64 k :: (rawR u 8 (SV.int IntKind.i64 a0 :: (SV.int IntKind.i64 g0 :: (SV.vec 6 aw (List.length ws) cw :: (SV.int IntKind.i64 n :: (SV.int IntKind.i64 g :: (SV.int IntKind.i64 (↑j : Int) :: (SV.raw (u 18) :: (SV.raw (u 19) :: (SV.int IntKind.i64 (0 : Int) :: (rawR u 21 (SV.int IntKind.i64 (↑j : Int) :: (SV.vec 6 aw (List.length ws) cw :: (SV.int IntKind.i64 (↑(List.length ws) : Int) :: (SV.bool (decide ((↑j : Int) < (↑(List.length ws) : Int))) :: (SV.bool false :: (rawE (SV.bool false :: (rawR u 87 [] 384)) 3)))))) 57)))))))))) 4)))))))))
   [Ent.mk (Loc.sl ao cap) (SObj.roL 5 encStepT bs (StepT.mk (0 : Int) (0 : Int) (0 : Int) (ByteArray.mk #[]) (@none Addr) 0 0 [])), factsT bs, pkA b trkE s,
    Ent.mk (Loc.sl am cm) (SObj.vecL (88 : TypeId) 2 encPr m ((0 : Int), ByteArray.mk #[])),
    Ent.mk (Loc.blk b6) (SObj.cells [SV.int IntKind.i64 x.1, SV.int IntKind.i64 x.2, SV.int IntKind.i64 x.3, SV.str x.4, SV.vec 5 x.ao (List.length x.8) x.7] (84 : TypeId)),
    Ent.mk (Loc.sl x.ao x.7) (SObj.roL 1 encI1 x.8 (0 : Int)), Ent.mk (Loc.sl aw cw) (SObj.vecL (3 : TypeId) 1 encI1 ws (0 : Int))])) := by kernel_rfl


theorem tq_26 (K : List Frm → Sy → Prop) (N : List Ent → SV → Prop) (J0 J1 : Act → World → Prop) (ao : Option Addr) (cap : Nat) (bs : List StepT) (b : Nat) (s : Trk) (am : Option Addr) (cm : Nat) (m : PRow) (i : Nat) (x : StepT) (b6 : Nat) (k a0 g0 : Int) (ws : List Int) (aw : Option Addr) (cw : Nat) (n g : Int) (j : Nat) (st : Bool) (u : Nat → Value) : (run Try.prog tqT false [] K (retP Try.prog Try.f10.results.toList N) 1500 (frmR [J0, J1] (bodyOf Try.f10) 26) ⟨mkT u 471 0 [(0, .vec 0 ao bs.length cap), (3, .ptr 2 b 0), (4, .vec 3 am (m).length cm), (5, .int .i64 (i : Int)), (6, .ptr 4 b6 0), (7, .int .i64 k), (12, .int .i64 a0), (13, .int .i64 g0), (14, .vec 6 aw ws.length cw), (15, .int .i64 n), (16, .int .i64 g), (17, .int .i64 (j : Int)), (18, .bool st)], [⟨.sl ao cap, .roL 5 encStepT bs StepT.zero⟩, factsT bs, pkA b trkE (s), ⟨.sl am cm, .vecL 88 2 encPr (m) zPr⟩, ⟨.blk b6, .cells [.int .i64 x.what, .int .i64 x.a, .int .i64 x.b, .str x.unit, .vec 5 x.ao x.pids.length x.cap] 84⟩, ⟨.sl x.ao x.cap, .roL 1 encI1 x.pids 0⟩, ⟨.sl aw cw, .vecL 3 1 encI1 ws 0⟩]⟩) = (
match !st with
| true =>
 (aw = aw ∧ cw = cw ∧ List.length ws = List.length ws ∧ (0 : Int) ≤ (↑j : Int) ∧ (↑j : Int) < (↑(List.length ws) : Int)) ∧
  (Addr.blkD aw = Addr.blkD aw ∧ Addr.offD aw = Addr.offD aw ∧ 1 = 1 ∧ Int.toNat (↑j : Int) < List.length ws) ∧
   true = true ∧
    ∃ (m_1 : PRow),
     some (Ent.mk (Loc.sl am cm) (SObj.vecL (88 : TypeId) 2 encPr m ((0 : Int), ByteArray.mk #[]))) = some (vecP am cm m_1) ∧
      (List.length m = List.length m_1 ∧ List.length m_1 ≤ 1000000) ∧
       true = true ∧
        ∃ (m_2 : PRow),
         ∃ (i_1 : Nat),
          some (Ent.mk (Loc.sl am cm) (SObj.vecL (88 : TypeId) 2 encPr m ((0 : Int), ByteArray.mk #[]))) = some (vecP am cm m_2) ∧
           (List.length m = List.length m_2 ∧ List.length m_2 ≤ 1000000 ∧ atP m_1 (List.getD ws (Int.toNat (↑j : Int)) (0 : Int)) = (↑i_1 : Int) ∧ i_1 < List.length m_2) ∧
            ∀ (ao' : Option Addr) (cap' : Nat),
             K
              (Frm.loop J1 ::
               Frm.blk 3 ::
                frm [J0] (bodyOf Try.f10)
                 [1, 1, 1, 1, 1, 0, 1, 0, 0, 1, 0, 0, 1, 1, 1,
                  0, 1, 0, 1, 1, 1, 1, 1, 1, 1, 1, 1, 1]
                 [])
              (Sy.mk (SV.vec 0 ao (List.length bs) cap :: (SV.raw (u 1) :: (SV.raw (u 2) :: (SV.ptr 2 b 0 :: (SV.vec 7 ao' (List.length (outP m_2 i_1)) cap' :: (SV.int IntKind.i64 (↑i : Int) :: (SV.ptr 4 b6 0 :: (SV.int IntKind.i64 k :: (rawR u 8 (SV.int IntKind.i64 a0 :: (SV.int IntKind.i64 g0 :: (SV.vec 6 aw (List.length ws) cw :: (SV.int IntKind.i64 n :: (SV.int IntKind.i64 (IntKind.wrap IntKind.i64 (g + (1 : Int))) :: (SV.int IntKind.i64 (IntKind.wrap IntKind.i64 ((↑j : Int) + (1 : Int))) :: (SV.bool st :: (rawR u 19 (SV.int IntKind.i64 (↑j : Int) :: (SV.int IntKind.i64 (IntKind.wrap IntKind.i64 ((↑j : Int) + (1 : Int))) :: (rawR u 89 (SV.bool st :: (SV.bool true :: (SV.int IntKind.i64 g :: (SV.int IntKind.i64 (IntKind.wrap IntKind.i64 (g + (1 : Int))) :: (SV.vec 3 am (List.length m) cm :: (SV.vec 3 am (List.length m) cm :: (SV.vec 6 aw (List.length ws) cw :: (SV.int IntKind.i64 (↑j : Int) :: (SV.eptr 6 (Addr.blkD aw) (Addr.offD aw) 1 (Int.toNat (↑j : Int)) 0 :: (SV.int IntKind.i64 (List.getD ws (Int.toNat (↑j : Int)) (0 : Int)) :: (SV.int IntKind.i64 (atP m_1 (List.getD ws (Int.toNat (↑j : Int)) (0 : Int))) :: (SV.vec 7 ao' (List.length (outP m_2 i_1)) cap' :: (rawR u 121 [] 350))))))))))))) 20))) 68)))))))) 4)))))))))
               [Ent.mk (Loc.sl ao cap) (SObj.roL 5 encStepT bs (StepT.mk (0 : Int) (0 : Int) (0 : Int) (ByteArray.mk #[]) (@none Addr) 0 0 [])), factsT bs,
                pkA b trkE s, Ent.mk (Loc.sl am cm) (SObj.vecL (88 : TypeId) 2 encPr m ((0 : Int), ByteArray.mk #[])),
                Ent.mk (Loc.blk b6)
                 (SObj.cells [SV.int IntKind.i64 x.1, SV.int IntKind.i64 x.2, SV.int IntKind.i64 x.3, SV.str x.4, SV.vec 5 x.ao (List.length x.8) x.7] (84 : TypeId)),
                Ent.mk (Loc.sl x.ao x.7) (SObj.roL 1 encI1 x.8 (0 : Int)), Ent.mk (Loc.sl aw cw) (SObj.vecL (3 : TypeId) 1 encI1 ws (0 : Int)),
                vecP ao' cap' (outP m_2 i_1)])
| false =>
 K
  (Frm.loop J1 ::
   Frm.blk 3 ::
    frm [J0] (bodyOf Try.f10)
     [1, 1, 1, 1, 1, 0, 1, 0, 0, 1, 0, 0, 1, 1, 1, 0, 1,
      0, 1, 1, 1, 1, 1, 1, 1, 1, 1, 1]
     [])
  (Sy.mk (SV.vec 0 ao (List.length bs) cap :: (SV.raw (u 1) :: (SV.raw (u 2) :: (SV.ptr 2 b 0 :: (SV.vec 3 am (List.length m) cm :: (SV.int IntKind.i64 (↑i : Int) :: (SV.ptr 4 b6 0 :: (SV.int IntKind.i64 k :: (rawR u 8 (SV.int IntKind.i64 a0 :: (SV.int IntKind.i64 g0 :: (SV.vec 6 aw (List.length ws) cw :: (SV.int IntKind.i64 n :: (SV.int IntKind.i64 g :: (SV.int IntKind.i64 (IntKind.wrap IntKind.i64 ((↑j : Int) + (1 : Int))) :: (SV.bool st :: (rawR u 19 (SV.int IntKind.i64 (↑j : Int) :: (SV.int IntKind.i64 (IntKind.wrap IntKind.i64 ((↑j : Int) + (1 : Int))) :: (rawR u 89 (SV.bool st :: (SV.bool false :: (rawR u 111 [] 360))) 20))) 68)))))))) 4)))))))))
   [Ent.mk (Loc.sl ao cap) (SObj.roL 5 encStepT bs (StepT.mk (0 : Int) (0 : Int) (0 : Int) (ByteArray.mk #[]) (@none Addr) 0 0 [])), factsT bs, pkA b trkE s,
    Ent.mk (Loc.sl am cm) (SObj.vecL (88 : TypeId) 2 encPr m ((0 : Int), ByteArray.mk #[])),
    Ent.mk (Loc.blk b6) (SObj.cells [SV.int IntKind.i64 x.1, SV.int IntKind.i64 x.2, SV.int IntKind.i64 x.3, SV.str x.4, SV.vec 5 x.ao (List.length x.8) x.7] (84 : TypeId)),
    Ent.mk (Loc.sl x.ao x.7) (SObj.roL 1 encI1 x.8 (0 : Int)), Ent.mk (Loc.sl aw cw) (SObj.vecL (3 : TypeId) 1 encI1 ws (0 : Int))])) := by kernel_rfl


theorem tq_38 (K : List Frm → Sy → Prop) (N : List Ent → SV → Prop) (J0 : Act → World → Prop) (ao : Option Addr) (cap : Nat) (bs : List StepT) (b : Nat) (s : Trk) (am : Option Addr) (cm : Nat) (m : PRow) (i : Nat) (x : StepT) (b6 : Nat) (k a0 g0 : Int) (ws : List Int) (aw : Option Addr) (cw : Nat) (n g : Int) (u : Nat → Value) : (run Try.prog tqT false [62] K (retP Try.prog Try.f10.results.toList N) 1500 (frmR [J0] (bodyOf Try.f10) 38) ⟨mkT u 471 0 [(0, .vec 0 ao bs.length cap), (3, .ptr 2 b 0), (4, .vec 3 am (m).length cm), (5, .int .i64 (i : Int)), (6, .ptr 4 b6 0), (7, .int .i64 k), (12, .int .i64 a0), (13, .int .i64 g0), (14, .vec 6 aw ws.length cw), (15, .int .i64 n), (16, .int .i64 g)], [⟨.sl ao cap, .roL 5 encStepT bs StepT.zero⟩, factsT bs, pkA b trkE (s), ⟨.sl am cm, .vecL 88 2 encPr (m) zPr⟩, ⟨.blk b6, .cells [.int .i64 x.what, .int .i64 x.a, .int .i64 x.b, .str x.unit, .vec 5 x.ao x.pids.length x.cap] 84⟩, ⟨.sl x.ao x.cap, .roL 1 encI1 x.pids 0⟩, ⟨.sl aw cw, .vecL 3 1 encI1 ws 0⟩]⟩) = (
match a0 != n with
| true =>
 N
  [Ent.mk (Loc.sl ao cap) (SObj.roL 5 encStepT bs (StepT.mk (0 : Int) (0 : Int) (0 : Int) (ByteArray.mk #[]) (@none Addr) 0 0 [])), factsT bs, pkA b trkE s,
   Ent.mk (Loc.sl am cm) (SObj.vecL (88 : TypeId) 2 encPr m ((0 : Int), ByteArray.mk #[])),
   Ent.mk (Loc.blk b6) (SObj.cells [SV.int IntKind.i64 x.1, SV.int IntKind.i64 x.2, SV.int IntKind.i64 x.3, SV.str x.4, SV.vec 5 x.ao (List.length x.8) x.7] (84 : TypeId)),
   Ent.mk (Loc.sl x.ao x.7) (SObj.roL 1 encI1 x.8 (0 : Int)), Ent.mk (Loc.sl aw cw) (SObj.vecL (3 : TypeId) 1 encI1 ws (0 : Int))]
  (SV.bool false)
| false =>
 match g0 != g with
 | true =>
  N
   [Ent.mk (Loc.sl ao cap) (SObj.roL 5 encStepT bs (StepT.mk (0 : Int) (0 : Int) (0 : Int) (ByteArray.mk #[]) (@none Addr) 0 0 [])), factsT bs, pkA b trkE s,
    Ent.mk (Loc.sl am cm) (SObj.vecL (88 : TypeId) 2 encPr m ((0 : Int), ByteArray.mk #[])),
    Ent.mk (Loc.blk b6) (SObj.cells [SV.int IntKind.i64 x.1, SV.int IntKind.i64 x.2, SV.int IntKind.i64 x.3, SV.str x.4, SV.vec 5 x.ao (List.length x.8) x.7] (84 : TypeId)),
    Ent.mk (Loc.sl x.ao x.7) (SObj.roL 1 encI1 x.8 (0 : Int)), Ent.mk (Loc.sl aw cw) (SObj.vecL (3 : TypeId) 1 encI1 ws (0 : Int))]
   (SV.bool false)
 | false =>
  K (frmR [J0] (bodyOf Try.f10) 62)
   (Sy.mk (SV.vec 0 ao (List.length bs) cap :: (SV.raw (u 1) :: (SV.raw (u 2) :: (SV.ptr 2 b 0 :: (SV.vec 3 am (List.length m) cm :: (SV.int IntKind.i64 (↑i : Int) :: (SV.ptr 4 b6 0 :: (SV.int IntKind.i64 k :: (rawR u 8 (SV.int IntKind.i64 a0 :: (SV.int IntKind.i64 g0 :: (SV.vec 6 aw (List.length ws) cw :: (SV.int IntKind.i64 n :: (SV.int IntKind.i64 g :: (rawR u 17 (SV.int IntKind.i64 a0 :: (SV.int IntKind.i64 n :: ((SV.bool (a0 != n)) :: (SV.bool false :: (SV.int IntKind.i64 g0 :: (SV.int IntKind.i64 g :: ((SV.bool (g0 != g)) :: (SV.bool false :: (rawR u 185 [] 286))))))))) 160)))))) 4)))))))))
    [Ent.mk (Loc.sl ao cap) (SObj.roL 5 encStepT bs (StepT.mk (0 : Int) (0 : Int) (0 : Int) (ByteArray.mk #[]) (@none Addr) 0 0 [])), factsT bs, pkA b trkE s,
     Ent.mk (Loc.sl am cm) (SObj.vecL (88 : TypeId) 2 encPr m ((0 : Int), ByteArray.mk #[])),
     Ent.mk (Loc.blk b6) (SObj.cells [SV.int IntKind.i64 x.1, SV.int IntKind.i64 x.2, SV.int IntKind.i64 x.3, SV.str x.4, SV.vec 5 x.ao (List.length x.8) x.7] (84 : TypeId)),
     Ent.mk (Loc.sl x.ao x.7) (SObj.roL 1 encI1 x.8 (0 : Int)), Ent.mk (Loc.sl aw cw) (SObj.vecL (3 : TypeId) 1 encI1 ws (0 : Int))])) := by kernel_rfl
end Go.Proofs.Ytihajdkipkfiiaa

