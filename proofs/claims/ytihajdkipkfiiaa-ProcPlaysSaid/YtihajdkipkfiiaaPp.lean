/- ProcPlays. -/
import Derived.Test.YtihajdkipkfiiaaPpP
import Derived.Test.YtihajdkipkfiiaaRt6
import Derived.Test.YtihajdkipkfiiaaPrc7
import Derived.Test.YtihajdkipkfiiaaPp1Run
namespace Go.Proofs.Ytihajdkipkfiiaa
open Go Go.RowKit
set_option linter.unusedVariables false
set_option linter.unusedSimpArgs false
set_option linter.unnecessarySimpa false
set_option maxHeartbeats 0

theorem upto0 (l : List PR) : upto 0 l = l := rfl
theorem ppT_ok : AllOk Try.prog ppT := ⟨rNew_ok, raSpawn_ok, raFork_ok, raExit_ok, raKill_ok, raSignals_ok, raGet_ok, raLen_ok, raReap_ok, rAll_ok, procs_ok, pKill_ok, ptTk_ok⟩
section
variable {W : World} {F : List Ch} {ao : Option Addr} {cap : Nat} {bs : List StepP} {bt br : Nat} {s : PT} {aor : Option Addr} {capr : Nat} {i : Nat} {x : StepP} {b3 : Nat}
theorem pp34 (hi : i < bs.length) (hb : bs.length ≤ 120) (h : PI s (i + 2)) {n e : Int} {tm : List SV} {t : List Ent} (h1 : lenN tm = 222) (h2 : liveOk tm [(1, .vec 0 ao bs.length cap), (5, .ptr 1 bt 0), (6, .ptr 2 br 0), (7, .int .i64 (i : Int)), (8, .ptr 3 b3 0), (9, .int .i64 n), (10, .int .i64 n), (11, .int .i64 e), (12, .int .i64 e)]) : G Try.prog (endQ Try.prog Try.f8 W F fun _ r => r = .bool true) W F (frmR [(Back W F 222 (fun x : Nat × PT × Option Addr × Nat => [(1, .vec 0 ao bs.length cap), (5, .ptr 1 bt 0), (6, .ptr 2 br 0), (7, .int .i64 (x.1 : Int))]) (fun x : Nat × PT × Option Addr × Nat => [⟨.sl ao cap, .roL 5 encStep bs StepP.zero⟩, pkA bt ptE x.2.1, pkA br rtE ⟨x.2.1, x.2.2.1, x.2.2.2⟩]) (fun x : Nat × PT × Option Addr × Nat => x.1 ≤ bs.length ∧ PI x.2.1 (x.1 + 1)) (fun x : Nat × PT × Option Addr × Nat => bs.length - x.1) (bs.length - i))] (bodyOf Try.f8) 34) ⟨tm, [⟨.sl ao cap, .roL 5 encStep bs StepP.zero⟩, pkA bt ptE s, pkA br rtE ⟨s, aor, capr⟩, ⟨.blk b3, .cells (encStep x) 68⟩] ++ t⟩ := by
  have ho := h.ok
  refine G_live 222 [(1, .vec 0 ao bs.length cap), (5, .ptr 1 bt 0), (6, .ptr 2 br 0), (7, .int .i64 (i : Int)), (8, .ptr 3 b3 0), (9, .int .i64 n), (10, .int .i64 n), (11, .int .i64 e), (12, .int .i64 e)] [⟨.sl ao cap, .roL 5 encStep bs StepP.zero⟩, pkA bt ptE s, pkA br rtE ⟨s, aor, capr⟩, ⟨.blk b3, .cells (encStep x) 68⟩] h1 h2 (fun w hw => Rep.dropR hw) fun u => ?_
  refine G_run (kc := false) (ss := []) ppT_ok hmP 3000 ?_
  rw [pp_34]
  have hlen : s.ps.length ≤ 200 := by have := h.len; omega
  have hl2 : (rL s).length = s.ps.length := rL_len s
  have w1 : IntKind.wrap .i64 ((i : Int) + 1) = ((i + 1 : Nat) : Int) := IntWalk.i64_in _ (by omega)
  have back : ∀ (tm : List SV) (x : List Ent), lenN tm = 222 → liveOk tm [(1, .vec 0 ao bs.length cap), (5, .ptr 1 bt 0), (6, .ptr 2 br 0), (7, .int .i64 ((i + 1 : Nat) : Int))] → G Try.prog (endQ Try.prog Try.f8 W F fun _ r => r = .bool true) W F (.loop (Back W F 222 (fun x : Nat × PT × Option Addr × Nat => [(1, .vec 0 ao bs.length cap), (5, .ptr 1 bt 0), (6, .ptr 2 br 0), (7, .int .i64 (x.1 : Int))]) (fun x : Nat × PT × Option Addr × Nat => [⟨.sl ao cap, .roL 5 encStep bs StepP.zero⟩, pkA bt ptE x.2.1, pkA br rtE ⟨x.2.1, x.2.2.1, x.2.2.2⟩]) (fun x : Nat × PT × Option Addr × Nat => x.1 ≤ bs.length ∧ PI x.2.1 (x.1 + 1)) (fun x : Nat × PT × Option Addr × Nat => bs.length - x.1) (bs.length - i)) :: .blk 0 :: frm [] (bodyOf Try.f8) [1, 1, 1, 1, 1] []) ⟨tm, [⟨.sl ao cap, .roL 5 encStep bs StepP.zero⟩, pkA bt ptE s, pkA br rtE ⟨s, aor, capr⟩] ++ x⟩ := fun tm x g1 g2 =>
    G_back (i + 1, s, aor, capr) ⟨by dsimp only; omega, h⟩ (by dsimp only; omega) g1 g2 (fun w hw => Rep.dropR hw)
  simp only [bne_self_eq_false, sEq_self, beq_self_eq_true, Bool.and_true, Bool.and_self, Bool.not_true]
  repeat' first
    | exact rfl
    | exact trivial
    | exact HEq.rfl
    | exact ho
    | exact hlen
    | exact back _ _ rfl ⟨rfl, rfl, rfl, congrArg (Value.int .i64) w1, trivial⟩
    | (refine ⟨rL s, rfl, rfl, ?_, ?_⟩)
    | apply And.intro
    | (refine ⟨rfl, ?_⟩)
    | (refine ⟨trivial, ?_⟩)
    | (refine fun _ => ?_)
    | (show _ ≤ _; omega)
    | fail
theorem pp23 (hi : i < bs.length) (hb : bs.length ≤ 120) (h : PI s (i + 1)) {tm : List SV} {t : List Ent} (h1 : lenN tm = 222) (h2 : liveOk tm [(1, .vec 0 ao bs.length cap), (5, .ptr 1 bt 0), (6, .ptr 2 br 0), (7, .int .i64 (i : Int)), (8, .ptr 3 b3 0), (9, .int .i64 0), (10, .int .i64 0), (11, .int .i64 0), (12, .int .i64 0)]) : G Try.prog (endQ Try.prog Try.f8 W F fun _ r => r = .bool true) W F (frmR [(Back W F 222 (fun x : Nat × PT × Option Addr × Nat => [(1, .vec 0 ao bs.length cap), (5, .ptr 1 bt 0), (6, .ptr 2 br 0), (7, .int .i64 (x.1 : Int))]) (fun x : Nat × PT × Option Addr × Nat => [⟨.sl ao cap, .roL 5 encStep bs StepP.zero⟩, pkA bt ptE x.2.1, pkA br rtE ⟨x.2.1, x.2.2.1, x.2.2.2⟩]) (fun x : Nat × PT × Option Addr × Nat => x.1 ≤ bs.length ∧ PI x.2.1 (x.1 + 1)) (fun x : Nat × PT × Option Addr × Nat => bs.length - x.1) (bs.length - i))] (bodyOf Try.f8) 23) ⟨tm, [⟨.sl ao cap, .roL 5 encStep bs StepP.zero⟩, pkA bt ptE s, pkA br rtE ⟨s, aor, capr⟩, ⟨.blk b3, .cells (encStep x) 68⟩] ++ t⟩ := by
  have ho := h.ok
  refine G_live 222 [(1, .vec 0 ao bs.length cap), (5, .ptr 1 bt 0), (6, .ptr 2 br 0), (7, .int .i64 (i : Int)), (8, .ptr 3 b3 0), (9, .int .i64 0), (10, .int .i64 0), (11, .int .i64 0), (12, .int .i64 0)] [⟨.sl ao cap, .roL 5 encStep bs StepP.zero⟩, pkA bt ptE s, pkA br rtE ⟨s, aor, capr⟩, ⟨.blk b3, .cells (encStep x) 68⟩] h1 h2 (fun w hw => Rep.dropR hw) fun u => ?_
  refine G_run (kc := false) (ss := [34]) ppT_ok hmP 900 ?_
  rw [pp_23]
  repeat' first
    | exact rfl
    | exact HEq.rfl
    | exact ho
    | exact pp34 (t := []) hi hb (h.spawn (by omega) _ _ _ nb) rfl ⟨rfl, rfl, rfl, rfl, rfl, rfl, rfl, rfl, rfl, trivial⟩
    | apply And.intro
    | (refine ⟨rfl, ?_⟩)
    | (refine ⟨nb, fun ao2 cap2 => ?_⟩)
    | (refine fun nb => ?_)
    | fail
theorem pp27 (hi : i < bs.length) (hb : bs.length ≤ 120) (h : PI s (i + 1)) {tm : List SV} {t : List Ent} (h1 : lenN tm = 222) (h2 : liveOk tm [(1, .vec 0 ao bs.length cap), (5, .ptr 1 bt 0), (6, .ptr 2 br 0), (7, .int .i64 (i : Int)), (8, .ptr 3 b3 0), (9, .int .i64 0), (10, .int .i64 0), (11, .int .i64 0), (12, .int .i64 0)]) : G Try.prog (endQ Try.prog Try.f8 W F fun _ r => r = .bool true) W F (frmR [(Back W F 222 (fun x : Nat × PT × Option Addr × Nat => [(1, .vec 0 ao bs.length cap), (5, .ptr 1 bt 0), (6, .ptr 2 br 0), (7, .int .i64 (x.1 : Int))]) (fun x : Nat × PT × Option Addr × Nat => [⟨.sl ao cap, .roL 5 encStep bs StepP.zero⟩, pkA bt ptE x.2.1, pkA br rtE ⟨x.2.1, x.2.2.1, x.2.2.2⟩]) (fun x : Nat × PT × Option Addr × Nat => x.1 ≤ bs.length ∧ PI x.2.1 (x.1 + 1)) (fun x : Nat × PT × Option Addr × Nat => bs.length - x.1) (bs.length - i))] (bodyOf Try.f8) 27) ⟨tm, [⟨.sl ao cap, .roL 5 encStep bs StepP.zero⟩, pkA bt ptE s, pkA br rtE ⟨s, aor, capr⟩, ⟨.blk b3, .cells (encStep x) 68⟩] ++ t⟩ := by
  have ho := h.ok
  refine G_live 222 [(1, .vec 0 ao bs.length cap), (5, .ptr 1 bt 0), (6, .ptr 2 br 0), (7, .int .i64 (i : Int)), (8, .ptr 3 b3 0), (9, .int .i64 0), (10, .int .i64 0), (11, .int .i64 0), (12, .int .i64 0)] [⟨.sl ao cap, .roL 5 encStep bs StepP.zero⟩, pkA bt ptE s, pkA br rtE ⟨s, aor, capr⟩, ⟨.blk b3, .cells (encStep x) 68⟩] h1 h2 (fun w hw => Rep.dropR hw) fun u => ?_
  refine G_run (kc := false) (ss := [34]) ppT_ok hmP 900 ?_
  rw [pp_27]
  repeat' first
    | exact rfl
    | exact HEq.rfl
    | exact ho
    | exact pp34 (t := []) hi hb (h.fork (by omega) _ nb) rfl ⟨rfl, rfl, rfl, rfl, rfl, rfl, rfl, rfl, rfl, trivial⟩
    | apply And.intro
    | (refine ⟨rfl, ?_⟩)
    | (refine ⟨nb, fun ao2 cap2 => ?_⟩)
    | (refine fun nb => ?_)
    | fail
theorem pp31 (hi : i < bs.length) (hb : bs.length ≤ 120) (h : PI s (i + 1)) {tm : List SV} {t : List Ent} (h1 : lenN tm = 222) (h2 : liveOk tm [(1, .vec 0 ao bs.length cap), (5, .ptr 1 bt 0), (6, .ptr 2 br 0), (7, .int .i64 (i : Int)), (8, .ptr 3 b3 0), (9, .int .i64 0), (10, .int .i64 0), (11, .int .i64 0), (12, .int .i64 0)]) : G Try.prog (endQ Try.prog Try.f8 W F fun _ r => r = .bool true) W F (frmR [(Back W F 222 (fun x : Nat × PT × Option Addr × Nat => [(1, .vec 0 ao bs.length cap), (5, .ptr 1 bt 0), (6, .ptr 2 br 0), (7, .int .i64 (x.1 : Int))]) (fun x : Nat × PT × Option Addr × Nat => [⟨.sl ao cap, .roL 5 encStep bs StepP.zero⟩, pkA bt ptE x.2.1, pkA br rtE ⟨x.2.1, x.2.2.1, x.2.2.2⟩]) (fun x : Nat × PT × Option Addr × Nat => x.1 ≤ bs.length ∧ PI x.2.1 (x.1 + 1)) (fun x : Nat × PT × Option Addr × Nat => bs.length - x.1) (bs.length - i))] (bodyOf Try.f8) 31) ⟨tm, [⟨.sl ao cap, .roL 5 encStep bs StepP.zero⟩, pkA bt ptE s, pkA br rtE ⟨s, aor, capr⟩, ⟨.blk b3, .cells (encStep x) 68⟩] ++ t⟩ := by
  have ho := h.ok
  refine G_live 222 [(1, .vec 0 ao bs.length cap), (5, .ptr 1 bt 0), (6, .ptr 2 br 0), (7, .int .i64 (i : Int)), (8, .ptr 3 b3 0), (9, .int .i64 0), (10, .int .i64 0), (11, .int .i64 0), (12, .int .i64 0)] [⟨.sl ao cap, .roL 5 encStep bs StepP.zero⟩, pkA bt ptE s, pkA br rtE ⟨s, aor, capr⟩, ⟨.blk b3, .cells (encStep x) 68⟩] h1 h2 (fun w hw => Rep.dropR hw) fun u => ?_
  refine G_run (kc := false) (ss := [34]) ppT_ok hmP 900 ?_
  rw [pp_31]
  have fin := fun (tm : List SV) g1 g2 => pp34 (W := W) (F := F) (ao := ao) (cap := cap) (bs := bs) (bt := bt) (br := br) (aor := aor) (capr := capr) (x := x) (b3 := b3) (n := 0) (e := (pExit s x.a x.b).2) (tm := tm) (t := []) hi hb ((h.exit x.a x.b).up (by omega)) g1 g2
  repeat' first
    | exact rfl
    | exact HEq.rfl
    | exact ho
    | exact fin _ rfl ⟨rfl, rfl, rfl, rfl, rfl, rfl, rfl, rfl, rfl, trivial⟩
    | apply And.intro
    | (refine ⟨rfl, ?_⟩)
    | (refine ⟨trivial, ?_⟩)
    | fail
theorem pp33 (hi : i < bs.length) (hb : bs.length ≤ 120) (h : PI s (i + 1)) {tm : List SV} {t : List Ent} (h1 : lenN tm = 222) (h2 : liveOk tm [(1, .vec 0 ao bs.length cap), (5, .ptr 1 bt 0), (6, .ptr 2 br 0), (7, .int .i64 (i : Int)), (8, .ptr 3 b3 0), (9, .int .i64 0), (10, .int .i64 0), (11, .int .i64 0), (12, .int .i64 0)]) : G Try.prog (endQ Try.prog Try.f8 W F fun _ r => r = .bool true) W F (frmR [(Back W F 222 (fun x : Nat × PT × Option Addr × Nat => [(1, .vec 0 ao bs.length cap), (5, .ptr 1 bt 0), (6, .ptr 2 br 0), (7, .int .i64 (x.1 : Int))]) (fun x : Nat × PT × Option Addr × Nat => [⟨.sl ao cap, .roL 5 encStep bs StepP.zero⟩, pkA bt ptE x.2.1, pkA br rtE ⟨x.2.1, x.2.2.1, x.2.2.2⟩]) (fun x : Nat × PT × Option Addr × Nat => x.1 ≤ bs.length ∧ PI x.2.1 (x.1 + 1)) (fun x : Nat × PT × Option Addr × Nat => bs.length - x.1) (bs.length - i))] (bodyOf Try.f8) 33) ⟨tm, [⟨.sl ao cap, .roL 5 encStep bs StepP.zero⟩, pkA bt ptE s, pkA br rtE ⟨s, aor, capr⟩, ⟨.blk b3, .cells (encStep x) 68⟩] ++ t⟩ := by
  have ho := h.ok
  refine G_live 222 [(1, .vec 0 ao bs.length cap), (5, .ptr 1 bt 0), (6, .ptr 2 br 0), (7, .int .i64 (i : Int)), (8, .ptr 3 b3 0), (9, .int .i64 0), (10, .int .i64 0), (11, .int .i64 0), (12, .int .i64 0)] [⟨.sl ao cap, .roL 5 encStep bs StepP.zero⟩, pkA bt ptE s, pkA br rtE ⟨s, aor, capr⟩, ⟨.blk b3, .cells (encStep x) 68⟩] h1 h2 (fun w hw => Rep.dropR hw) fun u => ?_
  refine G_run (kc := false) (ss := [34]) ppT_ok hmP 900 ?_
  rw [pp_33]
  have fin := fun (tm : List SV) g1 g2 => pp34 (W := W) (F := F) (ao := ao) (cap := cap) (bs := bs) (bt := bt) (br := br) (aor := aor) (capr := capr) (x := x) (b3 := b3) (n := 0) (e := (pKill s x.a x.b).2) (tm := tm) (t := []) hi hb ((h.kill x.a x.b).up (by omega)) g1 g2
  repeat' first
    | exact rfl
    | exact HEq.rfl
    | exact ho
    | exact fin _ rfl ⟨rfl, rfl, rfl, rfl, rfl, rfl, rfl, rfl, rfl, trivial⟩
    | apply And.intro
    | (refine ⟨rfl, ?_⟩)
    | (refine ⟨trivial, ?_⟩)
    | fail
theorem pp15 (hi : i < bs.length) (hb : bs.length ≤ 120) (h : PI s (i + 1)) {tm : List SV} {t : List Ent} (h1 : lenN tm = 222) (h2 : liveOk tm [(1, .vec 0 ao bs.length cap), (5, .ptr 1 bt 0), (6, .ptr 2 br 0), (7, .int .i64 (i : Int)), (8, .ptr 3 b3 0), (9, .int .i64 0), (10, .int .i64 0), (11, .int .i64 0), (12, .int .i64 0)]) : G Try.prog (endQ Try.prog Try.f8 W F fun _ r => r = .bool true) W F (frmR [(Back W F 222 (fun x : Nat × PT × Option Addr × Nat => [(1, .vec 0 ao bs.length cap), (5, .ptr 1 bt 0), (6, .ptr 2 br 0), (7, .int .i64 (x.1 : Int))]) (fun x : Nat × PT × Option Addr × Nat => [⟨.sl ao cap, .roL 5 encStep bs StepP.zero⟩, pkA bt ptE x.2.1, pkA br rtE ⟨x.2.1, x.2.2.1, x.2.2.2⟩]) (fun x : Nat × PT × Option Addr × Nat => x.1 ≤ bs.length ∧ PI x.2.1 (x.1 + 1)) (fun x : Nat × PT × Option Addr × Nat => bs.length - x.1) (bs.length - i))] (bodyOf Try.f8) 15) ⟨tm, [⟨.sl ao cap, .roL 5 encStep bs StepP.zero⟩, pkA bt ptE s, pkA br rtE ⟨s, aor, capr⟩, ⟨.blk b3, .cells (encStep x) 68⟩] ++ t⟩ := by
  have ho := h.ok
  refine G_live 222 [(1, .vec 0 ao bs.length cap), (5, .ptr 1 bt 0), (6, .ptr 2 br 0), (7, .int .i64 (i : Int)), (8, .ptr 3 b3 0), (9, .int .i64 0), (10, .int .i64 0), (11, .int .i64 0), (12, .int .i64 0)] [⟨.sl ao cap, .roL 5 encStep bs StepP.zero⟩, pkA bt ptE s, pkA br rtE ⟨s, aor, capr⟩, ⟨.blk b3, .cells (encStep x) 68⟩] h1 h2 (fun w hw => Rep.dropR hw) fun u => ?_
  refine G_run (kc := false) (ss := [34]) ppT_ok hmP 900 ?_
  rw [pp_15]
  have fin := fun (ao2 : Option Addr) (cap2 : Nat) (tm : List SV) (t : List Ent) g1 g2 => pp34 (W := W) (F := F) (ao := ao) (cap := cap) (bs := bs) (bt := bt) (br := br) (aor := ao2) (capr := cap2) (x := x) (b3 := b3) (n := 0) (e := (pReap s x.a).2.2) (tm := tm) (t := t) hi hb ((h.reap x.a).up (by omega)) g1 g2
  simp only [bne_self_eq_false, sEq_self, beq_self_eq_true, Bool.and_true, Bool.and_self, Bool.not_true]
  repeat' first
    | exact rfl
    | exact trivial
    | exact HEq.rfl
    | exact ho
    | exact fin _ _ _ [_, _] rfl ⟨rfl, rfl, rfl, rfl, rfl, rfl, rfl, rfl, rfl, trivial⟩
    | apply And.intro
    | (refine ⟨rfl, ?_⟩)
    | (refine ⟨trivial, ?_⟩)
    | (refine fun _ => ?_)
    | (show _ ≤ _; omega)
    | fail
theorem pp14 (hi : i < bs.length) (hb : bs.length ≤ 120) (h : PI s (i + 1)) {tm : List SV} {t : List Ent} (h1 : lenN tm = 222) (h2 : liveOk tm [(1, .vec 0 ao bs.length cap), (5, .ptr 1 bt 0), (6, .ptr 2 br 0), (7, .int .i64 (i : Int)), (8, .ptr 3 b3 0), (9, .int .i64 0), (10, .int .i64 0), (11, .int .i64 0), (12, .int .i64 0)]) : G Try.prog (endQ Try.prog Try.f8 W F fun _ r => r = .bool true) W F (frmR [(Back W F 222 (fun x : Nat × PT × Option Addr × Nat => [(1, .vec 0 ao bs.length cap), (5, .ptr 1 bt 0), (6, .ptr 2 br 0), (7, .int .i64 (x.1 : Int))]) (fun x : Nat × PT × Option Addr × Nat => [⟨.sl ao cap, .roL 5 encStep bs StepP.zero⟩, pkA bt ptE x.2.1, pkA br rtE ⟨x.2.1, x.2.2.1, x.2.2.2⟩]) (fun x : Nat × PT × Option Addr × Nat => x.1 ≤ bs.length ∧ PI x.2.1 (x.1 + 1)) (fun x : Nat × PT × Option Addr × Nat => bs.length - x.1) (bs.length - i))] (bodyOf Try.f8) 14) ⟨tm, [⟨.sl ao cap, .roL 5 encStep bs StepP.zero⟩, pkA bt ptE s, pkA br rtE ⟨s, aor, capr⟩, ⟨.blk b3, .cells (encStep x) 68⟩] ++ t⟩ := by
  refine G_live 222 [(1, .vec 0 ao bs.length cap), (5, .ptr 1 bt 0), (6, .ptr 2 br 0), (7, .int .i64 (i : Int)), (8, .ptr 3 b3 0), (9, .int .i64 0), (10, .int .i64 0), (11, .int .i64 0), (12, .int .i64 0)] [⟨.sl ao cap, .roL 5 encStep bs StepP.zero⟩, pkA bt ptE s, pkA br rtE ⟨s, aor, capr⟩, ⟨.blk b3, .cells (encStep x) 68⟩] h1 h2 (fun w hw => Rep.dropR hw) fun u => ?_
  refine G_run (kc := false) (ss := [15, 23, 27, 31, 33]) ppT_ok hmP 900 ?_
  rw [pp_14]
  repeat' first
    | exact rfl
    | exact pp23 (t := []) hi hb h rfl ⟨rfl, rfl, rfl, rfl, rfl, rfl, rfl, rfl, rfl, trivial⟩
    | exact pp27 (t := []) hi hb h rfl ⟨rfl, rfl, rfl, rfl, rfl, rfl, rfl, rfl, rfl, trivial⟩
    | exact pp31 (t := []) hi hb h rfl ⟨rfl, rfl, rfl, rfl, rfl, rfl, rfl, rfl, rfl, trivial⟩
    | exact pp33 (t := []) hi hb h rfl ⟨rfl, rfl, rfl, rfl, rfl, rfl, rfl, rfl, rfl, trivial⟩
    | exact pp15 (t := []) hi hb h rfl ⟨rfl, rfl, rfl, rfl, rfl, rfl, rfl, rfl, rfl, trivial⟩
    | apply And.intro
    | split
    | fail
end
theorem pp_ok (room : Int) (ao : Option Addr) (cap : Nat) (bs : List StepP) : Spec Try.prog 8 [⟨.sl ao cap, .roL 5 encStep bs StepP.zero⟩] [.int .i64 room, .vec 0 ao bs.length cap] fun _ r => r = .bool true := by
  refine Spec.of_G 222 Try.func8 (c := bodyOf Try.f8) (by kernel_rfl) (by kernel_rfl) (Nat.le_of_ble_eq_true rfl) fun W F => ?_
  refine G_run (kc := false) (ss := []) ppT_ok hmP 900 ?_
  rw [pp_start]
  refine ⟨rfl, ?_⟩
  cases h120 : decide ((bs.length : Int) > 120) with
  | true => exact rfl
  | false =>
    simp only [decide_eq_false_iff_not] at h120
    refine ⟨rfl, fun bt bm bp => ⟨rfl, bm, bp, fun br aor capr => ?_⟩⟩
    refine G_loopAt (ι := Nat × PT × Option Addr × Nat) [] (bodyOf Try.f8) [1, 1, 1, 1, 0, 1, 0] 222 (fun x : Nat × PT × Option Addr × Nat => [(1, .vec 0 ao bs.length cap), (5, .ptr 1 bt 0), (6, .ptr 2 br 0), (7, .int .i64 (x.1 : Int))]) (fun x : Nat × PT × Option Addr × Nat => [⟨.sl ao cap, .roL 5 encStep bs StepP.zero⟩, pkA bt ptE x.2.1, pkA br rtE ⟨x.2.1, x.2.2.1, x.2.2.2⟩]) (fun x : Nat × PT × Option Addr × Nat => x.1 ≤ bs.length ∧ PI x.2.1 (x.1 + 1)) (fun x : Nat × PT × Option Addr × Nat => bs.length - x.1) (0, pNew room bm bp, aor, capr) (by kernel_rfl) (fun J => by kernel_rfl) ⟨Nat.zero_le _, PI.new room bm bp⟩ rfl ⟨rfl, rfl, rfl, rfl, trivial⟩ (fun w hw => hw) ?_
    rintro ⟨i, s, aor, capr⟩ ⟨hi, h⟩ u
    dsimp only at hi h ⊢
    simp only [List.nil_append, List.cons_append]
    refine G_run (kc := false) (ss := [14]) ppT_ok hmP 3000 ?_
    rw [pp_l1]
    have ho := h.ok
    cases hlt : decide ((i : Int) < (bs.length : Int)) with
    | false =>
      have hlen : s.ps.length ≤ 200 := by have := h.len; omega
      refine ⟨rfl, rfl, rfl, HEq.rfl, ⟨ho, hlen⟩, fun ao1 cap1 => ?_⟩
      have hp := h.pos
      have e : (upto 1 (s.ps.map (·.2))).length = 1 := by
        show ((s.ps.map (·.2)).take 1).length = 1
        simp; omega
      rw [e]
      rfl
    | true =>
      simp only [decide_eq_true_eq] at hlt
      have hi2 : i < bs.length := by omega
      rw [Int.toNat_natCast]
      refine ⟨⟨rfl, rfl, rfl, by omega, by omega⟩, ⟨rfl, rfl, rfl, hi2, rfl⟩, fun b3 => ⟨⟨rfl, rfl, rfl, Nat.le_refl _⟩, rfl, ?_⟩⟩
      generalize List.getD bs i (StepP.mk (0 : Int) (0 : Int) (0 : Int) (ByteArray.mk #[]) (ByteArray.mk #[])) = x
      cases decide ((x.g.size : Int) > 100) with
      | true => exact rfl
      | false =>
        refine ⟨rfl, ?_⟩
        cases decide ((x.c.size : Int) > 100) with
        | true => exact rfl
        | false => exact pp14 (t := []) hi2 (by omega) h rfl ⟨rfl, rfl, rfl, rfl, rfl, rfl, rfl, rfl, rfl, trivial⟩
end Go.Proofs.Ytihajdkipkfiiaa
