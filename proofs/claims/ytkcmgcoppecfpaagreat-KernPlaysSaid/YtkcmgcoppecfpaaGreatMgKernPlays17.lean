import Derived.Test.YtkcmgcoppecfpaaGreatMgKernPlays15
import Derived.Test.YtkcmgcoppecfpaaGreatMgKernPlays16
import Derived.Test.YtkcmgcoppecfpaaGreatMgKernPlays12
import Derived.Test.YtkcmgcoppecfpaaGreatMgKernPlays6
import Derived.Test.YtkcmgcoppecfpaaGreatMgKernPlays5
set_option linter.unusedVariables false
set_option linter.unusedSimpArgs false
set_option linter.unnecessarySimpa false
set_option maxHeartbeats 0
set_option maxRecDepth 100000
/- KernPlays: each call. -/
namespace Go.Proofs.YtkcmgcoppecfpaaGreat
open Go Go.RowKit
@[reducible] def kwJ (W : World) (F : List Ch) (ao : Option Addr) (cap : Nat) (bs : List StepK) (bk br bp bg bq b8 b9 bd : Nat) (vt vr vm vmS : Value) (lst nx : Int) (i : Nat) : Act → World → Prop := (Back W F 321 (fun y : Nat × KS => [(2, .vec 0 ao bs.length cap), (7, .ptr 1 bk 0), (8, .ptr 2 br 0), (9, .int .i64 (y.1 : Int))]) (fun y : Nat × KS => [⟨.sl ao cap, .roL 6 encStepK bs StepK.zero⟩, ⟨.blk bk, .cells [.ptr 3 bp 0, .ptr 4 bg 0, .ptr 5 bq 0, .raw vt, .int .i64 y.2.m, .int .i64 y.2.w] 96⟩, ⟨.blk br, .cells [.ptr 6 b8 0, .ptr 7 b9 0, .ptr 8 bd 0, .raw vr, .int .i64 y.2.m, .int .i64 y.2.w] 60⟩, pkA bp ptE y.2.pt, pkA bg grpE y.2.gr, pkA bq poE ⟨vm, y.2.aoP, y.2.capP, y.2.ds, lst⟩, pkA b8 rtE ⟨y.2.pt, y.2.ao8, y.2.cap8⟩, pkA b9 rgE y.2.r, pkA bd sdE ⟨vmS, nx, y.2.aoS, y.2.capS, y.2.ds⟩]) (fun y : Nat × KS => y.1 ≤ bs.length ∧ KI y.2.pt y.2.gr y.2.r y.2.ds y.2.m y.2.w y.1) (fun y : Nat × KS => bs.length - y.1) (bs.length - i))
theorem rmem_le {pt : PT} {gr : Grp} {r : RG} {k : Nat} (hk : k ≤ 1000) (h : KH pt gr r k) (n : ByteArray) : (rMem r.L n).length ≤ 100000 := by
  unfold rMem
  cases hh : rHas r.L n with
  | false => exact Nat.zero_le _
  | true =>
    obtain ⟨L1, g, L2, hs, hat, e, _⟩ := rHas_split h.gl.asc hh
    have hg : g ∈ r.L := by rw [hs]; simp
    have := (h.gl.big g hg).2.1
    dsimp only
    rw [hat, hs]
    simp [List.getD]
    omega
theorem addS_in {a c : Int} (ha : inR a) (hc : inR c) : inR (addS a c) := by
  have hw : inR (IntKind.wrap .i64 (a + c)) := by
    unfold inR
    simp only [IntKind.wrap_i64]
    omega
  unfold addS foreverI
  unfold inR at *
  cases a == 9223372036854775807 || c == 9223372036854775807
  · cases decide (a > 0) && decide (c > 0) && decide (IntKind.wrap .i64 (a + c) < 0)
    · cases decide (a < 0) && decide (c < 0) && decide (IntKind.wrap .i64 (a + c) ≥ 0)
      · exact hw
      · dsimp only; omega
    · dsimp only; omega
  · dsimp only; omega
theorem dgAdd_len {ds : List DG} (h : ds.length ≤ 16) (p : Int) (t : ByteArray) : (dgAdd ds p t).1.length ≤ 16 := by
  unfold dgAdd
  cases decide ((t.size : Int) > 200) with
  | true => exact h
  | false =>
    cases c2 : decide ((ds.length : Int) ≥ 16) with
    | true => exact h
    | false =>
      simp only [decide_eq_false_iff_not] at c2
      simp
      omega
theorem G_factsK {P : Program} {Q : Exit → Act → World → Prop} {W : World} {F : List Ch} {k : List Frm} {st : Sy} {bs : List StepK} (l : Nat) (hl : nth st.heap l = some (factsK bs))
    (h : (∀ x ∈ bs, goodK W x) → G P Q W F k st) : G P Q W F k st := fun w hr => by
  obtain ⟨c, L, hc, _, _⟩ := hr.get hl
  exact h hc.2 w hr
section
variable {W : World} {F : List Ch} {ao : Option Addr} {cap : Nat} {bs : List StepK} {bk br bp bg bq b8 b9 bd : Nat} {vt vr vm vmS : Value} {pt : PT} {gr : Grp} {r : RG} {ds : List DG} {aoP ao8 aoS : Option Addr} {capP cap8 capS : Nat} {lst nx m w : Int} {i : Nat} {x : StepK} {b0 : Nat} {st : Sy}
theorem kw48 (hi : i < bs.length) (hl : bs.length ≤ 100) (h : KI pt gr r ds m w (i + 1)) {e n : Int} (h1 : lenN st.tmps = 321) (h2 : liveOk st.tmps [(2, .vec 0 ao bs.length cap), (7, .ptr 2 bk 0), (8, .ptr 3 br 0), (9, .int .i64 (i : Int)), (10, .ptr 1 b0 0), (11, .int .i64 e), (12, .int .i64 e), (13, .int .i64 n), (14, .int .i64 n)]) (hh : ∀ y, Rep W F st.heap y → Rep W F [⟨.sl ao cap, .roL 6 encStepK bs StepK.zero⟩, ⟨.blk b0, .cells (encStepK x) 54⟩, ⟨.blk bk, .cells [.ptr 4 bp 0, .ptr 5 bg 0, .ptr 6 bq 0, .raw vt, .int .i64 m, .int .i64 w] 96⟩, ⟨.blk br, .cells [.ptr 7 b8 0, .ptr 8 b9 0, .ptr 9 bd 0, .raw vr, .int .i64 m, .int .i64 w] 60⟩, pkA bp ptE pt, pkA bg grpE gr, pkA bq poE ⟨vm, aoP, capP, ds, lst⟩, pkA b8 rtE ⟨pt, ao8, cap8⟩, pkA b9 rgE r, pkA bd sdE ⟨vmS, nx, aoS, capS, ds⟩] y) : G Tryz.prog (endQ Tryz.prog Tryz.f4 W F fun _ r => r = .bool true) W F (frmR [(kwJ W F ao cap bs bk br bp bg bq b8 b9 bd vt vr vm vmS lst nx i)] (bodyOf Tryz.f4) 48) st := by
  refine G_live 321 [(2, .vec 0 ao bs.length cap), (7, .ptr 2 bk 0), (8, .ptr 3 br 0), (9, .int .i64 (i : Int)), (10, .ptr 1 b0 0), (11, .int .i64 e), (12, .int .i64 e), (13, .int .i64 n), (14, .int .i64 n)] [⟨.sl ao cap, .roL 6 encStepK bs StepK.zero⟩, ⟨.blk b0, .cells (encStepK x) 54⟩, ⟨.blk bk, .cells [.ptr 4 bp 0, .ptr 5 bg 0, .ptr 6 bq 0, .raw vt, .int .i64 m, .int .i64 w] 96⟩, ⟨.blk br, .cells [.ptr 7 b8 0, .ptr 8 b9 0, .ptr 9 bd 0, .raw vr, .int .i64 m, .int .i64 w] 60⟩, pkA bp ptE pt, pkA bg grpE gr, pkA bq poE ⟨vm, aoP, capP, ds, lst⟩, pkA b8 rtE ⟨pt, ao8, cap8⟩, pkA b9 rgE r, pkA bd sdE ⟨vmS, nx, aoS, capS, ds⟩] h1 h2 hh fun u => ?_
  refine G_run (kc := false) (ss := [50]) kpT_ok hmKw 2500 ?_
  rw [kp_48]
  have ho := h.kh.pi.ok
  have hpl : pt.ps.length ≤ 190 := by have := h.kh.pi.len; omega
  have hrok := h.kh.gl.rok (by omega)
  have hmo := (h.kh.gsok (by omega)).mem x.name
  have hrl : (rMem r.L x.name).length ≤ 1000000 := by have := rmem_le (by omega) h.kh x.name; omega
  have hpl2 : (rL pt).length ≤ 1000000 := by unfold rL; rw [List.length_map]; omega
  have hmq : memQ gr x.name = rMem r.L x.name := (memQ_eq _ _).trans (h.kh.gl.mem _)
  have w1 : IntKind.wrap .i64 ((i : Int) + 1) = ((i + 1 : Nat) : Int) := IntWalk.i64_in _ (by omega)
  refine fun ba => ⟨rfl, rfl, rfl, rfl, fun bx => ⟨rfl, rfl, pt, 4, bp, rfl, rfl, rfl, by decide, ⟨ho, hpl⟩, fun aoA capA => ?_⟩⟩
  refine G_live 321 [(2, .vec 0 ao bs.length cap), (7, .ptr 2 bk 0), (8, .ptr 3 br 0), (9, .int .i64 (i : Int)), (10, .ptr 1 b0 0), (11, .int .i64 e), (12, .int .i64 e), (13, .int .i64 n), (14, .int .i64 n), (19, .ptr 10 ba 0)] [⟨.sl ao cap, .roL 6 encStepK bs StepK.zero⟩, ⟨.blk b0, .cells (encStepK x) 54⟩, ⟨.blk bk, .cells [.ptr 4 bp 0, .ptr 5 bg 0, .ptr 6 bq 0, .raw vt, .int .i64 m, .int .i64 w] 96⟩, ⟨.blk br, .cells [.ptr 7 b8 0, .ptr 8 b9 0, .ptr 9 bd 0, .raw vr, .int .i64 m, .int .i64 w] 60⟩, pkA bp ptE pt, pkA bg grpE gr, ⟨.blk bq, .cells [.raw vm, .vec 12 aoP ds.length capP, .int .i64 lst] 145⟩, pkA b8 rtE ⟨pt, ao8, cap8⟩, pkA b9 rgE r, ⟨.blk bd, .cells [.raw vmS, .int .i64 nx, .vec 13 aoS ds.length capS] 86⟩, ⟨.blk ba, .cells [.vec 11 aoA (rL pt).length capA] 74⟩, ⟨.sl aoA capA, .vecL 38 6 encP6 (rL pt) PR.zero⟩, ⟨.sl aoP capP, .vecL 168 2 encDG ds DG.zero⟩, ⟨.sl aoS capS, .vecL 168 2 encDG ds DG.zero⟩] rfl ⟨rfl, rfl, rfl, rfl, rfl, rfl, rfl, rfl, rfl, rfl, trivial⟩ (fun y hr => ?_) fun u => ?_
  · have q0 := Rep.pick (π := [6, 9, 0, 1, 2, 3, 4, 5, 7, 8, 10, 12]) (by decide) rfl hr
    have q1 : Rep W F (poE ⟨vm, aoP, capP, ds, lst⟩ bq ++ _) y := Rep.unpkA (S := poE) (s := ⟨vm, aoP, capP, ds, lst⟩) (b := bq) (t := [_, _, _, _, _, _, _, _, _, _, _]) q0
    have q2 := Rep.pick (π := [2, 0, 1, 3, 4, 5, 6, 7, 8, 9, 10, 11, 12]) (by decide) rfl q1
    have q3 : Rep W F (sdE ⟨vmS, nx, aoS, capS, ds⟩ bd ++ _) y := Rep.unpkA (S := sdE) (s := ⟨vmS, nx, aoS, capS, ds⟩) (b := bd) (t := [_, _, _, _, _, _, _, _, _, _, _, _]) q2
    have q4 := Rep.pick (π := [4, 5, 6, 7, 8, 9, 2, 10, 11, 0, 12, 13, 3, 1]) (by decide) rfl q3
    have q5 := Rep.cellsEq (l := 10) (b := ba) (T := 74) (cs := [.vec 12 aoA (rL pt).length capA]) (cs' := [.vec 11 aoA (rL pt).length capA]) rfl rfl q4
    have q6 := Rep.cellsEq (l := 6) (b := bq) (T := 145) (cs := [.raw vm, .vec 1 aoP ds.length capP, .int .i64 lst]) (cs' := [.raw vm, .vec 12 aoP ds.length capP, .int .i64 lst]) rfl rfl q5
    exact Rep.cellsEq (l := 9) (b := bd) (T := 86) (cs := [.raw vmS, .int .i64 nx, .vec 1 aoS ds.length capS]) (cs' := [.raw vmS, .int .i64 nx, .vec 13 aoS ds.length capS]) rfl rfl q6
  refine G_run (kc := true) (ss := [200014]) kpT_ok hmKw 4000 ?_
  rw [kp_50, hmq]
  simp only [bne_self_eq_false, beq_self_eq_true, Bool.not_true]
  have back : ∀ tm ex, lenN tm = 321 → liveOk tm [(2, .vec 0 ao bs.length cap), (7, .ptr 1 bk 0), (8, .ptr 2 br 0), (9, .int .i64 ((i + 1 : Nat) : Int))] → G Tryz.prog (endQ Tryz.prog Tryz.f4 W F fun _ r => r = .bool true) W F (.loop (Back W F 321 (fun y : Nat × KS => [(2, .vec 0 ao bs.length cap), (7, .ptr 1 bk 0), (8, .ptr 2 br 0), (9, .int .i64 (y.1 : Int))]) (fun y : Nat × KS => [⟨.sl ao cap, .roL 6 encStepK bs StepK.zero⟩, ⟨.blk bk, .cells [.ptr 3 bp 0, .ptr 4 bg 0, .ptr 5 bq 0, .raw vt, .int .i64 y.2.m, .int .i64 y.2.w] 96⟩, ⟨.blk br, .cells [.ptr 6 b8 0, .ptr 7 b9 0, .ptr 8 bd 0, .raw vr, .int .i64 y.2.m, .int .i64 y.2.w] 60⟩, pkA bp ptE y.2.pt, pkA bg grpE y.2.gr, pkA bq poE ⟨vm, y.2.aoP, y.2.capP, y.2.ds, lst⟩, pkA b8 rtE ⟨y.2.pt, y.2.ao8, y.2.cap8⟩, pkA b9 rgE y.2.r, pkA bd sdE ⟨vmS, nx, y.2.aoS, y.2.capS, y.2.ds⟩]) (fun y : Nat × KS => y.1 ≤ bs.length ∧ KI y.2.pt y.2.gr y.2.r y.2.ds y.2.m y.2.w y.1) (fun y : Nat × KS => bs.length - y.1) (bs.length - i)) :: .blk 0 :: frm [] (bodyOf Tryz.f4) [1, 1, 1, 1, 1] []) ⟨tm, [⟨.sl ao cap, .roL 6 encStepK bs StepK.zero⟩, ⟨.blk b0, .cells (encStepK x) 54⟩, ⟨.blk bk, .cells [.ptr 4 bp 0, .ptr 5 bg 0, .ptr 6 bq 0, .raw vt, .int .i64 m, .int .i64 w] 96⟩, ⟨.blk br, .cells [.ptr 7 b8 0, .ptr 8 b9 0, .ptr 9 bd 0, .raw vr, .int .i64 m, .int .i64 w] 60⟩, pkA bp ptE pt, pkA bg grpE gr, ⟨.blk bq, .cells [.raw vm, .vec 12 aoP ds.length capP, .int .i64 lst] 145⟩, pkA b8 rtE ⟨pt, ao8, cap8⟩, pkA b9 rgE r, ⟨.blk bd, .cells [.raw vmS, .int .i64 nx, .vec 13 aoS ds.length capS] 86⟩, ⟨.blk ba, .cells [.vec 11 aoA (rL pt).length capA] 74⟩, ⟨.sl aoA capA, .vecL 38 6 encP6 (rL pt) PR.zero⟩, ⟨.sl aoP capP, .vecL 168 2 encDG ds DG.zero⟩, ⟨.sl aoS capS, .vecL 168 2 encDG ds DG.zero⟩] ++ ex⟩ := fun tm ex g1 g2 => G_back (i + 1, ⟨pt, gr, r, ds, aoP, ao8, aoS, capP, cap8, capS, m, w⟩) ⟨by dsimp only; omega, h⟩ (by dsimp only; omega) g1 g2 (fun y hr => by
    have q0 := Rep.dropR (h := [⟨.sl ao cap, .roL 6 encStepK bs StepK.zero⟩, ⟨.blk b0, .cells (encStepK x) 54⟩, ⟨.blk bk, .cells [.ptr 4 bp 0, .ptr 5 bg 0, .ptr 6 bq 0, .raw vt, .int .i64 m, .int .i64 w] 96⟩, ⟨.blk br, .cells [.ptr 7 b8 0, .ptr 8 b9 0, .ptr 9 bd 0, .raw vr, .int .i64 m, .int .i64 w] 60⟩, pkA bp ptE pt, pkA bg grpE gr, ⟨.blk bq, .cells [.raw vm, .vec 12 aoP ds.length capP, .int .i64 lst] 145⟩, pkA b8 rtE ⟨pt, ao8, cap8⟩, pkA b9 rgE r, ⟨.blk bd, .cells [.raw vmS, .int .i64 nx, .vec 13 aoS ds.length capS] 86⟩, ⟨.blk ba, .cells [.vec 11 aoA (rL pt).length capA] 74⟩, ⟨.sl aoA capA, .vecL 38 6 encP6 (rL pt) PR.zero⟩, ⟨.sl aoP capP, .vecL 168 2 encDG ds DG.zero⟩, ⟨.sl aoS capS, .vecL 168 2 encDG ds DG.zero⟩]) hr
    have p1 := Rep.pick (π := [9, 13, 6, 12, 0, 2, 3, 4, 5, 7, 8]) (by decide) rfl q0
    have p2 := Rep.cellsEq (l := 0) (b := bd) (T := 86) (cs := [.raw vmS, .int .i64 nx, .vec 13 aoS ds.length capS]) (cs' := [.raw vmS, .int .i64 nx, .vec 1 aoS ds.length capS]) rfl rfl p1
    have p3 : Rep W F (pkA bd sdE ⟨vmS, nx, aoS, capS, ds⟩ :: _) y := Rep.pkA (S := sdE) (s := ⟨vmS, nx, aoS, capS, ds⟩) (b := bd) (t := [_, _, _, _, _, _, _, _, _]) p2
    have p4 := Rep.pick (π := [1, 2, 0, 3, 4, 5, 6, 7, 8, 9]) (by decide) rfl p3
    have p5 := Rep.cellsEq (l := 0) (b := bq) (T := 145) (cs := [.raw vm, .vec 12 aoP ds.length capP, .int .i64 lst]) (cs' := [.raw vm, .vec 1 aoP ds.length capP, .int .i64 lst]) rfl rfl p4
    have p6 : Rep W F (pkA bq poE ⟨vm, aoP, capP, ds, lst⟩ :: _) y := Rep.pkA (S := poE) (s := ⟨vm, aoP, capP, ds, lst⟩) (b := bq) (t := [_, _, _, _, _, _, _, _]) p5
    have q1 := Rep.pick (π := [2, 3, 4, 5, 6, 0, 7, 8, 1]) (by decide) rfl p6
    have q2 := Rep.cellsEq (l := 1) (cs' := [.ptr 3 bp 0, .ptr 4 bg 0, .ptr 5 bq 0, .raw vt, .int .i64 m, .int .i64 w]) rfl (by rfl) q1
    exact Rep.cellsEq (l := 2) (cs' := [.ptr 6 b8 0, .ptr 7 b9 0, .ptr 8 bd 0, .raw vr, .int .i64 m, .int .i64 w]) rfl (by rfl) q2)
  repeat' first
    | exact rfl
    | exact trivial
    | exact HEq.rfl
    | exact ho
    | exact hrok
    | exact hmo
    | exact hrl
    | exact hpl2
    | exact back _ [_, _, _] rfl ⟨rfl, rfl, rfl, congrArg (Value.int .i64) w1, trivial⟩
    | (refine ⟨rL pt, rfl, rfl, ?_⟩)
    | (refine ⟨rMem r.L x.name, rfl, rfl, ?_⟩)
    | apply And.intro
    | (refine ⟨rfl, ?_⟩)
    | (refine ⟨trivial, ?_⟩)
    | (show _ ≤ _; omega)
    | (refine fun _ => ?_)
    | fail
theorem kw18 (hi : i < bs.length) (hl : bs.length ≤ 100) (h : KI pt gr r ds m w i) (hn : x.name.size ≤ 100) (hnr : inR x.n) (h1 : lenN st.tmps = 321) (h2 : liveOk st.tmps [(2, .vec 0 ao bs.length cap), (7, .ptr 2 bk 0), (8, .ptr 3 br 0), (9, .int .i64 (i : Int)), (10, .ptr 1 b0 0), (11, .int .i64 0), (12, .int .i64 0), (13, .int .i64 0), (14, .int .i64 0)]) (hh : ∀ y, Rep W F st.heap y → Rep W F [⟨.sl ao cap, .roL 6 encStepK bs StepK.zero⟩, ⟨.blk b0, .cells (encStepK x) 54⟩, ⟨.blk bk, .cells [.ptr 4 bp 0, .ptr 5 bg 0, .ptr 6 bq 0, .raw vt, .int .i64 m, .int .i64 w] 96⟩, ⟨.blk br, .cells [.ptr 7 b8 0, .ptr 8 b9 0, .ptr 9 bd 0, .raw vr, .int .i64 m, .int .i64 w] 60⟩, pkA bp ptE pt, pkA bg grpE gr, pkA bq poE ⟨vm, aoP, capP, ds, lst⟩, pkA b8 rtE ⟨pt, ao8, cap8⟩, pkA b9 rgE r, pkA bd sdE ⟨vmS, nx, aoS, capS, ds⟩] y) : G Tryz.prog (endQ Tryz.prog Tryz.f4 W F fun _ r => r = .bool true) W F (frmR [(kwJ W F ao cap bs bk br bp bg bq b8 b9 bd vt vr vm vmS lst nx i)] (bodyOf Tryz.f4) 18) st := by
  refine G_live 321 [(2, .vec 0 ao bs.length cap), (7, .ptr 2 bk 0), (8, .ptr 3 br 0), (9, .int .i64 (i : Int)), (10, .ptr 1 b0 0), (11, .int .i64 0), (12, .int .i64 0), (13, .int .i64 0), (14, .int .i64 0)] [⟨.sl ao cap, .roL 6 encStepK bs StepK.zero⟩, ⟨.blk b0, .cells (encStepK x) 54⟩, ⟨.blk bk, .cells [.ptr 4 bp 0, .ptr 5 bg 0, .ptr 6 bq 0, .raw vt, .int .i64 m, .int .i64 w] 96⟩, ⟨.blk br, .cells [.ptr 7 b8 0, .ptr 8 b9 0, .ptr 9 bd 0, .raw vr, .int .i64 m, .int .i64 w] 60⟩, pkA bp ptE pt, pkA bg grpE gr, pkA bq poE ⟨vm, aoP, capP, ds, lst⟩, pkA b8 rtE ⟨pt, ao8, cap8⟩, pkA b9 rgE r, pkA bd sdE ⟨vmS, nx, aoS, capS, ds⟩] h1 h2 hh fun u => ?_
  refine G_run (kc := true) (ss := [48, 200004]) kpT_ok hmKw 2500 ?_
  rw [kp_18]
  have ho := h.kh.pi.ok
  have hgs := h.kh.gsok (by omega)
  have hrok := h.kh.gl.rok (by omega)
  have hgo := fun z => h.kh.gl.gok (by omega) z
  have hgk := h.kh.gl.gk
  have hat := fun z => h.kh.gl.ratok z
  have hnl : r.notes.length ≤ 10000 := by have := h.kh.gl.lens; omega
  have hdl : ds.length ≤ 100 := by have := h.dl; omega
  have hrl : (rMem r.L x.name).length ≤ 100000 := rmem_le (by omega) h.kh x.name
  have e81 : ((81 : Int) == 0) = false := rfl
  have e80 : ((80 : Int) == 0) = false := rfl
  have e00 : ((0 : Int) == 0) = true := rfl
  repeat' first
    | exact rfl
    | exact trivial
    | exact HEq.rfl
    | exact ho
    | exact hgs
    | exact hrok
    | exact hgo _
    | exact hgk
    | exact hat _
    | exact hnl
    | exact hrl
    | exact hdl
    | exact h.hm
    | exact h.hw
    | exact hnr
    | exact Nat.le_refl _
    | exact kw48 (e := _) (n := _) hi hl ⟨(h.kh.makeG x.name hn _ _ _).2, h.dl, h.hm, h.hw⟩ rfl ⟨rfl, rfl, rfl, rfl, rfl, rfl, congrArg (Value.int .i64) (h.kh.makeG x.name hn _ _ _).1.symm, rfl, rfl, trivial⟩ (fun y hr => Rep.pick (π := [0, 1, 2, 3, 4, 5, 6, 7, 8, 9]) (by decide) rfl hr)
    | apply And.intro
    | (refine ⟨rfl, ?_⟩)
    | (show _ ≤ _; omega)
    | (show _ < _; omega)
    | (refine fun _ => ?_)
    | fail
theorem kw21 (hi : i < bs.length) (hl : bs.length ≤ 100) (h : KI pt gr r ds m w i) (hn : x.name.size ≤ 100) (hnr : inR x.n) (h1 : lenN st.tmps = 321) (h2 : liveOk st.tmps [(2, .vec 0 ao bs.length cap), (7, .ptr 2 bk 0), (8, .ptr 3 br 0), (9, .int .i64 (i : Int)), (10, .ptr 1 b0 0), (11, .int .i64 0), (12, .int .i64 0), (13, .int .i64 0), (14, .int .i64 0)]) (hh : ∀ y, Rep W F st.heap y → Rep W F [⟨.sl ao cap, .roL 6 encStepK bs StepK.zero⟩, ⟨.blk b0, .cells (encStepK x) 54⟩, ⟨.blk bk, .cells [.ptr 4 bp 0, .ptr 5 bg 0, .ptr 6 bq 0, .raw vt, .int .i64 m, .int .i64 w] 96⟩, ⟨.blk br, .cells [.ptr 7 b8 0, .ptr 8 b9 0, .ptr 9 bd 0, .raw vr, .int .i64 m, .int .i64 w] 60⟩, pkA bp ptE pt, pkA bg grpE gr, pkA bq poE ⟨vm, aoP, capP, ds, lst⟩, pkA b8 rtE ⟨pt, ao8, cap8⟩, pkA b9 rgE r, pkA bd sdE ⟨vmS, nx, aoS, capS, ds⟩] y) : G Tryz.prog (endQ Tryz.prog Tryz.f4 W F fun _ r => r = .bool true) W F (frmR [(kwJ W F ao cap bs bk br bp bg bq b8 b9 bd vt vr vm vmS lst nx i)] (bodyOf Tryz.f4) 21) st := by
  refine G_live 321 [(2, .vec 0 ao bs.length cap), (7, .ptr 2 bk 0), (8, .ptr 3 br 0), (9, .int .i64 (i : Int)), (10, .ptr 1 b0 0), (11, .int .i64 0), (12, .int .i64 0), (13, .int .i64 0), (14, .int .i64 0)] [⟨.sl ao cap, .roL 6 encStepK bs StepK.zero⟩, ⟨.blk b0, .cells (encStepK x) 54⟩, ⟨.blk bk, .cells [.ptr 4 bp 0, .ptr 5 bg 0, .ptr 6 bq 0, .raw vt, .int .i64 m, .int .i64 w] 96⟩, ⟨.blk br, .cells [.ptr 7 b8 0, .ptr 8 b9 0, .ptr 9 bd 0, .raw vr, .int .i64 m, .int .i64 w] 60⟩, pkA bp ptE pt, pkA bg grpE gr, pkA bq poE ⟨vm, aoP, capP, ds, lst⟩, pkA b8 rtE ⟨pt, ao8, cap8⟩, pkA b9 rgE r, pkA bd sdE ⟨vmS, nx, aoS, capS, ds⟩] h1 h2 hh fun u => ?_
  refine G_run (kc := true) (ss := [48, 200004]) kpT_ok hmKw 2500 ?_
  rw [kp_21]
  have ho := h.kh.pi.ok
  have hgs := h.kh.gsok (by omega)
  have hrok := h.kh.gl.rok (by omega)
  have hgo := fun z => h.kh.gl.gok (by omega) z
  have hgk := h.kh.gl.gk
  have hat := fun z => h.kh.gl.ratok z
  have hnl : r.notes.length ≤ 10000 := by have := h.kh.gl.lens; omega
  have hdl : ds.length ≤ 100 := by have := h.dl; omega
  have hrl : (rMem r.L x.name).length ≤ 100000 := rmem_le (by omega) h.kh x.name
  have e81 : ((81 : Int) == 0) = false := rfl
  have e80 : ((80 : Int) == 0) = false := rfl
  have e00 : ((0 : Int) == 0) = true := rfl
  rw [h.kh.gl.has x.name]
  have hhas := h.kh.gl.has x.name
  cases hx : (mget gr.gs (.s x.name)).isSome with
  | false =>
    repeat' first
      | exact rfl
      | exact trivial
      | exact HEq.rfl
      | exact ho
      | exact hgs
      | exact hrok
      | exact hgo _
      | exact hgk
      | exact hat _
      | exact hnl
      | exact hrl
      | exact hdl
      | exact h.hm
      | exact h.hw
      | exact hnr
      | exact Nat.le_refl _
      | exact kw48 (e := 90) (n := 0) hi hl ⟨h.kh.up (Nat.le_succ i), h.dl, h.hm, h.hw⟩ rfl ⟨rfl, rfl, rfl, rfl, rfl, rfl, rfl, rfl, rfl, trivial⟩ (fun y hr => Rep.pick (π := [0, 1, 2, 3, 4, 5, 6, 7, 8, 9]) (by decide) rfl hr)
      | apply And.intro
      | (refine ⟨rfl, ?_⟩)
      | (show _ ≤ _; omega)
      | (show _ < _; omega)
      | (refine fun _ => ?_)
      | fail
  | true =>
    rw [hx] at hhas
    have hne : sEq x.name ⟨#[]⟩ = false := by
      obtain ⟨g, hg, e⟩ := (rHas_iff h.kh.gl.asc).1 hhas
      rw [← e]; exact sE_ne (h.kh.ne g hg)
    repeat' first
      | exact rfl
      | exact trivial
      | exact HEq.rfl
      | exact ho
      | exact hgs
      | exact hrok
      | exact hgo _
      | exact hgk
      | exact hat _
      | exact hnl
      | exact hrl
      | exact hdl
      | exact h.hm
      | exact h.hw
      | exact hnr
      | exact Nat.le_refl _
      | apply And.intro
      | (refine ⟨rfl, ?_⟩)
      | (show _ ≤ _; omega)
      | (show _ < _; omega)
      | fail
    intro nb
    rcases h.kh.spawnG (by omega) hhas x.text nb with e | ⟨pt', e, hr⟩
    · rw [e]
      dsimp only
      rw [e81]
      dsimp only
      repeat' first
        | exact rfl
        | exact trivial
        | exact HEq.rfl
        | exact ho
        | exact hgs
        | exact hrok
        | exact hgo _
        | exact hgk
        | exact hat _
        | exact hnl
        | exact hrl
        | exact hdl
        | exact h.hm
        | exact h.hw
        | exact hnr
        | exact Nat.le_refl _
        | exact kw48 (e := 81) (n := 0) hi hl ⟨h.kh.up (Nat.le_succ i), h.dl, h.hm, h.hw⟩ rfl ⟨rfl, rfl, rfl, rfl, rfl, rfl, rfl, rfl, rfl, trivial⟩ (fun y hr => Rep.pick (π := [0, 1, 2, 3, 4, 5, 6, 7, 8, 9]) (by decide) rfl hr)
        | apply And.intro
        | (refine ⟨rfl, ?_⟩)
        | (refine ⟨nb, fun a8 c8 => ?_⟩; rw [e]; dsimp only; rw [e81]; dsimp only)
        | (show _ ≤ _; omega)
        | (show _ < _; omega)
        | (refine fun _ => ?_)
        | fail
    · rw [e]
      dsimp only
      rw [e00, hne]
      dsimp only
      repeat' first
        | exact rfl
        | exact trivial
        | exact HEq.rfl
        | exact ho
        | exact hgs
        | exact hrok
        | exact hgo _
        | exact hgk
        | exact hat _
        | exact hnl
        | exact hrl
        | exact hdl
        | exact h.hm
        | exact h.hw
        | exact hnr
        | exact Nat.le_refl _
        | exact kw48 (e := 0) (n := (pt.last + 1)) hi hl ⟨(hr _ _ _ _ _ _ _ _).2, h.dl, h.hm, h.hw⟩ rfl ⟨rfl, rfl, rfl, rfl, rfl, congrArg (Value.int .i64) (hr _ _ none 0 none 0 none 0).1, rfl, rfl, rfl, trivial⟩ (fun y hr => Rep.pick (π := [0, 1, 2, 3, 4, 5, 6, 7, 8, 9]) (by decide) rfl hr)
        | apply And.intro
        | (refine ⟨rfl, ?_⟩)
        | (refine ⟨nb, fun a8 c8 => ?_⟩; rw [e]; dsimp only; rw [e00]; dsimp only)
        | (show _ ≤ _; omega)
        | (show _ < _; omega)
        | (refine fun _ => ?_)
        | fail
theorem kw25 (hi : i < bs.length) (hl : bs.length ≤ 100) (h : KI pt gr r ds m w i) (hn : x.name.size ≤ 100) (hnr : inR x.n) (h1 : lenN st.tmps = 321) (h2 : liveOk st.tmps [(2, .vec 0 ao bs.length cap), (7, .ptr 2 bk 0), (8, .ptr 3 br 0), (9, .int .i64 (i : Int)), (10, .ptr 1 b0 0), (11, .int .i64 0), (12, .int .i64 0), (13, .int .i64 0), (14, .int .i64 0)]) (hh : ∀ y, Rep W F st.heap y → Rep W F [⟨.sl ao cap, .roL 6 encStepK bs StepK.zero⟩, ⟨.blk b0, .cells (encStepK x) 54⟩, ⟨.blk bk, .cells [.ptr 4 bp 0, .ptr 5 bg 0, .ptr 6 bq 0, .raw vt, .int .i64 m, .int .i64 w] 96⟩, ⟨.blk br, .cells [.ptr 7 b8 0, .ptr 8 b9 0, .ptr 9 bd 0, .raw vr, .int .i64 m, .int .i64 w] 60⟩, pkA bp ptE pt, pkA bg grpE gr, pkA bq poE ⟨vm, aoP, capP, ds, lst⟩, pkA b8 rtE ⟨pt, ao8, cap8⟩, pkA b9 rgE r, pkA bd sdE ⟨vmS, nx, aoS, capS, ds⟩] y) : G Tryz.prog (endQ Tryz.prog Tryz.f4 W F fun _ r => r = .bool true) W F (frmR [(kwJ W F ao cap bs bk br bp bg bq b8 b9 bd vt vr vm vmS lst nx i)] (bodyOf Tryz.f4) 25) st := by
  refine G_live 321 [(2, .vec 0 ao bs.length cap), (7, .ptr 2 bk 0), (8, .ptr 3 br 0), (9, .int .i64 (i : Int)), (10, .ptr 1 b0 0), (11, .int .i64 0), (12, .int .i64 0), (13, .int .i64 0), (14, .int .i64 0)] [⟨.sl ao cap, .roL 6 encStepK bs StepK.zero⟩, ⟨.blk b0, .cells (encStepK x) 54⟩, ⟨.blk bk, .cells [.ptr 4 bp 0, .ptr 5 bg 0, .ptr 6 bq 0, .raw vt, .int .i64 m, .int .i64 w] 96⟩, ⟨.blk br, .cells [.ptr 7 b8 0, .ptr 8 b9 0, .ptr 9 bd 0, .raw vr, .int .i64 m, .int .i64 w] 60⟩, pkA bp ptE pt, pkA bg grpE gr, pkA bq poE ⟨vm, aoP, capP, ds, lst⟩, pkA b8 rtE ⟨pt, ao8, cap8⟩, pkA b9 rgE r, pkA bd sdE ⟨vmS, nx, aoS, capS, ds⟩] h1 h2 hh fun u => ?_
  refine G_run (kc := true) (ss := [48, 200004]) kpT_ok hmKw 2500 ?_
  rw [kp_25]
  have ho := h.kh.pi.ok
  have hgs := h.kh.gsok (by omega)
  have hrok := h.kh.gl.rok (by omega)
  have hgo := fun z => h.kh.gl.gok (by omega) z
  have hgk := h.kh.gl.gk
  have hat := fun z => h.kh.gl.ratok z
  have hnl : r.notes.length ≤ 10000 := by have := h.kh.gl.lens; omega
  have hdl : ds.length ≤ 100 := by have := h.dl; omega
  have hrl : (rMem r.L x.name).length ≤ 100000 := rmem_le (by omega) h.kh x.name
  have e81 : ((81 : Int) == 0) = false := rfl
  have e80 : ((80 : Int) == 0) = false := rfl
  have e00 : ((0 : Int) == 0) = true := rfl
  repeat' first
    | exact rfl
    | exact trivial
    | exact HEq.rfl
    | exact ho
    | exact hgs
    | exact hrok
    | exact hgo _
    | exact hgk
    | exact hat _
    | exact hnl
    | exact hrl
    | exact hdl
    | exact h.hm
    | exact h.hw
    | exact hnr
    | exact Nat.le_refl _
    | apply And.intro
    | (refine ⟨rfl, ?_⟩)
    | (show _ ≤ _; omega)
    | (show _ < _; omega)
    | fail
  intro nb
  rcases h.kh.forkG (by omega) x.a nb with ⟨e, he, e1⟩ | ⟨pt', nm, e1, hm, hne, hgn, hr⟩
  · have e2 : (e == 0) = false := by simpa using he
    rw [e1]
    dsimp only
    rw [e2]
    dsimp only
    repeat' first
      | exact rfl
      | exact trivial
      | exact HEq.rfl
      | exact ho
      | exact hgs
      | exact hrok
      | exact hgo _
      | exact hgk
      | exact hat _
      | exact hnl
      | exact hrl
      | exact hdl
      | exact h.hm
      | exact h.hw
      | exact hnr
      | exact Nat.le_refl _
      | exact kw48 (e := e) (n := 0) hi hl ⟨h.kh.up (Nat.le_succ i), h.dl, h.hm, h.hw⟩ rfl ⟨rfl, rfl, rfl, rfl, rfl, rfl, rfl, rfl, rfl, trivial⟩ (fun y hr => Rep.pick (π := [0, 1, 2, 3, 4, 5, 6, 7, 8, 9]) (by decide) rfl hr)
      | apply And.intro
      | (refine ⟨rfl, ?_⟩)
      | (refine ⟨nb, fun a8 c8 => ?_⟩; rw [e1]; dsimp only; rw [e2]; dsimp only)
      | (show _ ≤ _; omega)
      | (show _ < _; omega)
      | (refine fun _ => ?_)
      | fail
  · have ho2 : pOk pt' := (hr none 0 none 0 none 0 none 0).2.pi.ok
    rw [e1, hm]
    dsimp only
    rw [e00, hne]
    dsimp only
    repeat' first
      | exact rfl
      | exact trivial
      | exact HEq.rfl
      | exact ho
      | exact hgs
      | exact hrok
      | exact hgo _
      | exact hgk
      | exact hat _
      | exact hnl
      | exact hrl
      | exact hdl
      | exact h.hm
      | exact h.hw
      | exact hnr
      | exact Nat.le_refl _
      | exact kw48 (e := 0) (n := (pt.last + 1)) hi hl ⟨(hr _ _ _ _ _ _ _ _).2, h.dl, h.hm, h.hw⟩ rfl ⟨rfl, rfl, rfl, rfl, rfl, congrArg (Value.int .i64) (hr _ _ none 0 none 0 none 0).1, rfl, rfl, rfl, trivial⟩ (fun y hr => Rep.pick (π := [0, 1, 2, 3, 4, 5, 6, 7, 8, 9]) (by decide) rfl hr)
      | exact ho2
      | apply And.intro
      | (refine ⟨rfl, ?_⟩)
      | (refine ⟨nb, fun a8 c8 => ?_⟩; rw [e1]; dsimp only; rw [e00]; dsimp only; rw [hgn])
      | (show _ ≤ _; omega)
      | (show _ < _; omega)
      | (refine fun _ => ?_)
      | fail
theorem kw29 (hi : i < bs.length) (hl : bs.length ≤ 100) (h : KI pt gr r ds m w i) (hn : x.name.size ≤ 100) (hnr : inR x.n) (h1 : lenN st.tmps = 321) (h2 : liveOk st.tmps [(2, .vec 0 ao bs.length cap), (7, .ptr 2 bk 0), (8, .ptr 3 br 0), (9, .int .i64 (i : Int)), (10, .ptr 1 b0 0), (11, .int .i64 0), (12, .int .i64 0), (13, .int .i64 0), (14, .int .i64 0)]) (hh : ∀ y, Rep W F st.heap y → Rep W F [⟨.sl ao cap, .roL 6 encStepK bs StepK.zero⟩, ⟨.blk b0, .cells (encStepK x) 54⟩, ⟨.blk bk, .cells [.ptr 4 bp 0, .ptr 5 bg 0, .ptr 6 bq 0, .raw vt, .int .i64 m, .int .i64 w] 96⟩, ⟨.blk br, .cells [.ptr 7 b8 0, .ptr 8 b9 0, .ptr 9 bd 0, .raw vr, .int .i64 m, .int .i64 w] 60⟩, pkA bp ptE pt, pkA bg grpE gr, pkA bq poE ⟨vm, aoP, capP, ds, lst⟩, pkA b8 rtE ⟨pt, ao8, cap8⟩, pkA b9 rgE r, pkA bd sdE ⟨vmS, nx, aoS, capS, ds⟩] y) : G Tryz.prog (endQ Tryz.prog Tryz.f4 W F fun _ r => r = .bool true) W F (frmR [(kwJ W F ao cap bs bk br bp bg bq b8 b9 bd vt vr vm vmS lst nx i)] (bodyOf Tryz.f4) 29) st := by
  refine G_live 321 [(2, .vec 0 ao bs.length cap), (7, .ptr 2 bk 0), (8, .ptr 3 br 0), (9, .int .i64 (i : Int)), (10, .ptr 1 b0 0), (11, .int .i64 0), (12, .int .i64 0), (13, .int .i64 0), (14, .int .i64 0)] [⟨.sl ao cap, .roL 6 encStepK bs StepK.zero⟩, ⟨.blk b0, .cells (encStepK x) 54⟩, ⟨.blk bk, .cells [.ptr 4 bp 0, .ptr 5 bg 0, .ptr 6 bq 0, .raw vt, .int .i64 m, .int .i64 w] 96⟩, ⟨.blk br, .cells [.ptr 7 b8 0, .ptr 8 b9 0, .ptr 9 bd 0, .raw vr, .int .i64 m, .int .i64 w] 60⟩, pkA bp ptE pt, pkA bg grpE gr, pkA bq poE ⟨vm, aoP, capP, ds, lst⟩, pkA b8 rtE ⟨pt, ao8, cap8⟩, pkA b9 rgE r, pkA bd sdE ⟨vmS, nx, aoS, capS, ds⟩] h1 h2 hh fun u => ?_
  refine G_run (kc := true) (ss := [48, 200004]) kpT_ok hmKw 2500 ?_
  rw [kp_29]
  have ho := h.kh.pi.ok
  have hgs := h.kh.gsok (by omega)
  have hrok := h.kh.gl.rok (by omega)
  have hgo := fun z => h.kh.gl.gok (by omega) z
  have hgk := h.kh.gl.gk
  have hat := fun z => h.kh.gl.ratok z
  have hnl : r.notes.length ≤ 10000 := by have := h.kh.gl.lens; omega
  have hdl : ds.length ≤ 100 := by have := h.dl; omega
  have hrl : (rMem r.L x.name).length ≤ 100000 := rmem_le (by omega) h.kh x.name
  have e81 : ((81 : Int) == 0) = false := rfl
  have e80 : ((80 : Int) == 0) = false := rfl
  have e00 : ((0 : Int) == 0) = true := rfl
  rcases h.kh.exitO x.a x.b with e | ⟨pt', e, hr⟩
  · rw [e]
    dsimp only
    rw [e80]
    dsimp only
    repeat' first
      | exact rfl
      | exact trivial
      | exact HEq.rfl
      | exact ho
      | exact hgs
      | exact hrok
      | exact hgo _
      | exact hgk
      | exact hat _
      | exact hnl
      | exact hrl
      | exact hdl
      | exact h.hm
      | exact h.hw
      | exact hnr
      | exact Nat.le_refl _
      | exact kw48 (e := 80) (n := 0) hi hl ⟨h.kh.up (Nat.le_succ i), h.dl, h.hm, h.hw⟩ rfl ⟨rfl, rfl, rfl, rfl, rfl, rfl, rfl, rfl, rfl, trivial⟩ (fun y hr => Rep.pick (π := [0, 1, 2, 3, 4, 5, 6, 7, 8, 9]) (by decide) rfl hr)
      | apply And.intro
      | (refine ⟨rfl, ?_⟩)
      | (show _ ≤ _; omega)
      | (show _ < _; omega)
      | (refine fun _ => ?_)
      | fail
  · rw [e]
    dsimp only
    rw [e00]
    dsimp only
    repeat' first
      | exact rfl
      | exact trivial
      | exact HEq.rfl
      | exact ho
      | exact hgs
      | exact hrok
      | exact hgo _
      | exact hgk
      | exact hat _
      | exact hnl
      | exact hrl
      | exact hdl
      | exact h.hm
      | exact h.hw
      | exact hnr
      | exact Nat.le_refl _
      | exact kw48 (e := 0) (n := 0) hi hl ⟨hr _ _ _ _ _ _, h.dl, h.hm, h.hw⟩ rfl ⟨rfl, rfl, rfl, rfl, rfl, rfl, rfl, rfl, rfl, trivial⟩ (fun y hr => Rep.pick (π := [0, 1, 2, 3, 4, 5, 6, 7, 8, 9]) (by decide) rfl hr)
      | apply And.intro
      | (refine ⟨rfl, ?_⟩)
      | (show _ ≤ _; omega)
      | (show _ < _; omega)
      | (refine fun _ => ?_)
      | fail
theorem kw31 (hi : i < bs.length) (hl : bs.length ≤ 100) (h : KI pt gr r ds m w i) (hn : x.name.size ≤ 100) (hnr : inR x.n) (h1 : lenN st.tmps = 321) (h2 : liveOk st.tmps [(2, .vec 0 ao bs.length cap), (7, .ptr 2 bk 0), (8, .ptr 3 br 0), (9, .int .i64 (i : Int)), (10, .ptr 1 b0 0), (11, .int .i64 0), (12, .int .i64 0), (13, .int .i64 0), (14, .int .i64 0)]) (hh : ∀ y, Rep W F st.heap y → Rep W F [⟨.sl ao cap, .roL 6 encStepK bs StepK.zero⟩, ⟨.blk b0, .cells (encStepK x) 54⟩, ⟨.blk bk, .cells [.ptr 4 bp 0, .ptr 5 bg 0, .ptr 6 bq 0, .raw vt, .int .i64 m, .int .i64 w] 96⟩, ⟨.blk br, .cells [.ptr 7 b8 0, .ptr 8 b9 0, .ptr 9 bd 0, .raw vr, .int .i64 m, .int .i64 w] 60⟩, pkA bp ptE pt, pkA bg grpE gr, pkA bq poE ⟨vm, aoP, capP, ds, lst⟩, pkA b8 rtE ⟨pt, ao8, cap8⟩, pkA b9 rgE r, pkA bd sdE ⟨vmS, nx, aoS, capS, ds⟩] y) : G Tryz.prog (endQ Tryz.prog Tryz.f4 W F fun _ r => r = .bool true) W F (frmR [(kwJ W F ao cap bs bk br bp bg bq b8 b9 bd vt vr vm vmS lst nx i)] (bodyOf Tryz.f4) 31) st := by
  refine G_live 321 [(2, .vec 0 ao bs.length cap), (7, .ptr 2 bk 0), (8, .ptr 3 br 0), (9, .int .i64 (i : Int)), (10, .ptr 1 b0 0), (11, .int .i64 0), (12, .int .i64 0), (13, .int .i64 0), (14, .int .i64 0)] [⟨.sl ao cap, .roL 6 encStepK bs StepK.zero⟩, ⟨.blk b0, .cells (encStepK x) 54⟩, ⟨.blk bk, .cells [.ptr 4 bp 0, .ptr 5 bg 0, .ptr 6 bq 0, .raw vt, .int .i64 m, .int .i64 w] 96⟩, ⟨.blk br, .cells [.ptr 7 b8 0, .ptr 8 b9 0, .ptr 9 bd 0, .raw vr, .int .i64 m, .int .i64 w] 60⟩, pkA bp ptE pt, pkA bg grpE gr, pkA bq poE ⟨vm, aoP, capP, ds, lst⟩, pkA b8 rtE ⟨pt, ao8, cap8⟩, pkA b9 rgE r, pkA bd sdE ⟨vmS, nx, aoS, capS, ds⟩] h1 h2 hh fun u => ?_
  refine G_run (kc := true) (ss := [48, 200004]) kpT_ok hmKw 2500 ?_
  rw [kp_31]
  have ho := h.kh.pi.ok
  have hgs := h.kh.gsok (by omega)
  have hrok := h.kh.gl.rok (by omega)
  have hgo := fun z => h.kh.gl.gok (by omega) z
  have hgk := h.kh.gl.gk
  have hat := fun z => h.kh.gl.ratok z
  have hnl : r.notes.length ≤ 10000 := by have := h.kh.gl.lens; omega
  have hdl : ds.length ≤ 100 := by have := h.dl; omega
  have hrl : (rMem r.L x.name).length ≤ 100000 := rmem_le (by omega) h.kh x.name
  have e81 : ((81 : Int) == 0) = false := rfl
  have e80 : ((80 : Int) == 0) = false := rfl
  have e00 : ((0 : Int) == 0) = true := rfl
  cases hk : (pGet pt x.a).kill with
  | false =>
    repeat' first
      | exact rfl
      | exact trivial
      | exact HEq.rfl
      | exact ho
      | exact hgs
      | exact hrok
      | exact hgo _
      | exact hgk
      | exact hat _
      | exact hnl
      | exact hrl
      | exact hdl
      | exact h.hm
      | exact h.hw
      | exact hnr
      | exact Nat.le_refl _
      | exact kw48 (e := 80) (n := 0) hi hl ⟨h.kh.up (Nat.le_succ i), h.dl, h.hm, h.hw⟩ rfl ⟨rfl, rfl, rfl, rfl, rfl, rfl, rfl, rfl, rfl, trivial⟩ (fun y hr => Rep.pick (π := [0, 1, 2, 3, 4, 5, 6, 7, 8, 9]) (by decide) rfl hr)
      | apply And.intro
      | (refine ⟨rfl, ?_⟩)
      | (show _ ≤ _; omega)
      | (show _ < _; omega)
      | (refine fun _ => ?_)
      | fail
  | true =>
  rcases h.kh.exitO x.a (-9) with e | ⟨pt', e, hr⟩
  · rw [e]
    dsimp only
    rw [e80]
    dsimp only
    repeat' first
      | exact rfl
      | exact trivial
      | exact HEq.rfl
      | exact ho
      | exact hgs
      | exact hrok
      | exact hgo _
      | exact hgk
      | exact hat _
      | exact hnl
      | exact hrl
      | exact hdl
      | exact h.hm
      | exact h.hw
      | exact hnr
      | exact Nat.le_refl _
      | exact kw48 (e := 80) (n := 0) hi hl ⟨h.kh.up (Nat.le_succ i), h.dl, h.hm, h.hw⟩ rfl ⟨rfl, rfl, rfl, rfl, rfl, rfl, rfl, rfl, rfl, trivial⟩ (fun y hr => Rep.pick (π := [0, 1, 2, 3, 4, 5, 6, 7, 8, 9]) (by decide) rfl hr)
      | apply And.intro
      | (refine ⟨rfl, ?_⟩)
      | (show _ ≤ _; omega)
      | (show _ < _; omega)
      | (refine fun _ => ?_)
      | fail
  · rw [e]
    dsimp only
    rw [e00]
    dsimp only
    repeat' first
      | exact rfl
      | exact trivial
      | exact HEq.rfl
      | exact ho
      | exact hgs
      | exact hrok
      | exact hgo _
      | exact hgk
      | exact hat _
      | exact hnl
      | exact hrl
      | exact hdl
      | exact h.hm
      | exact h.hw
      | exact hnr
      | exact Nat.le_refl _
      | exact kw48 (e := 0) (n := 0) hi hl ⟨hr _ _ _ _ _ _, h.dl, h.hm, h.hw⟩ rfl ⟨rfl, rfl, rfl, rfl, rfl, rfl, rfl, rfl, rfl, trivial⟩ (fun y hr => Rep.pick (π := [0, 1, 2, 3, 4, 5, 6, 7, 8, 9]) (by decide) rfl hr)
      | apply And.intro
      | (refine ⟨rfl, ?_⟩)
      | (show _ ≤ _; omega)
      | (show _ < _; omega)
      | (refine fun _ => ?_)
      | fail
theorem kw33 (hi : i < bs.length) (hl : bs.length ≤ 100) (h : KI pt gr r ds m w i) (hn : x.name.size ≤ 100) (hnr : inR x.n) (h1 : lenN st.tmps = 321) (h2 : liveOk st.tmps [(2, .vec 0 ao bs.length cap), (7, .ptr 2 bk 0), (8, .ptr 3 br 0), (9, .int .i64 (i : Int)), (10, .ptr 1 b0 0), (11, .int .i64 0), (12, .int .i64 0), (13, .int .i64 0), (14, .int .i64 0)]) (hh : ∀ y, Rep W F st.heap y → Rep W F [⟨.sl ao cap, .roL 6 encStepK bs StepK.zero⟩, ⟨.blk b0, .cells (encStepK x) 54⟩, ⟨.blk bk, .cells [.ptr 4 bp 0, .ptr 5 bg 0, .ptr 6 bq 0, .raw vt, .int .i64 m, .int .i64 w] 96⟩, ⟨.blk br, .cells [.ptr 7 b8 0, .ptr 8 b9 0, .ptr 9 bd 0, .raw vr, .int .i64 m, .int .i64 w] 60⟩, pkA bp ptE pt, pkA bg grpE gr, pkA bq poE ⟨vm, aoP, capP, ds, lst⟩, pkA b8 rtE ⟨pt, ao8, cap8⟩, pkA b9 rgE r, pkA bd sdE ⟨vmS, nx, aoS, capS, ds⟩] y) : G Tryz.prog (endQ Tryz.prog Tryz.f4 W F fun _ r => r = .bool true) W F (frmR [(kwJ W F ao cap bs bk br bp bg bq b8 b9 bd vt vr vm vmS lst nx i)] (bodyOf Tryz.f4) 33) st := by
  refine G_live 321 [(2, .vec 0 ao bs.length cap), (7, .ptr 2 bk 0), (8, .ptr 3 br 0), (9, .int .i64 (i : Int)), (10, .ptr 1 b0 0), (11, .int .i64 0), (12, .int .i64 0), (13, .int .i64 0), (14, .int .i64 0)] [⟨.sl ao cap, .roL 6 encStepK bs StepK.zero⟩, ⟨.blk b0, .cells (encStepK x) 54⟩, ⟨.blk bk, .cells [.ptr 4 bp 0, .ptr 5 bg 0, .ptr 6 bq 0, .raw vt, .int .i64 m, .int .i64 w] 96⟩, ⟨.blk br, .cells [.ptr 7 b8 0, .ptr 8 b9 0, .ptr 9 bd 0, .raw vr, .int .i64 m, .int .i64 w] 60⟩, pkA bp ptE pt, pkA bg grpE gr, pkA bq poE ⟨vm, aoP, capP, ds, lst⟩, pkA b8 rtE ⟨pt, ao8, cap8⟩, pkA b9 rgE r, pkA bd sdE ⟨vmS, nx, aoS, capS, ds⟩] h1 h2 hh fun u => ?_
  refine G_run (kc := true) (ss := [48, 200004]) kpT_ok hmKw 2500 ?_
  rw [kp_33]
  have ho := h.kh.pi.ok
  have hgs := h.kh.gsok (by omega)
  have hrok := h.kh.gl.rok (by omega)
  have hgo := fun z => h.kh.gl.gok (by omega) z
  have hgk := h.kh.gl.gk
  have hat := fun z => h.kh.gl.ratok z
  have hnl : r.notes.length ≤ 10000 := by have := h.kh.gl.lens; omega
  have hdl : ds.length ≤ 100 := by have := h.dl; omega
  have hrl : (rMem r.L x.name).length ≤ 100000 := rmem_le (by omega) h.kh x.name
  have e81 : ((81 : Int) == 0) = false := rfl
  have e80 : ((80 : Int) == 0) = false := rfl
  have e00 : ((0 : Int) == 0) = true := rfl
  repeat' first
    | exact rfl
    | exact trivial
    | exact HEq.rfl
    | exact ho
    | exact hgs
    | exact hrok
    | exact hgo _
    | exact hgk
    | exact hat _
    | exact hnl
    | exact hrl
    | exact hdl
    | exact h.hm
    | exact h.hw
    | exact hnr
    | exact Nat.le_refl _
    | exact kw48 (e := _) (n := _) hi hl ⟨(h.kh.kill x.a x.b).up (Nat.le_succ i), h.dl, h.hm, h.hw⟩ rfl ⟨rfl, rfl, rfl, rfl, rfl, rfl, rfl, rfl, rfl, trivial⟩ (fun y hr => Rep.pick (π := [0, 1, 2, 3, 4, 5, 6, 7, 8, 9]) (by decide) rfl hr)
    | apply And.intro
    | (refine ⟨rfl, ?_⟩)
    | (show _ ≤ _; omega)
    | (show _ < _; omega)
    | (refine fun _ => ?_)
    | fail
theorem kw35 (hi : i < bs.length) (hl : bs.length ≤ 100) (h : KI pt gr r ds m w i) (hn : x.name.size ≤ 100) (hnr : inR x.n) (h1 : lenN st.tmps = 321) (h2 : liveOk st.tmps [(2, .vec 0 ao bs.length cap), (7, .ptr 2 bk 0), (8, .ptr 3 br 0), (9, .int .i64 (i : Int)), (10, .ptr 1 b0 0), (11, .int .i64 0), (12, .int .i64 0), (13, .int .i64 0), (14, .int .i64 0)]) (hh : ∀ y, Rep W F st.heap y → Rep W F [⟨.sl ao cap, .roL 6 encStepK bs StepK.zero⟩, ⟨.blk b0, .cells (encStepK x) 54⟩, ⟨.blk bk, .cells [.ptr 4 bp 0, .ptr 5 bg 0, .ptr 6 bq 0, .raw vt, .int .i64 m, .int .i64 w] 96⟩, ⟨.blk br, .cells [.ptr 7 b8 0, .ptr 8 b9 0, .ptr 9 bd 0, .raw vr, .int .i64 m, .int .i64 w] 60⟩, pkA bp ptE pt, pkA bg grpE gr, pkA bq poE ⟨vm, aoP, capP, ds, lst⟩, pkA b8 rtE ⟨pt, ao8, cap8⟩, pkA b9 rgE r, pkA bd sdE ⟨vmS, nx, aoS, capS, ds⟩] y) : G Tryz.prog (endQ Tryz.prog Tryz.f4 W F fun _ r => r = .bool true) W F (frmR [(kwJ W F ao cap bs bk br bp bg bq b8 b9 bd vt vr vm vmS lst nx i)] (bodyOf Tryz.f4) 35) st := by
  refine G_live 321 [(2, .vec 0 ao bs.length cap), (7, .ptr 2 bk 0), (8, .ptr 3 br 0), (9, .int .i64 (i : Int)), (10, .ptr 1 b0 0), (11, .int .i64 0), (12, .int .i64 0), (13, .int .i64 0), (14, .int .i64 0)] [⟨.sl ao cap, .roL 6 encStepK bs StepK.zero⟩, ⟨.blk b0, .cells (encStepK x) 54⟩, ⟨.blk bk, .cells [.ptr 4 bp 0, .ptr 5 bg 0, .ptr 6 bq 0, .raw vt, .int .i64 m, .int .i64 w] 96⟩, ⟨.blk br, .cells [.ptr 7 b8 0, .ptr 8 b9 0, .ptr 9 bd 0, .raw vr, .int .i64 m, .int .i64 w] 60⟩, pkA bp ptE pt, pkA bg grpE gr, pkA bq poE ⟨vm, aoP, capP, ds, lst⟩, pkA b8 rtE ⟨pt, ao8, cap8⟩, pkA b9 rgE r, pkA bd sdE ⟨vmS, nx, aoS, capS, ds⟩] h1 h2 hh fun u => ?_
  refine G_run (kc := true) (ss := [48, 200004]) kpT_ok hmKw 2500 ?_
  rw [kp_35]
  have ho := h.kh.pi.ok
  have hgs := h.kh.gsok (by omega)
  have hrok := h.kh.gl.rok (by omega)
  have hgo := fun z => h.kh.gl.gok (by omega) z
  have hgk := h.kh.gl.gk
  have hat := fun z => h.kh.gl.ratok z
  have hnl : r.notes.length ≤ 10000 := by have := h.kh.gl.lens; omega
  have hdl : ds.length ≤ 100 := by have := h.dl; omega
  have hrl : (rMem r.L x.name).length ≤ 100000 := rmem_le (by omega) h.kh x.name
  have e81 : ((81 : Int) == 0) = false := rfl
  have e80 : ((80 : Int) == 0) = false := rfl
  have e00 : ((0 : Int) == 0) = true := rfl
  have hmq : memQ gr x.name = rMem r.L x.name := (memQ_eq _ _).trans (h.kh.gl.mem _)
  rw [hmq]
  repeat' first
    | exact rfl
    | exact trivial
    | exact HEq.rfl
    | exact ho
    | exact hgs
    | exact hrok
    | exact hgo _
    | exact hgk
    | exact hat _
    | exact hnl
    | exact hrl
    | exact hdl
    | exact h.hm
    | exact h.hw
    | exact hnr
    | exact Nat.le_refl _
    | exact kw48 (e := _) (n := _) hi hl ⟨(KH.killAll x.b (rMem r.L x.name) 0 h.kh).up (Nat.le_succ i), h.dl, h.hm, h.hw⟩ rfl ⟨rfl, rfl, rfl, rfl, rfl, rfl, rfl, rfl, rfl, trivial⟩ (fun y hr => Rep.pick (π := [0, 1, 2, 3, 4, 5, 6, 7, 8, 9]) (by decide) rfl hr)
    | apply And.intro
    | (refine ⟨rfl, ?_⟩)
    | (show _ ≤ _; omega)
    | (show _ < _; omega)
    | (refine fun _ => ?_)
    | fail
theorem kw37 (hi : i < bs.length) (hl : bs.length ≤ 100) (h : KI pt gr r ds m w i) (hn : x.name.size ≤ 100) (hnr : inR x.n) (h1 : lenN st.tmps = 321) (h2 : liveOk st.tmps [(2, .vec 0 ao bs.length cap), (7, .ptr 2 bk 0), (8, .ptr 3 br 0), (9, .int .i64 (i : Int)), (10, .ptr 1 b0 0), (11, .int .i64 0), (12, .int .i64 0), (13, .int .i64 0), (14, .int .i64 0)]) (hh : ∀ y, Rep W F st.heap y → Rep W F [⟨.sl ao cap, .roL 6 encStepK bs StepK.zero⟩, ⟨.blk b0, .cells (encStepK x) 54⟩, ⟨.blk bk, .cells [.ptr 4 bp 0, .ptr 5 bg 0, .ptr 6 bq 0, .raw vt, .int .i64 m, .int .i64 w] 96⟩, ⟨.blk br, .cells [.ptr 7 b8 0, .ptr 8 b9 0, .ptr 9 bd 0, .raw vr, .int .i64 m, .int .i64 w] 60⟩, pkA bp ptE pt, pkA bg grpE gr, pkA bq poE ⟨vm, aoP, capP, ds, lst⟩, pkA b8 rtE ⟨pt, ao8, cap8⟩, pkA b9 rgE r, pkA bd sdE ⟨vmS, nx, aoS, capS, ds⟩] y) : G Tryz.prog (endQ Tryz.prog Tryz.f4 W F fun _ r => r = .bool true) W F (frmR [(kwJ W F ao cap bs bk br bp bg bq b8 b9 bd vt vr vm vmS lst nx i)] (bodyOf Tryz.f4) 37) st := by
  refine G_live 321 [(2, .vec 0 ao bs.length cap), (7, .ptr 2 bk 0), (8, .ptr 3 br 0), (9, .int .i64 (i : Int)), (10, .ptr 1 b0 0), (11, .int .i64 0), (12, .int .i64 0), (13, .int .i64 0), (14, .int .i64 0)] [⟨.sl ao cap, .roL 6 encStepK bs StepK.zero⟩, ⟨.blk b0, .cells (encStepK x) 54⟩, ⟨.blk bk, .cells [.ptr 4 bp 0, .ptr 5 bg 0, .ptr 6 bq 0, .raw vt, .int .i64 m, .int .i64 w] 96⟩, ⟨.blk br, .cells [.ptr 7 b8 0, .ptr 8 b9 0, .ptr 9 bd 0, .raw vr, .int .i64 m, .int .i64 w] 60⟩, pkA bp ptE pt, pkA bg grpE gr, pkA bq poE ⟨vm, aoP, capP, ds, lst⟩, pkA b8 rtE ⟨pt, ao8, cap8⟩, pkA b9 rgE r, pkA bd sdE ⟨vmS, nx, aoS, capS, ds⟩] h1 h2 hh fun u => ?_
  refine G_run (kc := true) (ss := [48, 200004]) kpT_ok hmKw 2500 ?_
  rw [kp_37]
  have ho := h.kh.pi.ok
  have hgs := h.kh.gsok (by omega)
  have hrok := h.kh.gl.rok (by omega)
  have hgo := fun z => h.kh.gl.gok (by omega) z
  have hgk := h.kh.gl.gk
  have hat := fun z => h.kh.gl.ratok z
  have hnl : r.notes.length ≤ 10000 := by have := h.kh.gl.lens; omega
  have hdl : ds.length ≤ 100 := by have := h.dl; omega
  have hrl : (rMem r.L x.name).length ≤ 100000 := rmem_le (by omega) h.kh x.name
  have e81 : ((81 : Int) == 0) = false := rfl
  have e80 : ((80 : Int) == 0) = false := rfl
  have e00 : ((0 : Int) == 0) = true := rfl
  simp only [beq_self_eq_true, sEq_self, Bool.and_self, Bool.not_true, bne_self_eq_false]
  repeat' first
    | exact rfl
    | exact trivial
    | exact HEq.rfl
    | exact ho
    | exact hgs
    | exact hrok
    | exact hgo _
    | exact hgk
    | exact hat _
    | exact hnl
    | exact hrl
    | exact hdl
    | exact h.hm
    | exact h.hw
    | exact hnr
    | exact Nat.le_refl _
    | exact kw48 (e := _) (n := _) hi hl ⟨(h.kh.reap 1).up (Nat.le_succ i), h.dl, h.hm, h.hw⟩ rfl ⟨rfl, rfl, rfl, rfl, rfl, rfl, rfl, rfl, rfl, trivial⟩ (fun y hr => Rep.pick (π := [0, 1, 2, 3, 4, 5, 6, 7, 8, 9]) (by decide) rfl hr)
    | apply And.intro
    | (refine ⟨rfl, ?_⟩)
    | (refine ⟨trivial, ?_⟩)
    | (show _ ≤ _; omega)
    | (show _ < _; omega)
    | (refine fun _ => ?_)
    | fail
theorem kw43 (hi : i < bs.length) (hl : bs.length ≤ 100) (h : KI pt gr r ds m w i) (hn : x.name.size ≤ 100) (hnr : inR x.n) (h1 : lenN st.tmps = 321) (h2 : liveOk st.tmps [(2, .vec 0 ao bs.length cap), (7, .ptr 2 bk 0), (8, .ptr 3 br 0), (9, .int .i64 (i : Int)), (10, .ptr 1 b0 0), (11, .int .i64 0), (12, .int .i64 0), (13, .int .i64 0), (14, .int .i64 0)]) (hh : ∀ y, Rep W F st.heap y → Rep W F [⟨.sl ao cap, .roL 6 encStepK bs StepK.zero⟩, ⟨.blk b0, .cells (encStepK x) 54⟩, ⟨.blk bk, .cells [.ptr 4 bp 0, .ptr 5 bg 0, .ptr 6 bq 0, .raw vt, .int .i64 m, .int .i64 w] 96⟩, ⟨.blk br, .cells [.ptr 7 b8 0, .ptr 8 b9 0, .ptr 9 bd 0, .raw vr, .int .i64 m, .int .i64 w] 60⟩, pkA bp ptE pt, pkA bg grpE gr, pkA bq poE ⟨vm, aoP, capP, ds, lst⟩, pkA b8 rtE ⟨pt, ao8, cap8⟩, pkA b9 rgE r, pkA bd sdE ⟨vmS, nx, aoS, capS, ds⟩] y) : G Tryz.prog (endQ Tryz.prog Tryz.f4 W F fun _ r => r = .bool true) W F (frmR [(kwJ W F ao cap bs bk br bp bg bq b8 b9 bd vt vr vm vmS lst nx i)] (bodyOf Tryz.f4) 43) st := by
  refine G_live 321 [(2, .vec 0 ao bs.length cap), (7, .ptr 2 bk 0), (8, .ptr 3 br 0), (9, .int .i64 (i : Int)), (10, .ptr 1 b0 0), (11, .int .i64 0), (12, .int .i64 0), (13, .int .i64 0), (14, .int .i64 0)] [⟨.sl ao cap, .roL 6 encStepK bs StepK.zero⟩, ⟨.blk b0, .cells (encStepK x) 54⟩, ⟨.blk bk, .cells [.ptr 4 bp 0, .ptr 5 bg 0, .ptr 6 bq 0, .raw vt, .int .i64 m, .int .i64 w] 96⟩, ⟨.blk br, .cells [.ptr 7 b8 0, .ptr 8 b9 0, .ptr 9 bd 0, .raw vr, .int .i64 m, .int .i64 w] 60⟩, pkA bp ptE pt, pkA bg grpE gr, pkA bq poE ⟨vm, aoP, capP, ds, lst⟩, pkA b8 rtE ⟨pt, ao8, cap8⟩, pkA b9 rgE r, pkA bd sdE ⟨vmS, nx, aoS, capS, ds⟩] h1 h2 hh fun u => ?_
  refine G_run (kc := true) (ss := [48, 200004]) kpT_ok hmKw 2500 ?_
  rw [kp_43]
  have ho := h.kh.pi.ok
  have hgs := h.kh.gsok (by omega)
  have hrok := h.kh.gl.rok (by omega)
  have hgo := fun z => h.kh.gl.gok (by omega) z
  have hgk := h.kh.gl.gk
  have hat := fun z => h.kh.gl.ratok z
  have hnl : r.notes.length ≤ 10000 := by have := h.kh.gl.lens; omega
  have hdl : ds.length ≤ 100 := by have := h.dl; omega
  have hrl : (rMem r.L x.name).length ≤ 100000 := rmem_le (by omega) h.kh x.name
  have e81 : ((81 : Int) == 0) = false := rfl
  have e80 : ((80 : Int) == 0) = false := rfl
  have e00 : ((0 : Int) == 0) = true := rfl
  cases hx : x.a == 1 with
  | true =>
    repeat' first
      | exact rfl
      | exact trivial
      | exact HEq.rfl
      | exact ho
      | exact hgs
      | exact hrok
      | exact hgo _
      | exact hgk
      | exact hat _
      | exact hnl
      | exact hrl
      | exact hdl
      | exact h.hm
      | exact h.hw
      | exact hnr
      | exact Nat.le_refl _
      | exact kw48 (e := 80) (n := 0) hi hl ⟨h.kh.up (Nat.le_succ i), h.dl, h.hm, h.hw⟩ rfl ⟨rfl, rfl, rfl, rfl, rfl, rfl, rfl, rfl, rfl, trivial⟩ (fun y hr => Rep.pick (π := [0, 1, 2, 3, 4, 5, 6, 7, 8, 9]) (by decide) rfl hr)
      | apply And.intro
      | (refine ⟨rfl, ?_⟩)
      | (show _ ≤ _; omega)
      | (show _ < _; omega)
      | (refine fun _ => ?_)
      | fail
  | false =>
    repeat' first
      | exact rfl
      | exact trivial
      | exact HEq.rfl
      | exact ho
      | exact hgs
      | exact hrok
      | exact hgo _
      | exact hgk
      | exact hat _
      | exact hnl
      | exact hrl
      | exact hdl
      | exact h.hm
      | exact h.hw
      | exact hnr
      | exact Nat.le_refl _
      | exact kw48 (e := _) (n := _) hi hl ⟨(h.kh.reap x.a).up (Nat.le_succ i), h.dl, h.hm, h.hw⟩ rfl ⟨rfl, rfl, rfl, rfl, rfl, rfl, rfl, rfl, rfl, trivial⟩ (fun y hr => Rep.pick (π := [0, 1, 2, 3, 4, 5, 6, 7, 8, 9]) (by decide) rfl hr)
      | apply And.intro
      | (refine ⟨rfl, ?_⟩)
      | (show _ ≤ _; omega)
      | (show _ < _; omega)
      | (refine fun _ => ?_)
      | fail
theorem kw45 (hi : i < bs.length) (hl : bs.length ≤ 100) (h : KI pt gr r ds m w i) (hn : x.name.size ≤ 100) (hnr : inR x.n) (h1 : lenN st.tmps = 321) (h2 : liveOk st.tmps [(2, .vec 0 ao bs.length cap), (7, .ptr 2 bk 0), (8, .ptr 3 br 0), (9, .int .i64 (i : Int)), (10, .ptr 1 b0 0), (11, .int .i64 0), (12, .int .i64 0), (13, .int .i64 0), (14, .int .i64 0)]) (hh : ∀ y, Rep W F st.heap y → Rep W F [⟨.sl ao cap, .roL 6 encStepK bs StepK.zero⟩, ⟨.blk b0, .cells (encStepK x) 54⟩, ⟨.blk bk, .cells [.ptr 4 bp 0, .ptr 5 bg 0, .ptr 6 bq 0, .raw vt, .int .i64 m, .int .i64 w] 96⟩, ⟨.blk br, .cells [.ptr 7 b8 0, .ptr 8 b9 0, .ptr 9 bd 0, .raw vr, .int .i64 m, .int .i64 w] 60⟩, pkA bp ptE pt, pkA bg grpE gr, pkA bq poE ⟨vm, aoP, capP, ds, lst⟩, pkA b8 rtE ⟨pt, ao8, cap8⟩, pkA b9 rgE r, pkA bd sdE ⟨vmS, nx, aoS, capS, ds⟩] y) : G Tryz.prog (endQ Tryz.prog Tryz.f4 W F fun _ r => r = .bool true) W F (frmR [(kwJ W F ao cap bs bk br bp bg bq b8 b9 bd vt vr vm vmS lst nx i)] (bodyOf Tryz.f4) 45) st := by
  refine G_live 321 [(2, .vec 0 ao bs.length cap), (7, .ptr 2 bk 0), (8, .ptr 3 br 0), (9, .int .i64 (i : Int)), (10, .ptr 1 b0 0), (11, .int .i64 0), (12, .int .i64 0), (13, .int .i64 0), (14, .int .i64 0)] [⟨.sl ao cap, .roL 6 encStepK bs StepK.zero⟩, ⟨.blk b0, .cells (encStepK x) 54⟩, ⟨.blk bk, .cells [.ptr 4 bp 0, .ptr 5 bg 0, .ptr 6 bq 0, .raw vt, .int .i64 m, .int .i64 w] 96⟩, ⟨.blk br, .cells [.ptr 7 b8 0, .ptr 8 b9 0, .ptr 9 bd 0, .raw vr, .int .i64 m, .int .i64 w] 60⟩, pkA bp ptE pt, pkA bg grpE gr, pkA bq poE ⟨vm, aoP, capP, ds, lst⟩, pkA b8 rtE ⟨pt, ao8, cap8⟩, pkA b9 rgE r, pkA bd sdE ⟨vmS, nx, aoS, capS, ds⟩] h1 h2 hh fun u => ?_
  refine G_run (kc := true) (ss := [48, 200004]) kpT_ok hmKw 2500 ?_
  rw [kp_45]
  have ho := h.kh.pi.ok
  have hgs := h.kh.gsok (by omega)
  have hrok := h.kh.gl.rok (by omega)
  have hgo := fun z => h.kh.gl.gok (by omega) z
  have hgk := h.kh.gl.gk
  have hat := fun z => h.kh.gl.ratok z
  have hnl : r.notes.length ≤ 10000 := by have := h.kh.gl.lens; omega
  have hdl : ds.length ≤ 100 := by have := h.dl; omega
  have hrl : (rMem r.L x.name).length ≤ 100000 := rmem_le (by omega) h.kh x.name
  have e81 : ((81 : Int) == 0) = false := rfl
  have e80 : ((80 : Int) == 0) = false := rfl
  have e00 : ((0 : Int) == 0) = true := rfl
  cases hx1 : pHas pt x.a with
  | false =>
    repeat' first
      | exact rfl
      | exact trivial
      | exact HEq.rfl
      | exact ho
      | exact hgs
      | exact hrok
      | exact hgo _
      | exact hgk
      | exact hat _
      | exact hnl
      | exact hrl
      | exact hdl
      | exact h.hm
      | exact h.hw
      | exact hnr
      | exact Nat.le_refl _
      | exact kw48 (e := 80) (n := 0) hi hl ⟨h.kh.up (Nat.le_succ i), h.dl, h.hm, h.hw⟩ rfl ⟨rfl, rfl, rfl, rfl, rfl, rfl, rfl, rfl, rfl, trivial⟩ (fun y hr => Rep.pick (π := [0, 1, 2, 3, 4, 5, 6, 7, 8, 9]) (by decide) rfl hr)
      | apply And.intro
      | (refine ⟨rfl, ?_⟩)
      | (show _ ≤ _; omega)
      | (show _ < _; omega)
      | (refine fun _ => ?_)
      | fail
  | true =>
  cases hx2 : x.a == 1 with
  | true =>
    repeat' first
      | exact rfl
      | exact trivial
      | exact HEq.rfl
      | exact ho
      | exact hgs
      | exact hrok
      | exact hgo _
      | exact hgk
      | exact hat _
      | exact hnl
      | exact hrl
      | exact hdl
      | exact h.hm
      | exact h.hw
      | exact hnr
      | exact Nat.le_refl _
      | exact kw48 (e := 80) (n := 0) hi hl ⟨h.kh.up (Nat.le_succ i), h.dl, h.hm, h.hw⟩ rfl ⟨rfl, rfl, rfl, rfl, rfl, rfl, rfl, rfl, rfl, trivial⟩ (fun y hr => Rep.pick (π := [0, 1, 2, 3, 4, 5, 6, 7, 8, 9]) (by decide) rfl hr)
      | apply And.intro
      | (refine ⟨rfl, ?_⟩)
      | (show _ ≤ _; omega)
      | (show _ < _; omega)
      | (refine fun _ => ?_)
      | fail
  | false =>
  cases hx3 : (pGet pt x.a).zombie with
  | true =>
    repeat' first
      | exact rfl
      | exact trivial
      | exact HEq.rfl
      | exact ho
      | exact hgs
      | exact hrok
      | exact hgo _
      | exact hgk
      | exact hat _
      | exact hnl
      | exact hrl
      | exact hdl
      | exact h.hm
      | exact h.hw
      | exact hnr
      | exact Nat.le_refl _
      | exact kw48 (e := 80) (n := 0) hi hl ⟨h.kh.up (Nat.le_succ i), h.dl, h.hm, h.hw⟩ rfl ⟨rfl, rfl, rfl, rfl, rfl, rfl, rfl, rfl, rfl, trivial⟩ (fun y hr => Rep.pick (π := [0, 1, 2, 3, 4, 5, 6, 7, 8, 9]) (by decide) rfl hr)
      | apply And.intro
      | (refine ⟨rfl, ?_⟩)
      | (show _ ≤ _; omega)
      | (show _ < _; omega)
      | (refine fun _ => ?_)
      | fail
  | false =>
    repeat' first
      | exact rfl
      | exact trivial
      | exact HEq.rfl
      | exact ho
      | exact hgs
      | exact hrok
      | exact hgo _
      | exact hgk
      | exact hat _
      | exact hnl
      | exact hrl
      | exact hdl
      | exact h.hm
      | exact h.hw
      | exact hnr
      | exact Nat.le_refl _
      | exact kw48 (e := _) (n := _) hi hl ⟨h.kh.up (Nat.le_succ i), dgAdd_len h.dl _ _, h.hm, h.hw⟩ rfl ⟨rfl, rfl, rfl, rfl, rfl, rfl, rfl, rfl, rfl, trivial⟩ (fun y hr => Rep.pick (π := [0, 1, 2, 3, 4, 5, 6, 7, 8, 9]) (by decide) rfl hr)
      | apply And.intro
      | (refine ⟨rfl, ?_⟩)
      | (show _ ≤ _; omega)
      | (show _ < _; omega)
      | (refine fun _ => ?_)
      | fail
theorem kw47 (hi : i < bs.length) (hl : bs.length ≤ 100) (h : KI pt gr r ds m w i) (hn : x.name.size ≤ 100) (hnr : inR x.n) (h1 : lenN st.tmps = 321) (h2 : liveOk st.tmps [(2, .vec 0 ao bs.length cap), (7, .ptr 2 bk 0), (8, .ptr 3 br 0), (9, .int .i64 (i : Int)), (10, .ptr 1 b0 0), (11, .int .i64 0), (12, .int .i64 0), (13, .int .i64 0), (14, .int .i64 0)]) (hh : ∀ y, Rep W F st.heap y → Rep W F [⟨.sl ao cap, .roL 6 encStepK bs StepK.zero⟩, ⟨.blk b0, .cells (encStepK x) 54⟩, ⟨.blk bk, .cells [.ptr 4 bp 0, .ptr 5 bg 0, .ptr 6 bq 0, .raw vt, .int .i64 m, .int .i64 w] 96⟩, ⟨.blk br, .cells [.ptr 7 b8 0, .ptr 8 b9 0, .ptr 9 bd 0, .raw vr, .int .i64 m, .int .i64 w] 60⟩, pkA bp ptE pt, pkA bg grpE gr, pkA bq poE ⟨vm, aoP, capP, ds, lst⟩, pkA b8 rtE ⟨pt, ao8, cap8⟩, pkA b9 rgE r, pkA bd sdE ⟨vmS, nx, aoS, capS, ds⟩] y) : G Tryz.prog (endQ Tryz.prog Tryz.f4 W F fun _ r => r = .bool true) W F (frmR [(kwJ W F ao cap bs bk br bp bg bq b8 b9 bd vt vr vm vmS lst nx i)] (bodyOf Tryz.f4) 47) st := by
  refine G_live 321 [(2, .vec 0 ao bs.length cap), (7, .ptr 2 bk 0), (8, .ptr 3 br 0), (9, .int .i64 (i : Int)), (10, .ptr 1 b0 0), (11, .int .i64 0), (12, .int .i64 0), (13, .int .i64 0), (14, .int .i64 0)] [⟨.sl ao cap, .roL 6 encStepK bs StepK.zero⟩, ⟨.blk b0, .cells (encStepK x) 54⟩, ⟨.blk bk, .cells [.ptr 4 bp 0, .ptr 5 bg 0, .ptr 6 bq 0, .raw vt, .int .i64 m, .int .i64 w] 96⟩, ⟨.blk br, .cells [.ptr 7 b8 0, .ptr 8 b9 0, .ptr 9 bd 0, .raw vr, .int .i64 m, .int .i64 w] 60⟩, pkA bp ptE pt, pkA bg grpE gr, pkA bq poE ⟨vm, aoP, capP, ds, lst⟩, pkA b8 rtE ⟨pt, ao8, cap8⟩, pkA b9 rgE r, pkA bd sdE ⟨vmS, nx, aoS, capS, ds⟩] h1 h2 hh fun u => ?_
  refine G_run (kc := true) (ss := [48, 200002]) kpT_ok hmKw 2500 ?_
  rw [kp_47]
  have ho := h.kh.pi.ok
  have hgs := h.kh.gsok (by omega)
  have hrok := h.kh.gl.rok (by omega)
  have hgo := fun z => h.kh.gl.gok (by omega) z
  have hgk := h.kh.gl.gk
  have hat := fun z => h.kh.gl.ratok z
  have hnl : r.notes.length ≤ 10000 := by have := h.kh.gl.lens; omega
  have hdl : ds.length ≤ 100 := by have := h.dl; omega
  have hrl : (rMem r.L x.name).length ≤ 100000 := rmem_le (by omega) h.kh x.name
  have e81 : ((81 : Int) == 0) = false := rfl
  have e80 : ((80 : Int) == 0) = false := rfl
  have e00 : ((0 : Int) == 0) = true := rfl
  cases hx : decide (x.n < 0) with
  | true =>
    repeat' first
      | exact rfl
      | exact trivial
      | exact HEq.rfl
      | exact ho
      | exact hgs
      | exact hrok
      | exact hgo _
      | exact hgk
      | exact hat _
      | exact hnl
      | exact hrl
      | exact hdl
      | exact h.hm
      | exact h.hw
      | exact hnr
      | exact Nat.le_refl _
      | exact kw48 (e := 10) (n := 0) hi hl ⟨h.kh.up (Nat.le_succ i), h.dl, h.hm, h.hw⟩ rfl ⟨rfl, rfl, rfl, rfl, rfl, rfl, rfl, rfl, rfl, trivial⟩ (fun y hr => Rep.pick (π := [0, 1, 2, 3, 4, 5, 6, 7, 8, 9]) (by decide) rfl hr)
      | apply And.intro
      | (refine ⟨rfl, ?_⟩)
      | (show _ ≤ _; omega)
      | (show _ < _; omega)
      | (refine fun _ => ?_)
      | fail
  | false =>
    repeat' first
      | exact rfl
      | exact trivial
      | exact HEq.rfl
      | exact ho
      | exact hgs
      | exact hrok
      | exact hgo _
      | exact hgk
      | exact hat _
      | exact hnl
      | exact hrl
      | exact hdl
      | exact h.hm
      | exact h.hw
      | exact hnr
      | exact Nat.le_refl _
      | exact kw48 (e := 0) (n := 0) hi hl ⟨h.kh.up (Nat.le_succ i), h.dl, addS_in h.hm hnr, addS_in h.hw hnr⟩ rfl ⟨rfl, rfl, rfl, rfl, rfl, rfl, rfl, rfl, rfl, trivial⟩ (fun y hr => Rep.pick (π := [0, 1, 2, 3, 4, 5, 6, 7, 8, 9]) (by decide) rfl hr)
      | apply And.intro
      | (refine ⟨rfl, ?_⟩)
      | (show _ ≤ _; omega)
      | (show _ < _; omega)
      | (refine fun _ => ?_)
      | fail
theorem kw15 (hi : i < bs.length) (hl : bs.length ≤ 100) (h : KI pt gr r ds m w i) (hn : x.name.size ≤ 100) (hnr : inR x.n) (h1 : lenN st.tmps = 321) (h2 : liveOk st.tmps [(2, .vec 0 ao bs.length cap), (7, .ptr 2 bk 0), (8, .ptr 3 br 0), (9, .int .i64 (i : Int)), (10, .ptr 1 b0 0), (11, .int .i64 0), (12, .int .i64 0), (13, .int .i64 0), (14, .int .i64 0)]) (hh : ∀ y, Rep W F st.heap y → Rep W F [⟨.sl ao cap, .roL 6 encStepK bs StepK.zero⟩, ⟨.blk b0, .cells (encStepK x) 54⟩, ⟨.blk bk, .cells [.ptr 4 bp 0, .ptr 5 bg 0, .ptr 6 bq 0, .raw vt, .int .i64 m, .int .i64 w] 96⟩, ⟨.blk br, .cells [.ptr 7 b8 0, .ptr 8 b9 0, .ptr 9 bd 0, .raw vr, .int .i64 m, .int .i64 w] 60⟩, pkA bp ptE pt, pkA bg grpE gr, pkA bq poE ⟨vm, aoP, capP, ds, lst⟩, pkA b8 rtE ⟨pt, ao8, cap8⟩, pkA b9 rgE r, pkA bd sdE ⟨vmS, nx, aoS, capS, ds⟩] y) : G Tryz.prog (endQ Tryz.prog Tryz.f4 W F fun _ r => r = .bool true) W F (frmR [(kwJ W F ao cap bs bk br bp bg bq b8 b9 bd vt vr vm vmS lst nx i)] (bodyOf Tryz.f4) 15) st := by
  refine G_live 321 [(2, .vec 0 ao bs.length cap), (7, .ptr 2 bk 0), (8, .ptr 3 br 0), (9, .int .i64 (i : Int)), (10, .ptr 1 b0 0), (11, .int .i64 0), (12, .int .i64 0), (13, .int .i64 0), (14, .int .i64 0)] [⟨.sl ao cap, .roL 6 encStepK bs StepK.zero⟩, ⟨.blk b0, .cells (encStepK x) 54⟩, ⟨.blk bk, .cells [.ptr 4 bp 0, .ptr 5 bg 0, .ptr 6 bq 0, .raw vt, .int .i64 m, .int .i64 w] 96⟩, ⟨.blk br, .cells [.ptr 7 b8 0, .ptr 8 b9 0, .ptr 9 bd 0, .raw vr, .int .i64 m, .int .i64 w] 60⟩, pkA bp ptE pt, pkA bg grpE gr, pkA bq poE ⟨vm, aoP, capP, ds, lst⟩, pkA b8 rtE ⟨pt, ao8, cap8⟩, pkA b9 rgE r, pkA bd sdE ⟨vmS, nx, aoS, capS, ds⟩] h1 h2 hh fun u => ?_
  refine G_run (kc := true) (ss := [48, 200002]) kpT_ok hmKw 2500 ?_
  rw [kp_15]
  have ho := h.kh.pi.ok
  have hgs := h.kh.gsok (by omega)
  have hrok := h.kh.gl.rok (by omega)
  have hgo := fun z => h.kh.gl.gok (by omega) z
  have hgk := h.kh.gl.gk
  have hat := fun z => h.kh.gl.ratok z
  have hnl : r.notes.length ≤ 10000 := by have := h.kh.gl.lens; omega
  have hdl : ds.length ≤ 100 := by have := h.dl; omega
  have hrl : (rMem r.L x.name).length ≤ 100000 := rmem_le (by omega) h.kh x.name
  have e81 : ((81 : Int) == 0) = false := rfl
  have e80 : ((80 : Int) == 0) = false := rfl
  have e00 : ((0 : Int) == 0) = true := rfl
  repeat' first
    | exact rfl
    | exact trivial
    | exact HEq.rfl
    | exact ho
    | exact hgs
    | exact hrok
    | exact hgo _
    | exact hgk
    | exact hat _
    | exact hnl
    | exact hrl
    | exact hdl
    | exact h.hm
    | exact h.hw
    | exact hnr
    | exact Nat.le_refl _
    | exact kw48 (e := 0) (n := 0) hi hl ⟨h.kh.up (Nat.le_succ i), h.dl, h.hm, hnr⟩ rfl ⟨rfl, rfl, rfl, rfl, rfl, rfl, rfl, rfl, rfl, trivial⟩ (fun y hr => Rep.pick (π := [0, 1, 2, 3, 4, 5, 6, 7, 8, 9]) (by decide) rfl hr)
    | apply And.intro
    | (refine ⟨rfl, ?_⟩)
    | (show _ ≤ _; omega)
    | (show _ < _; omega)
    | (refine fun _ => ?_)
    | fail
end
end Go.Proofs.YtkcmgcoppecfpaaGreat

namespace Go.Proofs.YtkcmgcoppecfpaaGreat
open Go Go.RowKit

theorem kp_start (K : List Frm → Sy → Prop) (N : List Ent → SV → Prop) (ao : Option Addr) (cap : Nat) (bs : List StepK) (room wall : Int) : (run Tryz.prog kpT false [] K (retP Tryz.prog Tryz.f4.results.toList N) 1500 [.code (bodyOf Tryz.f4)] ⟨padTo 321 [.int .i64 room, .int .i64 wall, .vec 0 ao bs.length cap], [⟨.sl ao cap, .roL 6 encStepK bs StepK.zero⟩]⟩) = ( true = true ∧ match decide ((↑(List.length bs) : Int) > (100 : Int)) with
 | true => N [Ent.mk (Loc.sl ao cap) (SObj.roL 6 encStepK bs StepK.zero)] (.bool true)
 | false => true = true ∧ true = true ∧ ∀ (b bm bp : Nat), true = true ∧ ∀ (b_1 bg bo : Nat), true = true ∧ ∀ (b_2 : Nat) (vm : Value), true = true ∧ ∀ (v : Option Addr), (true = true ∧ true = true) ∧ true = true ∧ ∀ (b_3 : Nat), true = true ∧ true = true ∧ ∃ (bm_1 : Nat), ∃ (bp_1 : Nat), ∀ (b_4 : Nat) (ao_1 : Option Addr) (cap_1 : Nat), (true = true ∧ true = true) ∧ true = true ∧ ∀ (b_5 : Nat), (true = true ∧ true = true) ∧ true = true ∧ ∀ (b_6 : Nat), true = true ∧ ∀ (v_1 : Option Addr), (true = true ∧ true = true) ∧ true = true ∧ ∀ (b_7 : Nat), K (frm [] (bodyOf Tryz.f4) [1, 1, 1, 1, 0, 1, 0] []) (Sy.mk (.int .i64 room :: (.int .i64 wall :: (.vec 0 ao (List.length bs) cap :: (rawE (.bool false :: (.ptr 4 b_3 0 :: (.ptr 8 b_7 0 :: (.int .i64 0 :: (rawE (.bool true :: (.bool false :: (.vec 0 ao (List.length bs) cap :: (.int .i64 (↑(List.length bs) : Int) :: (.bool false :: (.int .i64 room :: (.int .i64 wall :: (.ptr 4 b_3 0 :: (.int .i64 room :: (.int .i64 wall :: (.ptr 8 b_7 0 :: (rawE [] 286)))))))))))) 14))))) 3)))) [Ent.mk (Loc.sl ao cap) (SObj.roL 6 encStepK bs StepK.zero), pkA b ptE (pNew room bm bp), pkA b_1 grpE (Grp.mk bg bo (@none Addr) 0 [] [] []), pkA b_2 poE (PO.mk vm (@none Addr) 0 [] (0 : Int)), Ent.mk (Loc.blk b_3) (SObj.cells [.ptr 1 b 0, .ptr 2 b_1 0, .ptr 3 b_2 0, .raw (Value.pointer v), .int .i64 0, .int .i64 wall] 96), pkA b_4 rtE (RT.mk (pNew room bm_1 bp_1) ao_1 cap_1), Ent.mk (Loc.blk b_5) (SObj.cells [.raw (Value.slice (@none Addr) 0 0), .raw (Value.slice (@none Addr) 0 0)] 126), Ent.mk (Loc.blk b_6) (SObj.cells [.raw (Value.slice (@none Addr) 0 0), .int .i64 0, .raw (Value.slice (@none Addr) 0 0)] 86), Ent.mk (Loc.blk b_7) (SObj.cells [.ptr 5 b_4 0, .ptr 6 b_5 0, .ptr 7 b_6 0, .raw (Value.pointer v_1), .int .i64 0, .int .i64 wall] 60)])) := by kernel_rfl @[reducible] def kp_l1_z0 (ao : Option Addr) (cap : Nat) (bs : List StepK) : Ent := Ent.mk (Loc.sl ao cap) (SObj.roL 6 encStepK bs StepK.zero) @[reducible] def kp_l1_z1 (bk : Nat) (bp : Nat) (bg : Nat) (bq : Nat) (vt : Value) (m : Int) (w : Int) : Ent := Ent.mk (Loc.blk bk) (SObj.cells [.ptr 3 bp 0, .ptr 4 bg 0, .ptr 5 bq 0, .raw vt, .int .i64 m, .int .i64 w] 96) @[reducible] def kp_l1_z2 (br : Nat) (b8 : Nat) (b9 : Nat) (bd : Nat) (vr : Value) (m : Int) (w : Int) : Ent := Ent.mk (Loc.blk br) (SObj.cells [.ptr 6 b8 0, .ptr 7 b9 0, .ptr 8 bd 0, .raw vr, .int .i64 m, .int .i64 w] 60) @[reducible] def kp_l1_z3 (bq : Nat) (vm : Value) (ds : List DG) (aoP : Option Addr) (capP : Nat) (lst : Int) : Ent := pkA bq poE (PO.mk vm aoP capP ds lst) @[reducible] def kp_l1_z4 (bd : Nat) (vmS : Value) (ds : List DG) (aoS : Option Addr) (capS : Nat) (nx : Int) : Ent := pkA bd sdE (SD.mk vmS nx aoS capS ds) @[reducible] def kp_l1_z5 (b8 : Nat) (pt : PT) (ao8 : Option Addr) (cap8 : Nat) : Ent := pkA b8 rtE (RT.mk pt ao8 cap8)
theorem kp_l1 (K : List Frm → Sy → Prop) (N : List Ent → SV → Prop) (J : Act → World → Prop) (ao : Option Addr) (cap : Nat) (bs : List StepK) (bk br bp bg bq b8 b9 bd : Nat) (vt vr vm vmS : Value) (pt : PT) (gr : Grp) (r : RG) (ds : List DG) (aoP ao8 aoS : Option Addr) (capP cap8 capS : Nat) (lst nx m w : Int) (i : Nat) (u : Nat → Value) : (run Tryz.prog kpT false [14, 52] K (retP Tryz.prog Tryz.f4.results.toList N) 900 (frm [J] (bodyOf Tryz.f4) [1, 1, 1, 1, 0, 1, 0, 0] []) ⟨mkT u 321 0 [(2, .vec 0 ao bs.length cap), (7, .ptr 1 bk 0), (8, .ptr 2 br 0), (9, .int .i64 (i : Int))], [⟨.sl ao cap, .roL 6 encStepK bs StepK.zero⟩, ⟨.blk bk, .cells [.ptr 3 bp 0, .ptr 4 bg 0, .ptr 5 bq 0, .raw vt, .int .i64 m, .int .i64 w] 96⟩, ⟨.blk br, .cells [.ptr 6 b8 0, .ptr 7 b9 0, .ptr 8 bd 0, .raw vr, .int .i64 m, .int .i64 w] 60⟩, pkA bp ptE pt, pkA bg grpE gr, pkA bq poE ⟨vm, aoP, capP, ds, lst⟩, pkA b8 rtE ⟨pt, ao8, cap8⟩, pkA b9 rgE r, pkA bd sdE ⟨vmS, nx, aoS, capS, ds⟩]⟩) = ( match decide ((↑i : Int) < (↑(List.length bs) : Int)) with
 | true => (ao = ao ∧ cap = cap ∧ List.length bs = List.length bs ∧ (0 : Int) ≤ (↑i : Int) ∧ (↑i : Int) < (↑(List.length bs) : Int)) ∧ (Addr.blkD ao = Addr.blkD ao ∧ Addr.offD ao = Addr.offD ao ∧ 6 = 6 ∧ Int.toNat (↑i : Int) < List.length bs ∧ 6 = 6) ∧ ∀ (b : Nat), (b = b ∧ true = true ∧ 6 = 6 ∧ 6 ≤ 6) ∧ b = b ∧ match decide ((↑(ByteArray.size (List.getD bs (Int.toNat (↑i : Int)) StepK.zero).4) : Int) > (100 : Int)) with
  | true => N [kp_l1_z0 ao cap bs, kp_l1_z1 bk bp bg bq vt m w, kp_l1_z2 br b8 b9 bd vr m w, pkA bp ptE pt, pkA bg grpE gr, kp_l1_z3 bq vm ds aoP capP lst, kp_l1_z5 b8 pt ao8 cap8, pkA b9 rgE r, kp_l1_z4 bd vmS ds aoS capS nx, Ent.mk (Loc.blk b) (SObj.cells [.int .i64 (List.getD bs (Int.toNat (↑i : Int)) StepK.zero).1, .int .i64 (List.getD bs (Int.toNat (↑i : Int)) StepK.zero).2, .int .i64 (List.getD bs (Int.toNat (↑i : Int)) StepK.zero).3, .str (List.getD bs (Int.toNat (↑i : Int)) StepK.zero).4, .str (List.getD bs (Int.toNat (↑i : Int)) StepK.zero).5, .int .i64 (List.getD bs (Int.toNat (↑i : Int)) StepK.zero).6] 54)] (.bool true)
  | false => b = b ∧ match decide ((↑(ByteArray.size (List.getD bs (Int.toNat (↑i : Int)) StepK.zero).5) : Int) > (300 : Int)) with
   | true => N [kp_l1_z0 ao cap bs, kp_l1_z1 bk bp bg bq vt m w, kp_l1_z2 br b8 b9 bd vr m w, pkA bp ptE pt, pkA bg grpE gr, kp_l1_z3 bq vm ds aoP capP lst, kp_l1_z5 b8 pt ao8 cap8, pkA b9 rgE r, kp_l1_z4 bd vmS ds aoS capS nx, Ent.mk (Loc.blk b) (SObj.cells [.int .i64 (List.getD bs (Int.toNat (↑i : Int)) StepK.zero).1, .int .i64 (List.getD bs (Int.toNat (↑i : Int)) StepK.zero).2, .int .i64 (List.getD bs (Int.toNat (↑i : Int)) StepK.zero).3, .str (List.getD bs (Int.toNat (↑i : Int)) StepK.zero).4, .str (List.getD bs (Int.toNat (↑i : Int)) StepK.zero).5, .int .i64 (List.getD bs (Int.toNat (↑i : Int)) StepK.zero).6] 54)] (.bool true)
   | false => K (frmR [J] (bodyOf Tryz.f4) 14) (Sy.mk (.raw (u 0) :: (.raw (u 1) :: (.vec 0 ao (List.length bs) cap :: (rawR u 3 (.ptr 1 bk 0 :: (.ptr 2 br 0 :: (.int .i64 (↑i : Int) :: (.ptr 9 b 0 :: (.int .i64 0 :: (.int .i64 0 :: (.int .i64 0 :: (.int .i64 0 :: (rawR u 15 (.int .i64 (↑i : Int) :: (.vec 0 ao (List.length bs) cap :: (.int .i64 (↑(List.length bs) : Int) :: (.bool true :: (.raw (u 39) :: (.raw (u 40) :: (.vec 0 ao (List.length bs) cap :: (.int .i64 (↑i : Int) :: (.eptr 0 (Addr.blkD ao) (Addr.offD ao) 6 (Int.toNat (↑i : Int)) 0 :: (.agg [.int .i64 (List.getD bs (Int.toNat (↑i : Int)) StepK.zero).1, .int .i64 (List.getD bs (Int.toNat (↑i : Int)) StepK.zero).2, .int .i64 (List.getD bs (Int.toNat (↑i : Int)) StepK.zero).3, .str (List.getD bs (Int.toNat (↑i : Int)) StepK.zero).4, .str (List.getD bs (Int.toNat (↑i : Int)) StepK.zero).5, .int .i64 (List.getD bs (Int.toNat (↑i : Int)) StepK.zero).6] :: (.ptr 9 b 3 :: (.str (List.getD bs (Int.toNat (↑i : Int)) StepK.zero).4 :: (.int .i64 (↑(ByteArray.size (List.getD bs (Int.toNat (↑i : Int)) StepK.zero).4) : Int) :: (.bool (decide ((↑(ByteArray.size (List.getD bs (Int.toNat (↑i : Int)) StepK.zero).4) : Int) > (100 : Int))) :: (.bool false :: (.ptr 9 b 4 :: (.str (List.getD bs (Int.toNat (↑i : Int)) StepK.zero).5 :: (.int .i64 (↑(ByteArray.size (List.getD bs (Int.toNat (↑i : Int)) StepK.zero).5) : Int) :: (.bool (decide ((↑(ByteArray.size (List.getD bs (Int.toNat (↑i : Int)) StepK.zero).5) : Int) > (300 : Int))) :: (.bool false :: (rawR u 55 [] 266))))))))))))))))))))) 20))))))))) 4)))) [kp_l1_z0 ao cap bs, kp_l1_z1 bk bp bg bq vt m w, kp_l1_z2 br b8 b9 bd vr m w, pkA bp ptE pt, pkA bg grpE gr, kp_l1_z3 bq vm ds aoP capP lst, kp_l1_z5 b8 pt ao8 cap8, pkA b9 rgE r, kp_l1_z4 bd vmS ds aoS capS nx, Ent.mk (Loc.blk b) (SObj.cells [.int .i64 (List.getD bs (Int.toNat (↑i : Int)) StepK.zero).1, .int .i64 (List.getD bs (Int.toNat (↑i : Int)) StepK.zero).2, .int .i64 (List.getD bs (Int.toNat (↑i : Int)) StepK.zero).3, .str (List.getD bs (Int.toNat (↑i : Int)) StepK.zero).4, .str (List.getD bs (Int.toNat (↑i : Int)) StepK.zero).5, .int .i64 (List.getD bs (Int.toNat (↑i : Int)) StepK.zero).6] 54)])
 | false => K (frmR [] (bodyOf Tryz.f4) 52) (Sy.mk (.raw (u 0) :: (.raw (u 1) :: (.vec 0 ao (List.length bs) cap :: (rawR u 3 (.ptr 1 bk 0 :: (.ptr 2 br 0 :: (.int .i64 (↑i : Int) :: (rawR u 10 (.int .i64 (↑i : Int) :: (.vec 0 ao (List.length bs) cap :: (.int .i64 (↑(List.length bs) : Int) :: (.bool false :: (rawR u 39 [] 282))))) 25)))) 4)))) [kp_l1_z0 ao cap bs, kp_l1_z1 bk bp bg bq vt m w, kp_l1_z2 br b8 b9 bd vr m w, pkA bp ptE pt, pkA bg grpE gr, kp_l1_z3 bq vm ds aoP capP lst, kp_l1_z5 b8 pt ao8 cap8, pkA b9 rgE r, kp_l1_z4 bd vmS ds aoS capS nx])) := by kernel_rfl @[reducible] def kp_52_z0 (b8 : Nat) (pt : PT) (ao8 : Option Addr) (cap8 : Nat) : Ent := pkA b8 rtE (RT.mk pt ao8 cap8)
theorem kp_52 (K : List Frm → Sy → Prop) (N : List Ent → SV → Prop) (ao : Option Addr) (cap : Nat) (bs : List StepK) (bk br bp bg bq b8 b9 bd : Nat) (vt vr vm vmS : Value) (pt : PT) (gr : Grp) (r : RG) (ds : List DG) (aoP ao8 aoS : Option Addr) (capP cap8 capS : Nat) (lst nx m w : Int) (u : Nat → Value) : (run Tryz.prog kpT false [] K (retP Tryz.prog Tryz.f4.results.toList N) 1500 (frmR [] (bodyOf Tryz.f4) 52) ⟨mkT u 321 0 [(7, .ptr 1 bk 0), (8, .ptr 2 br 0)], [⟨.sl ao cap, .roL 6 encStepK bs StepK.zero⟩, ⟨.blk bk, .cells [.ptr 3 bp 0, .ptr 4 bg 0, .ptr 5 bq 0, .raw vt, .int .i64 m, .int .i64 w] 96⟩, ⟨.blk br, .cells [.ptr 6 b8 0, .ptr 7 b9 0, .ptr 8 bd 0, .raw vr, .int .i64 m, .int .i64 w] 60⟩, pkA bp ptE pt, pkA bg grpE gr, pkA bq poE ⟨vm, aoP, capP, ds, lst⟩, pkA b8 rtE ⟨pt, ao8, cap8⟩, pkA b9 rgE r, pkA bd sdE ⟨vmS, nx, aoS, capS, ds⟩]⟩) = ( true = true ∧ bk = bk ∧ true = true ∧ bg = bg ∧ ∃ (h : Grp = Grp), AdtIs (fun (s : Grp) (b : Nat) ↦ packs (grpE s b)) grpE ∧ ∀ (ao_1 : Option Addr) (cap_1 : Nat), br = br ∧ true = true ∧ b9 = b9 ∧ ∃ (h : RG = RG), AdtIs (fun (s : RG) (b : Nat) ↦ packs (rgE s b)) rgE ∧ rOk r ∧ ∀ (ao_2 : Option Addr) (cap_2 : Nat), match sEq (match (gEmptied gr ao_1 cap_1).2 with
 | some x => x
 | none => ByteArray.mk #[]) (match (rFirst r.3 r.6).2 with
 | some x => x
 | none => ByteArray.mk #[]) with
 | true => N [Ent.mk (Loc.sl ao cap) (SObj.roL 6 encStepK bs StepK.zero), Ent.mk (Loc.blk bk) (SObj.cells [.ptr 3 bp 0, .ptr 4 bg 0, .ptr 5 bq 0, .raw vt, .int .i64 m, .int .i64 w] 96), Ent.mk (Loc.blk br) (SObj.cells [.ptr 6 b8 0, .ptr 7 b9 0, .ptr 8 bd 0, .raw vr, .int .i64 m, .int .i64 w] 60), pkA bp ptE pt, pkA bg grpE (gEmptied gr ao_1 cap_1).1, pkA bq poE (PO.mk vm aoP capP ds lst), kp_52_z0 b8 pt ao8 cap8, pkA b9 rgE (RG.mk r.aoL r.2 r.3 ao_2 cap_2 (rFirst r.3 r.6).1), pkA bd sdE (SD.mk vmS nx aoS capS ds)] (.bool (Option.isSome (gEmptied gr ao_1 cap_1).2 == Option.isSome (rFirst r.3 r.6).2))
 | false => N [Ent.mk (Loc.sl ao cap) (SObj.roL 6 encStepK bs StepK.zero), Ent.mk (Loc.blk bk) (SObj.cells [.ptr 3 bp 0, .ptr 4 bg 0, .ptr 5 bq 0, .raw vt, .int .i64 m, .int .i64 w] 96), Ent.mk (Loc.blk br) (SObj.cells [.ptr 6 b8 0, .ptr 7 b9 0, .ptr 8 bd 0, .raw vr, .int .i64 m, .int .i64 w] 60), pkA bp ptE pt, pkA bg grpE (gEmptied gr ao_1 cap_1).1, pkA bq poE (PO.mk vm aoP capP ds lst), kp_52_z0 b8 pt ao8 cap8, pkA b9 rgE (RG.mk r.aoL r.2 r.3 ao_2 cap_2 (rFirst r.3 r.6).1), pkA bd sdE (SD.mk vmS nx aoS capS ds)] (.bool false)) := by kernel_rfl @[reducible] def kp_14_z0 (x : StepK) (b0 : Nat) : Ent := Ent.mk (Loc.blk b0) (SObj.cells [.int .i64 x.1, .int .i64 x.2, .int .i64 x.3, .str x.4, .str x.5, .int .i64 x.6] 54) @[reducible] def kp_14_z1 (ao : Option Addr) (cap : Nat) (bs : List StepK) : Ent := Ent.mk (Loc.sl ao cap) (SObj.roL 6 encStepK bs StepK.zero) @[reducible] def kp_14_z2 (bk : Nat) (bp : Nat) (bg : Nat) (bq : Nat) (vt : Value) (m : Int) (w : Int) : Ent := Ent.mk (Loc.blk bk) (SObj.cells [.ptr 4 bp 0, .ptr 5 bg 0, .ptr 6 bq 0, .raw vt, .int .i64 m, .int .i64 w] 96) @[reducible] def kp_14_z3 (br : Nat) (b8 : Nat) (b9 : Nat) (bd : Nat) (vr : Value) (m : Int) (w : Int) : Ent := Ent.mk (Loc.blk br) (SObj.cells [.ptr 7 b8 0, .ptr 8 b9 0, .ptr 9 bd 0, .raw vr, .int .i64 m, .int .i64 w] 60) @[reducible] def kp_14_z4 (bq : Nat) (vm : Value) (ds : List DG) (aoP : Option Addr) (capP : Nat) (lst : Int) : Ent := pkA bq poE (PO.mk vm aoP capP ds lst) @[reducible] def kp_14_z5 (bd : Nat) (vmS : Value) (ds : List DG) (aoS : Option Addr) (capS : Nat) (nx : Int) : Ent := pkA bd sdE (SD.mk vmS nx aoS capS ds) @[reducible] def kp_14_z6 (b8 : Nat) (pt : PT) (ao8 : Option Addr) (cap8 : Nat) : Ent := kp_52_z0 b8 pt ao8 cap8
@[reducible] def kp_14_h0 (ao : Option Addr) (cap : Nat) (bs : List StepK) (bk : Nat) (br : Nat) (bp : Nat) (bg : Nat) (bq : Nat) (b8 : Nat) (b9 : Nat) (bd : Nat) (vt : Value) (vr : Value) (vm : Value) (vmS : Value) (pt : PT) (gr : Grp) (r : RG) (ds : List DG) (aoP : Option Addr) (ao8 : Option Addr) (aoS : Option Addr) (capP : Nat) (cap8 : Nat) (capS : Nat) (lst : Int) (nx : Int) (m : Int) (w : Int) (x : StepK) (b0 : Nat) : List Ent := [kp_14_z1 ao cap bs, kp_14_z0 x b0, kp_14_z2 bk bp bg bq vt m w, kp_14_z3 br b8 b9 bd vr m w, pkA bp ptE pt, pkA bg grpE gr, kp_14_z4 bq vm ds aoP capP lst, kp_14_z6 b8 pt ao8 cap8, pkA b9 rgE r, kp_14_z5 bd vmS ds aoS capS nx]
theorem kp_14 (K : List Frm → Sy → Prop) (N : List Ent → SV → Prop) (J0 : Act → World → Prop) (ao : Option Addr) (cap : Nat) (bs : List StepK) (bk br bp bg bq b8 b9 bd : Nat) (vt vr vm vmS : Value) (pt : PT) (gr : Grp) (r : RG) (ds : List DG) (aoP ao8 aoS : Option Addr) (capP cap8 capS : Nat) (lst nx m w : Int) (i : Nat) (x : StepK) (b0 : Nat) (u : Nat → Value) : (run Tryz.prog kpT false [15, 18, 21, 25, 29, 31, 33, 35, 37, 43, 45, 47] K (retP Tryz.prog Tryz.f4.results.toList N) 900 (frmR [J0] (bodyOf Tryz.f4) 14) ⟨mkT u 321 0 [(2, .vec 0 ao bs.length cap), (7, .ptr 2 bk 0), (8, .ptr 3 br 0), (9, .int .i64 (i : Int)), (10, .ptr 1 b0 0), (11, .int .i64 0), (12, .int .i64 0), (13, .int .i64 0), (14, .int .i64 0)], [⟨.sl ao cap, .roL 6 encStepK bs StepK.zero⟩, ⟨.blk b0, .cells (encStepK x) 54⟩, ⟨.blk bk, .cells [.ptr 4 bp 0, .ptr 5 bg 0, .ptr 6 bq 0, .raw vt, .int .i64 m, .int .i64 w] 96⟩, ⟨.blk br, .cells [.ptr 7 b8 0, .ptr 8 b9 0, .ptr 9 bd 0, .raw vr, .int .i64 m, .int .i64 w] 60⟩, pkA bp ptE pt, pkA bg grpE gr, pkA bq poE ⟨vm, aoP, capP, ds, lst⟩, pkA b8 rtE ⟨pt, ao8, cap8⟩, pkA b9 rgE r, pkA bd sdE ⟨vmS, nx, aoS, capS, ds⟩]⟩) = ( b0 = b0 ∧ match x.1 == (0 : Int) with
 | true => K (frmR [J0] (bodyOf Tryz.f4) 18) (Sy.mk (.raw (u 0) :: (.raw (u 1) :: (.vec 0 ao (List.length bs) cap :: (rawR u 3 (.ptr 2 bk 0 :: (.ptr 3 br 0 :: (.int .i64 (↑i : Int) :: (.ptr 1 b0 0 :: (.int .i64 0 :: (.int .i64 0 :: (.int .i64 0 :: (.int .i64 0 :: (rawR u 15 (.ptr 1 b0 0 :: (.int .i64 x.1 :: (rawR u 57 (.bool true :: ((.bool (x.1 == (0 : Int))) :: (rawR u 68 [] 253))) 9))) 40))))))))) 4)))) (kp_14_h0 ao cap bs bk br bp bg bq b8 b9 bd vt vr vm vmS pt gr r ds aoP ao8 aoS capP cap8 capS lst nx m w x b0))
 | false => match x.1 == (1 : Int) with
  | true => K (frmR [J0] (bodyOf Tryz.f4) 21) (Sy.mk (.raw (u 0) :: (.raw (u 1) :: (.vec 0 ao (List.length bs) cap :: (rawR u 3 (.ptr 2 bk 0 :: (.ptr 3 br 0 :: (.int .i64 (↑i : Int) :: (.ptr 1 b0 0 :: (.int .i64 0 :: (.int .i64 0 :: (.int .i64 0 :: (.int .i64 0 :: (rawR u 15 (.ptr 1 b0 0 :: (.int .i64 x.1 :: (rawR u 57 (.bool false :: ((.bool (x.1 == (0 : Int))) :: (rawR u 68 (.bool true :: ((.bool (x.1 == (1 : Int))) :: (rawR u 82 [] 239))) 12))) 9))) 40))))))))) 4)))) (kp_14_h0 ao cap bs bk br bp bg bq b8 b9 bd vt vr vm vmS pt gr r ds aoP ao8 aoS capP cap8 capS lst nx m w x b0))
  | false => match x.1 == (2 : Int) with
   | true => K (frmR [J0] (bodyOf Tryz.f4) 21) (Sy.mk (.raw (u 0) :: (.raw (u 1) :: (.vec 0 ao (List.length bs) cap :: (rawR u 3 (.ptr 2 bk 0 :: (.ptr 3 br 0 :: (.int .i64 (↑i : Int) :: (.ptr 1 b0 0 :: (.int .i64 0 :: (.int .i64 0 :: (.int .i64 0 :: (.int .i64 0 :: (rawR u 15 (.ptr 1 b0 0 :: (.int .i64 x.1 :: (rawR u 57 (.bool false :: ((.bool (x.1 == (0 : Int))) :: (rawR u 68 (.bool true :: ((.bool (x.1 == (1 : Int))) :: ((.bool (x.1 == (2 : Int))) :: (rawR u 83 [] 238)))) 12))) 9))) 40))))))))) 4)))) (kp_14_h0 ao cap bs bk br bp bg bq b8 b9 bd vt vr vm vmS pt gr r ds aoP ao8 aoS capP cap8 capS lst nx m w x b0))
   | false => match x.1 == (3 : Int) with
    | true => K (frmR [J0] (bodyOf Tryz.f4) 25) (Sy.mk (.raw (u 0) :: (.raw (u 1) :: (.vec 0 ao (List.length bs) cap :: (rawR u 3 (.ptr 2 bk 0 :: (.ptr 3 br 0 :: (.int .i64 (↑i : Int) :: (.ptr 1 b0 0 :: (.int .i64 0 :: (.int .i64 0 :: (.int .i64 0 :: (.int .i64 0 :: (rawR u 15 (.ptr 1 b0 0 :: (.int .i64 x.1 :: (rawR u 57 (.bool false :: ((.bool (x.1 == (0 : Int))) :: (rawR u 68 (.bool false :: ((.bool (x.1 == (1 : Int))) :: ((.bool (x.1 == (2 : Int))) :: (rawR u 83 (.bool true :: ((.bool (x.1 == (3 : Int))) :: (rawR u 103 [] 218))) 18)))) 12))) 9))) 40))))))))) 4)))) (kp_14_h0 ao cap bs bk br bp bg bq b8 b9 bd vt vr vm vmS pt gr r ds aoP ao8 aoS capP cap8 capS lst nx m w x b0))
    | false => match x.1 == (4 : Int) with
     | true => K (frmR [J0] (bodyOf Tryz.f4) 25) (Sy.mk (.raw (u 0) :: (.raw (u 1) :: (.vec 0 ao (List.length bs) cap :: (rawR u 3 (.ptr 2 bk 0 :: (.ptr 3 br 0 :: (.int .i64 (↑i : Int) :: (.ptr 1 b0 0 :: (.int .i64 0 :: (.int .i64 0 :: (.int .i64 0 :: (.int .i64 0 :: (rawR u 15 (.ptr 1 b0 0 :: (.int .i64 x.1 :: (rawR u 57 (.bool false :: ((.bool (x.1 == (0 : Int))) :: (rawR u 68 (.bool false :: ((.bool (x.1 == (1 : Int))) :: ((.bool (x.1 == (2 : Int))) :: (rawR u 83 (.bool true :: ((.bool (x.1 == (3 : Int))) :: ((.bool (x.1 == (4 : Int))) :: (rawR u 104 [] 217)))) 18)))) 12))) 9))) 40))))))))) 4)))) (kp_14_h0 ao cap bs bk br bp bg bq b8 b9 bd vt vr vm vmS pt gr r ds aoP ao8 aoS capP cap8 capS lst nx m w x b0))
     | false => match x.1 == (5 : Int) with
      | true => K (frmR [J0] (bodyOf Tryz.f4) 29) (Sy.mk (.raw (u 0) :: (.raw (u 1) :: (.vec 0 ao (List.length bs) cap :: (rawR u 3 (.ptr 2 bk 0 :: (.ptr 3 br 0 :: (.int .i64 (↑i : Int) :: (.ptr 1 b0 0 :: (.int .i64 0 :: (.int .i64 0 :: (.int .i64 0 :: (.int .i64 0 :: (rawR u 15 (.ptr 1 b0 0 :: (.int .i64 x.1 :: (rawR u 57 (.bool false :: ((.bool (x.1 == (0 : Int))) :: (rawR u 68 (.bool false :: ((.bool (x.1 == (1 : Int))) :: ((.bool (x.1 == (2 : Int))) :: (rawR u 83 (.bool false :: ((.bool (x.1 == (3 : Int))) :: ((.bool (x.1 == (4 : Int))) :: (rawR u 104 (.bool true :: ((.bool (x.1 == (5 : Int))) :: (rawR u 120 [] 201))) 14)))) 18)))) 12))) 9))) 40))))))))) 4)))) (kp_14_h0 ao cap bs bk br bp bg bq b8 b9 bd vt vr vm vmS pt gr r ds aoP ao8 aoS capP cap8 capS lst nx m w x b0))
      | false => match x.1 == (6 : Int) with
       | true => K (frmR [J0] (bodyOf Tryz.f4) 29) (Sy.mk (.raw (u 0) :: (.raw (u 1) :: (.vec 0 ao (List.length bs) cap :: (rawR u 3 (.ptr 2 bk 0 :: (.ptr 3 br 0 :: (.int .i64 (↑i : Int) :: (.ptr 1 b0 0 :: (.int .i64 0 :: (.int .i64 0 :: (.int .i64 0 :: (.int .i64 0 :: (rawR u 15 (.ptr 1 b0 0 :: (.int .i64 x.1 :: (rawR u 57 (.bool false :: ((.bool (x.1 == (0 : Int))) :: (rawR u 68 (.bool false :: ((.bool (x.1 == (1 : Int))) :: ((.bool (x.1 == (2 : Int))) :: (rawR u 83 (.bool false :: ((.bool (x.1 == (3 : Int))) :: ((.bool (x.1 == (4 : Int))) :: (rawR u 104 (.bool true :: ((.bool (x.1 == (5 : Int))) :: ((.bool (x.1 == (6 : Int))) :: (rawR u 121 [] 200)))) 14)))) 18)))) 12))) 9))) 40))))))))) 4)))) (kp_14_h0 ao cap bs bk br bp bg bq b8 b9 bd vt vr vm vmS pt gr r ds aoP ao8 aoS capP cap8 capS lst nx m w x b0))
       | false => match x.1 == (7 : Int) with
        | true => K (frmR [J0] (bodyOf Tryz.f4) 31) (Sy.mk (.raw (u 0) :: (.raw (u 1) :: (.vec 0 ao (List.length bs) cap :: (rawR u 3 (.ptr 2 bk 0 :: (.ptr 3 br 0 :: (.int .i64 (↑i : Int) :: (.ptr 1 b0 0 :: (.int .i64 0 :: (.int .i64 0 :: (.int .i64 0 :: (.int .i64 0 :: (rawR u 15 (.ptr 1 b0 0 :: (.int .i64 x.1 :: (rawR u 57 (.bool false :: ((.bool (x.1 == (0 : Int))) :: (rawR u 68 (.bool false :: ((.bool (x.1 == (1 : Int))) :: ((.bool (x.1 == (2 : Int))) :: (rawR u 83 (.bool false :: ((.bool (x.1 == (3 : Int))) :: ((.bool (x.1 == (4 : Int))) :: (rawR u 104 (.bool false :: ((.bool (x.1 == (5 : Int))) :: ((.bool (x.1 == (6 : Int))) :: (rawR u 121 (.bool true :: ((.bool (x.1 == (7 : Int))) :: (rawR u 135 [] 186))) 12)))) 14)))) 18)))) 12))) 9))) 40))))))))) 4)))) (kp_14_h0 ao cap bs bk br bp bg bq b8 b9 bd vt vr vm vmS pt gr r ds aoP ao8 aoS capP cap8 capS lst nx m w x b0))
        | false => match x.1 == (8 : Int) with
         | true => K (frmR [J0] (bodyOf Tryz.f4) 33) (Sy.mk (.raw (u 0) :: (.raw (u 1) :: (.vec 0 ao (List.length bs) cap :: (rawR u 3 (.ptr 2 bk 0 :: (.ptr 3 br 0 :: (.int .i64 (↑i : Int) :: (.ptr 1 b0 0 :: (.int .i64 0 :: (.int .i64 0 :: (.int .i64 0 :: (.int .i64 0 :: (rawR u 15 (.ptr 1 b0 0 :: (.int .i64 x.1 :: (rawR u 57 (.bool false :: ((.bool (x.1 == (0 : Int))) :: (rawR u 68 (.bool false :: ((.bool (x.1 == (1 : Int))) :: ((.bool (x.1 == (2 : Int))) :: (rawR u 83 (.bool false :: ((.bool (x.1 == (3 : Int))) :: ((.bool (x.1 == (4 : Int))) :: (rawR u 104 (.bool false :: ((.bool (x.1 == (5 : Int))) :: ((.bool (x.1 == (6 : Int))) :: (rawR u 121 (.bool false :: ((.bool (x.1 == (7 : Int))) :: (rawR u 135 (.bool true :: ((.bool (x.1 == (8 : Int))) :: (rawR u 145 [] 176))) 8))) 12)))) 14)))) 18)))) 12))) 9))) 40))))))))) 4)))) (kp_14_h0 ao cap bs bk br bp bg bq b8 b9 bd vt vr vm vmS pt gr r ds aoP ao8 aoS capP cap8 capS lst nx m w x b0))
         | false => match x.1 == (9 : Int) with
          | true => K (frmR [J0] (bodyOf Tryz.f4) 35) (Sy.mk (.raw (u 0) :: (.raw (u 1) :: (.vec 0 ao (List.length bs) cap :: (rawR u 3 (.ptr 2 bk 0 :: (.ptr 3 br 0 :: (.int .i64 (↑i : Int) :: (.ptr 1 b0 0 :: (.int .i64 0 :: (.int .i64 0 :: (.int .i64 0 :: (.int .i64 0 :: (rawR u 15 (.ptr 1 b0 0 :: (.int .i64 x.1 :: (rawR u 57 (.bool false :: ((.bool (x.1 == (0 : Int))) :: (rawR u 68 (.bool false :: ((.bool (x.1 == (1 : Int))) :: ((.bool (x.1 == (2 : Int))) :: (rawR u 83 (.bool false :: ((.bool (x.1 == (3 : Int))) :: ((.bool (x.1 == (4 : Int))) :: (rawR u 104 (.bool false :: ((.bool (x.1 == (5 : Int))) :: ((.bool (x.1 == (6 : Int))) :: (rawR u 121 (.bool false :: ((.bool (x.1 == (7 : Int))) :: (rawR u 135 (.bool false :: ((.bool (x.1 == (8 : Int))) :: (rawR u 145 (.bool true :: ((.bool (x.1 == (9 : Int))) :: (rawR u 162 [] 159))) 15))) 8))) 12)))) 14)))) 18)))) 12))) 9))) 40))))))))) 4)))) (kp_14_h0 ao cap bs bk br bp bg bq b8 b9 bd vt vr vm vmS pt gr r ds aoP ao8 aoS capP cap8 capS lst nx m w x b0))
          | false => match x.1 == (10 : Int) with
           | true => K (frmR [J0] (bodyOf Tryz.f4) 37) (Sy.mk (.raw (u 0) :: (.raw (u 1) :: (.vec 0 ao (List.length bs) cap :: (rawR u 3 (.ptr 2 bk 0 :: (.ptr 3 br 0 :: (.int .i64 (↑i : Int) :: (.ptr 1 b0 0 :: (.int .i64 0 :: (.int .i64 0 :: (.int .i64 0 :: (.int .i64 0 :: (rawR u 15 (.ptr 1 b0 0 :: (.int .i64 x.1 :: (rawR u 57 (.bool false :: ((.bool (x.1 == (0 : Int))) :: (rawR u 68 (.bool false :: ((.bool (x.1 == (1 : Int))) :: ((.bool (x.1 == (2 : Int))) :: (rawR u 83 (.bool false :: ((.bool (x.1 == (3 : Int))) :: ((.bool (x.1 == (4 : Int))) :: (rawR u 104 (.bool false :: ((.bool (x.1 == (5 : Int))) :: ((.bool (x.1 == (6 : Int))) :: (rawR u 121 (.bool false :: ((.bool (x.1 == (7 : Int))) :: (rawR u 135 (.bool false :: ((.bool (x.1 == (8 : Int))) :: (rawR u 145 (.bool false :: ((.bool (x.1 == (9 : Int))) :: (rawR u 162 (.bool true :: ((.bool (x.1 == (10 : Int))) :: (rawR u 176 [] 145))) 12))) 15))) 8))) 12)))) 14)))) 18)))) 12))) 9))) 40))))))))) 4)))) (kp_14_h0 ao cap bs bk br bp bg bq b8 b9 bd vt vr vm vmS pt gr r ds aoP ao8 aoS capP cap8 capS lst nx m w x b0))
           | false => match x.1 == (11 : Int) with
            | true => K (frmR [J0] (bodyOf Tryz.f4) 43) (Sy.mk (.raw (u 0) :: (.raw (u 1) :: (.vec 0 ao (List.length bs) cap :: (rawR u 3 (.ptr 2 bk 0 :: (.ptr 3 br 0 :: (.int .i64 (↑i : Int) :: (.ptr 1 b0 0 :: (.int .i64 0 :: (.int .i64 0 :: (.int .i64 0 :: (.int .i64 0 :: (rawR u 15 (.ptr 1 b0 0 :: (.int .i64 x.1 :: (rawR u 57 (.bool false :: ((.bool (x.1 == (0 : Int))) :: (rawR u 68 (.bool false :: ((.bool (x.1 == (1 : Int))) :: ((.bool (x.1 == (2 : Int))) :: (rawR u 83 (.bool false :: ((.bool (x.1 == (3 : Int))) :: ((.bool (x.1 == (4 : Int))) :: (rawR u 104 (.bool false :: ((.bool (x.1 == (5 : Int))) :: ((.bool (x.1 == (6 : Int))) :: (rawR u 121 (.bool false :: ((.bool (x.1 == (7 : Int))) :: (rawR u 135 (.bool false :: ((.bool (x.1 == (8 : Int))) :: (rawR u 145 (.bool false :: ((.bool (x.1 == (9 : Int))) :: (rawR u 162 (.bool false :: ((.bool (x.1 == (10 : Int))) :: (rawR u 176 (.bool true :: ((.bool (x.1 == (11 : Int))) :: (rawR u 196 [] 125))) 18))) 12))) 15))) 8))) 12)))) 14)))) 18)))) 12))) 9))) 40))))))))) 4)))) (kp_14_h0 ao cap bs bk br bp bg bq b8 b9 bd vt vr vm vmS pt gr r ds aoP ao8 aoS capP cap8 capS lst nx m w x b0))
            | false => match x.1 == (12 : Int) with
             | true => K (frmR [J0] (bodyOf Tryz.f4) 45) (Sy.mk (.raw (u 0) :: (.raw (u 1) :: (.vec 0 ao (List.length bs) cap :: (rawR u 3 (.ptr 2 bk 0 :: (.ptr 3 br 0 :: (.int .i64 (↑i : Int) :: (.ptr 1 b0 0 :: (.int .i64 0 :: (.int .i64 0 :: (.int .i64 0 :: (.int .i64 0 :: (rawR u 15 (.ptr 1 b0 0 :: (.int .i64 x.1 :: (rawR u 57 (.bool false :: ((.bool (x.1 == (0 : Int))) :: (rawR u 68 (.bool false :: ((.bool (x.1 == (1 : Int))) :: ((.bool (x.1 == (2 : Int))) :: (rawR u 83 (.bool false :: ((.bool (x.1 == (3 : Int))) :: ((.bool (x.1 == (4 : Int))) :: (rawR u 104 (.bool false :: ((.bool (x.1 == (5 : Int))) :: ((.bool (x.1 == (6 : Int))) :: (rawR u 121 (.bool false :: ((.bool (x.1 == (7 : Int))) :: (rawR u 135 (.bool false :: ((.bool (x.1 == (8 : Int))) :: (rawR u 145 (.bool false :: ((.bool (x.1 == (9 : Int))) :: (rawR u 162 (.bool false :: ((.bool (x.1 == (10 : Int))) :: (rawR u 176 (.bool false :: ((.bool (x.1 == (11 : Int))) :: (rawR u 196 (.bool true :: ((.bool (x.1 == (12 : Int))) :: (rawR u 206 [] 115))) 8))) 18))) 12))) 15))) 8))) 12)))) 14)))) 18)))) 12))) 9))) 40))))))))) 4)))) (kp_14_h0 ao cap bs bk br bp bg bq b8 b9 bd vt vr vm vmS pt gr r ds aoP ao8 aoS capP cap8 capS lst nx m w x b0))
             | false => match x.1 == (13 : Int) with
              | true => K (frmR [J0] (bodyOf Tryz.f4) 47) (Sy.mk (.raw (u 0) :: (.raw (u 1) :: (.vec 0 ao (List.length bs) cap :: (rawR u 3 (.ptr 2 bk 0 :: (.ptr 3 br 0 :: (.int .i64 (↑i : Int) :: (.ptr 1 b0 0 :: (.int .i64 0 :: (.int .i64 0 :: (.int .i64 0 :: (.int .i64 0 :: (rawR u 15 (.ptr 1 b0 0 :: (.int .i64 x.1 :: (rawR u 57 (.bool false :: ((.bool (x.1 == (0 : Int))) :: (rawR u 68 (.bool false :: ((.bool (x.1 == (1 : Int))) :: ((.bool (x.1 == (2 : Int))) :: (rawR u 83 (.bool false :: ((.bool (x.1 == (3 : Int))) :: ((.bool (x.1 == (4 : Int))) :: (rawR u 104 (.bool false :: ((.bool (x.1 == (5 : Int))) :: ((.bool (x.1 == (6 : Int))) :: (rawR u 121 (.bool false :: ((.bool (x.1 == (7 : Int))) :: (rawR u 135 (.bool false :: ((.bool (x.1 == (8 : Int))) :: (rawR u 145 (.bool false :: ((.bool (x.1 == (9 : Int))) :: (rawR u 162 (.bool false :: ((.bool (x.1 == (10 : Int))) :: (rawR u 176 (.bool false :: ((.bool (x.1 == (11 : Int))) :: (rawR u 196 (.bool false :: ((.bool (x.1 == (12 : Int))) :: (rawR u 206 (.bool true :: ((.bool (x.1 == (13 : Int))) :: (rawR u 220 [] 101))) 12))) 8))) 18))) 12))) 15))) 8))) 12)))) 14)))) 18)))) 12))) 9))) 40))))))))) 4)))) (kp_14_h0 ao cap bs bk br bp bg bq b8 b9 bd vt vr vm vmS pt gr r ds aoP ao8 aoS capP cap8 capS lst nx m w x b0))
              | false => K (frmR [J0] (bodyOf Tryz.f4) 15) (Sy.mk (.raw (u 0) :: (.raw (u 1) :: (.vec 0 ao (List.length bs) cap :: (rawR u 3 (.ptr 2 bk 0 :: (.ptr 3 br 0 :: (.int .i64 (↑i : Int) :: (.ptr 1 b0 0 :: (.int .i64 0 :: (.int .i64 0 :: (.int .i64 0 :: (.int .i64 0 :: (rawR u 15 (.ptr 1 b0 0 :: (.int .i64 x.1 :: (rawR u 57 (.bool false :: ((.bool (x.1 == (0 : Int))) :: (rawR u 68 (.bool false :: ((.bool (x.1 == (1 : Int))) :: ((.bool (x.1 == (2 : Int))) :: (rawR u 83 (.bool false :: ((.bool (x.1 == (3 : Int))) :: ((.bool (x.1 == (4 : Int))) :: (rawR u 104 (.bool false :: ((.bool (x.1 == (5 : Int))) :: ((.bool (x.1 == (6 : Int))) :: (rawR u 121 (.bool false :: ((.bool (x.1 == (7 : Int))) :: (rawR u 135 (.bool false :: ((.bool (x.1 == (8 : Int))) :: (rawR u 145 (.bool false :: ((.bool (x.1 == (9 : Int))) :: (rawR u 162 (.bool false :: ((.bool (x.1 == (10 : Int))) :: (rawR u 176 (.bool false :: ((.bool (x.1 == (11 : Int))) :: (rawR u 196 (.bool false :: ((.bool (x.1 == (12 : Int))) :: (rawR u 206 (.bool false :: ((.bool (x.1 == (13 : Int))) :: (rawR u 220 [] 101))) 12))) 8))) 18))) 12))) 15))) 8))) 12)))) 14)))) 18)))) 12))) 9))) 40))))))))) 4)))) (kp_14_h0 ao cap bs bk br bp bg bq b8 b9 bd vt vr vm vmS pt gr r ds aoP ao8 aoS capP cap8 capS lst nx m w x b0))) := by kernel_rfl
end Go.Proofs.YtkcmgcoppecfpaaGreat

