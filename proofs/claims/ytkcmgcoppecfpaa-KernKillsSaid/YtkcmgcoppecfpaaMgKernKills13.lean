import Derived.Test.YtkcmgcoppecfpaaMgKernKills11
import Derived.Test.YtkcmgcoppecfpaaMgKernKills12
import Derived.Test.YtkcmgcoppecfpaaMgKernKills4
import Derived.ChangeSlices
import Derived.OpenShut
import Derived.Carry
import Derived.ProofKit
import Derived.Deep.Grids
import Derived.Deep.Strs
/- YtkcmgcoppecfpaaKq -/
/- KernKills. -/
namespace Go.Proofs.Ytkcmgcoppecfpaa
open Go Go.RowKit
set_option linter.unusedVariables false
set_option linter.unusedSimpArgs false
set_option linter.unnecessarySimpa false
set_option maxHeartbeats 0

set_option maxRecDepth 100000
theorem hmKq : Try.prog.follows .mixedOrders = true := by kernel_rfl
theorem tmod10 (a : Int) : IntKind.wrap .i64 (Int.tmod a 10) = Int.tmod a 10 ∧ Int.tmod a 10 < 10 := by
  have h1 : Int.tmod a 10 < 10 := Int.tmod_lt_of_pos a (by decide)
  have h2 : -10 < Int.tmod a 10 := by
    have h4 := Int.tmod_lt_of_pos (-a) (b := 10) (by decide)
    have h5 : Int.tmod (-a) 10 = -Int.tmod a 10 := Int.neg_tmod a 10
    omega
  exact ⟨IntWalk.i64_in _ (by omega), h1⟩
section
variable {W : World} {F : List Ch} {bk bp bg : Nat} {pt : PT} {gr : Grp} {v2 v3 : Value} {m w kids late : Int} {al : Option Addr} {cl : Nat} {l : List Int} {r : RG} {k n i : Nat} {Gs : List Int} {st : Sy}
theorem kq37 (hD : KD pt gr r k l l.length) (hl : 0 < l.length) (hk : k ≤ 900) (h1 : lenN st.tmps = 166) (h2 : liveOk st.tmps [(0, .int .u8 kids), (1, .int .u8 late), (5, .ptr 2 bk 0), (6, .int .i64 2), (8, .int .i64 3)]) (hh : ∀ x, Rep W F st.heap x → Rep W F [pkA bp ptE (pt), pkA bg grpE (gr), ⟨.blk bk, .cells [.ptr 0 bp 0, .ptr 1 bg 0, .raw v2, .raw v3, .int .i64 m, .int .i64 w] 175⟩, ⟨.sl al cl, .vecL 3 1 encI1 l 0⟩] x) : G Try.prog (endQ Try.prog Try.f8 W F fun _ r => r = .bool true) W F (frmR [] (bodyOf Try.f8) 37) st := by
  refine G_live 166 [(0, .int .u8 kids), (1, .int .u8 late), (5, .ptr 2 bk 0), (6, .int .i64 2), (8, .int .i64 3)] [pkA bp ptE (pt), pkA bg grpE (gr), ⟨.blk bk, .cells [.ptr 0 bp 0, .ptr 1 bg 0, .raw v2, .raw v3, .int .i64 m, .int .i64 w] 175⟩, ⟨.sl al cl, .vecL 3 1 encI1 l 0⟩] h1 h2 hh fun u => ?_
  refine G_run (kc := false) (ss := []) klT_ok hmKq 3000 ?_
  rw [kq_37]
  have ho := hD.kh.pi.ok
  have hE := fun ao cap => hD.empty hl ao cap
  have hm1 : ∀ ao cap, memQ (gEmptied gr ao cap).1 ⟨#[103]⟩ = [] := fun ao cap => (memQ_eq _ _).trans (hE ao cap).2.2.1
  have hm2 : ∀ ao cap, memQ (gEmptied gr ao cap).1 ⟨#[104]⟩ = [3] := fun ao cap => (memQ_eq _ _).trans (hE ao cap).2.2.2.1
  have hg : ∀ ao cap n, memGOk (gEmptied gr ao cap).1 n := fun ao cap n => (hE ao cap).2.2.2.2.memok (by omega) n
  refine ⟨rfl, rfl, rfl, rfl, rfl, HEq.rfl, fun ao cap => ⟨rfl, rfl, rfl, rfl, rfl, HEq.rfl, ho, ?_⟩⟩
  have e1 := (hE ao cap).1
  have m1 := hm1 ao cap
  have m2 := hm2 ao cap
  unfold gEmptied at e1 m1 m2
  dsimp only at e1 m1 m2
  unfold gEmptied
  dsimp only
  rw [e1, m1, m2, hD.k3]
  have hg1 := hg ao cap ⟨#[103]⟩
  have hg2 := hg ao cap ⟨#[104]⟩
  unfold gEmptied at hg1 hg2
  have s1 : sEq nmG (⟨#[103]⟩ : ByteArray) = true := (sEqG _ _).2 rfl
  have z1 : ((([] : List Int).length : Int) == 0) = true := rfl
  have z2 : ((([3] : List Int).length : Int) == 1) = true := rfl
  dsimp only
  rw [s1, z1, z2]
  exact ⟨rfl, rfl, rfl, rfl, rfl, HEq.rfl, hg1, fun _ _ => ⟨rfl, rfl, rfl, rfl, rfl, HEq.rfl, hg2, fun _ _ => rfl⟩⟩
theorem kq35 (hi : i < l.length) (hl : l.length ≤ 60) (hD : KD pt gr r (i + 24) l i) (h1 : lenN st.tmps = 166) (h2 : liveOk st.tmps [(0, .int .u8 kids), (1, .int .u8 late), (5, .ptr 2 bk 0), (6, .int .i64 2), (8, .int .i64 3), (11, .vec 3 al l.length cl), (14, .int .i64 (i : Int))]) (hh : ∀ x, Rep W F st.heap x → Rep W F [pkA bp ptE (pt), pkA bg grpE (gr), ⟨.blk bk, .cells [.ptr 0 bp 0, .ptr 1 bg 0, .raw v2, .raw v3, .int .i64 m, .int .i64 w] 175⟩, ⟨.sl al cl, .vecL 3 1 encI1 l 0⟩] x) : G Try.prog (endQ Try.prog Try.f8 W F fun _ r => r = .bool true) W F (frmR [(Back W F 166 (fun x : Nat × PT × Grp => [(0, .int .u8 kids), (1, .int .u8 late), (5, .ptr 2 bk 0), (6, .int .i64 2), (8, .int .i64 3), (11, .vec 3 al l.length cl), (14, .int .i64 (x.1 : Int))]) (fun x : Nat × PT × Grp => [pkA bp ptE (x.2.1), pkA bg grpE (x.2.2), ⟨.blk bk, .cells [.ptr 0 bp 0, .ptr 1 bg 0, .raw v2, .raw v3, .int .i64 m, .int .i64 w] 175⟩, ⟨.sl al cl, .vecL 3 1 encI1 l 0⟩]) (fun x : Nat × PT × Grp => x.1 ≤ l.length ∧ ∃ r, KD x.2.1 x.2.2 r (x.1 + 24) l x.1) (fun x : Nat × PT × Grp => l.length - x.1) (l.length - i))] (bodyOf Try.f8) 35) st := by
  refine G_live 166 [(0, .int .u8 kids), (1, .int .u8 late), (5, .ptr 2 bk 0), (6, .int .i64 2), (8, .int .i64 3), (11, .vec 3 al l.length cl), (14, .int .i64 (i : Int))] [pkA bp ptE (pt), pkA bg grpE (gr), ⟨.blk bk, .cells [.ptr 0 bp 0, .ptr 1 bg 0, .raw v2, .raw v3, .int .i64 m, .int .i64 w] 175⟩, ⟨.sl al cl, .vecL 3 1 encI1 l 0⟩] h1 h2 hh fun u => ?_
  refine G_run (kc := false) (ss := []) klT_ok hmKq 1500 ?_
  rw [kq_35]
  have hg : ∀ d, l.getD i d = l[i] := fun d => by simp [List.getD, hi]
  have w1 : IntKind.wrap .i64 ((i : Int) + 1) = ((i + 1 : Nat) : Int) := IntWalk.i64_in _ (by omega)
  have ho := hD.kh.pi.ok
  have hgo := hD.kh.gl.gok (by omega) l[i]
  obtain ⟨d1, d2, _, d4⟩ := hD.die hi
  rw [Int.toNat_natCast, hg, d1, d2]
  refine ⟨⟨rfl, rfl, rfl, by omega, by omega⟩, ⟨rfl, rfl, rfl, hi⟩, rfl, rfl, rfl, rfl, rfl, HEq.rfl, ho, rfl, rfl, rfl, rfl, rfl, HEq.rfl, ho, rfl, rfl, rfl, rfl, HEq.rfl, hgo, fun ao cap => ?_⟩
  obtain ⟨r', hD'⟩ := d4 ao cap
  refine G_back (i + 1, (pExit pt l[i] (-9)).1, (gGone gr l[i] ao cap).1) ⟨by dsimp only; omega, r', ?_⟩ (by dsimp only; omega) rfl ⟨rfl, rfl, rfl, rfl, rfl, rfl, congrArg (Value.int .i64) w1, trivial⟩ (fun x hr => hr)
  have e : i + 1 + 24 = i + 24 + 1 := by omega
  dsimp only
  rw [e]; exact hD'
theorem kq30 (hl0 : 0 < l.length) (hl : l.length ≤ 60) (hD : KD pt gr r 24 l 0) (h1 : lenN st.tmps = 166) (h2 : liveOk st.tmps [(0, .int .u8 kids), (1, .int .u8 late), (5, .ptr 2 bk 0), (6, .int .i64 2), (7, .int .i64 80), (8, .int .i64 3), (11, .vec 3 al l.length cl)]) (hh : ∀ x, Rep W F st.heap x → Rep W F [pkA bp ptE (pt), pkA bg grpE (gr), ⟨.blk bk, .cells [.ptr 0 bp 0, .ptr 1 bg 0, .raw v2, .raw v3, .int .i64 m, .int .i64 w] 175⟩, ⟨.sl al cl, .vecL 3 1 encI1 l 0⟩] x) : G Try.prog (endQ Try.prog Try.f8 W F fun _ r => r = .bool true) W F (frmR [] (bodyOf Try.f8) 30) st := by
  refine G_live 166 [(0, .int .u8 kids), (1, .int .u8 late), (5, .ptr 2 bk 0), (6, .int .i64 2), (7, .int .i64 80), (8, .int .i64 3), (11, .vec 3 al l.length cl)] [pkA bp ptE (pt), pkA bg grpE (gr), ⟨.blk bk, .cells [.ptr 0 bp 0, .ptr 1 bg 0, .raw v2, .raw v3, .int .i64 m, .int .i64 w] 175⟩, ⟨.sl al cl, .vecL 3 1 encI1 l 0⟩] h1 h2 hh fun u => ?_
  refine G_run (kc := false) (ss := []) klT_ok hmKq 1500 ?_
  rw [kq_30 (e := 80)]
  have e80 : ((80 : Int) != 80) = false := rfl
  rw [e80]
  dsimp only
  refine G_loopAt (ι := Nat × PT × Grp) [] (bodyOf Try.f8) [1, 1, 1, 1, 1, 1, 1, 1, 1, 1, 1, 1, 1, 1, 1, 1, 0, 1, 0] 166 (fun x : Nat × PT × Grp => [(0, .int .u8 kids), (1, .int .u8 late), (5, .ptr 2 bk 0), (6, .int .i64 2), (8, .int .i64 3), (11, .vec 3 al l.length cl), (14, .int .i64 (x.1 : Int))]) (fun x : Nat × PT × Grp => [pkA bp ptE (x.2.1), pkA bg grpE (x.2.2), ⟨.blk bk, .cells [.ptr 0 bp 0, .ptr 1 bg 0, .raw v2, .raw v3, .int .i64 m, .int .i64 w] 175⟩, ⟨.sl al cl, .vecL 3 1 encI1 l 0⟩]) (fun x : Nat × PT × Grp => x.1 ≤ l.length ∧ ∃ r, KD x.2.1 x.2.2 r (x.1 + 24) l x.1) (fun x : Nat × PT × Grp => l.length - x.1) (0, pt, gr) (by kernel_rfl) (fun J => by kernel_rfl) ⟨Nat.zero_le _, r, hD⟩ rfl ⟨rfl, rfl, rfl, rfl, rfl, rfl, rfl, trivial⟩ (fun x hr => hr) ?_
  rintro ⟨i, pt, gr⟩ ⟨hi, r, hD⟩ u
  dsimp only at hi hD
  try dsimp only
  simp only [List.nil_append, List.cons_append]
  refine G_run (kc := false) (ss := [35, 37]) klT_ok hmKq 1500 ?_
  rw [kq_l3]
  cases hlt : decide ((i : Int) < (l.length : Int)) with
  | true =>
    simp only [decide_eq_true_eq] at hlt
    exact kq35 (by omega) hl hD rfl ⟨rfl, rfl, rfl, rfl, rfl, rfl, rfl, trivial⟩ (fun x hr => hr)
  | false =>
    simp only [decide_eq_false_iff_not] at hlt
    obtain rfl : i = l.length := by omega
    exact kq37 hD hl0 (by omega) rfl ⟨rfl, rfl, rfl, rfl, rfl, trivial⟩ (fun x hr => hr)
theorem kq29 (hl0 : 0 < l.length) (hl : l.length ≤ 60) (hK : KK pt gr r 24 l true n) (h1 : lenN st.tmps = 166) (h2 : liveOk st.tmps [(0, .int .u8 kids), (1, .int .u8 late), (5, .ptr 2 bk 0), (6, .int .i64 2), (8, .int .i64 3), (11, .vec 3 al l.length cl)]) (hh : ∀ x, Rep W F st.heap x → Rep W F [pkA bp ptE (pt), pkA bg grpE (gr), ⟨.blk bk, .cells [.ptr 0 bp 0, .ptr 1 bg 0, .raw v2, .raw v3, .int .i64 m, .int .i64 w] 175⟩, ⟨.sl al cl, .vecL 3 1 encI1 l 0⟩] x) : G Try.prog (endQ Try.prog Try.f8 W F fun _ r => r = .bool true) W F (frmR [] (bodyOf Try.f8) 29) st := by
  refine G_live 166 [(0, .int .u8 kids), (1, .int .u8 late), (5, .ptr 2 bk 0), (6, .int .i64 2), (8, .int .i64 3), (11, .vec 3 al l.length cl)] [pkA bp ptE (pt), pkA bg grpE (gr), ⟨.blk bk, .cells [.ptr 0 bp 0, .ptr 1 bg 0, .raw v2, .raw v3, .int .i64 m, .int .i64 w] 175⟩, ⟨.sl al cl, .vecL 3 1 encI1 l 0⟩] h1 h2 hh fun u => ?_
  refine G_run (kc := false) (ss := [30]) klT_ok hmKq 1500 ?_
  rw [kq_29]
  have hp : l[0] ∈ l := List.getElem_mem hl0
  have ho := hK.kh.pi.ok
  have hg : ∀ d, l.getD 0 d = l[0] := fun d => by simp [List.getD, hl0]
  have hF : ∀ nb, pFork pt l[0] nb = (pt, 0, 80) := fun nb => by
    unfold pFork
    rw [hK.kill _ hp]
    simp
  have hD : KD pt gr r 24 l 0 := ⟨hK.kh, hK.g, hK.h, hK.kill, hK.k3, by rw [hK.nt, if_neg (by omega)]⟩
  refine ⟨⟨rfl, rfl, rfl, by omega, by omega⟩, ⟨rfl, rfl, rfl, hl0⟩, rfl, rfl, rfl, rfl, rfl, HEq.rfl, rfl, rfl, rfl, rfl, HEq.rfl, ho, fun nb => ⟨rfl, ?_⟩⟩
  have hz : Int.toNat 0 = 0 := rfl
  try rw [hz]
  rw [hg, hF nb]
  have e80 : ((80 : Int) == 0) = false := rfl
  dsimp only
  rw [e80]
  dsimp only
  have e81 : ((80 : Int) != 80) = false := rfl
  exact kq30 hl0 hl hD rfl ⟨rfl, rfl, rfl, rfl, rfl, rfl, rfl, trivial⟩ (fun x hr => hr)
theorem kq25 (hK : KK pt gr r 24 Gs false n) (hG : 0 < Gs.length) (hGl : Gs.length ≤ 60) (h1 : lenN st.tmps = 166) (h2 : liveOk st.tmps [(0, .int .u8 kids), (1, .int .u8 late), (5, .ptr 2 bk 0), (6, .int .i64 2), (8, .int .i64 3)]) (hh : ∀ x, Rep W F st.heap x → Rep W F [pkA bp ptE (pt), pkA bg grpE (gr), ⟨.blk bk, .cells [.ptr 0 bp 0, .ptr 1 bg 0, .raw v2, .raw v3, .int .i64 m, .int .i64 w] 175⟩, ⟨.sl al cl, .vecL 3 1 encI1 l 0⟩] x) : G Try.prog (endQ Try.prog Try.f8 W F fun _ r => r = .bool true) W F (frmR [] (bodyOf Try.f8) 25) st := by
  refine G_live 166 [(0, .int .u8 kids), (1, .int .u8 late), (5, .ptr 2 bk 0), (6, .int .i64 2), (8, .int .i64 3)] [pkA bp ptE (pt), pkA bg grpE (gr), ⟨.blk bk, .cells [.ptr 0 bp 0, .ptr 1 bg 0, .raw v2, .raw v3, .int .i64 m, .int .i64 w] 175⟩, ⟨.sl al cl, .vecL 3 1 encI1 l 0⟩] h1 h2 hh fun u => ?_
  refine G_run (kc := false) (ss := [26]) klT_ok hmKq 1500 ?_
  rw [kq_25]
  have ho := hK.kh.pi.ok
  have hgs := hK.kh.gsok (by omega)
  have hm : memQ gr ⟨#[103]⟩ = Gs := (memQ_eq _ _).trans hK.mem.1
  obtain ⟨c1, hK2⟩ := hK.killed (sig := 9) (.inr rfl)
  rw [hm]
  refine ⟨rfl, ⟨rfl, rfl, rfl⟩, ⟨rfl, rfl⟩, rfl, rfl, HEq.rfl, HEq.rfl, ⟨ho, hgs⟩, ?_⟩
  refine G_live 166 [(0, .int .u8 kids), (1, .int .u8 late), (5, .ptr 2 bk 0), (6, .int .i64 2), (8, .int .i64 3), (13, .int .i64 (kgAll pt 9 Gs).2)] [pkA bp ptE ((kgAll pt 9 Gs).1), pkA bg grpE (gr), ⟨.blk bk, .cells [.ptr 0 bp 0, .ptr 1 bg 0, .raw v2, .raw v3, .int .i64 m, .int .i64 w] 175⟩, ⟨.sl al cl, .vecL 3 1 encI1 l 0⟩] rfl ⟨rfl, rfl, rfl, rfl, rfl, rfl, trivial⟩ (fun x hr => hr) fun u => ?_
  refine G_run (kc := false) (ss := [27]) klT_ok hmKq 1500 ?_
  rw [kq_26, hm]
  refine ⟨rfl, rfl, rfl, rfl, rfl, HEq.rfl, hgs.mem _, fun ao cap => ?_⟩
  refine G_live 166 [(0, .int .u8 kids), (1, .int .u8 late), (5, .ptr 2 bk 0), (6, .int .i64 2), (8, .int .i64 3), (11, .vec 3 ao Gs.length cap), (13, .int .i64 (kgAll pt 9 Gs).2)] [pkA bp ptE ((kgAll pt 9 Gs).1), pkA bg grpE (gr), ⟨.blk bk, .cells [.ptr 0 bp 0, .ptr 1 bg 0, .raw v2, .raw v3, .int .i64 m, .int .i64 w] 175⟩, ⟨.sl ao cap, .vecL 3 1 encI1 Gs 0⟩] rfl ⟨rfl, rfl, rfl, rfl, rfl, rfl, rfl, trivial⟩ (fun x hr => Rep.pick (π := [0, 1, 2, 4]) (by decide) rfl hr) fun u => ?_
  refine G_run (kc := false) (ss := [29]) klT_ok hmKq 1500 ?_
  rw [kq_27, c1, bne_self_eq_false]
  exact kq29 hG hGl hK2 rfl ⟨rfl, rfl, rfl, rfl, rfl, rfl, trivial⟩ (fun x hr => hr)
theorem kq22 (hi : i < 10) (hl0 : 0 < l.length) (hlG : ∀ p ∈ l, p ∈ Gs) (hK : KK pt gr r (i + 14) Gs false (i + 13)) (h1 : lenN st.tmps = 166) (h2 : liveOk st.tmps [(0, .int .u8 kids), (1, .int .u8 late), (5, .ptr 2 bk 0), (6, .int .i64 2), (8, .int .i64 3), (11, .vec 3 al l.length cl), (12, .int .i64 (i : Int))]) (hh : ∀ x, Rep W F st.heap x → Rep W F [pkA bp ptE (pt), pkA bg grpE (gr), ⟨.blk bk, .cells [.ptr 0 bp 0, .ptr 1 bg 0, .raw v2, .raw v3, .int .i64 m, .int .i64 w] 175⟩, ⟨.sl al cl, .vecL 3 1 encI1 l 0⟩] x) : G Try.prog (endQ Try.prog Try.f8 W F fun _ r => r = .bool true) W F (frmR [(Back W F 166 (fun x : Nat × PT × Grp => [(0, .int .u8 kids), (1, .int .u8 late), (5, .ptr 2 bk 0), (6, .int .i64 2), (8, .int .i64 3), (11, .vec 3 al l.length cl), (12, .int .i64 (x.1 : Int))]) (fun x : Nat × PT × Grp => [pkA bp ptE (x.2.1), pkA bg grpE (x.2.2), ⟨.blk bk, .cells [.ptr 0 bp 0, .ptr 1 bg 0, .raw v2, .raw v3, .int .i64 m, .int .i64 w] 175⟩, ⟨.sl al cl, .vecL 3 1 encI1 l 0⟩]) (fun x : Nat × PT × Grp => x.1 ≤ 10 ∧ ∃ r G, KK x.2.1 x.2.2 r (x.1 + 14) G false (x.1 + 13) ∧ ∀ p ∈ l, p ∈ G) (fun x : Nat × PT × Grp => 10 - x.1) (10 - i))] (bodyOf Try.f8) 22) st := by
  refine G_live 166 [(0, .int .u8 kids), (1, .int .u8 late), (5, .ptr 2 bk 0), (6, .int .i64 2), (8, .int .i64 3), (11, .vec 3 al l.length cl), (12, .int .i64 (i : Int))] [pkA bp ptE (pt), pkA bg grpE (gr), ⟨.blk bk, .cells [.ptr 0 bp 0, .ptr 1 bg 0, .raw v2, .raw v3, .int .i64 m, .int .i64 w] 175⟩, ⟨.sl al cl, .vecL 3 1 encI1 l 0⟩] h1 h2 hh fun u => ?_
  refine G_run (kc := false) (ss := []) klT_ok hmKq 1500 ?_
  rw [kq_22]
  have hlt : i % l.length < l.length := Nat.mod_lt _ hl0
  have et : Int.tmod (i : Int) (l.length : Int) = ((i % l.length : Nat) : Int) := by simp [Int.tmod]
  have hg : ∀ d, l.getD (i % l.length) d = l[i % l.length] := fun d => by simp [List.getD, hlt]
  have w1 : IntKind.wrap .i64 ((i : Int) + 1) = ((i + 1 : Nat) : Int) := IntWalk.i64_in _ (by omega)
  have hp := hlG _ (List.getElem_mem hlt)
  have ho := hK.kh.pi.ok
  have hof := hK.of hp
  have hse : sEq nmG (⟨#[]⟩ : ByteArray) = false := sE_ne nmGH.2
  rw [et, Int.toNat_natCast, hg]
  generalize l[i % l.length] = p at hp hof ⊢
  refine ⟨by omega, ⟨rfl, rfl, rfl, by omega, by omega⟩, ⟨rfl, rfl, rfl, hlt⟩, rfl, rfl, rfl, rfl, rfl, HEq.rfl, rfl, rfl, rfl, rfl, HEq.rfl, ho, fun nb => ⟨rfl, ?_⟩⟩
  obtain ⟨f1, f2⟩ := hK.fork hp (by omega) (by omega) nb
  have hgo := hK.kh.gl.gok (by omega) (pFork pt p nb).2.1
  rw [hof, f1]
  dsimp only
  rw [hse]
  refine ⟨rfl, rfl, rfl, rfl, HEq.rfl, ⟨hgo, hK.kh.gl.gk⟩, fun ao cap => ?_⟩
  obtain ⟨p1, r', hK'⟩ := f2 ao cap
  rw [p1]
  refine G_back (i + 1, (pFork pt p nb).1, (gPut gr (pFork pt p nb).2.1 nmG ao cap).1) ⟨by dsimp only; omega, r', insI Gs (pFork pt p nb).2.1, ?_, fun q hq => mem_insI.2 (.inr (hlG q hq))⟩ (by dsimp only; omega) rfl ⟨rfl, rfl, rfl, rfl, rfl, rfl, congrArg (Value.int .i64) w1, trivial⟩ (fun x hr => hr)
  have e1 : i + 1 + 14 = i + 14 + 1 := by omega
  have e2 : i + 1 + 13 = i + 13 + 1 := by omega
  dsimp only
  rw [e1, e2]; exact hK'
theorem insI_sub {G : List Int} {pt : PT} {gr : Grp} {r : RG} {k n : Nat} {kf : Bool} (h : KK pt gr r k G kf n) : G.length ≤ n := by
  obtain ⟨g, hg, e1, e2⟩ := h.g
  have h1 := h.kh.gl.ex g hg
  obtain ⟨_, _, hms⟩ := h1
  have hasc := hms.asc
  rw [e2] at hasc
  have hsub : ∀ p ∈ G, p ∈ pt.ps.map fun x => x.2.pid := fun p hp => by
    obtain ⟨_, x, hx, b1, _⟩ := h.kh.mem g hg p (by rw [e2]; exact hp)
    exact List.mem_map.2 ⟨x, hx, b1⟩
  have hnd : G.Nodup := hasc.imp (by intro a b h; omega)
  have := nodup_len hnd hsub
  have h2 := h.len
  simp at this
  omega
theorem kq19 (hl0 : 0 < l.length) (hK : KK pt gr r 14 l false 13) (h1 : lenN st.tmps = 166) (h2 : liveOk st.tmps [(0, .int .u8 kids), (1, .int .u8 late), (5, .ptr 2 bk 0), (6, .int .i64 2), (8, .int .i64 3), (11, .vec 3 al l.length cl)]) (hh : ∀ x, Rep W F st.heap x → Rep W F [pkA bp ptE (pt), pkA bg grpE (gr), ⟨.blk bk, .cells [.ptr 0 bp 0, .ptr 1 bg 0, .raw v2, .raw v3, .int .i64 m, .int .i64 w] 175⟩, ⟨.sl al cl, .vecL 3 1 encI1 l 0⟩] x) : G Try.prog (endQ Try.prog Try.f8 W F fun _ r => r = .bool true) W F (frmR [] (bodyOf Try.f8) 19) st := by
  refine G_live 166 [(0, .int .u8 kids), (1, .int .u8 late), (5, .ptr 2 bk 0), (6, .int .i64 2), (8, .int .i64 3), (11, .vec 3 al l.length cl)] [pkA bp ptE (pt), pkA bg grpE (gr), ⟨.blk bk, .cells [.ptr 0 bp 0, .ptr 1 bg 0, .raw v2, .raw v3, .int .i64 m, .int .i64 w] 175⟩, ⟨.sl al cl, .vecL 3 1 encI1 l 0⟩] h1 h2 hh fun u => ?_
  refine G_run (kc := false) (ss := []) klT_ok hmKq 1500 ?_
  rw [kq_19]
  refine G_loopAt (ι := Nat × PT × Grp) [] (bodyOf Try.f8) [1, 1, 1, 1, 1, 1, 1, 1, 1, 1, 0, 1, 0] 166 (fun x : Nat × PT × Grp => [(0, .int .u8 kids), (1, .int .u8 late), (5, .ptr 2 bk 0), (6, .int .i64 2), (8, .int .i64 3), (11, .vec 3 al l.length cl), (12, .int .i64 (x.1 : Int))]) (fun x : Nat × PT × Grp => [pkA bp ptE (x.2.1), pkA bg grpE (x.2.2), ⟨.blk bk, .cells [.ptr 0 bp 0, .ptr 1 bg 0, .raw v2, .raw v3, .int .i64 m, .int .i64 w] 175⟩, ⟨.sl al cl, .vecL 3 1 encI1 l 0⟩]) (fun x : Nat × PT × Grp => x.1 ≤ 10 ∧ ∃ r G, KK x.2.1 x.2.2 r (x.1 + 14) G false (x.1 + 13) ∧ ∀ p ∈ l, p ∈ G) (fun x : Nat × PT × Grp => 10 - x.1) (0, pt, gr) (by kernel_rfl) (fun J => by kernel_rfl) ⟨Nat.zero_le _, r, l, hK, fun p hp => hp⟩ rfl ⟨rfl, rfl, rfl, rfl, rfl, rfl, rfl, trivial⟩ (fun x hr => hr) ?_
  rintro ⟨i, pt, gr⟩ ⟨hi, r, Gs, hK, hlG⟩ u
  dsimp only at hi hK hlG
  try dsimp only
  simp only [List.nil_append, List.cons_append]
  refine G_run (kc := false) (ss := [22, 25]) klT_ok hmKq 1500 ?_
  obtain ⟨t1, t2⟩ := tmod10 late
  rw [kq_l2, t1]
  refine ⟨by decide, ?_⟩
  cases hlt : decide ((i : Int) < Int.tmod late 10) with
  | true =>
    simp only [decide_eq_true_eq] at hlt
    exact kq22 (by omega) hl0 hlG hK rfl ⟨rfl, rfl, rfl, rfl, rfl, rfl, rfl, trivial⟩ (fun x hr => hr)
  | false =>
    have hGl := insI_sub hK
    have hG0 : 0 < Gs.length := List.length_pos_of_mem (hlG _ (List.getElem_mem hl0))
    have hK2 : KK pt gr r 24 Gs false (i + 13) := ⟨hK.kh.up (by omega), hK.g, hK.h, hK.kill, hK.k3, hK.nt, hK.room, hK.len⟩
    exact kq25 hK2 hG0 (by omega) rfl ⟨rfl, rfl, rfl, rfl, rfl, trivial⟩ (fun x hr => hr)
theorem kq16 (hK : KK pt gr r 14 Gs false 13) (h2G : (2 : Int) ∈ Gs) (h1 : lenN st.tmps = 166) (h2 : liveOk st.tmps [(0, .int .u8 kids), (1, .int .u8 late), (5, .ptr 2 bk 0), (6, .int .i64 2), (8, .int .i64 3)]) (hh : ∀ x, Rep W F st.heap x → Rep W F [pkA bp ptE (pt), pkA bg grpE (gr), ⟨.blk bk, .cells [.ptr 0 bp 0, .ptr 1 bg 0, .raw v2, .raw v3, .int .i64 m, .int .i64 w] 175⟩] x) : G Try.prog (endQ Try.prog Try.f8 W F fun _ r => r = .bool true) W F (frmR [] (bodyOf Try.f8) 16) st := by
  refine G_live 166 [(0, .int .u8 kids), (1, .int .u8 late), (5, .ptr 2 bk 0), (6, .int .i64 2), (8, .int .i64 3)] [pkA bp ptE (pt), pkA bg grpE (gr), ⟨.blk bk, .cells [.ptr 0 bp 0, .ptr 1 bg 0, .raw v2, .raw v3, .int .i64 m, .int .i64 w] 175⟩] h1 h2 hh fun u => ?_
  refine G_run (kc := false) (ss := [17]) klT_ok hmKq 1500 ?_
  rw [kq_16]
  have ho := hK.kh.pi.ok
  have hgs := hK.kh.gsok (by omega)
  have hm : memQ gr ⟨#[103]⟩ = Gs := (memQ_eq _ _).trans hK.mem.1
  rw [hm]
  refine ⟨rfl, rfl, rfl, rfl, rfl, HEq.rfl, hgs.mem _, fun ao cap => ?_⟩
  refine G_live 166 [(0, .int .u8 kids), (1, .int .u8 late), (5, .ptr 2 bk 0), (6, .int .i64 2), (8, .int .i64 3), (11, .vec 3 ao Gs.length cap)] [pkA bp ptE (pt), pkA bg grpE (gr), ⟨.blk bk, .cells [.ptr 0 bp 0, .ptr 1 bg 0, .raw v2, .raw v3, .int .i64 m, .int .i64 w] 175⟩, ⟨.sl ao cap, .vecL 3 1 encI1 Gs 0⟩] rfl ⟨rfl, rfl, rfl, rfl, rfl, rfl, trivial⟩ (fun x hr => hr) fun u => ?_
  refine G_run (kc := false) (ss := [19]) klT_ok hmKq 1500 ?_
  obtain ⟨c1, hK2⟩ := hK.killed (sig := 15) (.inl rfl)
  have hk2 := hK2.kill 2 h2G
  rw [kq_17, hm, c1, bne_self_eq_false, hk2]
  refine ⟨rfl, ⟨rfl, rfl, rfl⟩, ⟨rfl, rfl⟩, rfl, rfl, HEq.rfl, HEq.rfl, ⟨ho, hgs⟩, rfl, rfl, rfl, rfl, rfl, HEq.rfl, hK2.kh.pi.ok, ?_⟩
  exact kq19 (List.length_pos_of_mem h2G) hK2 rfl ⟨rfl, rfl, rfl, rfl, rfl, rfl, trivial⟩ (fun x hr => hr)
theorem kq13 (hi : i < 10) (h2G : (2 : Int) ∈ Gs) (hK : KK pt gr r (i + 4) Gs false (i + 3)) (h1 : lenN st.tmps = 166) (h2 : liveOk st.tmps [(0, .int .u8 kids), (1, .int .u8 late), (5, .ptr 2 bk 0), (6, .int .i64 2), (8, .int .i64 3), (10, .int .i64 (i : Int))]) (hh : ∀ x, Rep W F st.heap x → Rep W F [pkA bp ptE (pt), pkA bg grpE (gr), ⟨.blk bk, .cells [.ptr 0 bp 0, .ptr 1 bg 0, .raw v2, .raw v3, .int .i64 m, .int .i64 w] 175⟩] x) : G Try.prog (endQ Try.prog Try.f8 W F fun _ r => r = .bool true) W F (frmR [(Back W F 166 (fun x : Nat × PT × Grp => [(0, .int .u8 kids), (1, .int .u8 late), (5, .ptr 2 bk 0), (6, .int .i64 2), (8, .int .i64 3), (10, .int .i64 (x.1 : Int))]) (fun x : Nat × PT × Grp => [pkA bp ptE (x.2.1), pkA bg grpE (x.2.2), ⟨.blk bk, .cells [.ptr 0 bp 0, .ptr 1 bg 0, .raw v2, .raw v3, .int .i64 m, .int .i64 w] 175⟩]) (fun x : Nat × PT × Grp => x.1 ≤ 10 ∧ ∃ r G, KK x.2.1 x.2.2 r (x.1 + 4) G false (x.1 + 3) ∧ (2 : Int) ∈ G) (fun x : Nat × PT × Grp => 10 - x.1) (10 - i))] (bodyOf Try.f8) 13) st := by
  refine G_live 166 [(0, .int .u8 kids), (1, .int .u8 late), (5, .ptr 2 bk 0), (6, .int .i64 2), (8, .int .i64 3), (10, .int .i64 (i : Int))] [pkA bp ptE (pt), pkA bg grpE (gr), ⟨.blk bk, .cells [.ptr 0 bp 0, .ptr 1 bg 0, .raw v2, .raw v3, .int .i64 m, .int .i64 w] 175⟩] h1 h2 hh fun u => ?_
  refine G_run (kc := false) (ss := []) klT_ok hmKq 1500 ?_
  rw [kq_13]
  have w1 : IntKind.wrap .i64 ((i : Int) + 1) = ((i + 1 : Nat) : Int) := IntWalk.i64_in _ (by omega)
  have ho := hK.kh.pi.ok
  have hof := hK.of h2G
  have hse : sEq nmG (⟨#[]⟩ : ByteArray) = false := sE_ne nmGH.2
  refine ⟨rfl, rfl, rfl, rfl, rfl, HEq.rfl, rfl, rfl, rfl, rfl, HEq.rfl, ho, fun nb => ⟨rfl, ?_⟩⟩
  obtain ⟨f1, f2⟩ := hK.fork h2G (by omega) (by omega) nb
  have hgo := hK.kh.gl.gok (by omega) (pFork pt 2 nb).2.1
  rw [hof, f1]
  dsimp only
  rw [hse]
  refine ⟨rfl, rfl, rfl, rfl, HEq.rfl, ⟨hgo, hK.kh.gl.gk⟩, fun ao cap => ?_⟩
  obtain ⟨p1, r', hK'⟩ := f2 ao cap
  rw [p1]
  refine G_back (i + 1, (pFork pt 2 nb).1, (gPut gr (pFork pt 2 nb).2.1 nmG ao cap).1) ⟨by dsimp only; omega, r', insI Gs (pFork pt 2 nb).2.1, ?_, mem_insI.2 (.inr h2G)⟩ (by dsimp only; omega) rfl ⟨rfl, rfl, rfl, rfl, rfl, congrArg (Value.int .i64) w1, trivial⟩ (fun x hr => hr)
  have e1 : i + 1 + 4 = i + 4 + 1 := by omega
  have e2 : i + 1 + 3 = i + 3 + 1 := by omega
  dsimp only
  rw [e1, e2]; exact hK'
end
def cmdC : ByteArray := ⟨#[99]⟩
def rQ2 : RG := ⟨none, 0, [⟨nmG, none, 0, []⟩, ⟨nmH, none, 0, []⟩], none, 0, []⟩
def rQ4 : RG := ⟨none, 0, [⟨nmG, none, 0, [2]⟩, ⟨nmH, none, 0, [3]⟩], none, 0, []⟩
def gQ2 (bg bo nbg nbh : Nat) : Grp := (gMake (gMake ⟨bg, bo, none, 0, [], [], []⟩ nmG nbg).1 nmH nbh).1
def ptQ (bm bp nb1 nb2 : Nat) : PT := ⟨bm, ([(bp, ⟨1, 0, ⟨#[]⟩, false, 0, ⟨#[]⟩, false, false⟩)] ++ [(nb1, ⟨1 + 1, 1, nmG, false, 0, cmdC, false, false⟩)] ++ [(nb2, ⟨1 + 1 + 1, 1, nmH, false, 0, cmdC, false, false⟩)]), 60, 1 + 1 + 1⟩
def grQ (bg bo nbg nbh : Nat) : Grp := ⟨bg, bo, none, 0, [(.s nmG, nbg, [(.i .i64 2, ())]), (.s nmH, nbh, [(.i .i64 3, ())])], [(.i .i64 2, nmG), (.i .i64 3, nmH)], []⟩
theorem KK0 (bm bp nb1 nb2 bg bo nbg nbh : Nat) : KK (ptQ bm bp nb1 nb2) (grQ bg bo nbg nbh) rQ4 4 [2] false 3 := by
  have g1 := ((GL.empty bg bo).make nmG (by decide) nbg none 0).2
  have g2 := (g1.make nmH (by decide) nbh none 0).2
  have e2 : (rMake (rMake ⟨none, 0, [], none, 0, []⟩ nmG none 0).1 nmH none 0).1 = rQ2 := by kernel_rfl
  rw [e2] at g2
  have hk0 : KH (pNew 60 bm bp) (gQ2 bg bo nbg nbh) rQ2 2 := by
    refine ⟨g2, (PI.new 60 bm bp).up (by omega), ?_, ?_, ?_⟩
    · intro g hg
      rcases List.mem_cons.1 hg with rfl | hg
      · exact nmGH.2
      · rw [List.mem_singleton.1 hg]; decide
    · intro g hg p hp
      rcases List.mem_cons.1 hg with rfl | hg
      · cases hp
      · rw [List.mem_singleton.1 hg] at hp; cases hp
    · intro x hx _ h1
      rw [List.mem_singleton.1 hx] at h1
      exact absurd rfl h1
  have hk1 := (hk0.add (x := { PR.zero with parent := 1, group := nmG, cmd := cmdC }) (nb := nb1) (by omega) rfl ⟨⟨nmG, none, 0, []⟩, List.mem_cons_self, rfl⟩ none 0).2.1
  have e3 : (rPut rQ2 ((pNew 60 bm bp).last + 1) ({ PR.zero with parent := 1, group := nmG, cmd := cmdC } : PR).group none 0 none 0 none 0).1 = ⟨none, 0, [⟨nmG, none, 0, [2]⟩, ⟨nmH, none, 0, []⟩], none, 0, []⟩ := by kernel_rfl
  rw [e3] at hk1
  have hk2 := (hk1.add (x := { PR.zero with parent := 1, group := nmH, cmd := cmdC }) (nb := nb2) (by omega) rfl ⟨⟨nmH, none, 0, []⟩, List.mem_cons_of_mem _ List.mem_cons_self, rfl⟩ none 0).2.1
  have hk3 : KH (ptQ bm bp nb1 nb2) (grQ bg bo nbg nbh) rQ4 4 := by
    refine cast ?_ hk2
    kernel_rfl
  refine ⟨hk3, ⟨⟨nmG, none, 0, [2]⟩, List.mem_cons_self, rfl, rfl⟩, ⟨⟨nmH, none, 0, [3]⟩, List.mem_cons_of_mem _ List.mem_cons_self, rfl, rfl⟩, fun p hp => ?_, rfl, rfl, rfl, Nat.le_refl _⟩
  rw [List.mem_singleton.1 hp]
  rfl
theorem kq_ok (kids late : Int) : Spec Try.prog 8 [] [.int .u8 kids, .int .u8 late] fun _ r => r = .bool true := by
  refine Spec.of_G 166 Try.func8 (c := bodyOf Try.f8) (by kernel_rfl) (by kernel_rfl) (Nat.le_of_ble_eq_true rfl) fun W F => ?_
  refine G_run (kc := false) (ss := []) klT_ok hmKq 4000 ?_
  rw [kq_start]
  have walk : ∀ (bm bp bg bo nb1 nb2 nbg nbh bk bpp bgg : Nat) (v2 v3 : Value) (m w : Int) (tm : List SV), lenN tm = 166 → liveOk tm [(0, .int .u8 kids), (1, .int .u8 late), (5, .ptr 2 bk 0), (6, .int .i64 2), (8, .int .i64 3), (10, .int .i64 ((0 : Nat) : Int))] → G Try.prog (endQ Try.prog Try.f8 W F fun _ r => r = .bool true) W F (frm [] (bodyOf Try.f8) [1, 1, 1, 1, 1, 1, 1, 0, 1, 0] []) ⟨tm, [pkA bpp ptE (ptQ bm bp nb1 nb2), pkA bgg grpE (grQ bg bo nbg nbh), ⟨.blk bk, .cells [.ptr 0 bpp 0, .ptr 1 bgg 0, .raw v2, .raw v3, .int .i64 m, .int .i64 w] 175⟩]⟩ := by
    intro bm bp0 bg0 bo nb1 nb2 nbg nbh bk bp bg v2 v3 m w tm g1 g2
    refine G_loopAt (ι := Nat × PT × Grp) [] (bodyOf Try.f8) [1, 1, 1, 1, 1, 1, 1, 0, 1, 0] 166 (fun x : Nat × PT × Grp => [(0, .int .u8 kids), (1, .int .u8 late), (5, .ptr 2 bk 0), (6, .int .i64 2), (8, .int .i64 3), (10, .int .i64 (x.1 : Int))]) (fun x : Nat × PT × Grp => [pkA bp ptE (x.2.1), pkA bg grpE (x.2.2), ⟨.blk bk, .cells [.ptr 0 bp 0, .ptr 1 bg 0, .raw v2, .raw v3, .int .i64 m, .int .i64 w] 175⟩]) (fun x : Nat × PT × Grp => x.1 ≤ 10 ∧ ∃ r G, KK x.2.1 x.2.2 r (x.1 + 4) G false (x.1 + 3) ∧ (2 : Int) ∈ G) (fun x : Nat × PT × Grp => 10 - x.1) (0, ptQ bm bp0 nb1 nb2, grQ bg0 bo nbg nbh) (by kernel_rfl) (fun J => by kernel_rfl) ⟨Nat.zero_le _, rQ4, [2], KK0 _ _ _ _ _ _ _ _, List.mem_cons_self⟩ g1 g2 (fun x hr => hr) ?_
    rintro ⟨i, pt, gr⟩ ⟨hi, r, Gs, hK, h2G⟩ u
    dsimp only at hi hK
    try dsimp only
    simp only [List.nil_append, List.cons_append]
    refine G_run (kc := false) (ss := [13, 16]) klT_ok hmKq 1500 ?_
    obtain ⟨t1, t2⟩ := tmod10 kids
    rw [kq_l1, t1]
    refine ⟨by decide, ?_⟩
    cases hlt : decide ((i : Int) < Int.tmod kids 10) with
    | true =>
      simp only [decide_eq_true_eq] at hlt
      exact kq13 (by omega) h2G hK rfl ⟨rfl, rfl, rfl, rfl, rfl, rfl, trivial⟩ (fun x hr => hr)
    | false =>
      have hK2 : KK pt gr r 14 Gs false 13 := ⟨hK.kh.up (by omega), hK.g, hK.h, hK.kill, hK.k3, hK.nt, hK.room, by have := hK.len; omega⟩
      exact kq16 hK2 h2G rfl ⟨rfl, rfl, rfl, rfl, rfl, trivial⟩ (fun x hr => hr)
  repeat' first
    | exact pOk_litK rfl rfl rfl
    | exact gsOk_lit rfl
    | exact memGOk_lit rfl
    | exact gOk_litK rfl rfl
    | exact keysOk_lit rfl
    | exact walk _ _ _ _ _ _ _ _ _ _ _ _ _ _ _ _ rfl ⟨rfl, rfl, rfl, rfl, rfl, rfl, trivial⟩
    | apply And.intro
    | exact rfl
    | exact HEq.rfl
    | (show _ ≤ _; decide)
    | (refine fun _ => ?_)
    | (refine ⟨rfl, ?_⟩)
    | fail
end Go.Proofs.Ytkcmgcoppecfpaa

/- YtkcmgcoppecfpaaRow -/
/- A law's call with a slice of numbers as1 its argument. -/
namespace Go.Proofs.Ytkcmgcoppecfpaa
open Go Go.RowKit Go.ChangeShapes
set_option linter.unusedVariables false
set_option linter.unusedSimpArgs false
set_option linter.unnecessarySimpa false

theorem ro_ints {W : World} {k : IntKind} {a : Addr} {len cap : Nat} {zs : List Int} {enc : Int → List SV} (henc : ∀ x, enc x = [.int k x]) (hl : len ≤ cap) (hz : zs.length = cap) (hcell : ∀ i, i < zs.length → W.cell? (a.add i) = some (.int k (zs.getD i 0))) :
    has W (.sl (some a) cap) (.roL 1 enc (zs.take len) 0) [] := by
  by_cases h0 : len = 0
  · subst h0
    exact ⟨rfl, (fun x => by rw [henc]; rfl), by simp, .inl (by simp)⟩
  · obtain ⟨b, off, rfl, hc⟩ := ints_at hcell (by omega)
    have hc0 := hc 0 (by omega)
    have hc1 : ∃ cur T fr, W.heap[b]? = some (.cells cur T fr) := by
      simp only [World.cell?] at hc0
      split at hc0
      · rename_i cur T fr hh; exact ⟨_, _, _, hh⟩
      · cases hc0
    obtain ⟨cur, T, fr, hb⟩ := hc1
    refine ⟨rfl, (fun x => by rw [henc]; rfl), by simp; omega, .inr ⟨b, off, cur, T, fr, rfl, hb, ?_⟩⟩
    · have hfl : ∀ l : List Int, flatV enc l = l.map fun x => Value.int k x := by
        intro l
        induction l with
        | nil => rfl
        | cons x l ih =>
          have : flatV enc (x :: l) = denL (enc x) ++ flatV enc l := by simp [flatV]
          rw [this, ih, henc]; rfl
      rw [hfl, List.map_take]
      have hlt : (zs.take len).length = len := by simp; omega
      rw [hlt, Nat.mul_one]
      apply List.ext_getElem?
      intro j
      simp only [List.getElem?_take, List.getElem?_drop, List.getElem?_map]
      split
      · rename_i hj
        have h1 := hc j (by omega)
        simp only [World.cell?, hb] at h1
        have h2 : cur.toList[off + j]? = cur[off + j]? := by simp
        simp at h1
        rw [h2, h1]
        have : j < zs.length := by omega
        simp [this]
      · rfl

/-- An argument that is a slice of numbers: the entry, its numbers. -/
theorem arg_ints {P : Program} {H : Type} {enc : TypeId × Value → H} {t e : TypeId} {k : IntKind} {fuel : Nat} {W : World} {a0 : Option Addr} {len cap : Nat} {x : DataW H × List MemPlace} {enc' : Int → List SV}
    (henc : ∀ x, enc' x = [.int k x]) (ht : P.underlying t = some (.slice e)) (he : P.underlying e = some (.int k)) (hc : P.cellsOf e = 1)
    (hf : DataW.trod enc P W 0 (fun _ => true) true fuel t [.slice a0 len cap] = some x) :
    ∃ bs : List Int, bs.length = len ∧ (∀ z ∈ bs, (Lit.int k z).wf = true) ∧ has W (.sl a0 cap) (.roL 1 enc' bs 0) [] := by
  rcases open_ints ht he hc hf with ⟨hcs, _⟩ | ⟨a, len', cap', zs, hcs, _, hl, hm, hz, _, hcell, hwz⟩
  · simp only [List.cons.injEq, Value.slice.injEq, and_true] at hcs
    obtain ⟨rfl, rfl, rfl⟩ := hcs
    exact ⟨[], rfl, (fun z hz => by cases hz), rfl, fun x => by rw [henc]; rfl, by simp, .inl rfl⟩
  · simp at hcs
    obtain ⟨rfl, rfl, rfl⟩ := hcs
    simp only [if_true] at hz
    exact ⟨zs.take len, by simp; omega, fun z hz => hwz z (List.mem_of_mem_take hz), ro_ints (k := k) (len := len) henc hl hz hcell⟩

/-- A slice whose cells are known, to be read. -/
theorem ro_gen {W : World} {α : Type} {a : Addr} {len cap : Nat} {zs : List α} {enc : α → List SV} {sv : α → SV} {d : α} (henc : ∀ x, enc x = [sv x]) (hl : len ≤ cap) (hz : zs.length = cap) (hcell : ∀ i, i < zs.length → W.cell? (a.add i) = some (den (sv (zs.getD i d)))) :
    has W (.sl (some a) cap) (.roL 1 enc (zs.take len) d) [] := by
  by_cases h0 : len = 0
  · subst h0
    exact ⟨rfl, (fun x => by rw [henc]; rfl), by simp, .inl (by simp)⟩
  · obtain ⟨b, off, spot⟩ := a
    have hspot : spot = none := by simpa [Addr.add] using World.cell?_spot (hcell 0 (by omega))
    subst hspot
    have hc : ∀ j, j < zs.length → W.cell? ⟨b, off + j, none⟩ = some (den (sv (zs.getD j d))) := fun j hj => by rw [← Go.WideShapes.add_plain]; exact hcell j hj
    have hc0 := hc 0 (by omega)
    have hc1 : ∃ cur T fr, W.heap[b]? = some (.cells cur T fr) := by
      simp only [World.cell?] at hc0
      split at hc0
      · rename_i cur T fr hh; exact ⟨_, _, _, hh⟩
      · cases hc0
    obtain ⟨cur, T, fr, hb⟩ := hc1
    refine ⟨rfl, (fun x => by rw [henc]; rfl), by simp; omega, .inr ⟨b, off, cur, T, fr, rfl, hb, ?_⟩⟩
    have hfl : ∀ l : List α, flatV enc l = l.map fun x => den (sv x) := by
      intro l
      induction l with
      | nil => rfl
      | cons x l ih =>
        have : flatV enc (x :: l) = denL (enc x) ++ flatV enc l := by simp [flatV]
        rw [this, ih, henc]; rfl
    rw [hfl, List.map_take]
    have hlt : (zs.take len).length = len := by simp; omega
    rw [hlt, Nat.mul_one]
    apply List.ext_getElem?
    intro j
    simp only [List.getElem?_take, List.getElem?_drop, List.getElem?_map]
    split
    · rename_i hj
      have h1 := hc j (by omega)
      simp only [World.cell?, hb] at h1
      have h2 : cur.toList[off + j]? = cur[off + j]? := by simp
      simp at h1
      rw [h2, h1]
      have : j < zs.length := by omega
      simp [this]
    · rfl

/-- An argument that is a slice of truth values. -/
theorem arg_bools {P : Program} {H : Type} {enc : TypeId × Value → H} {t e : TypeId} {fuel : Nat} {W : World} {a0 : Option Addr} {len cap : Nat} {x : DataW H × List MemPlace} {enc' : Bool → List SV}
    (henc : ∀ x, enc' x = [.bool x]) (ht : P.underlying t = some (.slice e)) (he : P.underlying e = some .bool) (hc : P.cellsOf e = 1)
    (hf : DataW.trod enc P W 0 (fun _ => true) true fuel t [.slice a0 len cap] = some x) :
    ∃ bs : List Bool, bs.length = len ∧ has W (.sl a0 cap) (.roL 1 enc' bs false) [] := by
  rcases Go.Deep.open_bools ht he hc hf with ⟨hcs, _⟩ | ⟨a, len', cap', B, hcs, _, hl, hm, _, hcell⟩
  · simp only [List.cons.injEq, Value.slice.injEq, and_true] at hcs
    obtain ⟨rfl, rfl, rfl⟩ := hcs
    exact ⟨[], rfl, rfl, fun x => by rw [henc]; rfl, by simp, .inl rfl⟩
  · simp at hcs
    obtain ⟨rfl, rfl, rfl⟩ := hcs
    have hlen : ((List.range cap).map B).length = cap := by simp
    refine ⟨((List.range cap).map B).take len, by simp; omega, ro_gen (sv := SV.bool) henc hl hlen fun i hi => ?_⟩
    rw [hlen] at hi
    rw [hcell i hi]
    simp [List.getD, hi, den]

/-- An argument that is a slice of texts. -/
theorem arg_strs {P : Program} {H : Type} {enc : TypeId × Value → H} {t e : TypeId} {fuel : Nat} {W : World} {a0 : Option Addr} {len cap : Nat} {x : DataW H × List MemPlace} {enc' : ByteArray → List SV}
    (henc : ∀ x, enc' x = [.str x]) (ht : P.underlying t = some (.slice e)) (he : P.underlying e = some .string) (hc : P.cellsOf e = 1)
    (hf : DataW.trod enc P W 0 (fun _ => true) true fuel t [.slice a0 len cap] = some x) :
    ∃ bs : List ByteArray, bs.length = len ∧ (∀ s ∈ bs, s.size ≤ maxLen) ∧ has W (.sl a0 cap) (.roL 1 enc' bs .empty) [] := by
  rcases Go.Deep.open_strs ht he hc hf with ⟨hcs, _⟩ | ⟨a, len', cap', m, S, hcs, _, hl, hm, hmm, _, hcell⟩
  · simp only [List.cons.injEq, Value.slice.injEq, and_true] at hcs
    obtain ⟨rfl, rfl, rfl⟩ := hcs
    exact ⟨[], rfl, (fun s hs => by cases hs), rfl, fun x => by rw [henc]; rfl, by simp, .inl rfl⟩
  · simp at hcs
    obtain ⟨rfl, rfl, rfl⟩ := hcs
    simp only [if_true] at hmm
    subst hmm
    have hlen : ((List.range m).map S).length = m := by simp
    refine ⟨((List.range m).map S).take len, by simp; omega, fun s hs => ?_, ro_gen (sv := SV.str) henc hl hlen fun i hi => ?_⟩
    · obtain ⟨i, hi, rfl⟩ := List.mem_map.1 (List.mem_of_mem_take hs)
      exact (hcell i (List.mem_range.1 hi)).2
    · rw [hlen] at hi
      rw [(hcell i hi).1]
      simp [List.getD, hi, den]

theorem calls_ints {P : Program} {H : Type} {enc : TypeId × Value → H} {f : FuncId} {t e : TypeId} {k : IntKind} {fuel : Nat} {W : World} {a0 : Option Addr} {len cap : Nat} {x : DataW H × List MemPlace} {v : SV} {enc' : Int → List SV}
    (henc : ∀ x, enc' x = [.int k x]) (ht : P.underlying t = some (.slice e)) (he : P.underlying e = some (.int k)) (hc : P.cellsOf e = 1)
    (hf : DataW.trod enc P W 0 (fun _ => true) true fuel t [.slice a0 len cap] = some x)
    (h : ∀ (ao : Option Addr) (bs : List Int) (cap : Nat), (∀ z ∈ bs, (Lit.int k z).wf = true) → Spec P f [⟨.sl ao cap, .roL 1 enc' bs 0⟩] [.vec 0 ao bs.length cap] fun _ r => r = v) :
    Calls P f #[.slice a0 len cap] W fun e W' => e = .returned (den v) ∧ Below W.heap.size W W' := by
  obtain ⟨bs, rfl, hw, hh⟩ := arg_ints henc ht he hc hf
  have h4 := Spec.rowR (W := W) (hs := [⟨.sl a0 cap, .roL 1 enc' bs 0⟩]) (fun e he => by rcases List.mem_singleton.1 he with rfl; exact hh) (h a0 bs cap hw)
  exact h4
end Go.Proofs.Ytkcmgcoppecfpaa

