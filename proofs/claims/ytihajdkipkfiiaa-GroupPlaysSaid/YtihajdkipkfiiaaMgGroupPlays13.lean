import Derived.Test.YtihajdkipkfiiaaMgGroupPlays9
import Derived.Test.YtihajdkipkfiiaaMgGroupPlays12
import Derived.Test.YtihajdkipkfiiaaMgGroupPlays4
import Derived.ChangeSlices
import Derived.OpenShut
import Derived.Carry
import Derived.ProofKit
import Derived.Deep.Grids
import Derived.Deep.Strs
import Derived.Deep.Slices
import Derived.Test.YtihajdkipkfiiaaMgGroupPlays8
/- YtihajdkipkfiiaaGp -/
/- GroupPlays. -/
namespace Go.Proofs.Ytihajdkipkfiiaa
open Go Go.RowKit
set_option linter.unusedVariables false
set_option linter.unusedSimpArgs false
set_option linter.unnecessarySimpa false
set_option maxHeartbeats 0
set_option maxRecDepth 100000
theorem hmGp : Try.prog.follows .mixedOrders = true := by kernel_rfl
def gpR (r : RG) (bo ba br bR : Nat) (i : Nat) : List Ent := [⟨.blk bo, .cells [.bool true] 4⟩, ⟨.blk ba, .cells [.int .i64 (i : Int)] 3⟩, ⟨.blk br, .cells [.ptr 4 bR 0] 100⟩, pkA bR rgE r]
theorem gp_V {s : Grp} {r : RG} {k bg bo ba br bR : Nat} (h : GL s r k) (hk : k ≤ 1000) : OneG (.func (.func 69) #[] (denL [.ptr 2 bo 0, .ptr 3 ba 0, .ptr 4 br 0]).toArray) s bg (sortS s.gs) (gpR r bo ba br bR) (fun _ => False) := by
  intro i x hxi ao cap
  rw [h.names] at hxi
  obtain ⟨hi, he⟩ := List.getElem?_eq_some_iff.1 hxi
  rw [List.length_map] at hi
  rw [List.getElem_map] at he
  subst he
  have hmm : memG s r.L[i].name = r.L[i].pids := h.memg (List.getElem_mem hi)
  have hpl := (h.big _ (List.getElem_mem hi)).2.1
  have hll := h.lens.1
  rw [hmm]
  refine VSpec.fn (by kernel_rfl) (Spec.up ?_)
  refine Spec.pre (hs' := [⟨.blk bR, .cells [.vec 1 r.aoL r.L.length r.capL, .vec 2 r.aoN r.notes.length r.capN] 103⟩, ⟨.sl r.aoL r.capL, .vecL 112 2 encR r.L zR⟩, ⟨.sl r.aoN r.capN, .vecL 9 1 encS r.notes ByteArray.empty⟩, pk 0 ((r.L.take i).map pidE ++ (r.L.drop (i + 1)).map pidE), ⟨.sl r.L[i].ao r.L[i].cap, .vecL 3 1 encI1 r.L[i].pids 0⟩, ⟨.blk bo, .cells [.bool true] 4⟩, ⟨.blk ba, .cells [.int .i64 (i : Int)] 3⟩, ⟨.blk br, .cells [.ptr 0 bR 0] 100⟩, ⟨.sl ao cap, .vecL 3 1 encI1 r.L[i].pids 0⟩] ++ [pkA bg grpE s]) (args' := [.str r.L[i].name, .vec 8 ao r.L[i].pids.length cap, .ptr 5 bo 0, .ptr 6 ba 0, .ptr 7 br 0]) (fun W F w hr => ?_) rfl ?_
  · unfold gpR at hr
    have h1 := Rep.unpkAt (p := [_]) (t := [_]) hr
    have h2 := Rep.pick (π := [4, 0, 1, 2, 3, 5]) (by decide) rfl h1
    have h3 : Rep W F (rgE r bR ++ _) w := Rep.unpkA (S := rgE) (s := r) (b := bR) (t := [_, _, _, _, _]) h2
    have em : r.L.map pidE = (r.L.take i).map pidE ++ pidE r.L[i] :: (r.L.drop (i + 1)).map pidE := by
      rw [← List.map_cons, ← List.map_append]
      congr 1
      rw [← List.drop_eq_getElem_cons hi, List.take_append_drop]
    unfold rgE at h3
    rw [em] at h3
    have h4 := Rep.outP (p := [_, _, _]) (t := [_, _, _, _, _]) h3
    have h5 := Rep.pick (π := [0, 1, 2, 4, 3, 6, 7, 8, 9, 5]) (by decide) rfl h4
    exact Rep.cellsEq (l := 7) (cs' := [.ptr 0 bR 0]) rfl (by rfl) h5
  · refine Spec.at (hp := [⟨.blk bR, .cells [.vec 1 r.aoL r.L.length r.capL, .vec 2 r.aoN r.notes.length r.capN] 103⟩, ⟨.sl r.aoL r.capL, .vecL 112 2 encR r.L zR⟩, ⟨.sl r.aoN r.capN, .vecL 9 1 encS r.notes ByteArray.empty⟩, pk 0 ((r.L.take i).map pidE ++ (r.L.drop (i + 1)).map pidE), ⟨.sl r.L[i].ao r.L[i].cap, .vecL 3 1 encI1 r.L[i].pids 0⟩, ⟨.blk bo, .cells [.bool true] 4⟩, ⟨.blk ba, .cells [.int .i64 (i : Int)] 3⟩, ⟨.blk br, .cells [.ptr 0 bR 0] 100⟩, ⟨.sl ao cap, .vecL 3 1 encI1 r.L[i].pids 0⟩]) (Post' := fun h' res => h' = [⟨.blk bR, .cells [.vec 1 r.aoL r.L.length r.capL, .vec 2 r.aoN r.notes.length r.capN] 103⟩, ⟨.sl r.aoL r.capL, .vecL 112 2 encR r.L zR⟩, ⟨.sl r.aoN r.capN, .vecL 9 1 encS r.notes ByteArray.empty⟩, pk 0 ((r.L.take i).map pidE ++ (r.L.drop (i + 1)).map pidE), ⟨.sl r.L[i].ao r.L[i].cap, .vecL 3 1 encI1 r.L[i].pids 0⟩, ⟨.blk bo, .cells [.bool true] 4⟩, ⟨.blk ba, .cells [.int .i64 ((i + 1 : Nat) : Int)] 3⟩, ⟨.blk br, .cells [.ptr 0 bR 0] 100⟩, ⟨.sl ao cap, .vecL 3 1 encI1 r.L[i].pids 0⟩] ∧ res = .bool true) [0, 1, 2, 3, 4, 5, 6, 7, 8] (by decide) rfl ?_ rfl ?_
    · refine Spec.up ?_
      refine Spec.of_G 45 Try.func69 (c := bodyOf Try.f69) (by kernel_rfl) (by kernel_rfl) (Nat.le_of_ble_eq_true rfl) fun W F => ?_
      refine G_run (kc := true) (ss := []) (Cs := [(17, intsC)]) ⟨ints_ok, trivial⟩ hmGp 900 ?_
      rw [gp1_run]
      have hd : decide ((i : Int) < (r.L.length : Int)) = true := decide_eq_true (by omega)
      have hg : ∀ d, r.L.getD i d = r.L[i] := fun d => getD_ltR _ _ _ hi
      have hse : sEq r.L[i].name r.L[i].name = true := (sEqG _ _).2 rfl
      have w1 : IntKind.wrap .i64 ((i : Int) + 1) = ((i + 1 : Nat) : Int) := IntWalk.i64_in _ (by omega)
      rw [hd, Int.toNat_natCast, hg, hse, w1]
      have fin : ∀ W' F' w', Rep W' F' [⟨.blk bR, .cells [.vec 1 r.aoL r.L.length r.capL, .vec 2 r.aoN r.notes.length r.capN] 103⟩, ⟨.sl r.aoL r.capL, .vecL 112 2 encR r.L zR⟩, ⟨.sl r.aoN r.capN, .vecL 9 1 encS r.notes ByteArray.empty⟩, pk 0 ((r.L.take i).map pidE ++ (r.L.drop (i + 1)).map pidE), ⟨.sl r.L[i].ao r.L[i].cap, .vecL 3 1 encI1 r.L[i].pids 0⟩, ⟨.blk bo, .cells [.bool true] 4⟩, ⟨.blk ba, .cells [.int .i64 ((i + 1 : Nat) : Int)] 3⟩, ⟨.blk br, .cells [.ptr 0 bR 0] 100⟩, ⟨.sl ao cap, .vecL 3 1 encI1 r.L[i].pids 0⟩] w' → Rep W' F' [⟨.blk bR, .cells [.vec 1 r.aoL r.L.length r.capL, .vec 2 r.aoN r.notes.length r.capN] 103⟩, ⟨.sl r.aoL r.capL, .vecL 112 2 encR r.L zR⟩, ⟨.sl r.aoN r.capN, .vecL 9 1 encS r.notes ByteArray.empty⟩, pk 0 ((r.L.take i).map pidE ++ (r.L.drop (i + 1)).map pidE), ⟨.sl r.L[i].ao r.L[i].cap, .vecL 3 1 encI1 r.L[i].pids 0⟩, ⟨.blk bo, .cells [.bool true] 4⟩, ⟨.blk ba, .cells [.int .i64 ((i + 1 : Nat) : Int)] 3⟩, ⟨.blk br, .cells [.ptr 0 bR 0] 100⟩, ⟨.sl ao cap, .vecL 3 1 encI1 r.L[i].pids 0⟩] w' := fun _ _ _ h => h
      repeat' first
        | exact rfl
        | exact trivial
        | exact hi
        | (refine ⟨r.L[i].pids, rfl, rfl, ?_⟩)
        | exact ⟨_, .bool true, fun W F w hr => hr, rfl, rfl, rfl⟩
        | apply And.intro
        | (show _ ≤ _; omega)
        | (show _ < _; omega)
        | fail
    · rintro h' res ⟨rfl, rfl⟩
      refine ⟨Nat.le_of_ble_eq_true rfl, .bool true, rfl, ?_⟩
      refine ⟨[pkA bg grpE s, pk 0 (gpR r bo ba br bR (i + 1)), ⟨.sl ao cap, .vecL 3 1 encI1 r.L[i].pids 0⟩], .bool true, fun W F w hr => ?_, rfl, .inl ⟨rfl, rfl⟩⟩
      have h0 : Rep W F ([⟨.blk bR, .cells [.vec 1 r.aoL r.L.length r.capL, .vec 2 r.aoN r.notes.length r.capN] 103⟩, ⟨.sl r.aoL r.capL, .vecL 112 2 encR r.L zR⟩, ⟨.sl r.aoN r.capN, .vecL 9 1 encS r.notes ByteArray.empty⟩, pk 0 ((r.L.take i).map pidE ++ (r.L.drop (i + 1)).map pidE), ⟨.sl r.L[i].ao r.L[i].cap, .vecL 3 1 encI1 r.L[i].pids 0⟩, ⟨.blk bo, .cells [.bool true] 4⟩, ⟨.blk ba, .cells [.int .i64 ((i + 1 : Nat) : Int)] 3⟩, ⟨.blk br, .cells [.ptr 0 bR 0] 100⟩, ⟨.sl ao cap, .vecL 3 1 encI1 r.L[i].pids 0⟩] ++ [pkA bg grpE s]) w := hr
      have h1 := Rep.cellsEq (l := 7) (cs' := [.ptr 4 bR 0]) rfl (by rfl) h0
      have h2 := Rep.pick (π := [0, 1, 2, 4, 3, 5, 6, 7, 8, 9]) (by decide) rfl h1
      have h3 := Rep.intoP (p := [_, _, _]) (t := [_, _, _, _, _]) (e := pidE r.L[i]) h2
      have em : (r.L.take i).map pidE ++ pidE r.L[i] :: (r.L.drop (i + 1)).map pidE = r.L.map pidE := by
        rw [← List.map_cons, ← List.map_append]
        congr 1
        rw [← List.drop_eq_getElem_cons hi, List.take_append_drop]
      rw [em] at h3
      have h4 := Rep.pkA (S := rgE) (s := r) (b := bR) (t := [_, _, _, _, _]) h3
      have h5 := Rep.pick (π := [5, 1, 2, 3, 0, 4]) (by decide) rfl h4
      exact Rep.pkAt 0 (p := [_]) (h := [_, _, _, _]) (t := [_]) h5
theorem allGC_ok : CtrOk Try.prog 93 allGC := by
  intro args hs N h
  unfold allGC at h
  split at h
  case h_2 => exact h.elim
  rename_i g lo bo la ba lr br lb bx
  obtain ⟨rfl, s, r, k, lg, bg, lR, bR, h1, h2, h3, h4, h5, h6, hd, ⟨hGL, hk⟩, hN⟩ := h
  refine Spec.at (hp := [pkA bg grpE s, ⟨.blk bx, .cells [.ptr lg bg 0] 25⟩, ⟨.blk bo, .cells [.bool true] 4⟩, ⟨.blk ba, .cells [.int .i64 (0 : Int)] 3⟩, ⟨.blk br, .cells [.ptr lR bR 0] 100⟩, pkA bR rgE r]) (args' := [.func (.func 69) [] [.ptr 2 bo 0, .ptr 3 ba 0, .ptr 4 br 0], .ptr 1 bx 0]) (Post' := fun h' res => h' = [pkA bg grpE s, ⟨.blk bx, .cells [.ptr lg bg 0] 25⟩, ⟨.blk bo, .cells [.bool true] 4⟩, ⟨.blk ba, .cells [.int .i64 (r.L.length : Int)] 3⟩, ⟨.blk br, .cells [.ptr lR bR 0] 100⟩, pkA bR rgE r] ∧ res = .tuple []) [lg, lb, lo, la, lr, lR] hd (by simp [pickE, h1, h2, h3, h4, h5, h6]) ?_ rfl ?_
  · refine Spec.up ?_
    intro W F w hr
    have hll : (sortS s.gs).length = r.L.length := by rw [hGL.names]; simp
    have hV := gp_V (bg := bg) (bo := bo) (ba := ba) (br := br) (bR := bR) hGL hk
    have hr1 : Rep W F [pkA bg grpE s, ⟨.blk bx, .cells [.ptr 0 bg 0] 25⟩, pk 0 (gpR r bo ba br bR 0)] w := by
      refine Rep.pkAt 0 (p := [_, _]) (t := []) ?_
      have g1 := Rep.cellsEq (l := 1) (cs' := [.ptr 0 bg 0]) rfl (by rfl) hr
      exact Rep.cellsEq (l := 4) (cs' := [.ptr 4 bR 0]) rfl (by rfl) g1
    refine Calls.mono (allG_iter (bx := bx) ⟨_, _, _, rfl⟩ (hGL.wfs hk) (by rw [hll]; have := hGL.lens; omega) (fun n => hGL.memok hk n) hV W F w hr1) ?_
    rintro e w' ⟨h', res, ⟨rfl, hc⟩, rfl, hr'⟩
    rcases hc with rfl | ⟨R', hs, rfl⟩
    · refine ⟨_, .tuple [], ⟨[pkA bg grpE s, ⟨.blk bx, .cells [.ptr lg bg 0] 25⟩, ⟨.blk bo, .cells [.bool true] 4⟩, ⟨.blk ba, .cells [.int .i64 (r.L.length : Int)] 3⟩, ⟨.blk br, .cells [.ptr lR bR 0] 100⟩, pkA bR rgE r], .tuple [], fun W F w hr => ?_, rfl, rfl, rfl⟩, rfl, hr'⟩
      rw [hll] at hr
      have g0 := Rep.unpkAt (p := [_, _]) (t := []) hr
      unfold gpR at g0
      have g1 := Rep.cellsEq (l := 1) (cs' := [.ptr lg bg 0]) rfl (by rfl) g0
      exact Rep.cellsEq (l := 4) (cs' := [.ptr lR bR 0]) rfl (by rfl) g1
    · exact hs.elim
  · rintro h' res ⟨rfl, rfl⟩
    refine ⟨Nat.le_of_ble_eq_true rfl, .tuple [], rfl, ?_⟩
    have e : putBack [lg, lb, lo, la, lr, lR] hs [pkA bg grpE s, ⟨.blk bx, .cells [.ptr lg bg 0] 25⟩, ⟨.blk bo, .cells [.bool true] 4⟩, ⟨.blk ba, .cells [.int .i64 (r.L.length : Int)] 3⟩, ⟨.blk br, .cells [.ptr lR bR 0] 100⟩, pkA bR rgE r] = setN hs la ⟨.blk ba, .cells [.int .i64 (r.L.length : Int)] 3⟩ := by
      simp only [distinct, Bool.and_eq_true, Bool.not_eq_true', List.contains_eq_any_beq, List.any_cons, List.any_nil, Bool.or_false, Bool.or_eq_false_iff, beq_eq_false_iff_ne, ne_eq, Bool.and_true, List.elem_cons, List.elem_nil] at hd
      have s1 : ∀ (j : Nat) (v w : Ent), j ≠ la → nth hs j = some v → nth (setN hs la w) j = some v := fun j v w hj hv => by
        rw [nth_eq, setN_eq, List.getElem?_set, if_neg (fun e => hj e.symm), ← nth_eq]; exact hv
      simp only [putBack, appE_eq, List.append_nil]
      rw [setN_selfA h6, setN_selfA h5, setN_selfA h1]
      rw [setN_selfA (s1 lr _ _ (by grind) h3), setN_selfA (s1 lR _ _ (by grind) h4)]
    rw [e]
    exact hN
theorem gpT_ok : AllOk Try.prog gpT := ⟨known9_ok, ints_ok, rMk_ok, rRm_ok, rPt_ok, rGn_ok, rEm_ok, rOf_ok, rMem_ok, gOf_ok, gMb_ok, inl_ok trivial hmGp Try.func68 (by kernel_rfl), allGC_ok, gTb_ok⟩
/-- What the entry of facts tells. -/
theorem G_facts9 {P : Program} {Q : Exit → Act → World → Prop} {W : World} {F : List Ch} {k : List Frm} {st : Sy} {bs : List Step9} (l : Nat) (hl : nth st.heap l = some (facts9 bs))
    (h : (∀ x ∈ bs, good9 W x) → G P Q W F k st) : G P Q W F k st := fun w hr => by
  obtain ⟨c, L, hc, _, _⟩ := hr.get hl
  exact h hc.2 w hr
section
variable {W : World} {F : List Ch} {ao : Option Addr} {cap : Nat} {bs : List Step9} {bt br bc : Nat} {s : Grp} {r : RG} {i : Nat} {x : Step9} {b6 : Nat} {st : Sy}
theorem gp34 (hi : i < bs.length) (hb : bs.length ≤ 120) (h : GL s r (i + 1)) (h1 : lenN st.tmps = 163) (h2 : liveOk st.tmps [(0, .vec 0 ao bs.length cap), (3, .ptr 3 bt 0), (4, .ptr 1 bc 0), (5, .int .i64 (i : Int)), (6, .ptr 2 b6 0)]) (hh : ∀ w, Rep W F st.heap w → Rep W F [⟨.sl ao cap, .roL 3 encStep9 bs Step9.zero⟩, ⟨.blk bc, .cells [.ptr 4 br 0] 100⟩, ⟨.blk b6, .cells (encStep9 x) 105⟩, pkA bt grpE (s), pkA br rgE (r)] w) : G Try.prog (endQ Try.prog Try.f11 W F fun _ r => r = .bool true) W F (frmR [(Back W F 163 (fun x : Nat × Grp × RG => [(0, .vec 0 ao bs.length cap), (3, .ptr 2 bt 0), (4, .ptr 1 bc 0), (5, .int .i64 (x.1 : Int))]) (fun x : Nat × Grp × RG => [⟨.sl ao cap, .roL 3 encStep9 bs Step9.zero⟩, ⟨.blk bc, .cells [.ptr 3 br 0] 100⟩, pkA bt grpE (x.2.1), pkA br rgE (x.2.2)]) (fun x : Nat × Grp × RG => x.1 ≤ bs.length ∧ GL x.2.1 x.2.2 x.1) (fun x : Nat × Grp × RG => bs.length - x.1) (bs.length - i))] (bodyOf Try.f11) 34) st := by
  refine G_live 163 [(0, .vec 0 ao bs.length cap), (3, .ptr 3 bt 0), (4, .ptr 1 bc 0), (5, .int .i64 (i : Int)), (6, .ptr 2 b6 0)] [⟨.sl ao cap, .roL 3 encStep9 bs Step9.zero⟩, ⟨.blk bc, .cells [.ptr 4 br 0] 100⟩, ⟨.blk b6, .cells (encStep9 x) 105⟩, pkA bt grpE (s), pkA br rgE (r)] h1 h2 hh fun u => ?_
  refine G_run (kc := false) (ss := [37]) gpT_ok hmGp 2000 ?_
  rw [gp_34]
  have w1 : IntKind.wrap .i64 ((i : Int) + 1) = ((i + 1 : Nat) : Int) := IntWalk.i64_in _ (by omega)
  have fin : ∀ (tm : List SV) (b17 b18 bx : Nat), lenN tm = 163 → liveOk tm [(0, .vec 0 ao bs.length cap), (3, .ptr 3 bt 0), (4, .ptr 1 bc 0), (5, .int .i64 (i : Int)), (17, .ptr 4 b17 0), (18, .ptr 9 b18 0)] → G Try.prog (endQ Try.prog Try.f11 W F fun _ r => r = .bool true) W F (frmR [(Back W F 163 (fun x : Nat × Grp × RG => [(0, .vec 0 ao bs.length cap), (3, .ptr 2 bt 0), (4, .ptr 1 bc 0), (5, .int .i64 (x.1 : Int))]) (fun x : Nat × Grp × RG => [⟨.sl ao cap, .roL 3 encStep9 bs Step9.zero⟩, ⟨.blk bc, .cells [.ptr 3 br 0] 100⟩, pkA bt grpE (x.2.1), pkA br rgE (x.2.2)]) (fun x : Nat × Grp × RG => x.1 ≤ bs.length ∧ GL x.2.1 x.2.2 x.1) (fun x : Nat × Grp × RG => bs.length - x.1) (bs.length - i))] (bodyOf Try.f11) 37) ⟨tm, [⟨.sl ao cap, .roL 3 encStep9 bs Step9.zero⟩, ⟨.blk bc, .cells [.ptr 4 br 0] 100⟩, ⟨.blk b6, .cells (encStep9 x) 105⟩, pkA bt grpE s, pkA br rgE r, ⟨.blk b17, .cells [.int .i64 (r.L.length : Int)] 3⟩, ⟨.blk b18, .cells [.bool true] 4⟩, ⟨.blk bx, .cells [.ptr 3 bt 0] 25⟩]⟩ := fun tm b17 b18 bx g1 g2 => by
    refine G_live 163 [(0, .vec 0 ao bs.length cap), (3, .ptr 3 bt 0), (4, .ptr 1 bc 0), (5, .int .i64 (i : Int)), (17, .ptr 4 b17 0), (18, .ptr 9 b18 0)] [⟨.sl ao cap, .roL 3 encStep9 bs Step9.zero⟩, ⟨.blk bc, .cells [.ptr 5 br 0] 100⟩, ⟨.blk b6, .cells (encStep9 x) 105⟩, pkA bt grpE s, ⟨.blk b17, .cells [.int .i64 (r.L.length : Int)] 3⟩, ⟨.blk br, .cells [.vec 6 r.aoL r.L.length r.capL, .vec 7 r.aoN r.notes.length r.capN] 103⟩, ⟨.sl r.aoL r.capL, .vecL 112 2 encR r.L zR⟩, ⟨.sl r.aoN r.capN, .vecL 9 1 encS r.notes ByteArray.empty⟩, pk 0 (r.L.map pidE), ⟨.blk b18, .cells [.bool true] 4⟩] g1 g2 (fun w hr => ?_) fun u => ?_
    · have q1 := Rep.pick (π := [4, 0, 1, 2, 3, 5, 6]) (by decide) rfl hr
      have q2 : Rep W F (rgE r br ++ _) w := Rep.unpkA (S := rgE) (s := r) (b := br) (t := [_, _, _, _, _, _]) q1
      have q3 := Rep.pick (π := [4, 5, 6, 7, 8, 0, 1, 2, 3, 9]) (by decide) rfl q2
      have q4 := Rep.cellsEq (l := 1) (cs' := [.ptr 5 br 0]) rfl (by rfl) q3
      exact Rep.cellsEq (l := 5) (cs' := [.vec 6 r.aoL r.L.length r.capL, .vec 7 r.aoN r.notes.length r.capN]) rfl (by rfl) q4
    · refine G_run (kc := false) (ss := []) gpT_ok hmGp 2000 ?_
      rw [gp_37, bne_self_eq_false]
      refine ⟨rfl, rfl, rfl, rfl, ?_⟩
      refine G_back (i + 1, s, r) ⟨by dsimp only; omega, h⟩ (by dsimp only; omega) rfl ⟨rfl, rfl, rfl, congrArg (Value.int .i64) w1, trivial⟩ (fun w hr => ?_)
      have q1 := Rep.pick (π := [5, 6, 7, 8, 0, 1, 3]) (by decide) rfl hr
      have q2 := Rep.cellsEq (l := 0) (cs' := [.vec 1 r.aoL r.L.length r.capL, .vec 2 r.aoN r.notes.length r.capN]) rfl (by rfl) q1
      have q3 : Rep W F (pkA br rgE r :: _) w := Rep.pkA (S := rgE) (s := r) (b := br) (t := [_, _, _]) q2
      have q4 := Rep.pick (π := [1, 2, 3, 0]) (by decide) rfl q3
      exact Rep.cellsEq (l := 1) (cs' := [.ptr 3 br 0]) rfl (by rfl) q4
  repeat' first
    | exact rfl
    | exact fin _ _ _ _ rfl ⟨rfl, rfl, rfl, rfl, rfl, rfl, trivial⟩
    | (refine ⟨s, r, i + 1, 3, bt, 4, br, rfl, rfl, rfl, rfl, rfl, rfl, rfl, ⟨h, by omega⟩, ?_⟩)
    | exact Nat.le_refl _
    | apply And.intro
    | (refine fun _ => ?_)
    | fail
theorem gp30 (hi : i < bs.length) (hb : bs.length ≤ 120) (h : GL s r (i + 1)) (e : Int) (h1 : lenN st.tmps = 163) (h2 : liveOk st.tmps [(0, .vec 0 ao bs.length cap), (3, .ptr 3 bt 0), (4, .ptr 1 bc 0), (5, .int .i64 (i : Int)), (6, .ptr 2 b6 0), (7, .int .i64 e), (8, .int .i64 e)]) (hh : ∀ w, Rep W F st.heap w → Rep W F [⟨.sl ao cap, .roL 3 encStep9 bs Step9.zero⟩, ⟨.blk bc, .cells [.ptr 4 br 0] 100⟩, ⟨.blk b6, .cells (encStep9 x) 105⟩, pkA bt grpE (s), pkA br rgE (r)] w) : G Try.prog (endQ Try.prog Try.f11 W F fun _ r => r = .bool true) W F (frmR [(Back W F 163 (fun x : Nat × Grp × RG => [(0, .vec 0 ao bs.length cap), (3, .ptr 2 bt 0), (4, .ptr 1 bc 0), (5, .int .i64 (x.1 : Int))]) (fun x : Nat × Grp × RG => [⟨.sl ao cap, .roL 3 encStep9 bs Step9.zero⟩, ⟨.blk bc, .cells [.ptr 3 br 0] 100⟩, pkA bt grpE (x.2.1), pkA br rgE (x.2.2)]) (fun x : Nat × Grp × RG => x.1 ≤ bs.length ∧ GL x.2.1 x.2.2 x.1) (fun x : Nat × Grp × RG => bs.length - x.1) (bs.length - i))] (bodyOf Try.f11) 30) st := by
  refine G_live 163 [(0, .vec 0 ao bs.length cap), (3, .ptr 3 bt 0), (4, .ptr 1 bc 0), (5, .int .i64 (i : Int)), (6, .ptr 2 b6 0), (7, .int .i64 e), (8, .int .i64 e)] [⟨.sl ao cap, .roL 3 encStep9 bs Step9.zero⟩, ⟨.blk bc, .cells [.ptr 4 br 0] 100⟩, ⟨.blk b6, .cells (encStep9 x) 105⟩, pkA bt grpE (s), pkA br rgE (r)] h1 h2 hh fun u => ?_
  refine G_run (kc := true) (ss := [34, 200003]) gpT_ok hmGp 2000 ?_
  rw [gp_30, h.rof x.pid, h.mem x.name]
  have hrok := h.rok (by omega)
  have hmo := h.memok (by omega) x.name
  have hml : (rMem r.L x.name).length ≤ 1000000 := by
    unfold rMem
    split
    · by_cases hk : rAt r.L x.name < r.L.length
      · have e : r.L.getD (rAt r.L x.name) zR = r.L[rAt r.L x.name] := getD_ltR _ _ _ hk
        rw [e]; have := hrok.2.2 _ (List.getElem_mem hk); omega
      · have e : r.L.getD (rAt r.L x.name) zR = zR := by simp only [Nat.not_lt] at hk; simp [List.getD, hk]
        rw [e]; exact Nat.zero_le _
    · exact Nat.zero_le _
  have hse : ∀ y : ByteArray, sEq y y = true := fun y => (sEqG y y).2 rfl
  simp only [bne_self_eq_false, hse, beq_self_eq_true, Bool.not_true]
  repeat' first
    | exact rfl
    | exact trivial
    | exact HEq.rfl
    | exact hrok
    | exact hmo
    | exact hml
    | exact gp34 hi hb h rfl ⟨rfl, rfl, rfl, rfl, rfl, trivial⟩ (fun w hr => Rep.dropR (t := [_, _]) hr)
    | (refine ⟨rMem r.L x.name, rfl, rfl, ?_⟩)
    | apply And.intro
    | (refine ⟨rfl, ?_⟩)
    | (refine ⟨trivial, ?_⟩)
    | (refine fun _ => ?_)
    | fail
theorem gp20 (hi : i < bs.length) (hb : bs.length ≤ 120) (h : GL s r i) (hn : x.name.size ≤ 100) (h1 : lenN st.tmps = 163) (h2 : liveOk st.tmps [(0, .vec 0 ao bs.length cap), (3, .ptr 3 bt 0), (4, .ptr 1 bc 0), (5, .int .i64 (i : Int)), (6, .ptr 2 b6 0), (7, .int .i64 0), (8, .int .i64 0)]) (hh : ∀ w, Rep W F st.heap w → Rep W F [⟨.sl ao cap, .roL 3 encStep9 bs Step9.zero⟩, ⟨.blk bc, .cells [.ptr 4 br 0] 100⟩, ⟨.blk b6, .cells (encStep9 x) 105⟩, pkA bt grpE (s), pkA br rgE (r)] w) : G Try.prog (endQ Try.prog Try.f11 W F fun _ r => r = .bool true) W F (frmR [(Back W F 163 (fun x : Nat × Grp × RG => [(0, .vec 0 ao bs.length cap), (3, .ptr 2 bt 0), (4, .ptr 1 bc 0), (5, .int .i64 (x.1 : Int))]) (fun x : Nat × Grp × RG => [⟨.sl ao cap, .roL 3 encStep9 bs Step9.zero⟩, ⟨.blk bc, .cells [.ptr 3 br 0] 100⟩, pkA bt grpE (x.2.1), pkA br rgE (x.2.2)]) (fun x : Nat × Grp × RG => x.1 ≤ bs.length ∧ GL x.2.1 x.2.2 x.1) (fun x : Nat × Grp × RG => bs.length - x.1) (bs.length - i))] (bodyOf Try.f11) 20) st := by
  refine G_live 163 [(0, .vec 0 ao bs.length cap), (3, .ptr 3 bt 0), (4, .ptr 1 bc 0), (5, .int .i64 (i : Int)), (6, .ptr 2 b6 0), (7, .int .i64 0), (8, .int .i64 0)] [⟨.sl ao cap, .roL 3 encStep9 bs Step9.zero⟩, ⟨.blk bc, .cells [.ptr 4 br 0] 100⟩, ⟨.blk b6, .cells (encStep9 x) 105⟩, pkA bt grpE (s), pkA br rgE (r)] h1 h2 hh fun u => ?_
  refine G_run (kc := true) (ss := [30, 200003]) gpT_ok hmGp 900 ?_
  rw [gp_20]
  have hrok := h.rok (by omega)
  refine ⟨rfl, rfl, rfl, rfl, rfl, rfl, HEq.rfl, fun nb => ⟨⟨rfl, rfl, rfl, trivial⟩, rfl, rfl, rfl, HEq.rfl, hrok, fun ao2 cap2 => ⟨⟨rfl, rfl, rfl, trivial⟩, ?_⟩⟩⟩
  obtain ⟨q1, q2⟩ := h.make x.name hn nb ao2 cap2
  exact gp30 hi hb q2 (gMake s x.name nb).2 rfl ⟨rfl, rfl, rfl, rfl, rfl, rfl, congrArg (Value.int .i64) q1.symm, trivial⟩ (fun w hr => hr)
theorem gp22 (hi : i < bs.length) (hb : bs.length ≤ 120) (h : GL s r i) (h1 : lenN st.tmps = 163) (h2 : liveOk st.tmps [(0, .vec 0 ao bs.length cap), (3, .ptr 3 bt 0), (4, .ptr 1 bc 0), (5, .int .i64 (i : Int)), (6, .ptr 2 b6 0), (7, .int .i64 0), (8, .int .i64 0)]) (hh : ∀ w, Rep W F st.heap w → Rep W F [⟨.sl ao cap, .roL 3 encStep9 bs Step9.zero⟩, ⟨.blk bc, .cells [.ptr 4 br 0] 100⟩, ⟨.blk b6, .cells (encStep9 x) 105⟩, pkA bt grpE (s), pkA br rgE (r)] w) : G Try.prog (endQ Try.prog Try.f11 W F fun _ r => r = .bool true) W F (frmR [(Back W F 163 (fun x : Nat × Grp × RG => [(0, .vec 0 ao bs.length cap), (3, .ptr 2 bt 0), (4, .ptr 1 bc 0), (5, .int .i64 (x.1 : Int))]) (fun x : Nat × Grp × RG => [⟨.sl ao cap, .roL 3 encStep9 bs Step9.zero⟩, ⟨.blk bc, .cells [.ptr 3 br 0] 100⟩, pkA bt grpE (x.2.1), pkA br rgE (x.2.2)]) (fun x : Nat × Grp × RG => x.1 ≤ bs.length ∧ GL x.2.1 x.2.2 x.1) (fun x : Nat × Grp × RG => bs.length - x.1) (bs.length - i))] (bodyOf Try.f11) 22) st := by
  refine G_live 163 [(0, .vec 0 ao bs.length cap), (3, .ptr 3 bt 0), (4, .ptr 1 bc 0), (5, .int .i64 (i : Int)), (6, .ptr 2 b6 0), (7, .int .i64 0), (8, .int .i64 0)] [⟨.sl ao cap, .roL 3 encStep9 bs Step9.zero⟩, ⟨.blk bc, .cells [.ptr 4 br 0] 100⟩, ⟨.blk b6, .cells (encStep9 x) 105⟩, pkA bt grpE (s), pkA br rgE (r)] h1 h2 hh fun u => ?_
  refine G_run (kc := true) (ss := [30, 200003]) gpT_ok hmGp 900 ?_
  rw [gp_22]
  have hrok := h.rok (by omega)
  have hnl : s.notes.length ≤ 100000000 := by rw [h.nt]; have := h.lens; omega
  refine ⟨rfl, rfl, rfl, rfl, rfl, rfl, HEq.rfl, hnl, ⟨rfl, rfl, rfl, trivial⟩, rfl, rfl, rfl, HEq.rfl, hrok, fun ao2 cap2 aoN capN => ⟨⟨rfl, rfl, rfl, trivial⟩, ?_⟩⟩
  obtain ⟨q1, q2⟩ := h.remove x.name ao2 cap2 aoN capN
  exact gp30 hi hb q2 (gRemove s x.name).2 rfl ⟨rfl, rfl, rfl, rfl, rfl, rfl, congrArg (Value.int .i64) q1.symm, trivial⟩ (fun w hr => hr)
theorem gp26 (hi : i < bs.length) (hb : bs.length ≤ 120) (h : GL s r i) (hw : (Lit.int .i64 x.pid).wf = true) (h1 : lenN st.tmps = 163) (h2 : liveOk st.tmps [(0, .vec 0 ao bs.length cap), (3, .ptr 3 bt 0), (4, .ptr 1 bc 0), (5, .int .i64 (i : Int)), (6, .ptr 2 b6 0), (7, .int .i64 0), (8, .int .i64 0)]) (hh : ∀ w, Rep W F st.heap w → Rep W F [⟨.sl ao cap, .roL 3 encStep9 bs Step9.zero⟩, ⟨.blk bc, .cells [.ptr 4 br 0] 100⟩, ⟨.blk b6, .cells (encStep9 x) 105⟩, pkA bt grpE (s), pkA br rgE (r)] w) : G Try.prog (endQ Try.prog Try.f11 W F fun _ r => r = .bool true) W F (frmR [(Back W F 163 (fun x : Nat × Grp × RG => [(0, .vec 0 ao bs.length cap), (3, .ptr 2 bt 0), (4, .ptr 1 bc 0), (5, .int .i64 (x.1 : Int))]) (fun x : Nat × Grp × RG => [⟨.sl ao cap, .roL 3 encStep9 bs Step9.zero⟩, ⟨.blk bc, .cells [.ptr 3 br 0] 100⟩, pkA bt grpE (x.2.1), pkA br rgE (x.2.2)]) (fun x : Nat × Grp × RG => x.1 ≤ bs.length ∧ GL x.2.1 x.2.2 x.1) (fun x : Nat × Grp × RG => bs.length - x.1) (bs.length - i))] (bodyOf Try.f11) 26) st := by
  refine G_live 163 [(0, .vec 0 ao bs.length cap), (3, .ptr 3 bt 0), (4, .ptr 1 bc 0), (5, .int .i64 (i : Int)), (6, .ptr 2 b6 0), (7, .int .i64 0), (8, .int .i64 0)] [⟨.sl ao cap, .roL 3 encStep9 bs Step9.zero⟩, ⟨.blk bc, .cells [.ptr 4 br 0] 100⟩, ⟨.blk b6, .cells (encStep9 x) 105⟩, pkA bt grpE (s), pkA br rgE (r)] h1 h2 hh fun u => ?_
  refine G_run (kc := true) (ss := [30, 200003]) gpT_ok hmGp 900 ?_
  rw [gp_26]
  have hrok := h.rok (by omega)
  have hnl : r.notes.length ≤ 10000 := by have := h.lens; omega
  have hgo := h.gok (by omega) x.pid
  repeat' first
    | exact rfl
    | exact trivial
    | exact HEq.rfl
    | exact hrok
    | exact hnl
    | exact hgo
    | exact h.gk
    | exact h.ratok x.pid
    | (refine fun ao1 cap1 ao2 cap2 aoN capN => ⟨⟨rfl, rfl, rfl, trivial⟩, ?_⟩
       obtain ⟨q1, q2⟩ := h.put x.pid hw x.name _ _ ao1 cap1 ao2 cap2 aoN capN
       exact gp30 hi hb q2 _ rfl ⟨rfl, rfl, rfl, rfl, rfl, rfl, congrArg (Value.int .i64) q1.symm, trivial⟩ (fun w hr => hr))
    | apply And.intro
    | (refine ⟨rfl, ?_⟩)
    | (refine fun ao0 cap0 => ?_)
    | fail
theorem gp28 (hi : i < bs.length) (hb : bs.length ≤ 120) (h : GL s r i) (h1 : lenN st.tmps = 163) (h2 : liveOk st.tmps [(0, .vec 0 ao bs.length cap), (3, .ptr 3 bt 0), (4, .ptr 1 bc 0), (5, .int .i64 (i : Int)), (6, .ptr 2 b6 0), (7, .int .i64 0), (8, .int .i64 0)]) (hh : ∀ w, Rep W F st.heap w → Rep W F [⟨.sl ao cap, .roL 3 encStep9 bs Step9.zero⟩, ⟨.blk bc, .cells [.ptr 4 br 0] 100⟩, ⟨.blk b6, .cells (encStep9 x) 105⟩, pkA bt grpE (s), pkA br rgE (r)] w) : G Try.prog (endQ Try.prog Try.f11 W F fun _ r => r = .bool true) W F (frmR [(Back W F 163 (fun x : Nat × Grp × RG => [(0, .vec 0 ao bs.length cap), (3, .ptr 2 bt 0), (4, .ptr 1 bc 0), (5, .int .i64 (x.1 : Int))]) (fun x : Nat × Grp × RG => [⟨.sl ao cap, .roL 3 encStep9 bs Step9.zero⟩, ⟨.blk bc, .cells [.ptr 3 br 0] 100⟩, pkA bt grpE (x.2.1), pkA br rgE (x.2.2)]) (fun x : Nat × Grp × RG => x.1 ≤ bs.length ∧ GL x.2.1 x.2.2 x.1) (fun x : Nat × Grp × RG => bs.length - x.1) (bs.length - i))] (bodyOf Try.f11) 28) st := by
  refine G_live 163 [(0, .vec 0 ao bs.length cap), (3, .ptr 3 bt 0), (4, .ptr 1 bc 0), (5, .int .i64 (i : Int)), (6, .ptr 2 b6 0), (7, .int .i64 0), (8, .int .i64 0)] [⟨.sl ao cap, .roL 3 encStep9 bs Step9.zero⟩, ⟨.blk bc, .cells [.ptr 4 br 0] 100⟩, ⟨.blk b6, .cells (encStep9 x) 105⟩, pkA bt grpE (s), pkA br rgE (r)] h1 h2 hh fun u => ?_
  refine G_run (kc := true) (ss := [30, 200003]) gpT_ok hmGp 900 ?_
  rw [gp_28]
  have hrok := h.rok (by omega)
  have hgo := h.gok (by omega) x.pid
  refine ⟨rfl, rfl, rfl, rfl, rfl, rfl, HEq.rfl, hgo, fun ao1 cap1 => ⟨⟨rfl, rfl, rfl, trivial⟩, rfl, rfl, rfl, HEq.rfl, ⟨hrok, h.ratok x.pid⟩, fun ao2 cap2 aoN capN => ⟨⟨rfl, rfl, rfl, trivial⟩, ?_⟩⟩⟩
  obtain ⟨q1, q2, _⟩ := h.gone x.pid ao1 cap1 ao2 cap2 aoN capN
  rw [q1, beq_self_eq_true, Bool.not_true]
  exact gp30 hi hb q2 0 rfl ⟨rfl, rfl, rfl, rfl, rfl, rfl, rfl, trivial⟩ (fun w hr => hr)
theorem gp14 (hi : i < bs.length) (hb : bs.length ≤ 120) (h : GL s r i) (h1 : lenN st.tmps = 163) (h2 : liveOk st.tmps [(0, .vec 0 ao bs.length cap), (3, .ptr 3 bt 0), (4, .ptr 1 bc 0), (5, .int .i64 (i : Int)), (6, .ptr 2 b6 0), (7, .int .i64 0), (8, .int .i64 0)]) (hh : ∀ w, Rep W F st.heap w → Rep W F [⟨.sl ao cap, .roL 3 encStep9 bs Step9.zero⟩, ⟨.blk bc, .cells [.ptr 4 br 0] 100⟩, ⟨.blk b6, .cells (encStep9 x) 105⟩, pkA bt grpE (s), pkA br rgE (r)] w) : G Try.prog (endQ Try.prog Try.f11 W F fun _ r => r = .bool true) W F (frmR [(Back W F 163 (fun x : Nat × Grp × RG => [(0, .vec 0 ao bs.length cap), (3, .ptr 2 bt 0), (4, .ptr 1 bc 0), (5, .int .i64 (x.1 : Int))]) (fun x : Nat × Grp × RG => [⟨.sl ao cap, .roL 3 encStep9 bs Step9.zero⟩, ⟨.blk bc, .cells [.ptr 3 br 0] 100⟩, pkA bt grpE (x.2.1), pkA br rgE (x.2.2)]) (fun x : Nat × Grp × RG => x.1 ≤ bs.length ∧ GL x.2.1 x.2.2 x.1) (fun x : Nat × Grp × RG => bs.length - x.1) (bs.length - i))] (bodyOf Try.f11) 14) st := by
  refine G_live 163 [(0, .vec 0 ao bs.length cap), (3, .ptr 3 bt 0), (4, .ptr 1 bc 0), (5, .int .i64 (i : Int)), (6, .ptr 2 b6 0), (7, .int .i64 0), (8, .int .i64 0)] [⟨.sl ao cap, .roL 3 encStep9 bs Step9.zero⟩, ⟨.blk bc, .cells [.ptr 4 br 0] 100⟩, ⟨.blk b6, .cells (encStep9 x) 105⟩, pkA bt grpE (s), pkA br rgE (r)] h1 h2 hh fun u => ?_
  refine G_run (kc := true) (ss := [30, 200003]) gpT_ok hmGp 900 ?_
  rw [gp_14]
  have hrok := h.rok (by omega)
  refine ⟨rfl, rfl, rfl, HEq.rfl, fun ao1 cap1 => ⟨rfl, rfl, rfl, rfl, HEq.rfl, hrok, fun ao2 cap2 => ?_⟩⟩
  obtain ⟨q1, q2⟩ := h.emptied ao1 cap1 ao2 cap2
  have hse : ∀ y : ByteArray, sEq y y = true := fun y => (sEqG y y).2 rfl
  rw [q1, hse, Bool.not_true]
  dsimp only
  rw [beq_self_eq_true, Bool.not_true]
  exact gp30 hi hb q2 0 rfl ⟨rfl, rfl, rfl, rfl, rfl, rfl, rfl, trivial⟩ (fun w hr => hr)
theorem gp13 (hi : i < bs.length) (hb : bs.length ≤ 120) (h : GL s r i) (hn : x.name.size ≤ 100) (hw : (Lit.int .i64 x.pid).wf = true) (h1 : lenN st.tmps = 163) (h2 : liveOk st.tmps [(0, .vec 0 ao bs.length cap), (3, .ptr 3 bt 0), (4, .ptr 1 bc 0), (5, .int .i64 (i : Int)), (6, .ptr 2 b6 0), (7, .int .i64 0), (8, .int .i64 0)]) (hh : ∀ w, Rep W F st.heap w → Rep W F [⟨.sl ao cap, .roL 3 encStep9 bs Step9.zero⟩, ⟨.blk bc, .cells [.ptr 4 br 0] 100⟩, ⟨.blk b6, .cells (encStep9 x) 105⟩, pkA bt grpE (s), pkA br rgE (r)] w) : G Try.prog (endQ Try.prog Try.f11 W F fun _ r => r = .bool true) W F (frmR [(Back W F 163 (fun x : Nat × Grp × RG => [(0, .vec 0 ao bs.length cap), (3, .ptr 2 bt 0), (4, .ptr 1 bc 0), (5, .int .i64 (x.1 : Int))]) (fun x : Nat × Grp × RG => [⟨.sl ao cap, .roL 3 encStep9 bs Step9.zero⟩, ⟨.blk bc, .cells [.ptr 3 br 0] 100⟩, pkA bt grpE (x.2.1), pkA br rgE (x.2.2)]) (fun x : Nat × Grp × RG => x.1 ≤ bs.length ∧ GL x.2.1 x.2.2 x.1) (fun x : Nat × Grp × RG => bs.length - x.1) (bs.length - i))] (bodyOf Try.f11) 13) st := by
  refine G_live 163 [(0, .vec 0 ao bs.length cap), (3, .ptr 3 bt 0), (4, .ptr 1 bc 0), (5, .int .i64 (i : Int)), (6, .ptr 2 b6 0), (7, .int .i64 0), (8, .int .i64 0)] [⟨.sl ao cap, .roL 3 encStep9 bs Step9.zero⟩, ⟨.blk bc, .cells [.ptr 4 br 0] 100⟩, ⟨.blk b6, .cells (encStep9 x) 105⟩, pkA bt grpE (s), pkA br rgE (r)] h1 h2 hh fun u => ?_
  refine G_run (kc := false) (ss := [20, 22, 26, 28, 14]) gpT_ok hmGp 900 ?_
  rw [gp_13]
  refine ⟨rfl, ?_⟩
  repeat' first
    | exact gp20 hi hb h hn rfl ⟨rfl, rfl, rfl, rfl, rfl, rfl, rfl, trivial⟩ (fun w hr => hr)
    | exact gp22 hi hb h rfl ⟨rfl, rfl, rfl, rfl, rfl, rfl, rfl, trivial⟩ (fun w hr => hr)
    | exact gp26 hi hb h hw rfl ⟨rfl, rfl, rfl, rfl, rfl, rfl, rfl, trivial⟩ (fun w hr => hr)
    | exact gp28 hi hb h rfl ⟨rfl, rfl, rfl, rfl, rfl, rfl, rfl, trivial⟩ (fun w hr => hr)
    | exact gp14 hi hb h rfl ⟨rfl, rfl, rfl, rfl, rfl, rfl, rfl, trivial⟩ (fun w hr => hr)
    | split
    | fail
end
theorem gp_ok (ao : Option Addr) (cap : Nat) (bs : List Step9) : Spec Try.prog 11 [⟨.sl ao cap, .roL 3 encStep9 bs Step9.zero⟩, facts9 bs] [.vec 0 ao bs.length cap] fun _ r => r = .bool true := by
  refine Spec.of_G 163 Try.func11 (c := bodyOf Try.f11) (by kernel_rfl) (by kernel_rfl) (Nat.le_of_ble_eq_true rfl) fun W F => ?_
  refine G_facts9 (bs := bs) 1 rfl fun hfacts => ?_
  refine G_heap (h' := [⟨.sl ao cap, .roL 3 encStep9 bs Step9.zero⟩]) (fun w hr => Rep.dropR (h := [_]) (t := [_]) hr) ?_
  refine G_run (kc := false) (ss := []) gpT_ok hmGp 900 ?_
  rw [gp_start]
  refine ⟨rfl, ?_⟩
  cases h120 : decide ((bs.length : Int) > 120) with
  | true => exact rfl
  | false =>
    simp only [decide_eq_false_iff_not] at h120
    refine ⟨rfl, fun bt bg bo => ⟨⟨rfl, rfl⟩, rfl, fun br bc => ⟨⟨rfl, rfl, rfl, Nat.le_refl _⟩, ?_⟩⟩⟩
    refine G_loopAt (ι := Nat × Grp × RG) [] (bodyOf Try.f11) [1, 1, 1, 1, 0, 1, 0] 163 (fun x : Nat × Grp × RG => [(0, .vec 0 ao bs.length cap), (3, .ptr 2 bt 0), (4, .ptr 1 bc 0), (5, .int .i64 (x.1 : Int))]) (fun x : Nat × Grp × RG => [⟨.sl ao cap, .roL 3 encStep9 bs Step9.zero⟩, ⟨.blk bc, .cells [.ptr 3 br 0] 100⟩, pkA bt grpE (x.2.1), pkA br rgE (x.2.2)]) (fun x : Nat × Grp × RG => x.1 ≤ bs.length ∧ GL x.2.1 x.2.2 x.1) (fun x : Nat × Grp × RG => bs.length - x.1) (0, ⟨bg, bo, none, 0, [], [], []⟩, ⟨none, 0, [], none, 0, []⟩) (by kernel_rfl) (fun J => by kernel_rfl) ⟨Nat.zero_le _, GL.empty bg bo⟩ rfl ⟨rfl, rfl, rfl, rfl, trivial⟩ (fun w hr => ?_) ?_
    · have q1 := Rep.nilvec 112 (sz := 2) (enc := encR) zR (fun _ => rfl) hr
      have q2 := Rep.nilvec 9 (sz := 1) (enc := encS) ByteArray.empty (fun _ => rfl) q1
      have q3 : Rep W F (pk 0 [] :: _) w := Rep.pk 0 (h := []) q2
      have q4 := Rep.pick (π := [3, 5, 6, 0, 1, 4, 2]) (by decide) rfl q3
      have q5 := Rep.cellsEq (l := 0) (cs' := [.vec 1 none 0 0, .vec 2 none 0 0]) rfl (by rfl) q4
      have q6 : Rep W F (pkA br rgE ⟨none, 0, [], none, 0, []⟩ :: _) w := Rep.pkA (S := rgE) (s := ⟨none, 0, [], none, 0, []⟩) (b := br) (t := [_, _, _]) q5
      have q7 := Rep.pick (π := [1, 2, 3, 0]) (by decide) rfl q6
      exact Rep.cellsEq (l := 1) (cs' := [.ptr 3 br 0]) rfl (by rfl) q7
    rintro ⟨i, s, r⟩ ⟨hi, h⟩ u
    dsimp only at hi h
    try dsimp only
    simp only [List.nil_append, List.cons_append]
    refine G_run (kc := false) (ss := [13]) gpT_ok hmGp 900 ?_
    rw [gp_l1]
    cases hlt : decide ((i : Int) < (bs.length : Int)) with
    | false => exact rfl
    | true =>
      simp only [decide_eq_true_eq] at hlt
      have hi2 : i < bs.length := by omega
      have hgb : ∀ d, bs.getD i d = bs[i] := fun d => by simp [List.getD, hi2]
      have hw := hfacts _ (List.getElem_mem hi2)
      rw [Int.toNat_natCast, hgb]
      generalize bs[i] = x at hw ⊢
      refine ⟨⟨rfl, rfl, rfl, by omega, by omega⟩, ⟨rfl, rfl, rfl, hi2, rfl⟩, fun b6 => ⟨⟨rfl, rfl, rfl, Nat.le_refl _⟩, rfl, ?_⟩⟩
      cases hn : decide ((x.name.size : Int) > 100) with
      | true => exact rfl
      | false =>
        simp only [decide_eq_false_iff_not] at hn
        refine gp13 (x := x) (b6 := b6) hi2 (by omega) h (by omega) hw rfl ⟨rfl, rfl, rfl, rfl, rfl, rfl, rfl, trivial⟩ (fun w hr => ?_)
        have q1 := Rep.pick (π := [0, 1, 4, 2, 3]) (by decide) rfl hr
        exact Rep.cellsEq (l := 1) (cs' := [.ptr 4 br 0]) rfl (by rfl) q1
end Go.Proofs.Ytihajdkipkfiiaa

/- YtihajdkipkfiiaaRow -/
/- A law's call with a slice of numbers as1 its argument. -/
namespace Go.Proofs.Ytihajdkipkfiiaa
open Go Go.RowKit Go.ChangeShapes
set_option linter.unusedVariables false
set_option linter.unusedSimpArgs false
set_option linter.unnecessarySimpa false

theorem ro_ints {W : World} {k : IntKind} {a : Addr} {len cap : Nat} {zs : List Int} {enc : Int → List SV} (henc : ∀ x, enc x = [.int k x]) (hl : len ≤ cap) (hz : zs.length = cap) (hcell : ∀ i, i < zs.length → W.cell? (a.add i) = some (.int k (zs.getD i 0))) :
    has W (.sl (some a) cap) (.roL 1 enc (zs.take len) 0) [] := by
  by_cases h0 : len = 0
  · subst h0
    exact ⟨rfl, (fun x => by rw [henc]; rfl), by simp, .inl (by simp)⟩
  · obtain ⟨b, off, rfl, hc⟩ := ints_at hcell (by omega)
    have hc0 := hc 0 (by omega)
    have hc1 : ∃ cur T fr, W.heap[b]? = some (.cells cur T fr) := by
      simp only [World.cell?] at hc0
      split at hc0
      · rename_i cur T fr hh; exact ⟨_, _, _, hh⟩
      · cases hc0
    obtain ⟨cur, T, fr, hb⟩ := hc1
    refine ⟨rfl, (fun x => by rw [henc]; rfl), by simp; omega, .inr ⟨b, off, cur, T, fr, rfl, hb, ?_⟩⟩
    · have hfl : ∀ l : List Int, flatV enc l = l.map fun x => Value.int k x := by
        intro l
        induction l with
        | nil => rfl
        | cons x l ih =>
          have : flatV enc (x :: l) = denL (enc x) ++ flatV enc l := by simp [flatV]
          rw [this, ih, henc]; rfl
      rw [hfl, List.map_take]
      have hlt : (zs.take len).length = len := by simp; omega
      rw [hlt, Nat.mul_one]
      apply List.ext_getElem?
      intro j
      simp only [List.getElem?_take, List.getElem?_drop, List.getElem?_map]
      split
      · rename_i hj
        have h1 := hc j (by omega)
        simp only [World.cell?, hb] at h1
        have h2 : cur.toList[off + j]? = cur[off + j]? := by simp
        simp at h1
        rw [h2, h1]
        have : j < zs.length := by omega
        simp [this]
      · rfl

/-- An argument that is a slice of numbers: the entry, its numbers. -/
theorem arg_ints {P : Program} {H : Type} {enc : TypeId × Value → H} {t e : TypeId} {k : IntKind} {fuel : Nat} {W : World} {a0 : Option Addr} {len cap : Nat} {x : DataW H × List MemPlace} {enc' : Int → List SV}
    (henc : ∀ x, enc' x = [.int k x]) (ht : P.underlying t = some (.slice e)) (he : P.underlying e = some (.int k)) (hc : P.cellsOf e = 1)
    (hf : DataW.trod enc P W 0 (fun _ => true) true fuel t [.slice a0 len cap] = some x) :
    ∃ bs : List Int, bs.length = len ∧ (∀ z ∈ bs, (Lit.int k z).wf = true) ∧ has W (.sl a0 cap) (.roL 1 enc' bs 0) [] := by
  rcases open_ints ht he hc hf with ⟨hcs, _⟩ | ⟨a, len', cap', zs, hcs, _, hl, hm, hz, _, hcell, hwz⟩
  · simp only [List.cons.injEq, Value.slice.injEq, and_true] at hcs
    obtain ⟨rfl, rfl, rfl⟩ := hcs
    exact ⟨[], rfl, (fun z hz => by cases hz), rfl, fun x => by rw [henc]; rfl, by simp, .inl rfl⟩
  · simp at hcs
    obtain ⟨rfl, rfl, rfl⟩ := hcs
    simp only [if_true] at hz
    exact ⟨zs.take len, by simp; omega, fun z hz => hwz z (List.mem_of_mem_take hz), ro_ints (k := k) (len := len) henc hl hz hcell⟩

/-- A slice whose cells are known, to be read. -/
theorem ro_gen {W : World} {α : Type} {a : Addr} {len cap : Nat} {zs : List α} {enc : α → List SV} {sv : α → SV} {d : α} (henc : ∀ x, enc x = [sv x]) (hl : len ≤ cap) (hz : zs.length = cap) (hcell : ∀ i, i < zs.length → W.cell? (a.add i) = some (den (sv (zs.getD i d)))) :
    has W (.sl (some a) cap) (.roL 1 enc (zs.take len) d) [] := by
  by_cases h0 : len = 0
  · subst h0
    exact ⟨rfl, (fun x => by rw [henc]; rfl), by simp, .inl (by simp)⟩
  · obtain ⟨b, off, spot⟩ := a
    have hspot : spot = none := by simpa [Addr.add] using World.cell?_spot (hcell 0 (by omega))
    subst hspot
    have hc : ∀ j, j < zs.length → W.cell? ⟨b, off + j, none⟩ = some (den (sv (zs.getD j d))) := fun j hj => by rw [← Go.WideShapes.add_plain]; exact hcell j hj
    have hc0 := hc 0 (by omega)
    have hc1 : ∃ cur T fr, W.heap[b]? = some (.cells cur T fr) := by
      simp only [World.cell?] at hc0
      split at hc0
      · rename_i cur T fr hh; exact ⟨_, _, _, hh⟩
      · cases hc0
    obtain ⟨cur, T, fr, hb⟩ := hc1
    refine ⟨rfl, (fun x => by rw [henc]; rfl), by simp; omega, .inr ⟨b, off, cur, T, fr, rfl, hb, ?_⟩⟩
    have hfl : ∀ l : List α, flatV enc l = l.map fun x => den (sv x) := by
      intro l
      induction l with
      | nil => rfl
      | cons x l ih =>
        have : flatV enc (x :: l) = denL (enc x) ++ flatV enc l := by simp [flatV]
        rw [this, ih, henc]; rfl
    rw [hfl, List.map_take]
    have hlt : (zs.take len).length = len := by simp; omega
    rw [hlt, Nat.mul_one]
    apply List.ext_getElem?
    intro j
    simp only [List.getElem?_take, List.getElem?_drop, List.getElem?_map]
    split
    · rename_i hj
      have h1 := hc j (by omega)
      simp only [World.cell?, hb] at h1
      have h2 : cur.toList[off + j]? = cur[off + j]? := by simp
      simp at h1
      rw [h2, h1]
      have : j < zs.length := by omega
      simp [this]
    · rfl

/-- An argument that is a slice of truth values. -/
theorem arg_bools {P : Program} {H : Type} {enc : TypeId × Value → H} {t e : TypeId} {fuel : Nat} {W : World} {a0 : Option Addr} {len cap : Nat} {x : DataW H × List MemPlace} {enc' : Bool → List SV}
    (henc : ∀ x, enc' x = [.bool x]) (ht : P.underlying t = some (.slice e)) (he : P.underlying e = some .bool) (hc : P.cellsOf e = 1)
    (hf : DataW.trod enc P W 0 (fun _ => true) true fuel t [.slice a0 len cap] = some x) :
    ∃ bs : List Bool, bs.length = len ∧ has W (.sl a0 cap) (.roL 1 enc' bs false) [] := by
  rcases Go.Deep.open_bools ht he hc hf with ⟨hcs, _⟩ | ⟨a, len', cap', B, hcs, _, hl, hm, _, hcell⟩
  · simp only [List.cons.injEq, Value.slice.injEq, and_true] at hcs
    obtain ⟨rfl, rfl, rfl⟩ := hcs
    exact ⟨[], rfl, rfl, fun x => by rw [henc]; rfl, by simp, .inl rfl⟩
  · simp at hcs
    obtain ⟨rfl, rfl, rfl⟩ := hcs
    have hlen : ((List.range cap).map B).length = cap := by simp
    refine ⟨((List.range cap).map B).take len, by simp; omega, ro_gen (sv := SV.bool) henc hl hlen fun i hi => ?_⟩
    rw [hlen] at hi
    rw [hcell i hi]
    simp [List.getD, hi, den]

/-- An argument that is a slice of texts. -/
theorem arg_strs {P : Program} {H : Type} {enc : TypeId × Value → H} {t e : TypeId} {fuel : Nat} {W : World} {a0 : Option Addr} {len cap : Nat} {x : DataW H × List MemPlace} {enc' : ByteArray → List SV}
    (henc : ∀ x, enc' x = [.str x]) (ht : P.underlying t = some (.slice e)) (he : P.underlying e = some .string) (hc : P.cellsOf e = 1)
    (hf : DataW.trod enc P W 0 (fun _ => true) true fuel t [.slice a0 len cap] = some x) :
    ∃ bs : List ByteArray, bs.length = len ∧ (∀ s ∈ bs, s.size ≤ maxLen) ∧ has W (.sl a0 cap) (.roL 1 enc' bs .empty) [] := by
  rcases Go.Deep.open_strs ht he hc hf with ⟨hcs, _⟩ | ⟨a, len', cap', m, S, hcs, _, hl, hm, hmm, _, hcell⟩
  · simp only [List.cons.injEq, Value.slice.injEq, and_true] at hcs
    obtain ⟨rfl, rfl, rfl⟩ := hcs
    exact ⟨[], rfl, (fun s hs => by cases hs), rfl, fun x => by rw [henc]; rfl, by simp, .inl rfl⟩
  · simp at hcs
    obtain ⟨rfl, rfl, rfl⟩ := hcs
    simp only [if_true] at hmm
    subst hmm
    have hlen : ((List.range m).map S).length = m := by simp
    refine ⟨((List.range m).map S).take len, by simp; omega, fun s hs => ?_, ro_gen (sv := SV.str) henc hl hlen fun i hi => ?_⟩
    · obtain ⟨i, hi, rfl⟩ := List.mem_map.1 (List.mem_of_mem_take hs)
      exact (hcell i (List.mem_range.1 hi)).2
    · rw [hlen] at hi
      rw [(hcell i hi).1]
      simp [List.getD, hi, den]

theorem calls_ints {P : Program} {H : Type} {enc : TypeId × Value → H} {f : FuncId} {t e : TypeId} {k : IntKind} {fuel : Nat} {W : World} {a0 : Option Addr} {len cap : Nat} {x : DataW H × List MemPlace} {v : SV} {enc' : Int → List SV}
    (henc : ∀ x, enc' x = [.int k x]) (ht : P.underlying t = some (.slice e)) (he : P.underlying e = some (.int k)) (hc : P.cellsOf e = 1)
    (hf : DataW.trod enc P W 0 (fun _ => true) true fuel t [.slice a0 len cap] = some x)
    (h : ∀ (ao : Option Addr) (bs : List Int) (cap : Nat), (∀ z ∈ bs, (Lit.int k z).wf = true) → Spec P f [⟨.sl ao cap, .roL 1 enc' bs 0⟩] [.vec 0 ao bs.length cap] fun _ r => r = v) :
    Calls P f #[.slice a0 len cap] W fun e W' => e = .returned (den v) ∧ Below W.heap.size W W' := by
  obtain ⟨bs, rfl, hw, hh⟩ := arg_ints henc ht he hc hf
  have h4 := Spec.rowR (W := W) (hs := [⟨.sl a0 cap, .roL 1 enc' bs 0⟩]) (fun e he => by rcases List.mem_singleton.1 he with rfl; exact hh) (h a0 bs cap hw)
  exact h4
end Go.Proofs.Ytihajdkipkfiiaa

/- YtihajdkipkfiiaaRow2 -/
/- A law's call with a slice of rows (structs of plain fields) as1 its argument. -/
namespace Go.Proofs.Ytihajdkipkfiiaa
open Go Go.RowKit Go.ChangeShapes
set_option linter.unusedVariables false
set_option linter.unusedSimpArgs false
set_option linter.unnecessarySimpa false

/-- An argument that is a slice of rows: the entry, its rows. -/
theorem arg_rows {P : Program} {H : Type} {enc : TypeId × Value → H} {t e : TypeId} {fuel : Nat} {W : World} {a0 : Option Addr} {len cap : Nat} {x : DataW H × List MemPlace} {α : Type} {enc' : α → List SV} {sz : Nat} {good : α → Prop} (d : α)
    (henc : ∀ x, (enc' x).length = sz) (ht : P.underlying t = some (.slice e)) (hc : P.cellsOf e = sz) (hpos : 0 < sz)
    (hel : ∀ n cs y, cs.length = sz → DataW.trod enc P W 0 (fun _ => true) true n e cs = some y → ∃ a, cs = denL (enc' a) ∧ good a)
    (hf : DataW.trod enc P W 0 (fun _ => true) true fuel t [.slice a0 len cap] = some x) :
    ∃ bs : List α, bs.length = len ∧ (∀ z ∈ bs, good z) ∧ has W (.sl a0 cap) (.roL sz enc' bs d) [] := by
  rcases Go.Deep.open_slice ht hf with ⟨hcs, _⟩ | ⟨a, len', cap', m, n, D, Pl, hcs, _, hl, hm, hmm, _, hx⟩
  · simp only [List.cons.injEq, Value.slice.injEq, and_true] at hcs
    obtain ⟨rfl, rfl, rfl⟩ := hcs
    exact ⟨[], rfl, (fun z hz => by cases hz), rfl, henc, by simp, .inl rfl⟩
  · simp only [List.cons.injEq, Value.slice.injEq, and_true] at hcs
    obtain ⟨rfl, rfl, rfl⟩ := hcs
    simp only [if_true] at hmm
    subst hmm
    have : Inhabited α := ⟨d⟩
    obtain ⟨A, hA⟩ := Go.Deep.choose_lt (α := α) (p := fun i a' => good a' ∧ ∀ j, j < sz → W.cell? (a.add (i * sz + j)) = (denL (enc' a'))[j]?) (fun i hi => by
      obtain ⟨cs', h1, h2⟩ := hx i hi
      rw [hc] at h1
      obtain ⟨_, hlen, hcell⟩ := World.cells?_some h1
      obtain ⟨a', rfl, hg⟩ := hel _ _ _ hlen h2
      refine ⟨a', hg, fun j hj => ?_⟩
      rw [← Go.Deep.add_add]
      exact hcell j hj)
    refine ⟨(List.range len).map A, by simp, fun z hz => ?_, rfl, henc, by simpa using hl, ?_⟩
    · obtain ⟨i, hi, rfl⟩ := List.mem_map.1 hz
      exact (hA i (by have := List.mem_range.1 hi; omega)).1
    · by_cases h0 : len = 0
      · subst h0; exact .inl rfl
      refine .inr ?_
      obtain ⟨b, off, spot⟩ := a
      have hc0 := (hA 0 (by omega)).2 0 hpos
      have hlt : 0 < (denL (enc' (A 0))).length := by rw [length_denL, henc]; exact hpos
      rw [List.getElem?_eq_getElem hlt] at hc0
      have hspot : spot = none := by simpa [Addr.add] using World.cell?_spot hc0
      subst hspot
      have hcc : ∀ i, i < m → ∀ j, j < sz → W.cell? ⟨b, off + (i * sz + j), none⟩ = (denL (enc' (A i)))[j]? := fun i hi j hj => by rw [← Go.WideShapes.add_plain]; exact (hA i hi).2 j hj
      have hc1 : ∃ cur T fr, W.heap[b]? = some (.cells cur T fr) := by
        have hc0 := hcc 0 (by omega) 0 hpos
        rw [List.getElem?_eq_getElem hlt] at hc0
        simp only [World.cell?] at hc0
        split at hc0
        · rename_i cur T fr hh; exact ⟨_, _, _, hh⟩
        · cases hc0
      obtain ⟨cur, T, fr, hb⟩ := hc1
      refine ⟨b, off, cur, T, fr, rfl, hb, ?_⟩
      have hfl : (flatV enc' ((List.range len).map A)).length = len * sz := by rw [length_flatV henc]; simp
      apply List.ext_getElem?
      intro q
      rw [List.getElem?_take, List.getElem?_drop]
      split
      · rename_i hq
        have hq : q < len * sz := by simpa using hq
        have hi : q / sz < len := (Nat.div_lt_iff_lt_mul hpos).2 hq
        have hj : q % sz < sz := Nat.mod_lt _ hpos
        have hqe : q = q / sz * sz + q % sz := by rw [Nat.mul_comm]; exact (Nat.div_add_mod q sz).symm
        have h1 := hcc (q / sz) (by omega) (q % sz) hj
        rw [hqe, flatV_get henc d _ _ _ (by simpa using hi) hj, ← hqe]
        simp only [List.getD, List.getElem?_map, List.getElem?_range hi, Option.map_some, Option.getD_some]
        rw [← h1, ← hqe]
        simp [World.cell?, hb]
      · rename_i hq
        have hq : ¬ q < len * sz := by simpa using hq
        rw [List.getElem?_eq_none (by omega)]

/-- A field of a row: a whole number. -/
theorem fld_int {P : Program} {H : Type} {enc : TypeId × Value → H} {W : World} {n : Nat} {t : TypeId} {cs : List Value} {y : DataW H × List MemPlace} {k : IntKind} (ht : P.underlying t = some (.int k)) (h : DataW.trod enc P W 0 (fun _ => true) true n t cs = some y) : ∃ z, cs = [.int k z] ∧ (Lit.int k z).wf = true := by
  obtain ⟨z, h1, _, h2⟩ := DataW.trod_int ht h
  exact ⟨z, h1, h2⟩
theorem fld_str {P : Program} {H : Type} {enc : TypeId × Value → H} {W : World} {n : Nat} {t : TypeId} {cs : List Value} {y : DataW H × List MemPlace} (ht : P.underlying t = some .string) (h : DataW.trod enc P W 0 (fun _ => true) true n t cs = some y) : ∃ s : ByteArray, cs = [.string s] ∧ s.size ≤ maxLen := by
  obtain ⟨z, h1, _, h2⟩ := DataW.trod_string ht h
  exact ⟨z, h1, h2⟩
theorem fld_bool {P : Program} {H : Type} {enc : TypeId × Value → H} {W : World} {n : Nat} {t : TypeId} {cs : List Value} {y : DataW H × List MemPlace} (ht : P.underlying t = some .bool) (h : DataW.trod enc P W 0 (fun _ => true) true n t cs = some y) : ∃ s : Bool, cs = [.bool s] := by
  obtain ⟨z, h1, _⟩ := DataW.trod_bool ht h
  exact ⟨z, h1⟩
/-- A struct's cells are its fields' cells. -/
theorem cut_cells : ∀ (cs : List Value) (i : Nat) (v : Value), (cs.drop i).take 1 = [v] → cs[i]? = some v
  | [], i, v, h => by simp at h
  | c :: cs, 0, v, h => by simp at h; simp [h]
  | c :: cs, i + 1, v, h => by simpa using cut_cells cs i v (by simpa using h)
end Go.Proofs.Ytihajdkipkfiiaa

/- YtihajdkipkfiiaaGpR -/
/- A row of the argument of GroupPlays. -/
namespace Go.Proofs.Ytihajdkipkfiiaa
open Go Go.RowKit
set_option linter.unusedVariables false
set_option linter.unusedSimpArgs false
set_option linter.unnecessarySimpa false
set_option maxHeartbeats 0
open Go.ChangeShapes
theorem step9_row {H : Type} {enc : TypeId × Value → H} {W : World} (n : Nat) (cs : List Value) (y : DataW H × List MemPlace) (hcs : cs.length = 3) (h : DataW.trod enc Try.prog W 0 (fun _ => true) true n 105 cs = some y) : ∃ a, cs = denL (encStep9 a) ∧ good9 W a := by
  obtain ⟨xs, m, _, _, hl, hlen, hf⟩ := DataW.trod_struct Try.underlying105 h
  have hlen : xs.length = 3 := hlen
  match xs, hlen with
  | [y0, y1, y2], _ =>
  have c3 : Try.prog.cellsOf 3 = 1 := by kernel_rfl
  have c9 : Try.prog.cellsOf 9 = 1 := by kernel_rfl
  have c4 : Try.prog.cellsOf 4 = 1 := by kernel_rfl
  have q0 := hf 0 _ rfl
  obtain ⟨a0, e0, w0⟩ := fld_int Try.underlying3 q0
  have q1 := hf 1 _ rfl
  obtain ⟨a1, e1, w1⟩ := fld_int Try.underlying3 q1
  have q2 := hf 2 _ rfl
  obtain ⟨a2, e2, w2⟩ := fld_str Try.underlying9 q2
  clear hf
  obtain ⟨v0, cs0, rfl⟩ := List.exists_cons_of_length_eq_add_one hcs
  have hc0 : cs0.length = 2 := by simpa using hcs
  obtain ⟨v1, cs1, rfl⟩ := List.exists_cons_of_length_eq_add_one hc0
  have hc1 : cs1.length = 1 := by simpa using hc0
  obtain ⟨v2, cs2, rfl⟩ := List.exists_cons_of_length_eq_add_one hc1
  have hc2 : cs2.length = 0 := by simpa using hc1
  obtain rfl := List.eq_nil_of_length_eq_zero hc2
  have g0 : (([v0, v1, v2] : List Value).drop 0).take (Try.prog.cellsOf 3) = [.int .i64 a0] := e0
  rw [c3] at g0
  have k0 := cut_cells _ _ _ g0
  have j0 : v0 = .int .i64 a0 := Option.some.inj k0
  have g1 : (([v0, v1, v2] : List Value).drop 1).take (Try.prog.cellsOf 3) = [.int .i64 a1] := e1
  rw [c3] at g1
  have k1 := cut_cells _ _ _ g1
  have j1 : v1 = .int .i64 a1 := Option.some.inj k1
  have g2 : (([v0, v1, v2] : List Value).drop 2).take (Try.prog.cellsOf 9) = [.string a2] := e2
  rw [c9] at g2
  have k2 := cut_cells _ _ _ g2
  have j2 : v2 = .string a2 := Option.some.inj k2
  subst j0 j1 j2
  exact ⟨⟨a0, a1, a2⟩, rfl, w1⟩
end Go.Proofs.Ytihajdkipkfiiaa

