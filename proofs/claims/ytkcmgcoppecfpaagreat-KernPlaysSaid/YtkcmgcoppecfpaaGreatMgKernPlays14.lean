import Derived.Test.YtkcmgcoppecfpaaGreatMgKernPlays13
import Derived.Test.YtkcmgcoppecfpaaGreatMgKernPlays9
import Derived.Test.YtkcmgcoppecfpaaGreatMgKernPlays6
import Derived.Test.YtkcmgcoppecfpaaGreatMgKernPlays5
import Derived.Test.YtkcmgcoppecfpaaGreatMgKernPlays11
import Derived.Test.YtkcmgcoppecfpaaGreatMgKernPlays12
import Derived.Test.YtkcmgcoppecfpaaGreatMgKernPlays8
set_option linter.unusedVariables false
set_option linter.unusedSimpArgs false
set_option linter.unnecessarySimpa false
set_option maxHeartbeats 0
set_option maxRecDepth 100000
/- The document's table: All, New; rows compared. -/
namespace Go.Proofs.YtkcmgcoppecfpaaGreat
open Go Go.RowKit

theorem rtAll_spec {t : PT} (ho : pOk t) (b : Nat) (ao : Option Addr) (cap : Nat) : Spec Tryz.prog 43 [⟨.blk b, .cells [.vec 1 ao (rL t).length cap, .int .i64 t.room, .int .i64 t.last] 137⟩, ⟨.sl ao cap, .vecL 134 8 encR (rL t) PR.zero⟩] [.ptr 0 b 0] (fun h' r => ∃ ao' cap', h' = [⟨.blk b, .cells [.vec 1 ao (rL t).length cap, .int .i64 t.room, .int .i64 t.last] 137⟩, ⟨.sl ao cap, .vecL 134 8 encR (rL t) PR.zero⟩, ⟨.sl ao' cap', .vecL 38 6 encP6 (rL t) PR.zero⟩] ∧ r = .vec 2 ao' (rL t).length cap') := by
  refine Spec.up ?_
  refine Spec.of_G 26 Tryz.func43 (c := bodyOf Tryz.f43) (by kernel_rfl) (by kernel_rfl) (Nat.le_of_ble_eq_true rfl) fun W F => ?_
  refine G_run (kc := false) (ss := []) (Cs := []) trivial hmP 600 ?_
  rw [rt_all]
  have hlen : (rL t).length ≤ 1000000 := by rw [rL_len]; exact ho.len
  refine G_loopAt (ι := Nat × List PR × Option Addr × Nat) [] (bodyOf Tryz.f43) [1, 1, 0, 1, 0] 26 (fun x => [(0, .ptr 0 b 0), (3, .vec 2 x.2.2.1 x.2.1.length x.2.2.2), (4, .int .i64 ((x.1 : Nat) : Int))]) (fun x => [⟨.blk b, .cells [.vec 1 ao (rL t).length cap, .int .i64 t.room, .int .i64 t.last] 137⟩, ⟨.sl ao cap, .vecL 134 8 encR (rL t) PR.zero⟩, ⟨.sl x.2.2.1 x.2.2.2, .vecL 38 6 encP6 x.2.1 PR.zero⟩]) (fun x => x.1 ≤ (rL t).length ∧ x.2.1 = (rL t).take x.1) (fun x => (rL t).length - x.1) (0, [], none, 0) (by kernel_rfl) (fun J => by kernel_rfl) ⟨Nat.zero_le _, rfl⟩ rfl ⟨rfl, rfl, rfl, trivial⟩ (fun w hw => Rep.nilvec 38 (sz := 6) (enc := encP6) PR.zero (fun _ => rfl) hw) ?_
  rintro ⟨i, ys, ay, cy⟩ ⟨hi, hv⟩ u
  dsimp only at hi hv
  try dsimp only
  simp only [List.nil_append, List.cons_append]
  refine G_run (kc := false) (ss := []) (Cs := []) trivial hmP 900 ?_
  rw [rt_all1]
  have hyl : ys.length = i := by rw [hv]; simp; omega
  cases hlt : decide ((i : Int) < ((rL t).length : Int)) with
  | false =>
    simp only [decide_eq_false_iff_not] at hlt
    rw [List.take_of_length_le (by omega)] at hv
    subst hv
    have fin : up (fun h' r => ∃ ao' cap', h' = [⟨.blk b, .cells [.vec 1 ao (rL t).length cap, .int .i64 t.room, .int .i64 t.last] 137⟩, ⟨.sl ao cap, .vecL 134 8 encR (rL t) PR.zero⟩, ⟨.sl ao' cap', .vecL 38 6 encP6 (rL t) PR.zero⟩] ∧ r = .vec 2 ao' (rL t).length cap') [⟨.blk b, .cells [.vec 1 ao (rL t).length cap, .int .i64 t.room, .int .i64 t.last] 137⟩, ⟨.sl ao cap, .vecL 134 8 encR (rL t) PR.zero⟩, ⟨.sl ay cy, .vecL 38 6 encP6 (rL t) PR.zero⟩] (.vec 2 ay (rL t).length cy) := ⟨_, _, fun W F w hr => hr, rfl, ay, cy, rfl, rfl⟩
    first
      | exact fin
      | exact ⟨rfl, fin⟩
  | true =>
    simp only [decide_eq_true_eq] at hlt
    have hi2 : i < (rL t).length := by omega
    have w1 : IntKind.wrap .i64 ((i : Int) + 1) = ((i + 1 : Nat) : Int) := IntWalk.i64_in _ (by omega)
    have hg := getD_ltR (rL t) PR.zero i hi2
    have hnx : ys ++ [(rL t)[i]] = (rL t).take (i + 1) := by rw [List.take_succ_eq_append_getElem hi2, hv]
    rw [Int.toNat_natCast, hg, hyl]
    have hnl : (ys ++ [(rL t)[i]]).length = i + 1 := by simp [hyl]
    have fin : ∀ (tm : List SV) (ao2 : Option Addr) (cap2 : Nat) (x : List Ent), lenN tm = 26 → liveOk tm [(0, .ptr 0 b 0), (3, .vec 2 ao2 (i + 1) cap2), (4, .int .i64 ((i + 1 : Nat) : Int))] → G Tryz.prog (endQ Tryz.prog Tryz.f43 W F (up fun h' r => ∃ ao' cap', h' = [⟨.blk b, .cells [.vec 1 ao (rL t).length cap, .int .i64 t.room, .int .i64 t.last] 137⟩, ⟨.sl ao cap, .vecL 134 8 encR (rL t) PR.zero⟩, ⟨.sl ao' cap', .vecL 38 6 encP6 (rL t) PR.zero⟩] ∧ r = .vec 2 ao' (rL t).length cap')) W F (.loop (Back W F 26 (fun x : Nat × List PR × Option Addr × Nat => [(0, .ptr 0 b 0), (3, .vec 2 x.2.2.1 x.2.1.length x.2.2.2), (4, .int .i64 ((x.1 : Nat) : Int))]) (fun x => [⟨.blk b, .cells [.vec 1 ao (rL t).length cap, .int .i64 t.room, .int .i64 t.last] 137⟩, ⟨.sl ao cap, .vecL 134 8 encR (rL t) PR.zero⟩, ⟨.sl x.2.2.1 x.2.2.2, .vecL 38 6 encP6 x.2.1 PR.zero⟩]) (fun x => x.1 ≤ (rL t).length ∧ x.2.1 = (rL t).take x.1) (fun x => (rL t).length - x.1) ((rL t).length - i)) :: .blk 0 :: frm [] (bodyOf Tryz.f43) [1, 1, 1] []) ⟨tm, [⟨.blk b, .cells [.vec 1 ao (rL t).length cap, .int .i64 t.room, .int .i64 t.last] 137⟩, ⟨.sl ao cap, .vecL 134 8 encR (rL t) PR.zero⟩, ⟨.sl ao2 cap2, .vecL 38 6 encP6 (ys ++ [(rL t)[i]]) PR.zero⟩] ++ x⟩ := fun tm ao2 cap2 x g1 g2 =>
      G_back (i + 1, ys ++ [(rL t)[i]], ao2, cap2) ⟨by dsimp only; omega, hnx⟩ (by dsimp only; omega) g1 (by dsimp only; rw [hnl]; exact g2) (fun w hw => Rep.dropR hw)
    repeat' first
      | exact rfl
      | exact hi2
      | exact fin _ _ _ [_] rfl ⟨rfl, rfl, congrArg (Value.int .i64) w1, trivial⟩
      | (refine ⟨[(rL t)[i]], rfl, rfl, fun ao2 cap2 _ => ?_⟩)
      | apply And.intro
      | (show _ ≤ _; omega)
      | (show _ < _; omega)
      | (refine fun b1 => ?_)
      | fail
theorem rAll_ok : CtrOk Tryz.prog 43 rAllC := by
  intro args hs N h
  unfold rAllC at h
  split at h
  case h_2 => exact h.elim
  rename_i l b
  split at h
  case h_2 => exact h.elim
  rename_i b' σ' p s hl
  obtain ⟨rfl, rfl, hp, ho, hN⟩ := h
  cases hp
  simp only [cast_eq] at ho hN
  obtain ⟨t, ao, cap⟩ := s
  refine Spec.at (hp := [pkA b' rtE ⟨t, ao, cap⟩]) (args' := [.ptr 0 b' 0]) (Post' := fun h' r => ∃ ao' cap', h' = [pkA b' rtE ⟨t, ao, cap⟩, ⟨.sl ao' cap', .vecL 38 6 encP6 (rL t) PR.zero⟩] ∧ r = .vec 1 ao' (rL t).length cap') [l] (by simp [distinct]) (by simp [pickE, hl, pkA]) ?_ rfl ?_
  · intro W F w hr
    refine Calls.mono (rtAll_spec ho b' ao cap W F w hr.unpkA1) ?_
    rintro e w' ⟨h', r, ⟨ao', cap', rfl, rfl⟩, rfl, hr'⟩
    exact ⟨_, .vec 1 ao' (rL t).length cap', ⟨ao', cap', rfl, rfl⟩, rfl, Rep.pkA (S := rtE) (s := ⟨t, ao, cap⟩) (t := [⟨.sl ao' cap', .vecL 38 6 encP6 (rL t) PR.zero⟩]) hr'⟩
  · rintro h' r ⟨ao', cap', rfl, rfl⟩
    refine ⟨Nat.le_of_ble_eq_true rfl, .vec (lenN hs) ao' (rL t).length cap', rfl, ?_⟩
    have e0 : setN hs l (pkA b' rtE ⟨t, ao, cap⟩) = hs := setN_selfR hl
    simpa [putBack, appE_eq, snoc_eq, e0] using hN ao' cap'
theorem mnmx (room : Int) : mxI 0 (mnI room 64) = mnI (mxI room 0) 64 := by
  unfold mxI mnI
  repeat' split
  all_goals omega
theorem rNew_ok : CtrOk Tryz.prog 62 rNewC := by
  intro args hs N h
  unfold rNewC at h
  split at h
  case h_2 => exact h.elim
  rename_i room
  obtain ⟨bm, bp, hN⟩ := h
  refine Spec.at (hp := []) (args' := [.int .i64 room]) (Post' := fun h' r => ∃ b ao cap, h' = [pkA b rtE ⟨pNew room bm bp, ao, cap⟩] ∧ r = .ptr 0 b 0) [] rfl rfl ?_ rfl ?_
  · refine Spec.up ?_
    refine Spec.of_G 11 Tryz.func62 (c := bodyOf Tryz.f62) (by kernel_rfl) (by kernel_rfl) (Nat.le_of_ble_eq_true rfl) fun W F => ?_
    refine G_run (kc := false) (ss := []) (Cs := []) trivial hmP 600 ?_
    rw [rt_new, mnmx]
    have fin : ∀ (b0 b : Nat), up (fun h' r => ∃ b ao cap, h' = [pkA b rtE ⟨pNew room bm bp, ao, cap⟩] ∧ r = .ptr 0 b 0) [⟨.blk b0, .cells [.int .i64 1, .int .i64 0, .str ⟨#[]⟩, .bool false, .int .i64 0, .str ⟨#[]⟩, .bool false, .bool false] 134⟩, ⟨.blk b, .cells [.vec 0 (some ⟨b0, 0, none⟩) 1 1, .int .i64 (mnI (mxI room 0) 64), .int .i64 1] 137⟩] (.ptr 1 b 0) := fun b0 b => by
      refine ⟨[pkA b rtE ⟨pNew room bm bp, some ⟨b0, 0, none⟩, 1⟩], .ptr 0 b 0, fun W F w hr => ?_, rfl, b, _, _, rfl, rfl⟩
      have h1 := Rep.arrOf (l := 0) (sz := 8) encR [{ PR.zero with pid := 1 }] PR.zero rfl rfl (fun _ => rfl) hr
      have h2 := Rep.pick (π := [1, 0]) (by decide) rfl h1
      have h3 := Rep.cellsEq (l := 0) (cs' := [.vec 1 (some ⟨b0, 0, none⟩) 1 1, .int .i64 (mnI (mxI room 0) 64), .int .i64 1]) rfl (by rfl) h2
      exact Rep.pkA1 h3
    repeat' first
      | exact rfl
      | exact fin _ _
      | apply And.intro
      | (show _ ≤ _; omega)
      | (show _ < _; omega)
      | (refine fun b1 => ?_)
      | fail
  · rintro h' r ⟨b, ao, cap, rfl, rfl⟩
    refine ⟨Nat.zero_le _, .ptr (lenN hs) b 0, rfl, ?_⟩
    simpa [putBack, appE_eq, snoc_eq] using hN b ao cap
theorem procs_ok : CtrOk Tryz.prog 42 procsC := by
  intro args hs N h
  unfold procsC at h
  split at h
  case h_2 => exact h.elim
  rename_i l ao n cap l' ao' n' cap'
  obtain ⟨xs, h1, h2, ⟨hne, rfl, rfl, hx⟩, h⟩ := h
  refine Spec.at (hp := [⟨.sl ao cap, .vecL 38 6 encP6 xs PR.zero⟩, ⟨.sl ao' cap', .vecL 38 6 encP6 xs PR.zero⟩]) (args' := [.vec 0 ao xs.length cap, .vec 1 ao' xs.length cap']) (Post' := fun h' r => h' = [⟨.sl ao cap, .vecL 38 6 encP6 xs PR.zero⟩, ⟨.sl ao' cap', .vecL 38 6 encP6 xs PR.zero⟩] ∧ r = .bool true) [l, l'] (by
    have : l ≠ l' := fun e => by
      subst e
      simp at hne
    simpa [distinct] using this) (by simp [pickE, h1, h2]) ?_ rfl ?_
  · refine Spec.up ?_
    refine Spec.of_G 26 Tryz.func42 (c := bodyOf Tryz.f42) (by kernel_rfl) (by kernel_rfl) (Nat.le_of_ble_eq_true rfl) fun W F => ?_
    refine G_run (kc := false) (ss := []) (Cs := []) trivial hmP 600 ?_
    rw [rps_run]
    have : ((xs.length : Int) != (xs.length : Int)) = false := by simp
    rw [this]
    refine G_loopAt (ι := Nat) [] (bodyOf Tryz.f42) [1, 1, 0, 1, 0] 26 (fun i => [(0, .vec 0 ao xs.length cap), (1, .vec 1 ao' xs.length cap'), (5, .int .i64 (i : Int))]) (fun i => [⟨.sl ao cap, .vecL 38 6 encP6 xs PR.zero⟩, ⟨.sl ao' cap', .vecL 38 6 encP6 xs PR.zero⟩]) (fun i => i ≤ xs.length) (fun i => xs.length - i) 0 (by kernel_rfl) (fun J => by kernel_rfl) (Nat.zero_le _) rfl ⟨rfl, rfl, rfl, trivial⟩ (fun w hw => hw) ?_
    intro i hi u
    try dsimp only at hi ⊢
    simp only [List.nil_append, List.cons_append]
    refine G_run (kc := false) (ss := []) (Cs := []) trivial hmP 900 ?_
    rw [rps_body]
    cases hlt : decide ((i : Int) < (xs.length : Int)) with
    | false => exact ⟨_, .bool true, fun W F w hr => hr, rfl, rfl, rfl⟩
    | true =>
      simp only [decide_eq_true_eq] at hlt
      have w1 : IntKind.wrap .i64 ((i : Int) + 1) = ((i + 1 : Nat) : Int) := IntWalk.i64_in _ (by omega)
      have hi2 : i < xs.length := by omega
      rw [Int.toNat_natCast]
      generalize xs.getD i PR.zero = x
      rw [sEq_self, sEq_self, beq_self_eq_true, beq_self_eq_true, beq_self_eq_true, beq_self_eq_true]
      (repeat first | refine And.intro rfl ?_ | refine And.intro ⟨rfl, rfl, rfl, by omega, by omega⟩ ?_ | refine And.intro ⟨rfl, rfl, rfl, by omega⟩ ?_ | refine And.intro ⟨rfl, rfl, rfl, by omega, rfl⟩ ?_)
      exact G_back (i + 1) (by omega) (by omega) rfl ⟨rfl, rfl, congrArg (Value.int .i64) w1, trivial⟩ (fun w hw => hw)
  · rintro h' r ⟨rfl, rfl⟩
    refine ⟨Nat.le_refl _, _, rfl, ?_⟩
    simpa [putBack, appE_eq, setN_selfR h1, setN_selfR h2] using h
end Go.Proofs.YtkcmgcoppecfpaaGreat

namespace Go.Proofs.YtkcmgcoppecfpaaGreat
open Go Go.RowKit

theorem rGn_start (K : List Frm → Sy → Prop) (N : List Ent → SV → Prop) (r : RG) (b : Nat) (pid : Int) : (run Tryz.prog [(64, adtC rgE ratM), (89, adtC rgE rofM)] false [] K (retP Tryz.prog Tryz.f71.results.toList N) 600 [.code (bodyOf Tryz.f71)] ⟨padTo 111 [.ptr 0 b 0, .int .i64 pid], [pkA b rgE r]⟩) = ( true = true ∧ b = b ∧ ∃ (h : RG = RG), AdtIs (fun (s : RG) (b : Nat) ↦ packs (rgE s b)) rgE ∧ rOk r ∧ match !Option.isSome (rOf r.3 pid) with
 | true => N [pkA b rgE r] (SV.bool false)
 | false => true = true ∧ b = b ∧ ∃ (h : RG = RG), AdtIs (fun (s : RG) (b : Nat) ↦ packs (rgE s b)) rgE ∧ rOk r ∧ K (frm [] (bodyOf Tryz.f71) [1, 1, 1, 1, 1, 0, 1, 0] []) (Sy.mk (SV.ptr 0 b 0 :: (SV.int .i64 pid :: (SV.raw (Value.tuple #[]) :: (SV.raw (Value.tuple #[]) :: (SV.bool false :: ((SV.str (match rOf r.3 pid with | some x => x | none => ByteArray.mk #[])) :: (SV.bool (Option.isSome (rOf r.3 pid)) :: ((SV.int .i64 (↑(rAt r.3 (match rOf r.3 pid with | some x => x | none => ByteArray.mk #[])) : Int)) :: ((SV.bool (rHas r.3 (match rOf r.3 pid with | some x => x | none => ByteArray.mk #[]))) :: (SV.raw (Value.slice (@none Addr) 0 0) :: (SV.int .i64 0 :: (SV.raw (Value.tuple #[]) :: (SV.raw (Value.tuple #[]) :: ((SV.tuple [SV.str (match rOf r.3 pid with | some x => x | none => ByteArray.mk #[]), SV.bool (Option.isSome (rOf r.3 pid))]) :: (SV.ptr 0 b 0 :: (SV.int .i64 pid :: ((SV.tuple [SV.str (match rOf r.3 pid with | some x => x | none => ByteArray.mk #[]), SV.bool (Option.isSome (rOf r.3 pid))]) :: ((SV.str (match rOf r.3 pid with | some x => x | none => ByteArray.mk #[])) :: (SV.bool (Option.isSome (rOf r.3 pid)) :: (SV.bool (Option.isSome (rOf r.3 pid)) :: (SV.bool false :: ((SV.tuple [SV.int .i64 (↑(rAt r.3 (match rOf r.3 pid with | some x => x | none => ByteArray.mk #[])) : Int), SV.bool (rHas r.3 (match rOf r.3 pid with | some x => x | none => ByteArray.mk #[]))]) :: (SV.ptr 0 b 0 :: ((SV.str (match rOf r.3 pid with | some x => x | none => ByteArray.mk #[])) :: ((SV.tuple [SV.int .i64 (↑(rAt r.3 (match rOf r.3 pid with | some x => x | none => ByteArray.mk #[])) : Int), SV.bool (rHas r.3 (match rOf r.3 pid with | some x => x | none => ByteArray.mk #[]))]) :: ((SV.int .i64 (↑(rAt r.3 (match rOf r.3 pid with | some x => x | none => ByteArray.mk #[])) : Int)) :: ((SV.bool (rHas r.3 (match rOf r.3 pid with | some x => x | none => ByteArray.mk #[]))) :: (rawE [] 84)))))))))))))))))))))))))))) [pkA b rgE r])) := by kernel_rfl
@[reducible] def rGn_1_z0 (aoL : Option Addr) (capL : Nat) (L : List RGrp) (aoN : Option Addr) (capN : Nat) (nt : List ByteArray) (b : Nat) : Ent := Ent.mk (Loc.blk b) (SObj.cells [SV.vec 1 aoL (List.length L) capL, SV.vec 2 aoN (List.length nt) capN] 126)
@[reducible] def rGn_1_z1 (aoL : Option Addr) (capL : Nat) (L : List RGrp) : Ent := Ent.mk (Loc.sl aoL capL) (SObj.vecL 131 2 encRg L (RGrp.mk (ByteArray.mk #[]) (@none Addr) 0 []))
@[reducible] def rGn_1_z2 (aoN : Option Addr) (capN : Nat) (nt : List ByteArray) : Ent := Ent.mk (Loc.sl aoN capN) (SObj.vecL 9 1 encS nt ByteArray.empty)
@[reducible] def rGn_1_z3 (g : RGrp) : Ent := Ent.mk (Loc.sl g.ao g.3) (SObj.vecL 3 1 encI1 g.4 (0 : Int))
theorem rGn_1 (K : List Frm → Sy → Prop) (N : List Ent → SV → Prop) (J : Act → World → Prop) (aoL : Option Addr) (capL : Nat) (L : List RGrp) (aoN : Option Addr) (capN : Nat) (nt : List ByteArray) (b : Nat) (rest : List Ent) (pid : Int) (n : ByteArray) (i k : Nat) (g : RGrp) (ag : Option Addr) (cg : Nat) (got : List Int) (u : Nat → Value) : (run Tryz.prog [] false [11] K (retP Tryz.prog Tryz.f71.results.toList N) 900 (frm [J] (bodyOf Tryz.f71) [1, 1, 1, 1, 1, 0, 1, 0, 0] []) ⟨mkT u 111 0 [(0, .ptr 0 b 0), (1, .int .i64 pid), (5, .str n), (7, .int .i64 (i : Int)), (9, .vec 5 ag got.length cg), (10, .int .i64 (k : Int))], [⟨.blk b, .cells [.vec 1 aoL (L).length capL, .vec 2 aoN (nt).length capN] 126⟩, ⟨.sl aoL capL, .vecL 131 2 encRg (L) zR⟩, ⟨.sl aoN capN, .vecL 9 1 encS (nt) ByteArray.empty⟩, pk 0 rest, ⟨.sl g.ao g.cap, .vecL 3 1 encI1 (g.pids) 0⟩, ⟨.sl ag cg, .vecL 3 1 encI1 (got) 0⟩]⟩) = ( b = b ∧ (aoL = aoL ∧ capL = capL ∧ List.length L = List.length L ∧ (0 : Int) ≤ (↑i : Int) ∧ (↑i : Int) < (↑(List.length L) : Int)) ∧ (Addr.blkD aoL = Addr.blkD aoL ∧ Addr.offD aoL = Addr.offD aoL ∧ 2 = 2 ∧ Int.toNat (↑i : Int) < List.length L) ∧ match decide ((↑k : Int) < (↑(List.length (List.getD L (Int.toNat (↑i : Int)) (RGrp.mk (ByteArray.mk #[]) (@none Addr) 0 [])).4) : Int)) with
 | true => b = b ∧ (aoL = aoL ∧ capL = capL ∧ List.length L = List.length L ∧ (0 : Int) ≤ (↑i : Int) ∧ (↑i : Int) < (↑(List.length L) : Int)) ∧ (Addr.blkD aoL = Addr.blkD aoL ∧ Addr.offD aoL = Addr.offD aoL ∧ 2 = 2 ∧ Int.toNat (↑i : Int) < List.length L) ∧ (g.ao = (List.getD L (Int.toNat (↑i : Int)) (RGrp.mk (ByteArray.mk #[]) (@none Addr) 0 [])).ao ∧ g.3 = (List.getD L (Int.toNat (↑i : Int)) (RGrp.mk (ByteArray.mk #[]) (@none Addr) 0 [])).3 ∧ List.length (List.getD L (Int.toNat (↑i : Int)) (RGrp.mk (ByteArray.mk #[]) (@none Addr) 0 [])).4 = List.length g.4 ∧ (0 : Int) ≤ (↑k : Int) ∧ (↑k : Int) < (↑(List.length (List.getD L (Int.toNat (↑i : Int)) (RGrp.mk (ByteArray.mk #[]) (@none Addr) 0 [])).4) : Int)) ∧ (Addr.blkD (List.getD L (Int.toNat (↑i : Int)) (RGrp.mk (ByteArray.mk #[]) (@none Addr) 0 [])).ao = Addr.blkD g.ao ∧ Addr.offD (List.getD L (Int.toNat (↑i : Int)) (RGrp.mk (ByteArray.mk #[]) (@none Addr) 0 [])).ao = Addr.offD g.ao ∧ 1 = 1 ∧ Int.toNat (↑k : Int) < List.length g.4) ∧ match List.getD g.4 (Int.toNat (↑k : Int)) (0 : Int) != pid with
  | true => b = b ∧ (aoL = aoL ∧ capL = capL ∧ List.length L = List.length L ∧ (0 : Int) ≤ (↑i : Int) ∧ (↑i : Int) < (↑(List.length L) : Int)) ∧ (Addr.blkD aoL = Addr.blkD aoL ∧ Addr.offD aoL = Addr.offD aoL ∧ 2 = 2 ∧ Int.toNat (↑i : Int) < List.length L) ∧ (g.ao = (List.getD L (Int.toNat (↑i : Int)) (RGrp.mk (ByteArray.mk #[]) (@none Addr) 0 [])).ao ∧ g.3 = (List.getD L (Int.toNat (↑i : Int)) (RGrp.mk (ByteArray.mk #[]) (@none Addr) 0 [])).3 ∧ List.length (List.getD L (Int.toNat (↑i : Int)) (RGrp.mk (ByteArray.mk #[]) (@none Addr) 0 [])).4 = List.length g.4 ∧ (0 : Int) ≤ (↑k : Int) ∧ (↑k : Int) < (↑(List.length (List.getD L (Int.toNat (↑i : Int)) (RGrp.mk (ByteArray.mk #[]) (@none Addr) 0 [])).4) : Int)) ∧ (Addr.blkD (List.getD L (Int.toNat (↑i : Int)) (RGrp.mk (ByteArray.mk #[]) (@none Addr) 0 [])).ao = Addr.blkD g.ao ∧ Addr.offD (List.getD L (Int.toNat (↑i : Int)) (RGrp.mk (ByteArray.mk #[]) (@none Addr) 0 [])).ao = Addr.offD g.ao ∧ 1 = 1 ∧ Int.toNat (↑k : Int) < List.length g.4) ∧ (true = true ∧ 1 = 1 ∧ 0 < 1 ∧ 1 ≤ 16777216) ∧ ∀ (b_1 : Nat), (ag = ag ∧ cg = cg ∧ List.length got = List.length got ∧ some (Addr.mk b_1 0 (@none Nat)) = some (Addr.mk b_1 0 (@none Nat)) ∧ 3 = 3 ∧ 1 = 1 ∧ 1 = 1 ∧ 0 < 1 ∧ true = true ∧ (List.length got + 1) * 8 ≤ 140737488355328 ∧ List.length got + 1 ≤ 9223372036854775807) ∧ ∃ (es : List Int), List.length es = 1 ∧ denL (List.flatMap encI1 es) = denL [SV.int .i64 (List.getD g.4 (Int.toNat (↑k : Int)) (0 : Int))] ∧ ∀ (ao2 : Option Addr) (cap2 : Nat), List.length got + 1 ≤ cap2 → K (Frm.loop J :: Frm.blk 0 :: frm [] (bodyOf Tryz.f71) [1, 1, 1, 1, 1, 1] []) (Sy.mk (SV.ptr 0 b 0 :: (SV.int .i64 pid :: (rawR u 2 (SV.str n :: (SV.raw (u 6) :: (SV.int .i64 (↑i : Int) :: (SV.raw (u 8) :: (SV.vec 5 ao2 (List.length got + 1) cap2 :: (SV.int .i64 (IntKind.wrap IntKind.i64 ((↑k : Int) + (1 : Int))) :: (rawR u 11 (SV.int .i64 (↑k : Int) :: (SV.ptr 0 b 0 :: (SV.ptr 0 b 0 :: (SV.ptr 0 b 0 :: (SV.vec 1 aoL (List.length L) capL :: (SV.int .i64 (↑i : Int) :: (SV.eptr 1 (Addr.blkD aoL) (Addr.offD aoL) 2 (Int.toNat (↑i : Int)) 0 :: (SV.eptr 1 (Addr.blkD aoL) (Addr.offD aoL) 2 (Int.toNat (↑i : Int)) 1 :: (SV.vec 4 (List.getD L (Int.toNat (↑i : Int)) (RGrp.mk (ByteArray.mk #[]) (@none Addr) 0 [])).ao (List.length (List.getD L (Int.toNat (↑i : Int)) (RGrp.mk (ByteArray.mk #[]) (@none Addr) 0 [])).4) (List.getD L (Int.toNat (↑i : Int)) (RGrp.mk (ByteArray.mk #[]) (@none Addr) 0 [])).3 :: (SV.int .i64 (↑(List.length (List.getD L (Int.toNat (↑i : Int)) (RGrp.mk (ByteArray.mk #[]) (@none Addr) 0 [])).4) : Int) :: (SV.bool true :: (SV.int .i64 (↑k : Int) :: (SV.int .i64 (IntKind.wrap IntKind.i64 ((↑k : Int) + (1 : Int))) :: (SV.ptr 0 b 0 :: (SV.ptr 0 b 0 :: (SV.ptr 0 b 0 :: (SV.vec 1 aoL (List.length L) capL :: (SV.int .i64 (↑i : Int) :: (SV.eptr 1 (Addr.blkD aoL) (Addr.offD aoL) 2 (Int.toNat (↑i : Int)) 0 :: (SV.eptr 1 (Addr.blkD aoL) (Addr.offD aoL) 2 (Int.toNat (↑i : Int)) 1 :: (SV.vec 4 (List.getD L (Int.toNat (↑i : Int)) (RGrp.mk (ByteArray.mk #[]) (@none Addr) 0 [])).ao (List.length (List.getD L (Int.toNat (↑i : Int)) (RGrp.mk (ByteArray.mk #[]) (@none Addr) 0 [])).4) (List.getD L (Int.toNat (↑i : Int)) (RGrp.mk (ByteArray.mk #[]) (@none Addr) 0 [])).3 :: (SV.int .i64 (↑k : Int) :: (SV.eptr 4 (Addr.blkD (List.getD L (Int.toNat (↑i : Int)) (RGrp.mk (ByteArray.mk #[]) (@none Addr) 0 [])).ao) (Addr.offD (List.getD L (Int.toNat (↑i : Int)) (RGrp.mk (ByteArray.mk #[]) (@none Addr) 0 [])).ao) 1 (Int.toNat (↑k : Int)) 0 :: (SV.int .i64 (List.getD g.4 (Int.toNat (↑k : Int)) (0 : Int)) :: (SV.int .i64 pid :: (SV.bool true :: (SV.vec 5 ag (List.length got) cg :: (SV.ptr 0 b 0 :: (SV.ptr 0 b 0 :: (SV.ptr 0 b 0 :: (SV.vec 1 aoL (List.length L) capL :: (SV.int .i64 (↑i : Int) :: (SV.eptr 1 (Addr.blkD aoL) (Addr.offD aoL) 2 (Int.toNat (↑i : Int)) 0 :: (SV.eptr 1 (Addr.blkD aoL) (Addr.offD aoL) 2 (Int.toNat (↑i : Int)) 1 :: (SV.vec 4 (List.getD L (Int.toNat (↑i : Int)) (RGrp.mk (ByteArray.mk #[]) (@none Addr) 0 [])).ao (List.length (List.getD L (Int.toNat (↑i : Int)) (RGrp.mk (ByteArray.mk #[]) (@none Addr) 0 [])).4) (List.getD L (Int.toNat (↑i : Int)) (RGrp.mk (ByteArray.mk #[]) (@none Addr) 0 [])).3 :: (SV.int .i64 (↑k : Int) :: (SV.eptr 4 (Addr.blkD (List.getD L (Int.toNat (↑i : Int)) (RGrp.mk (ByteArray.mk #[]) (@none Addr) 0 [])).ao) (Addr.offD (List.getD L (Int.toNat (↑i : Int)) (RGrp.mk (ByteArray.mk #[]) (@none Addr) 0 [])).ao) 1 (Int.toNat (↑k : Int)) 0 :: (SV.int .i64 (List.getD g.4 (Int.toNat (↑k : Int)) (0 : Int)) :: (SV.vec 6 (some (Addr.mk b_1 0 (@none Nat))) 1 1 :: (SV.vec 5 ao2 (List.length got + 1) cap2 :: (rawR u 67 [] 44))))))))))))))))))))))))))))))))))))))))) 16))))))) 3))) [rGn_1_z0 aoL capL L aoN capN nt b, rGn_1_z1 aoL capL L, rGn_1_z2 aoN capN nt, pk 0 rest, rGn_1_z3 g, Ent.mk (Loc.sl ao2 cap2) (SObj.vecL 3 1 encI1 (got ++ es) (0 : Int)), Ent.mk (Loc.blk b_1) (SObj.cells [SV.int .i64 (List.getD g.4 (Int.toNat (↑k : Int)) (0 : Int))] 3)])
  | false => K (Frm.loop J :: Frm.blk 0 :: frm [] (bodyOf Tryz.f71) [1, 1, 1, 1, 1, 1] []) (Sy.mk (SV.ptr 0 b 0 :: (SV.int .i64 pid :: (rawR u 2 (SV.str n :: (SV.raw (u 6) :: (SV.int .i64 (↑i : Int) :: (SV.raw (u 8) :: (SV.vec 5 ag (List.length got) cg :: (SV.int .i64 (IntKind.wrap IntKind.i64 ((↑k : Int) + (1 : Int))) :: (rawR u 11 (SV.int .i64 (↑k : Int) :: (SV.ptr 0 b 0 :: (SV.ptr 0 b 0 :: (SV.ptr 0 b 0 :: (SV.vec 1 aoL (List.length L) capL :: (SV.int .i64 (↑i : Int) :: (SV.eptr 1 (Addr.blkD aoL) (Addr.offD aoL) 2 (Int.toNat (↑i : Int)) 0 :: (SV.eptr 1 (Addr.blkD aoL) (Addr.offD aoL) 2 (Int.toNat (↑i : Int)) 1 :: (SV.vec 4 (List.getD L (Int.toNat (↑i : Int)) (RGrp.mk (ByteArray.mk #[]) (@none Addr) 0 [])).ao (List.length (List.getD L (Int.toNat (↑i : Int)) (RGrp.mk (ByteArray.mk #[]) (@none Addr) 0 [])).4) (List.getD L (Int.toNat (↑i : Int)) (RGrp.mk (ByteArray.mk #[]) (@none Addr) 0 [])).3 :: (SV.int .i64 (↑(List.length (List.getD L (Int.toNat (↑i : Int)) (RGrp.mk (ByteArray.mk #[]) (@none Addr) 0 [])).4) : Int) :: (SV.bool true :: (SV.int .i64 (↑k : Int) :: (SV.int .i64 (IntKind.wrap IntKind.i64 ((↑k : Int) + (1 : Int))) :: (SV.ptr 0 b 0 :: (SV.ptr 0 b 0 :: (SV.ptr 0 b 0 :: (SV.vec 1 aoL (List.length L) capL :: (SV.int .i64 (↑i : Int) :: (SV.eptr 1 (Addr.blkD aoL) (Addr.offD aoL) 2 (Int.toNat (↑i : Int)) 0 :: (SV.eptr 1 (Addr.blkD aoL) (Addr.offD aoL) 2 (Int.toNat (↑i : Int)) 1 :: (SV.vec 4 (List.getD L (Int.toNat (↑i : Int)) (RGrp.mk (ByteArray.mk #[]) (@none Addr) 0 [])).ao (List.length (List.getD L (Int.toNat (↑i : Int)) (RGrp.mk (ByteArray.mk #[]) (@none Addr) 0 [])).4) (List.getD L (Int.toNat (↑i : Int)) (RGrp.mk (ByteArray.mk #[]) (@none Addr) 0 [])).3 :: (SV.int .i64 (↑k : Int) :: (SV.eptr 4 (Addr.blkD (List.getD L (Int.toNat (↑i : Int)) (RGrp.mk (ByteArray.mk #[]) (@none Addr) 0 [])).ao) (Addr.offD (List.getD L (Int.toNat (↑i : Int)) (RGrp.mk (ByteArray.mk #[]) (@none Addr) 0 [])).ao) 1 (Int.toNat (↑k : Int)) 0 :: (SV.int .i64 (List.getD g.4 (Int.toNat (↑k : Int)) (0 : Int)) :: (SV.int .i64 pid :: (SV.bool false :: (rawR u 53 [] 58))))))))))))))))))))))))))) 16))))))) 3))) [rGn_1_z0 aoL capL L aoN capN nt b, rGn_1_z1 aoL capL L, rGn_1_z2 aoN capN nt, pk 0 rest, rGn_1_z3 g, Ent.mk (Loc.sl ag cg) (SObj.vecL 3 1 encI1 got (0 : Int))])
 | false => K (frmR [] (bodyOf Tryz.f71) 11) (Sy.mk (SV.ptr 0 b 0 :: (SV.int .i64 pid :: (rawR u 2 (SV.str n :: (SV.raw (u 6) :: (SV.int .i64 (↑i : Int) :: (SV.raw (u 8) :: (SV.vec 5 ag (List.length got) cg :: (SV.int .i64 (↑k : Int) :: (rawR u 11 (SV.int .i64 (↑k : Int) :: (SV.ptr 0 b 0 :: (SV.ptr 0 b 0 :: (SV.ptr 0 b 0 :: (SV.vec 1 aoL (List.length L) capL :: (SV.int .i64 (↑i : Int) :: (SV.eptr 1 (Addr.blkD aoL) (Addr.offD aoL) 2 (Int.toNat (↑i : Int)) 0 :: (SV.eptr 1 (Addr.blkD aoL) (Addr.offD aoL) 2 (Int.toNat (↑i : Int)) 1 :: (SV.vec 4 (List.getD L (Int.toNat (↑i : Int)) (RGrp.mk (ByteArray.mk #[]) (@none Addr) 0 [])).ao (List.length (List.getD L (Int.toNat (↑i : Int)) (RGrp.mk (ByteArray.mk #[]) (@none Addr) 0 [])).4) (List.getD L (Int.toNat (↑i : Int)) (RGrp.mk (ByteArray.mk #[]) (@none Addr) 0 [])).3 :: (SV.int .i64 (↑(List.length (List.getD L (Int.toNat (↑i : Int)) (RGrp.mk (ByteArray.mk #[]) (@none Addr) 0 [])).4) : Int) :: (SV.bool false :: (rawR u 38 [] 73)))))))))))) 16))))))) 3))) [rGn_1_z0 aoL capL L aoN capN nt b, rGn_1_z1 aoL capL L, rGn_1_z2 aoN capN nt, pk 0 rest, rGn_1_z3 g, Ent.mk (Loc.sl ag cg) (SObj.vecL 3 1 encI1 got (0 : Int))])) := by kernel_rfl
theorem rGn_11 (K : List Frm → Sy → Prop) (N : List Ent → SV → Prop) (aoL : Option Addr) (capL : Nat) (L : List RGrp) (aoN : Option Addr) (capN : Nat) (nt : List ByteArray) (b : Nat) (rest : List Ent) (pid : Int) (n : ByteArray) (i k : Nat) (g : RGrp) (ag : Option Addr) (cg : Nat) (got : List Int) (u : Nat → Value) : (run Tryz.prog [] false [] K (retP Tryz.prog Tryz.f71.results.toList N) 900 (frmR [] (bodyOf Tryz.f71) 11) ⟨mkT u 111 0 [(0, .ptr 0 b 0), (1, .int .i64 pid), (5, .str n), (7, .int .i64 (i : Int)), (9, .vec 5 ag got.length cg)], [⟨.blk b, .cells [.vec 1 aoL (L).length capL, .vec 2 aoN (nt).length capN] 126⟩, ⟨.sl aoL capL, .vecL 131 2 encRg (L) zR⟩, ⟨.sl aoN capN, .vecL 9 1 encS (nt) ByteArray.empty⟩, pk 0 rest, ⟨.sl g.ao g.cap, .vecL 3 1 encI1 (g.pids) 0⟩, ⟨.sl ag cg, .vecL 3 1 encI1 (got) 0⟩]⟩) = ( b = b ∧ (aoL = aoL ∧ capL = capL ∧ List.length L = List.length L ∧ (0 : Int) ≤ (↑i : Int) ∧ (↑i : Int) < (↑(List.length L) : Int)) ∧ (Addr.blkD aoL = Addr.blkD aoL ∧ Addr.offD aoL = Addr.offD aoL ∧ 2 = 2 ∧ Int.toNat (↑i : Int) < List.length L ∧ true = true ∧ 1 = 1 ∧ 2 ≤ 2) ∧ ∃ (e : RGrp), denL [SV.str e.1, SV.vec 4 e.ao (List.length e.4) e.3] = denL [SV.str (List.getD L (Int.toNat (↑i : Int)) (RGrp.mk (ByteArray.mk #[]) (@none Addr) 0 [])).1, SV.vec 5 ag (List.length got) cg] ∧ match (↑(List.length got) : Int) == (0 : Int) with
 | true => K (frm [] (bodyOf Tryz.f71) [1, 1, 1, 1, 1, 1, 1, 0, 1, 0, 1, 0, 1, 0] []) (Sy.mk (SV.ptr 0 b 0 :: (SV.int .i64 pid :: (rawR u 2 (SV.str n :: (SV.raw (u 6) :: (SV.int .i64 (↑i : Int) :: (SV.raw (u 8) :: (SV.vec 5 ag (List.length got) cg :: (SV.raw (u 10) :: (SV.bool false :: (SV.int .i64 0 :: (rawR u 13 (SV.ptr 0 b 0 :: (SV.ptr 0 b 0 :: (SV.ptr 0 b 0 :: (SV.vec 1 aoL (List.length L) capL :: (SV.int .i64 (↑i : Int) :: (SV.vec 5 ag (List.length got) cg :: (SV.eptr 1 (Addr.blkD aoL) (Addr.offD aoL) 2 (Int.toNat (↑i : Int)) 0 :: (SV.eptr 1 (Addr.blkD aoL) (Addr.offD aoL) 2 (Int.toNat (↑i : Int)) 1 :: (SV.vec 5 ag (List.length got) cg :: (SV.int .i64 (↑(List.length got) : Int) :: (SV.bool true :: (rawR u 78 [] 33)))))))))))) 54))))))))) 3))) [Ent.mk (Loc.blk b) (SObj.cells [SV.vec 1 aoL (List.length L) capL, SV.vec 2 aoN (List.length nt) capN] 126), Ent.mk (Loc.sl aoL capL) (SObj.vecL 131 2 encRg (List.set L (Int.toNat (↑i : Int)) e) (RGrp.mk (ByteArray.mk #[]) (@none Addr) 0 [])), Ent.mk (Loc.sl aoN capN) (SObj.vecL 9 1 encS nt ByteArray.empty), pk 0 rest, Ent.mk (Loc.sl g.ao g.3) (SObj.vecL 3 1 encI1 g.4 (0 : Int)), Ent.mk (Loc.sl ag cg) (SObj.vecL 3 1 encI1 got (0 : Int))])
 | false => N [Ent.mk (Loc.blk b) (SObj.cells [SV.vec 1 aoL (List.length L) capL, SV.vec 2 aoN (List.length nt) capN] 126), Ent.mk (Loc.sl aoL capL) (SObj.vecL 131 2 encRg (List.set L (Int.toNat (↑i : Int)) e) (RGrp.mk (ByteArray.mk #[]) (@none Addr) 0 [])), Ent.mk (Loc.sl aoN capN) (SObj.vecL 9 1 encS nt ByteArray.empty), pk 0 rest, Ent.mk (Loc.sl g.ao g.3) (SObj.vecL 3 1 encI1 g.4 (0 : Int)), Ent.mk (Loc.sl ag cg) (SObj.vecL 3 1 encI1 got (0 : Int))] (SV.bool true)) := by kernel_rfl
end Go.Proofs.YtkcmgcoppecfpaaGreat

namespace Go.Proofs.YtkcmgcoppecfpaaGreat
open Go Go.RowKit

@[reducible] def rGn_2_z0 (aoL : Option Addr) (capL : Nat) (L : List RGrp) : Ent := Ent.mk (Loc.sl aoL capL) (SObj.vecL 131 2 encRg L (RGrp.mk (ByteArray.mk #[]) (@none Addr) 0 []))
@[reducible] def rGn_2_z1 (aoL : Option Addr) (capL : Nat) (L : List RGrp) (aoN : Option Addr) (capN : Nat) (nt : List ByteArray) (b : Nat) : Ent := Ent.mk (Loc.blk b) (SObj.cells [SV.vec 1 aoL (List.length L) capL, SV.vec 2 aoN (List.length nt) capN] 126)
@[reducible] def rGn_2_z2 (aoN : Option Addr) (capN : Nat) (nt : List ByteArray) : Ent := Ent.mk (Loc.sl aoN capN) (SObj.vecL 9 1 encS nt ByteArray.empty)
theorem rGn_2 (K : List Frm → Sy → Prop) (N : List Ent → SV → Prop) (J : Act → World → Prop) (aoL : Option Addr) (capL : Nat) (L : List RGrp) (aoN : Option Addr) (capN : Nat) (nt : List ByteArray) (b : Nat) (rest : List Ent) (n : ByteArray) (k : Nat) (st : Bool) (u : Nat → Value) : (run Tryz.prog [] false [] K (retP Tryz.prog Tryz.f71.results.toList N) 900 (frm [J] (bodyOf Tryz.f71) [1, 1, 1, 1, 1, 1, 1, 0, 1, 0, 1, 0, 1, 0, 0] []) ⟨mkT u 111 0 [(0, .ptr 0 b 0), (5, .str n), (11, .bool st), (12, .int .i64 (k : Int))], [⟨.blk b, .cells [.vec 1 aoL (L).length capL, .vec 2 aoN (nt).length capN] 126⟩, ⟨.sl aoL capL, .vecL 131 2 encRg (L) zR⟩, ⟨.sl aoN capN, .vecL 9 1 encS (nt) ByteArray.empty⟩, pk 0 rest]⟩) = ( b = b ∧ match decide ((↑k : Int) < (↑(List.length nt) : Int)) with
 | true => match st with
  | true => K (Frm.loop J :: Frm.blk 2 :: frm [] (bodyOf Tryz.f71) [1, 1, 1, 1, 1, 1, 1, 0, 1, 0, 1, 1] []) (Sy.mk (SV.ptr 0 b 0 :: (rawR u 1 (SV.str n :: (rawR u 6 (SV.bool true :: (SV.int .i64 (IntKind.wrap IntKind.i64 ((↑k : Int) + (1 : Int))) :: (rawR u 13 (SV.int .i64 (↑k : Int) :: (SV.ptr 0 b 0 :: (SV.ptr 0 b 0 :: (SV.ptr 0 b 1 :: (SV.vec 2 aoN (List.length nt) capN :: (SV.int .i64 (↑(List.length nt) : Int) :: (SV.bool true :: (SV.int .i64 (↑k : Int) :: (SV.int .i64 (IntKind.wrap IntKind.i64 ((↑k : Int) + (1 : Int))) :: (SV.bool st :: (SV.bool true :: (rawE (SV.bool true :: (rawR u 99 [] 12)) 9)))))))))))) 65))) 5)) 4)) [rGn_2_z1 aoL capL L aoN capN nt b, rGn_2_z0 aoL capL L, rGn_2_z2 aoN capN nt, pk 0 rest])
  | false => b = b ∧ (aoN = aoN ∧ capN = capN ∧ List.length nt = List.length nt ∧ (0 : Int) ≤ (↑k : Int) ∧ (↑k : Int) < (↑(List.length nt) : Int)) ∧ (Addr.blkD aoN = Addr.blkD aoN ∧ Addr.offD aoN = Addr.offD aoN ∧ 1 = 1 ∧ Int.toNat (↑k : Int) < List.length nt) ∧ K (Frm.loop J :: Frm.blk 2 :: frm [] (bodyOf Tryz.f71) [1, 1, 1, 1, 1, 1, 1, 0, 1, 0, 1, 1] []) (Sy.mk (SV.ptr 0 b 0 :: (rawR u 1 (SV.str n :: (rawR u 6 (SV.bool (sEq (List.getD nt (Int.toNat (↑k : Int)) ByteArray.empty) n) :: (SV.int .i64 (IntKind.wrap IntKind.i64 ((↑k : Int) + (1 : Int))) :: (rawR u 13 (SV.int .i64 (↑k : Int) :: (SV.ptr 0 b 0 :: (SV.ptr 0 b 0 :: (SV.ptr 0 b 1 :: (SV.vec 2 aoN (List.length nt) capN :: (SV.int .i64 (↑(List.length nt) : Int) :: (SV.bool true :: (SV.int .i64 (↑k : Int) :: (SV.int .i64 (IntKind.wrap IntKind.i64 ((↑k : Int) + (1 : Int))) :: (SV.bool st :: (SV.bool false :: (SV.ptr 0 b 0 :: (SV.ptr 0 b 0 :: (SV.ptr 0 b 1 :: (SV.vec 2 aoN (List.length nt) capN :: (SV.int .i64 (↑k : Int) :: (SV.eptr 2 (Addr.blkD aoN) (Addr.offD aoN) 1 (Int.toNat (↑k : Int)) 0 :: (SV.str (List.getD nt (Int.toNat (↑k : Int)) ByteArray.empty) :: (SV.str n :: (SV.bool (sEq (List.getD nt (Int.toNat (↑k : Int)) ByteArray.empty) n) :: (SV.bool (sEq (List.getD nt (Int.toNat (↑k : Int)) ByteArray.empty) n) :: (rawR u 99 [] 12)))))))))))))))))))))) 65))) 5)) 4)) [rGn_2_z1 aoL capL L aoN capN nt b, rGn_2_z0 aoL capL L, rGn_2_z2 aoN capN nt, pk 0 rest])
 | false => match !st with
  | true => b = b ∧ (true = true ∧ 1 = 1 ∧ 0 < 1 ∧ 1 ≤ 16777216) ∧ ∀ (b_1 : Nat), (aoN = aoN ∧ capN = capN ∧ List.length nt = List.length nt ∧ some (Addr.mk b_1 0 (@none Nat)) = some (Addr.mk b_1 0 (@none Nat)) ∧ 9 = 9 ∧ 1 = 1 ∧ 1 = 1 ∧ 0 < 1 ∧ true = true ∧ (List.length nt + 1) * 16 ≤ 140737488355328 ∧ List.length nt + 1 ≤ 9223372036854775807) ∧ ∃ (es : List ByteArray), List.length es = 1 ∧ denL (List.flatMap encS es) = denL [SV.str n] ∧ ∀ (ao2 : Option Addr) (cap2 : Nat), List.length nt + 1 ≤ cap2 → (b = b ∧ true = true ∧ 1 = 1 ∧ 2 ≤ 2) ∧ N [Ent.mk (Loc.blk b) (SObj.cells [SV.vec 1 aoL (List.length L) capL, SV.vec 2 ao2 (List.length nt + 1) cap2] 126), rGn_2_z0 aoL capL L, Ent.mk (Loc.sl ao2 cap2) (SObj.vecL 9 1 encS (nt ++ es) ByteArray.empty), pk 0 rest, Ent.mk (Loc.blk b_1) (SObj.cells [SV.str n] 9)] (SV.bool true)
  | false => N [rGn_2_z1 aoL capL L aoN capN nt b, rGn_2_z0 aoL capL L, rGn_2_z2 aoN capN nt, pk 0 rest] (SV.bool true)) := by kernel_rfl
end Go.Proofs.YtkcmgcoppecfpaaGreat

namespace Go.Proofs.YtkcmgcoppecfpaaGreat
open Go Go.RowKit

theorem rPt_start (K : List Frm → Sy → Prop) (N : List Ent → SV → Prop) (r : RG) (b : Nat) (pid : Int) (name : ByteArray) : (run Tryz.prog [(64, adtC rgE ratM), (89, adtC rgE rofM), (71, adtC rgE rgoneM)] false [] K (retP Tryz.prog Tryz.f67.results.toList N) 900 [.code (bodyOf Tryz.f67)] ⟨padTo 109 [.ptr 0 b 0, .int .i64 pid, .str name], [pkA b rgE r]⟩) = ( true = true ∧ b = b ∧ ∃ (h : RG = RG), AdtIs (fun (s : RG) (b : Nat) ↦ packs (rgE s b)) rgE ∧ rOk r ∧ match !rHas r.3 name with
 | true => N [pkA b rgE r] (SV.int .i64 90)
 | false => match decide (pid < (2 : Int)) with
  | true => N [pkA b rgE r] (SV.int .i64 90)
  | false => true = true ∧ b = b ∧ ∃ (h : RG = RG), AdtIs (fun (s : RG) (b : Nat) ↦ packs (rgE s b)) rgE ∧ rOk r ∧ match Option.isSome (rOf r.3 pid) with
   | true => match sEq (match rOf r.3 pid with
    | some x => x
    | none => ByteArray.mk #[]) name with
    | true => N [pkA b rgE r] (SV.int .i64 0)
    | false => true = true ∧ b = b ∧ ∃ (h : RG = RG), AdtIs (fun (s : RG) (b : Nat) ↦ packs (rgE s b)) rgE ∧ (rOk r ∧ rAtOk r.L pid) ∧ ∀ (ao : Option Addr) (cap : Nat) (aoN : Option Addr) (capN : Nat), true = true ∧ b = b ∧ ∃ (h : RG = RG), AdtIs (fun (s : RG) (b : Nat) ↦ packs (rgE s b)) rgE ∧ rOk (rGone r pid ao cap aoN capN).1 ∧ K (frm [] (bodyOf Tryz.f67) [1, 1, 1, 1, 1, 1, 1, 1, 0, 0] []) (Sy.mk (SV.ptr 0 b 0 :: (SV.int .i64 pid :: (SV.str name :: (rawE (SV.int .i64 0 :: (SV.int .i64 (↑(rAt r.3 name) : Int) :: (SV.bool (rHas r.3 name) :: ((SV.str (match rOf r.3 pid with | some x => x | none => ByteArray.mk #[])) :: (SV.bool (Option.isSome (rOf r.3 pid)) :: (SV.int .i64 (↑(rAt (rGone r pid ao cap aoN capN).1.3 name) : Int) :: (SV.bool (rHas (rGone r pid ao cap aoN capN).1.3 name) :: (SV.int .i64 0 :: (SV.raw (Value.tuple #[]) :: (SV.tuple [SV.int .i64 (↑(rAt r.3 name) : Int), SV.bool (rHas r.3 name)] :: (SV.ptr 0 b 0 :: (SV.str name :: (SV.tuple [SV.int .i64 (↑(rAt r.3 name) : Int), SV.bool (rHas r.3 name)] :: (SV.int .i64 (↑(rAt r.3 name) : Int) :: (SV.bool (rHas r.3 name) :: (SV.bool (rHas r.3 name) :: ((SV.bool !rHas r.3 name) :: (SV.bool false :: (SV.int .i64 pid :: (SV.bool (decide (pid < (2 : Int))) :: (SV.bool false :: ((SV.tuple [SV.str (match rOf r.3 pid with | some x => x | none => ByteArray.mk #[]), SV.bool (Option.isSome (rOf r.3 pid))]) :: (SV.ptr 0 b 0 :: (SV.int .i64 pid :: ((SV.tuple [SV.str (match rOf r.3 pid with | some x => x | none => ByteArray.mk #[]), SV.bool (Option.isSome (rOf r.3 pid))]) :: ((SV.str (match rOf r.3 pid with | some x => x | none => ByteArray.mk #[])) :: (SV.bool (Option.isSome (rOf r.3 pid)) :: (SV.bool (Option.isSome (rOf r.3 pid)) :: (SV.bool true :: ((SV.str (match rOf r.3 pid with | some x => x | none => ByteArray.mk #[])) :: (SV.str name :: ((SV.bool (sEq (match rOf r.3 pid with | some x => x | none => ByteArray.mk #[]) name)) :: (SV.bool false :: (SV.ptr 0 b 0 :: (SV.int .i64 pid :: (SV.bool (rGone r pid ao cap aoN capN).2 :: (SV.tuple [SV.int .i64 (↑(rAt (rGone r pid ao cap aoN capN).1.3 name) : Int), SV.bool (rHas (rGone r pid ao cap aoN capN).1.3 name)] :: (SV.ptr 0 b 0 :: (SV.str name :: (SV.tuple [SV.int .i64 (↑(rAt (rGone r pid ao cap aoN capN).1.3 name) : Int), SV.bool (rHas (rGone r pid ao cap aoN capN).1.3 name)] :: (SV.int .i64 (↑(rAt (rGone r pid ao cap aoN capN).1.3 name) : Int) :: (SV.bool (rHas (rGone r pid ao cap aoN capN).1.3 name) :: (rawE [] 61))))))))))))))))))))))))))))))))))))))))))) 3)))) [pkA b rgE (rGone r pid ao cap aoN capN).1])
   | false => true = true ∧ b = b ∧ ∃ (h : RG = RG), AdtIs (fun (s : RG) (b : Nat) ↦ packs (rgE s b)) rgE ∧ (rOk r ∧ rAtOk r.L pid) ∧ ∀ (ao : Option Addr) (cap : Nat) (aoN : Option Addr) (capN : Nat), true = true ∧ b = b ∧ ∃ (h : RG = RG), AdtIs (fun (s : RG) (b : Nat) ↦ packs (rgE s b)) rgE ∧ rOk (rGone r pid ao cap aoN capN).1 ∧ K (frm [] (bodyOf Tryz.f67) [1, 1, 1, 1, 1, 1, 1, 1, 0, 0] []) (Sy.mk (SV.ptr 0 b 0 :: (SV.int .i64 pid :: (SV.str name :: (rawE (SV.int .i64 0 :: (SV.int .i64 (↑(rAt r.3 name) : Int) :: (SV.bool (rHas r.3 name) :: ((SV.str (match rOf r.3 pid with | some x => x | none => ByteArray.mk #[])) :: (SV.bool (Option.isSome (rOf r.3 pid)) :: (SV.int .i64 (↑(rAt (rGone r pid ao cap aoN capN).1.3 name) : Int) :: (SV.bool (rHas (rGone r pid ao cap aoN capN).1.3 name) :: (SV.int .i64 0 :: (SV.raw (Value.tuple #[]) :: (SV.tuple [SV.int .i64 (↑(rAt r.3 name) : Int), SV.bool (rHas r.3 name)] :: (SV.ptr 0 b 0 :: (SV.str name :: (SV.tuple [SV.int .i64 (↑(rAt r.3 name) : Int), SV.bool (rHas r.3 name)] :: (SV.int .i64 (↑(rAt r.3 name) : Int) :: (SV.bool (rHas r.3 name) :: (SV.bool (rHas r.3 name) :: ((SV.bool !rHas r.3 name) :: (SV.bool false :: (SV.int .i64 pid :: (SV.bool (decide (pid < (2 : Int))) :: (SV.bool false :: ((SV.tuple [SV.str (match rOf r.3 pid with | some x => x | none => ByteArray.mk #[]), SV.bool (Option.isSome (rOf r.3 pid))]) :: (SV.ptr 0 b 0 :: (SV.int .i64 pid :: ((SV.tuple [SV.str (match rOf r.3 pid with | some x => x | none => ByteArray.mk #[]), SV.bool (Option.isSome (rOf r.3 pid))]) :: ((SV.str (match rOf r.3 pid with | some x => x | none => ByteArray.mk #[])) :: (SV.bool (Option.isSome (rOf r.3 pid)) :: (SV.bool (Option.isSome (rOf r.3 pid)) :: (SV.bool false :: (rawE (SV.bool false :: (SV.ptr 0 b 0 :: (SV.int .i64 pid :: (SV.bool (rGone r pid ao cap aoN capN).2 :: (SV.tuple [SV.int .i64 (↑(rAt (rGone r pid ao cap aoN capN).1.3 name) : Int), SV.bool (rHas (rGone r pid ao cap aoN capN).1.3 name)] :: (SV.ptr 0 b 0 :: (SV.str name :: (SV.tuple [SV.int .i64 (↑(rAt (rGone r pid ao cap aoN capN).1.3 name) : Int), SV.bool (rHas (rGone r pid ao cap aoN capN).1.3 name)] :: (SV.int .i64 (↑(rAt (rGone r pid ao cap aoN capN).1.3 name) : Int) :: (SV.bool (rHas (rGone r pid ao cap aoN capN).1.3 name) :: (rawE [] 61))))))))))) 3)))))))))))))))))))))))))))))) 3)))) [pkA b rgE (rGone r pid ao cap aoN capN).1])) := by kernel_rfl
@[reducible] def rPt_1_z0 (aoL : Option Addr) (capL : Nat) (L : List RGrp) (aoN : Option Addr) (capN : Nat) (nt : List ByteArray) (b : Nat) : Ent := Ent.mk (Loc.blk b) (SObj.cells [SV.vec 1 aoL (List.length L) capL, SV.vec 2 aoN (List.length nt) capN] 126)
@[reducible] def rPt_1_z1 (aoL : Option Addr) (capL : Nat) (L : List RGrp) : Ent := Ent.mk (Loc.sl aoL capL) (SObj.vecL 131 2 encRg L (RGrp.mk (ByteArray.mk #[]) (@none Addr) 0 []))
@[reducible] def rPt_1_z2 (aoN : Option Addr) (capN : Nat) (nt : List ByteArray) : Ent := Ent.mk (Loc.sl aoN capN) (SObj.vecL 9 1 encS nt ByteArray.empty)
@[reducible] def rPt_1_z3 (g : RGrp) : Ent := Ent.mk (Loc.sl g.ao g.3) (SObj.vecL 3 1 encI1 g.4 (0 : Int))
theorem rPt_1 (K : List Frm → Sy → Prop) (N : List Ent → SV → Prop) (J : Act → World → Prop) (aoL : Option Addr) (capL : Nat) (L : List RGrp) (aoN : Option Addr) (capN : Nat) (nt : List ByteArray) (b : Nat) (rest : List Ent) (pid : Int) (i k : Nat) (g : RGrp) (u : Nat → Value) : (run Tryz.prog [] true [12] K (retP Tryz.prog Tryz.f67.results.toList N) 900 (frm [J] (bodyOf Tryz.f67) [1, 1, 1, 1, 1, 1, 1, 1, 0, 0, 0] []) ⟨mkT u 109 0 [(0, .ptr 0 b 0), (1, .int .i64 pid), (11, .int .i64 (i : Int)), (13, .int .i64 (k : Int))], [⟨.blk b, .cells [.vec 1 aoL (L).length capL, .vec 2 aoN (nt).length capN] 126⟩, ⟨.sl aoL capL, .vecL 131 2 encRg (L) zR⟩, ⟨.sl aoN capN, .vecL 9 1 encS (nt) ByteArray.empty⟩, pk 0 rest, ⟨.sl g.ao g.cap, .vecL 3 1 encI1 (g.pids) 0⟩]⟩) = ( b = b ∧ (aoL = aoL ∧ capL = capL ∧ List.length L = List.length L ∧ (0 : Int) ≤ (↑i : Int) ∧ (↑i : Int) < (↑(List.length L) : Int)) ∧ (Addr.blkD aoL = Addr.blkD aoL ∧ Addr.offD aoL = Addr.offD aoL ∧ 2 = 2 ∧ Int.toNat (↑i : Int) < List.length L) ∧ match decide ((↑k : Int) < (↑(List.length (List.getD L (Int.toNat (↑i : Int)) (RGrp.mk (ByteArray.mk #[]) (@none Addr) 0 [])).4) : Int)) with
 | true => b = b ∧ (aoL = aoL ∧ capL = capL ∧ List.length L = List.length L ∧ (0 : Int) ≤ (↑i : Int) ∧ (↑i : Int) < (↑(List.length L) : Int)) ∧ (Addr.blkD aoL = Addr.blkD aoL ∧ Addr.offD aoL = Addr.offD aoL ∧ 2 = 2 ∧ Int.toNat (↑i : Int) < List.length L) ∧ (g.ao = (List.getD L (Int.toNat (↑i : Int)) (RGrp.mk (ByteArray.mk #[]) (@none Addr) 0 [])).ao ∧ g.3 = (List.getD L (Int.toNat (↑i : Int)) (RGrp.mk (ByteArray.mk #[]) (@none Addr) 0 [])).3 ∧ List.length (List.getD L (Int.toNat (↑i : Int)) (RGrp.mk (ByteArray.mk #[]) (@none Addr) 0 [])).4 = List.length g.4 ∧ (0 : Int) ≤ (↑k : Int) ∧ (↑k : Int) < (↑(List.length (List.getD L (Int.toNat (↑i : Int)) (RGrp.mk (ByteArray.mk #[]) (@none Addr) 0 [])).4) : Int)) ∧ (Addr.blkD (List.getD L (Int.toNat (↑i : Int)) (RGrp.mk (ByteArray.mk #[]) (@none Addr) 0 [])).ao = Addr.blkD g.ao ∧ Addr.offD (List.getD L (Int.toNat (↑i : Int)) (RGrp.mk (ByteArray.mk #[]) (@none Addr) 0 [])).ao = Addr.offD g.ao ∧ 1 = 1 ∧ Int.toNat (↑k : Int) < List.length g.4) ∧ match decide (List.getD g.4 (Int.toNat (↑k : Int)) (0 : Int) < pid) with
  | true => K (Frm.loop J :: Frm.blk 0 :: frm [] (bodyOf Tryz.f67) [1, 1, 1, 1, 1, 1, 1, 1, 1] []) (Sy.mk (SV.ptr 0 b 0 :: (SV.int .i64 pid :: (rawR u 2 (SV.int .i64 (↑i : Int) :: (SV.raw (u 12) :: (SV.int .i64 (IntKind.wrap IntKind.i64 ((↑k : Int) + (1 : Int))) :: (rawR u 14 (SV.int .i64 (↑k : Int) :: (SV.ptr 0 b 0 :: (SV.ptr 0 b 0 :: (SV.ptr 0 b 0 :: (SV.vec 1 aoL (List.length L) capL :: (SV.int .i64 (↑i : Int) :: (SV.eptr 1 (Addr.blkD aoL) (Addr.offD aoL) 2 (Int.toNat (↑i : Int)) 0 :: (SV.eptr 1 (Addr.blkD aoL) (Addr.offD aoL) 2 (Int.toNat (↑i : Int)) 1 :: (SV.vec 4 (List.getD L (Int.toNat (↑i : Int)) (RGrp.mk (ByteArray.mk #[]) (@none Addr) 0 [])).ao (List.length (List.getD L (Int.toNat (↑i : Int)) (RGrp.mk (ByteArray.mk #[]) (@none Addr) 0 [])).4) (List.getD L (Int.toNat (↑i : Int)) (RGrp.mk (ByteArray.mk #[]) (@none Addr) 0 [])).3 :: (SV.int .i64 (↑(List.length (List.getD L (Int.toNat (↑i : Int)) (RGrp.mk (ByteArray.mk #[]) (@none Addr) 0 [])).4) : Int) :: (SV.bool (decide ((↑k : Int) < (↑(List.length (List.getD L (Int.toNat (↑i : Int)) (RGrp.mk (ByteArray.mk #[]) (@none Addr) 0 [])).4) : Int))) :: (SV.bool true :: (SV.ptr 0 b 0 :: (SV.ptr 0 b 0 :: (SV.ptr 0 b 0 :: (SV.vec 1 aoL (List.length L) capL :: (SV.int .i64 (↑i : Int) :: (SV.eptr 1 (Addr.blkD aoL) (Addr.offD aoL) 2 (Int.toNat (↑i : Int)) 0 :: (SV.eptr 1 (Addr.blkD aoL) (Addr.offD aoL) 2 (Int.toNat (↑i : Int)) 1 :: (SV.vec 4 (List.getD L (Int.toNat (↑i : Int)) (RGrp.mk (ByteArray.mk #[]) (@none Addr) 0 [])).ao (List.length (List.getD L (Int.toNat (↑i : Int)) (RGrp.mk (ByteArray.mk #[]) (@none Addr) 0 [])).4) (List.getD L (Int.toNat (↑i : Int)) (RGrp.mk (ByteArray.mk #[]) (@none Addr) 0 [])).3 :: (SV.int .i64 (↑k : Int) :: (SV.eptr 4 (Addr.blkD (List.getD L (Int.toNat (↑i : Int)) (RGrp.mk (ByteArray.mk #[]) (@none Addr) 0 [])).ao) (Addr.offD (List.getD L (Int.toNat (↑i : Int)) (RGrp.mk (ByteArray.mk #[]) (@none Addr) 0 [])).ao) 1 (Int.toNat (↑k : Int)) 0 :: (SV.int .i64 (List.getD g.4 (Int.toNat (↑k : Int)) (0 : Int)) :: (SV.int .i64 pid :: (SV.bool (decide (List.getD g.4 (Int.toNat (↑k : Int)) (0 : Int) < pid)) :: (SV.bool true :: (SV.int .i64 (↑k : Int) :: (SV.int .i64 (IntKind.wrap IntKind.i64 ((↑k : Int) + (1 : Int))) :: (rawR u 76 [] 33))))))))))))))))))))))))))))) 34)))) 9))) [rPt_1_z0 aoL capL L aoN capN nt b, rPt_1_z1 aoL capL L, rPt_1_z2 aoN capN nt, pk 0 rest, rPt_1_z3 g])
  | false => K (frmR [] (bodyOf Tryz.f67) 12) (Sy.mk (SV.ptr 0 b 0 :: (SV.int .i64 pid :: (rawR u 2 (SV.int .i64 (↑i : Int) :: (SV.raw (u 12) :: (SV.int .i64 (↑k : Int) :: (rawR u 14 (SV.int .i64 (↑k : Int) :: (SV.ptr 0 b 0 :: (SV.ptr 0 b 0 :: (SV.ptr 0 b 0 :: (SV.vec 1 aoL (List.length L) capL :: (SV.int .i64 (↑i : Int) :: (SV.eptr 1 (Addr.blkD aoL) (Addr.offD aoL) 2 (Int.toNat (↑i : Int)) 0 :: (SV.eptr 1 (Addr.blkD aoL) (Addr.offD aoL) 2 (Int.toNat (↑i : Int)) 1 :: (SV.vec 4 (List.getD L (Int.toNat (↑i : Int)) (RGrp.mk (ByteArray.mk #[]) (@none Addr) 0 [])).ao (List.length (List.getD L (Int.toNat (↑i : Int)) (RGrp.mk (ByteArray.mk #[]) (@none Addr) 0 [])).4) (List.getD L (Int.toNat (↑i : Int)) (RGrp.mk (ByteArray.mk #[]) (@none Addr) 0 [])).3 :: (SV.int .i64 (↑(List.length (List.getD L (Int.toNat (↑i : Int)) (RGrp.mk (ByteArray.mk #[]) (@none Addr) 0 [])).4) : Int) :: (SV.bool (decide ((↑k : Int) < (↑(List.length (List.getD L (Int.toNat (↑i : Int)) (RGrp.mk (ByteArray.mk #[]) (@none Addr) 0 [])).4) : Int))) :: (SV.bool true :: (SV.ptr 0 b 0 :: (SV.ptr 0 b 0 :: (SV.ptr 0 b 0 :: (SV.vec 1 aoL (List.length L) capL :: (SV.int .i64 (↑i : Int) :: (SV.eptr 1 (Addr.blkD aoL) (Addr.offD aoL) 2 (Int.toNat (↑i : Int)) 0 :: (SV.eptr 1 (Addr.blkD aoL) (Addr.offD aoL) 2 (Int.toNat (↑i : Int)) 1 :: (SV.vec 4 (List.getD L (Int.toNat (↑i : Int)) (RGrp.mk (ByteArray.mk #[]) (@none Addr) 0 [])).ao (List.length (List.getD L (Int.toNat (↑i : Int)) (RGrp.mk (ByteArray.mk #[]) (@none Addr) 0 [])).4) (List.getD L (Int.toNat (↑i : Int)) (RGrp.mk (ByteArray.mk #[]) (@none Addr) 0 [])).3 :: (SV.int .i64 (↑k : Int) :: (SV.eptr 4 (Addr.blkD (List.getD L (Int.toNat (↑i : Int)) (RGrp.mk (ByteArray.mk #[]) (@none Addr) 0 [])).ao) (Addr.offD (List.getD L (Int.toNat (↑i : Int)) (RGrp.mk (ByteArray.mk #[]) (@none Addr) 0 [])).ao) 1 (Int.toNat (↑k : Int)) 0 :: (SV.int .i64 (List.getD g.4 (Int.toNat (↑k : Int)) (0 : Int)) :: (SV.int .i64 pid :: (SV.bool (decide (List.getD g.4 (Int.toNat (↑k : Int)) (0 : Int) < pid)) :: (SV.bool false :: (rawR u 74 [] 35))))))))))))))))))))))))))) 34)))) 9))) [rPt_1_z0 aoL capL L aoN capN nt b, rPt_1_z1 aoL capL L, rPt_1_z2 aoN capN nt, pk 0 rest, rPt_1_z3 g])
 | false => K (frmR [] (bodyOf Tryz.f67) 12) (Sy.mk (SV.ptr 0 b 0 :: (SV.int .i64 pid :: (rawR u 2 (SV.int .i64 (↑i : Int) :: (SV.raw (u 12) :: (SV.int .i64 (↑k : Int) :: (rawR u 14 (SV.int .i64 (↑k : Int) :: (SV.ptr 0 b 0 :: (SV.ptr 0 b 0 :: (SV.ptr 0 b 0 :: (SV.vec 1 aoL (List.length L) capL :: (SV.int .i64 (↑i : Int) :: (SV.eptr 1 (Addr.blkD aoL) (Addr.offD aoL) 2 (Int.toNat (↑i : Int)) 0 :: (SV.eptr 1 (Addr.blkD aoL) (Addr.offD aoL) 2 (Int.toNat (↑i : Int)) 1 :: (SV.vec 4 (List.getD L (Int.toNat (↑i : Int)) (RGrp.mk (ByteArray.mk #[]) (@none Addr) 0 [])).ao (List.length (List.getD L (Int.toNat (↑i : Int)) (RGrp.mk (ByteArray.mk #[]) (@none Addr) 0 [])).4) (List.getD L (Int.toNat (↑i : Int)) (RGrp.mk (ByteArray.mk #[]) (@none Addr) 0 [])).3 :: (SV.int .i64 (↑(List.length (List.getD L (Int.toNat (↑i : Int)) (RGrp.mk (ByteArray.mk #[]) (@none Addr) 0 [])).4) : Int) :: (SV.bool (decide ((↑k : Int) < (↑(List.length (List.getD L (Int.toNat (↑i : Int)) (RGrp.mk (ByteArray.mk #[]) (@none Addr) 0 [])).4) : Int))) :: (SV.bool false :: (rawE (SV.bool false :: (rawR u 74 [] 35)) 13))))))))))))) 34)))) 9))) [rPt_1_z0 aoL capL L aoN capN nt b, rPt_1_z1 aoL capL L, rPt_1_z2 aoN capN nt, pk 0 rest, rPt_1_z3 g])) := by kernel_rfl
theorem rPt_12 (K : List Frm → Sy → Prop) (N : List Ent → SV → Prop) (aoL : Option Addr) (capL : Nat) (L : List RGrp) (aoN : Option Addr) (capN : Nat) (nt : List ByteArray) (b : Nat) (rest : List Ent) (pid : Int) (i k : Nat) (g : RGrp) (u : Nat → Value) : (run Tryz.prog [] true [13] K (retP Tryz.prog Tryz.f67.results.toList N) 1500 (frmR [] (bodyOf Tryz.f67) 12) ⟨mkT u 109 0 [(0, .ptr 0 b 0), (1, .int .i64 pid), (11, .int .i64 (i : Int)), (13, .int .i64 (k : Int))], [⟨.blk b, .cells [.vec 1 aoL (L).length capL, .vec 2 aoN (nt).length capN] 126⟩, ⟨.sl aoL capL, .vecL 131 2 encRg (L) zR⟩, ⟨.sl aoN capN, .vecL 9 1 encS (nt) ByteArray.empty⟩, pk 0 rest, ⟨.sl g.ao g.cap, .vecL 3 1 encI1 (g.pids) 0⟩]⟩) = ( b = b ∧ (aoL = aoL ∧ capL = capL ∧ List.length L = List.length L ∧ (0 : Int) ≤ (↑i : Int) ∧ (↑i : Int) < (↑(List.length L) : Int)) ∧ (Addr.blkD aoL = Addr.blkD aoL ∧ Addr.offD aoL = Addr.offD aoL ∧ 2 = 2 ∧ Int.toNat (↑i : Int) < List.length L) ∧ ((0 : Int) ≤ (↑k : Int) ∧ (↑k : Int) ≤ (↑(List.getD L (Int.toNat (↑i : Int)) (RGrp.mk (ByteArray.mk #[]) (@none Addr) 0 [])).3 : Int)) ∧ (g.ao = (List.getD L (Int.toNat (↑i : Int)) (RGrp.mk (ByteArray.mk #[]) (@none Addr) 0 [])).ao ∧ g.3 = (List.getD L (Int.toNat (↑i : Int)) (RGrp.mk (ByteArray.mk #[]) (@none Addr) 0 [])).3 ∧ 1 = 1 ∧ 1 = 1 ∧ 0 ≤ Int.toNat (↑k : Int) ∧ Int.toNat (↑k : Int) ≤ List.length g.4 ∧ (Int.toNat (↑k : Int) - 0) * 8 ≤ 140737488355328 ∧ Int.toNat (↑k : Int) - 0 ≤ 9223372036854775807) ∧ ∀ (ao2 : Option Addr) (cap2 : Nat), Int.toNat (↑k : Int) - 0 ≤ cap2 → K (frmR [] (bodyOf Tryz.f67) 13) (Sy.mk (SV.ptr 0 b 0 :: (SV.int .i64 pid :: (rawR u 2 (SV.int .i64 (↑i : Int) :: (SV.raw (u 12) :: (SV.int .i64 (↑k : Int) :: (SV.vec 5 ao2 (Int.toNat (↑k : Int) - 0) cap2 :: (rawR u 15 (SV.ptr 0 b 0 :: (SV.ptr 0 b 0 :: (SV.ptr 0 b 0 :: (SV.vec 1 aoL (List.length L) capL :: (SV.int .i64 (↑i : Int) :: (SV.eptr 1 (Addr.blkD aoL) (Addr.offD aoL) 2 (Int.toNat (↑i : Int)) 0 :: (SV.eptr 1 (Addr.blkD aoL) (Addr.offD aoL) 2 (Int.toNat (↑i : Int)) 1 :: (SV.vec 4 (List.getD L (Int.toNat (↑i : Int)) (RGrp.mk (ByteArray.mk #[]) (@none Addr) 0 [])).ao (List.length (List.getD L (Int.toNat (↑i : Int)) (RGrp.mk (ByteArray.mk #[]) (@none Addr) 0 [])).4) (List.getD L (Int.toNat (↑i : Int)) (RGrp.mk (ByteArray.mk #[]) (@none Addr) 0 [])).3 :: (SV.int .i64 (↑k : Int) :: (SV.sub 4 (List.getD L (Int.toNat (↑i : Int)) (RGrp.mk (ByteArray.mk #[]) (@none Addr) 0 [])).ao (List.getD L (Int.toNat (↑i : Int)) (RGrp.mk (ByteArray.mk #[]) (@none Addr) 0 [])).3 1 0 (Int.toNat (↑k : Int)) :: (SV.vec 5 ao2 (Int.toNat (↑k : Int) - 0) cap2 :: (rawR u 87 [] 22)))))))))))) 61))))) 9))) [Ent.mk (Loc.blk b) (SObj.cells [SV.vec 1 aoL (List.length L) capL, SV.vec 2 aoN (List.length nt) capN] 126), Ent.mk (Loc.sl aoL capL) (SObj.vecL 131 2 encRg L (RGrp.mk (ByteArray.mk #[]) (@none Addr) 0 [])), Ent.mk (Loc.sl aoN capN) (SObj.vecL 9 1 encS nt ByteArray.empty), pk 0 rest, Ent.mk (Loc.sl g.ao g.3) (SObj.vecL 3 1 encI1 g.4 (0 : Int)), Ent.mk (Loc.sl ao2 cap2) (SObj.vecL 3 1 encI1 (List.take (Int.toNat (↑k : Int) - 0) (List.drop 0 g.4)) (0 : Int))])) := by kernel_rfl
@[reducible] def rPt_13_z0 (aoL : Option Addr) (capL : Nat) (L : List RGrp) (aoN : Option Addr) (capN : Nat) (nt : List ByteArray) (b : Nat) : Ent := Ent.mk (Loc.blk b) (SObj.cells [SV.vec 1 aoL (List.length L) capL, SV.vec 2 aoN (List.length nt) capN] 126)
@[reducible] def rPt_13_z1 (aoL : Option Addr) (capL : Nat) (L : List RGrp) : Ent := Ent.mk (Loc.sl aoL capL) (SObj.vecL 131 2 encRg L (RGrp.mk (ByteArray.mk #[]) (@none Addr) 0 []))
@[reducible] def rPt_13_z2 (aoN : Option Addr) (capN : Nat) (nt : List ByteArray) : Ent := Ent.mk (Loc.sl aoN capN) (SObj.vecL 9 1 encS nt ByteArray.empty)
@[reducible] def rPt_13_z3 (g : RGrp) : Ent := Ent.mk (Loc.sl g.ao g.3) (SObj.vecL 3 1 encI1 g.4 (0 : Int))
theorem rPt_13 (K : List Frm → Sy → Prop) (N : List Ent → SV → Prop) (aoL : Option Addr) (capL : Nat) (L : List RGrp) (aoN : Option Addr) (capN : Nat) (nt : List ByteArray) (b : Nat) (rest : List Ent) (pid : Int) (i k : Nat) (g : RGrp) (ag : Option Addr) (cg : Nat) (got : List Int) (u : Nat → Value) : (run Tryz.prog [] true [200005] K (retP Tryz.prog Tryz.f67.results.toList N) 1500 (frmR [] (bodyOf Tryz.f67) 13) ⟨mkT u 109 0 [(0, .ptr 0 b 0), (1, .int .i64 pid), (11, .int .i64 (i : Int)), (13, .int .i64 (k : Int)), (14, .vec 5 ag got.length cg)], [⟨.blk b, .cells [.vec 1 aoL (L).length capL, .vec 2 aoN (nt).length capN] 126⟩, ⟨.sl aoL capL, .vecL 131 2 encRg (L) zR⟩, ⟨.sl aoN capN, .vecL 9 1 encS (nt) ByteArray.empty⟩, pk 0 rest, ⟨.sl g.ao g.cap, .vecL 3 1 encI1 (g.pids) 0⟩, ⟨.sl ag cg, .vecL 3 1 encI1 (got) 0⟩]⟩) = ( b = b ∧ b = b ∧ (aoL = aoL ∧ capL = capL ∧ List.length L = List.length L ∧ (0 : Int) ≤ (↑i : Int) ∧ (↑i : Int) < (↑(List.length L) : Int)) ∧ (Addr.blkD aoL = Addr.blkD aoL ∧ Addr.offD aoL = Addr.offD aoL ∧ 2 = 2 ∧ Int.toNat (↑i : Int) < List.length L) ∧ ((0 : Int) ≤ (↑k : Int) ∧ (↑k : Int) ≤ (↑(List.length (List.getD L (Int.toNat (↑i : Int)) (RGrp.mk (ByteArray.mk #[]) (@none Addr) 0 [])).4) : Int) ∧ List.length (List.getD L (Int.toNat (↑i : Int)) (RGrp.mk (ByteArray.mk #[]) (@none Addr) 0 [])).4 ≤ (List.getD L (Int.toNat (↑i : Int)) (RGrp.mk (ByteArray.mk #[]) (@none Addr) 0 [])).3) ∧ (true = true ∧ 1 = 1 ∧ 0 < 1 ∧ 1 ≤ 16777216) ∧ ∀ (b_1 : Nat), (rPt_13_z0 aoL capL L aoN capN nt b = rPt_13_z0 aoL capL L aoN capN nt b ∧ rPt_13_z1 aoL capL L = rPt_13_z1 aoL capL L ∧ rPt_13_z2 aoN capN nt = rPt_13_z2 aoN capN nt ∧ pk 0 rest = pk 0 rest ∧ rPt_13_z3 g = rPt_13_z3 g ∧ True) ∧ (ag = ag ∧ cg = cg ∧ List.length got = List.length got ∧ some (Addr.mk b_1 0 (@none Nat)) = some (Addr.mk b_1 0 (@none Nat)) ∧ 3 = 3 ∧ 1 = 1 ∧ 1 = 1 ∧ 0 < 1 ∧ true = true ∧ (List.length got + 1) * 8 ≤ 140737488355328 ∧ List.length got + 1 ≤ 9223372036854775807) ∧ ∃ (es : List Int), List.length es = 1 ∧ denL (List.flatMap encI1 es) = denL [SV.int .i64 pid] ∧ ∀ (ao2 : Option Addr) (cap2 : Nat), List.length got + 1 ≤ cap2 → (rPt_13_z0 aoL capL L aoN capN nt b = rPt_13_z0 aoL capL L aoN capN nt b ∧ rPt_13_z1 aoL capL L = rPt_13_z1 aoL capL L ∧ rPt_13_z2 aoN capN nt = rPt_13_z2 aoN capN nt ∧ pk 0 rest = pk 0 rest ∧ rPt_13_z3 g = rPt_13_z3 g ∧ True) ∧ (ao2 = ao2 ∧ cap2 = cap2 ∧ List.length got + 1 = List.length (got ++ es) ∧ 3 = 3 ∧ 1 = 1 ∧ g.ao = (List.getD L (Int.toNat (↑i : Int)) (RGrp.mk (ByteArray.mk #[]) (@none Addr) 0 [])).ao ∧ g.3 = (List.getD L (Int.toNat (↑i : Int)) (RGrp.mk (ByteArray.mk #[]) (@none Addr) 0 [])).3 ∧ 1 = 1 ∧ 1 = 1 ∧ Int.toNat (↑k : Int) ≤ List.length (List.getD L (Int.toNat (↑i : Int)) (RGrp.mk (ByteArray.mk #[]) (@none Addr) 0 [])).4 ∧ List.length (List.getD L (Int.toNat (↑i : Int)) (RGrp.mk (ByteArray.mk #[]) (@none Addr) 0 [])).4 ≤ List.length g.4 ∧ (∀ (y : Int), true = true) ∧ (List.length got + 1 + (List.length (List.getD L (Int.toNat (↑i : Int)) (RGrp.mk (ByteArray.mk #[]) (@none Addr) 0 [])).4 - Int.toNat (↑k : Int))) * 8 ≤ 140737488355328 ∧ List.length got + 1 + (List.length (List.getD L (Int.toNat (↑i : Int)) (RGrp.mk (ByteArray.mk #[]) (@none Addr) 0 [])).4 - Int.toNat (↑k : Int)) ≤ 9223372036854775807) ∧ ∃ (es_1 : List Int), List.length es_1 = List.length (List.getD L (Int.toNat (↑i : Int)) (RGrp.mk (ByteArray.mk #[]) (@none Addr) 0 [])).4 - Int.toNat (↑k : Int) ∧ denL (List.flatMap encI1 es_1) = denL (List.flatMap encI1 (List.take (List.length (List.getD L (Int.toNat (↑i : Int)) (RGrp.mk (ByteArray.mk #[]) (@none Addr) 0 [])).4 - Int.toNat (↑k : Int)) (List.drop (Int.toNat (↑k : Int)) g.4))) ∧ ∀ (ao2 : Option Addr) (cap2 : Nat), List.length got + 1 + (List.length (List.getD L (Int.toNat (↑i : Int)) (RGrp.mk (ByteArray.mk #[]) (@none Addr) 0 [])).4 - Int.toNat (↑k : Int)) ≤ cap2 → (rPt_13_z0 aoL capL L aoN capN nt b = rPt_13_z0 aoL capL L aoN capN nt b ∧ rPt_13_z1 aoL capL L = rPt_13_z1 aoL capL L ∧ rPt_13_z2 aoN capN nt = rPt_13_z2 aoN capN nt ∧ pk 0 rest = pk 0 rest ∧ rPt_13_z3 g = rPt_13_z3 g ∧ True) ∧ (aoL = aoL ∧ capL = capL ∧ List.length L = List.length L ∧ (0 : Int) ≤ (↑i : Int) ∧ (↑i : Int) < (↑(List.length L) : Int)) ∧ (Addr.blkD aoL = Addr.blkD aoL ∧ Addr.offD aoL = Addr.offD aoL ∧ 2 = 2 ∧ Int.toNat (↑i : Int) < List.length L ∧ true = true ∧ 1 = 1 ∧ 2 ≤ 2) ∧ ∃ (e : RGrp), denL [SV.str e.1, SV.vec 4 e.ao (List.length e.4) e.3] = denL [SV.str (List.getD L (Int.toNat (↑i : Int)) (RGrp.mk (ByteArray.mk #[]) (@none Addr) 0 [])).1, SV.vec 5 ao2 (List.length got + 1 + (List.length (List.getD L (Int.toNat (↑i : Int)) (RGrp.mk (ByteArray.mk #[]) (@none Addr) 0 [])).4 - Int.toNat (↑k : Int))) cap2] ∧ N [rPt_13_z0 aoL capL L aoN capN nt b, Ent.mk (Loc.sl aoL capL) (SObj.vecL 131 2 encRg (List.set L (Int.toNat (↑i : Int)) e) (RGrp.mk (ByteArray.mk #[]) (@none Addr) 0 [])), rPt_13_z2 aoN capN nt, pk 0 rest, rPt_13_z3 g, Ent.mk (Loc.sl ao2 cap2) (SObj.vecL 3 1 encI1 (got ++ es ++ es_1) (0 : Int)), Ent.mk (Loc.blk b_1) (SObj.cells [SV.int .i64 pid] 3)] (SV.int .i64 0)) := by kernel_rfl
end Go.Proofs.YtkcmgcoppecfpaaGreat

/- The document's groups: Gone, Put. -/
namespace Go.Proofs.YtkcmgcoppecfpaaGreat
open Go Go.RowKit

theorem rAt_names {L L' : List RGrp} (h : L.map (·.name) = L'.map (·.name)) (n : ByteArray) : rAt L n = rAt L' n ∧ rHas L n = rHas L' n := by
  have e1 : ∀ L : List RGrp, rAt L n = ((L.map (·.name)).takeWhile fun x => sLt x n).length := fun L => by
    unfold rAt
    rw [List.takeWhile_map, List.length_map]
    rfl
  have hl : L.length = L'.length := by simpa using congrArg List.length h
  have e2 : rAt L n = rAt L' n := by rw [e1, e1, h]
  have e3 : ∀ (L : List RGrp) (k : Nat), (L.getD k zR).name = (L.map (·.name)).getD k zR.name := fun L k => by
    simp only [List.getD, List.getElem?_map]
    cases L[k]? <;> rfl
  refine ⟨e2, ?_⟩
  unfold rHas
  rw [e2, hl, e3, e3, h]
theorem rSet_names {L : List RGrp} {i : Nat} (l : List Int) (ao : Option Addr) (cap : Nat) : (rSet L i l ao cap).map (·.name) = L.map (·.name) := by
  unfold rSet
  rw [List.map_set]
  refine List.ext_getElem? fun k => ?_
  rw [List.getElem?_set]
  split
  · rename_i e
    subst e
    split
    · rename_i hl
      simp only [List.length_map] at hl
      simp [List.getD, hl]
    · rename_i hl
      simp only [List.length_map, Nat.not_lt] at hl
      simp [hl]
  · rfl
theorem rGone_names (r : RG) (pid : Int) (ao : Option Addr) (cap : Nat) (aoN : Option Addr) (capN : Nat) : (rGone r pid ao cap aoN capN).1.L.map (·.name) = r.L.map (·.name) := by
  unfold rGone
  split
  · rfl
  · split <;> exact rSet_names _ _ _
theorem rGone_ok {r : RG} (h : rOk r) (hn : r.notes.length ≤ 10000) (pid : Int) (ao : Option Addr) (cap : Nat) (aoN : Option Addr) (capN : Nat) : rOk (rGone r pid ao cap aoN capN).1 := by
  have hs : ∀ (i : Nat) (l : List Int), l.length ≤ 1000 → ∀ g ∈ rSet r.L i l ao cap, g.pids.length ≤ 1000 := fun i l hl g hg => by
    unfold rSet at hg
    rcases List.mem_or_eq_of_mem_set hg with hg | rfl
    · exact h.2.2 g hg
    · exact hl
  have hgl : ∀ k, (r.L.getD k zR).pids.length ≤ 1000 := fun k => by
    by_cases hk : k < r.L.length
    · have e : r.L.getD k zR = r.L[k] := by simp [List.getD, hk]
      rw [e]; exact h.2.2 _ (List.getElem_mem hk)
    · have e : r.L.getD k zR = zR := by simp only [Nat.not_lt] at hk; simp [List.getD, hk]
      rw [e]; exact Nat.zero_le _
  unfold rGone
  split
  · exact h
  · rename_i n hn2
    have hf := Nat.le_trans (List.length_filter_le (fun p => p != pid) (r.L.getD (rAt r.L n) zR).pids) (hgl _)
    split
    · exact ⟨by dsimp only; unfold rSet; rw [List.length_set]; exact h.1, by simp; omega, hs _ _ hf⟩
    · exact ⟨by dsimp only; unfold rSet; rw [List.length_set]; exact h.1, h.2.1, hs _ _ hf⟩
theorem rGn_ok : CtrOk Tryz.prog 71 (adtC rgE rgoneM) := adt_ok fun b r rest N h => by
  unfold rgoneM at h
  split at h
  case h_2 => exact h.elim
  rename_i pid
  obtain ⟨ho, h⟩ := h
  obtain ⟨ho, hat⟩ := ho
  refine Spec.pre (hs' := [pkA b rgE r]) (args' := [.ptr 0 b 0, .int .i64 pid]) (fun W F w hr => Rep.pkA1 hr) rfl ?_
  refine Spec.of_G 111 Tryz.func71 (c := bodyOf Tryz.f71) (by kernel_rfl) (by kernel_rfl) (Nat.le_of_ble_eq_true rfl) fun W F => ?_
  refine G_run (kc := false) (ss := []) (Cs := [(64, adtC rgE ratM), (89, adtC rgE rofM)]) ⟨rAt_ok, rOf_ok, trivial⟩ hmR 600 ?_
  rw [rGn_start]
  refine ⟨rfl, rfl, rfl, HEq.rfl, ho, ?_⟩
  unfold rGone at h
  cases hof : rOf r.L pid with
  | none =>
    rw [hof] at h
    exact ⟨r, fun W F w hr => hr.unpkA1, h none 0 none 0⟩
  | some n =>
    rw [hof] at h
    have hh := hat n hof
    have hi : rAt r.L n < r.L.length := by
      unfold rHas at hh
      simp only [Bool.and_eq_true, decide_eq_true_eq] at hh
      exact hh.1
    refine ⟨rfl, rfl, rfl, HEq.rfl, ho, ?_⟩
    dsimp only at h ⊢
    generalize rAt r.L n = i at hi h ⊢
    have hg : ∀ d, r.L.getD i d = r.L[i] := fun d => getD_ltR _ _ _ hi
    rw [hg] at h
    have hL := ho.1
    have hpl := ho.2.2 _ (List.getElem_mem hi)
    refine G_loopAt (ι := Nat × Option Addr × Nat × List Int) [] (bodyOf Tryz.f71) [1, 1, 1, 1, 1, 0, 1, 0] 111 (fun x : Nat × Option Addr × Nat × List Int => [(0, .ptr 0 b 0), (1, .int .i64 pid), (5, .str n), (7, .int .i64 (i : Int)), (9, .vec 5 x.2.1 (x.2.2.2).length x.2.2.1), (10, .int .i64 (x.1 : Int))]) (fun x : Nat × Option Addr × Nat × List Int => [⟨.blk b, .cells [.vec 1 r.aoL (r.L).length r.capL, .vec 2 r.aoN (r.notes).length r.capN] 126⟩, ⟨.sl r.aoL r.capL, .vecL 131 2 encRg (r.L) zR⟩, ⟨.sl r.aoN r.capN, .vecL 9 1 encS (r.notes) ByteArray.empty⟩, pk 0 ((r.L.take i).map pidE ++ (r.L.drop (i + 1)).map pidE), pidE r.L[i], ⟨.sl x.2.1 x.2.2.1, .vecL 3 1 encI1 (x.2.2.2) 0⟩]) (fun x : Nat × Option Addr × Nat × List Int => x.1 ≤ r.L[i].pids.length ∧ x.2.2.2 = (r.L[i].pids.take x.1).filter fun q => q != pid) (fun x : Nat × Option Addr × Nat × List Int => r.L[i].pids.length - x.1) (0, none, 0, []) (by kernel_rfl) (fun J => by kernel_rfl) ⟨Nat.zero_le _, rfl⟩ rfl ⟨rfl, rfl, rfl, rfl, rfl, rfl, trivial⟩ (fun w hr => Rep.nilvec 3 (sz := 1) (enc := encI1) 0 (fun _ => rfl) (rg_open hi hr.unpkA1)) ?_
    rintro ⟨k, ag, cg, got⟩ ⟨hk, hv⟩ u
    dsimp only at hk hv
    try dsimp only
    simp only [List.nil_append, List.cons_append]
    refine G_run (kc := false) (ss := [11]) (Cs := []) trivial hmR 900 ?_
    unfold pidE
    rw [rGn_1]
    have w1 : IntKind.wrap .i64 ((k : Int) + 1) = ((k + 1 : Nat) : Int) := IntWalk.i64_in _ (by omega)
    have hgl : got.length ≤ 1000 := by
      rw [hv]
      have h1 := List.length_filter_le (fun q => q != pid) (r.L[i].pids.take k)
      simp at h1
      omega
    rw [Int.toNat_natCast i, hg]
    refine ⟨rfl, ⟨rfl, rfl, rfl, by omega, by omega⟩, ⟨rfl, rfl, rfl, hi⟩, ?_⟩
    cases hlt : decide ((k : Int) < (r.L[i].pids.length : Int)) with
    | true =>
      simp only [decide_eq_true_eq] at hlt
      have hk2 : k < r.L[i].pids.length := by omega
      have hgk : r.L[i].pids.getD k 0 = r.L[i].pids[k] := getD_ltR _ _ _ hk2
      rw [Int.toNat_natCast k, hgk]
      refine ⟨rfl, ⟨rfl, rfl, rfl, by omega, by omega⟩, ⟨rfl, rfl, rfl, hi⟩, ⟨rfl, rfl, rfl, by omega, by omega⟩, ⟨rfl, rfl, rfl, hk2⟩, ?_⟩
      have hnx : (r.L[i].pids.take (k + 1)).filter (fun q => q != pid) = got ++ if r.L[i].pids[k] != pid then [r.L[i].pids[k]] else [] := by
        rw [List.take_succ_eq_append_getElem hk2, List.filter_append, ← hv]
        congr 1
        cases hq : r.L[i].pids[k] != pid <;> simp [List.filter_cons, hq]
      have back : ∀ (tm : List SV) (a : Option Addr) (c : Nat) (l : List Int) (x : List Ent), l = (r.L[i].pids.take (k + 1)).filter (fun q => q != pid) → lenN tm = 111 → liveOk tm [(0, .ptr 0 b 0), (1, .int .i64 pid), (5, .str n), (7, .int .i64 (i : Int)), (9, .vec 5 a (l).length c), (10, .int .i64 ((k + 1 : Nat) : Int))] → G Tryz.prog (endQ Tryz.prog Tryz.f71 W F (fun h' res => ∃ r', (∀ W F w, Rep W F h' w → Rep W F (rgE r' b) w) ∧ N r' res)) W F (.loop (Back W F 111 (fun x : Nat × Option Addr × Nat × List Int => [(0, .ptr 0 b 0), (1, .int .i64 pid), (5, .str n), (7, .int .i64 (i : Int)), (9, .vec 5 x.2.1 (x.2.2.2).length x.2.2.1), (10, .int .i64 (x.1 : Int))]) (fun x : Nat × Option Addr × Nat × List Int => [⟨.blk b, .cells [.vec 1 r.aoL (r.L).length r.capL, .vec 2 r.aoN (r.notes).length r.capN] 126⟩, ⟨.sl r.aoL r.capL, .vecL 131 2 encRg (r.L) zR⟩, ⟨.sl r.aoN r.capN, .vecL 9 1 encS (r.notes) ByteArray.empty⟩, pk 0 ((r.L.take i).map pidE ++ (r.L.drop (i + 1)).map pidE), pidE r.L[i], ⟨.sl x.2.1 x.2.2.1, .vecL 3 1 encI1 (x.2.2.2) 0⟩]) (fun x : Nat × Option Addr × Nat × List Int => x.1 ≤ r.L[i].pids.length ∧ x.2.2.2 = (r.L[i].pids.take x.1).filter fun q => q != pid) (fun x : Nat × Option Addr × Nat × List Int => r.L[i].pids.length - x.1) (r.L[i].pids.length - k)) :: .blk 0 :: frm [] (bodyOf Tryz.f71) [1, 1, 1, 1, 1, 1] []) ⟨tm, [⟨.blk b, .cells [.vec 1 r.aoL (r.L).length r.capL, .vec 2 r.aoN (r.notes).length r.capN] 126⟩, ⟨.sl r.aoL r.capL, .vecL 131 2 encRg (r.L) zR⟩, ⟨.sl r.aoN r.capN, .vecL 9 1 encS (r.notes) ByteArray.empty⟩, pk 0 ((r.L.take i).map pidE ++ (r.L.drop (i + 1)).map pidE), ⟨.sl r.L[i].ao r.L[i].cap, .vecL 3 1 encI1 r.L[i].pids 0⟩, ⟨.sl a c, .vecL 3 1 encI1 (l) 0⟩] ++ x⟩ := fun tm a c l x hl g1 g2 =>
        G_back (k + 1, a, c, l) ⟨hk2, hl⟩ (by dsimp only; omega) g1 g2 (fun w hw => Rep.dropR hw)
      cases hc : r.L[i].pids[k] != pid with
      | true =>
        have hl : got ++ [r.L[i].pids[k]] = (r.L[i].pids.take (k + 1)).filter (fun q => q != pid) := by rw [hnx, hc]; rfl
        repeat' first
          | exact rfl
          | exact hi
          | exact hk2
          | (refine ⟨[r.L[i].pids[k]], rfl, rfl, fun ao2 cap2 _ => ?_⟩)
          | exact back _ _ _ _ [_] hl rfl ⟨rfl, rfl, rfl, rfl, by rw [List.length_append]; rfl, congrArg (Value.int .i64) w1, trivial⟩
          | apply And.intro
          | (refine fun b1 => ?_)
          | (show _ ≤ _; omega)
          | (show _ < _; omega)
          | fail
      | false =>
        have hl : got = (r.L[i].pids.take (k + 1)).filter (fun q => q != pid) := by rw [hnx, hc]; simp
        exact back _ _ _ _ [] hl rfl ⟨rfl, rfl, rfl, rfl, rfl, congrArg (Value.int .i64) w1, trivial⟩
    | false =>
      simp only [decide_eq_false_iff_not] at hlt
      rw [List.take_of_length_le (by omega)] at hv
      rw [← hv] at h
      refine G_live 111 [(0, .ptr 0 b 0), (1, .int .i64 pid), (5, .str n), (7, .int .i64 (i : Int)), (9, .vec 5 ag got.length cg)] [⟨.blk b, .cells [.vec 1 r.aoL (r.L).length r.capL, .vec 2 r.aoN (r.notes).length r.capN] 126⟩, ⟨.sl r.aoL r.capL, .vecL 131 2 encRg (r.L) zR⟩, ⟨.sl r.aoN r.capN, .vecL 9 1 encS (r.notes) ByteArray.empty⟩, pk 0 ((r.L.take i).map pidE ++ (r.L.drop (i + 1)).map pidE), ⟨.sl r.L[i].ao r.L[i].cap, .vecL 3 1 encI1 r.L[i].pids 0⟩, ⟨.sl ag cg, .vecL 3 1 encI1 (got) 0⟩] rfl ⟨rfl, rfl, rfl, rfl, rfl, trivial⟩ (fun w hr => hr) fun u => ?_
      refine G_run (kc := false) (ss := []) (Cs := []) trivial hmR 900 ?_
      rw [rGn_11 (k := 0), Int.toNat_natCast i, hg]
      refine ⟨rfl, ⟨rfl, rfl, rfl, by omega, by omega⟩, ⟨rfl, rfl, rfl, hi, rfl, rfl, Nat.le_refl _⟩, ⟨r.L[i].name, ag, cg, got⟩, rfl, ?_⟩
      have close : ∀ W F w, Rep W F [⟨.blk b, .cells [.vec 1 r.aoL (r.L).length r.capL, .vec 2 r.aoN (r.notes).length r.capN] 126⟩, ⟨.sl r.aoL r.capL, .vecL 131 2 encRg (r.L.set i ⟨r.L[i].name, ag, cg, got⟩) zR⟩, ⟨.sl r.aoN r.capN, .vecL 9 1 encS (r.notes) ByteArray.empty⟩, pk 0 ((r.L.take i).map pidE ++ (r.L.drop (i + 1)).map pidE), ⟨.sl r.L[i].ao r.L[i].cap, .vecL 3 1 encI1 r.L[i].pids 0⟩, ⟨.sl ag cg, .vecL 3 1 encI1 (got) 0⟩] w → Rep W F (rgE { r with L := r.L.set i ⟨r.L[i].name, ag, cg, got⟩ } b) w := fun W F w hr => by
        have g1 := Rep.pick (π := [0, 1, 2, 3, 5]) (by decide) rfl hr
        have g2 := rg_close (g := ⟨r.L[i].name, ag, cg, got⟩) hi g1
        exact Rep.cellsEq (l := 0) (cs' := [.vec 1 r.aoL (r.L.set i ⟨r.L[i].name, ag, cg, got⟩).length r.capL, .vec 2 r.aoN r.notes.length r.capN]) rfl (by rw [List.length_set]) g2
      have hrs : rSet r.L i got ag cg = r.L.set i ⟨r.L[i].name, ag, cg, got⟩ := by unfold rSet; rw [hg]
      have hc0 : (((got.length : Nat) : Int) == 0) = (got.length == 0) := by rw [Bool.eq_iff_iff]; simp
      rw [hc0]
      cases hz : got.length == 0 with
      | false =>
        have hf := h ag cg none 0
        simp only [hz, Bool.false_and, hrs] at hf
        exact ⟨_, close, hf⟩
      | true =>
        simp only [hz, Bool.true_and] at h
        refine G_loopAt (ι := Nat × Bool) [] (bodyOf Tryz.f71) [1, 1, 1, 1, 1, 1, 1, 0, 1, 0, 1, 0, 1, 0] 111 (fun x : Nat × Bool => [(0, .ptr 0 b 0), (5, .str n), (11, .bool x.2), (12, .int .i64 (x.1 : Int))]) (fun _ => [⟨.blk b, .cells [.vec 1 r.aoL ((r.L.set i ⟨r.L[i].name, ag, cg, got⟩)).length r.capL, .vec 2 r.aoN (r.notes).length r.capN] 126⟩, ⟨.sl r.aoL r.capL, .vecL 131 2 encRg ((r.L.set i ⟨r.L[i].name, ag, cg, got⟩)) zR⟩, ⟨.sl r.aoN r.capN, .vecL 9 1 encS (r.notes) ByteArray.empty⟩, pk 0 ((r.L.set i ⟨r.L[i].name, ag, cg, got⟩).map pidE)]) (fun x : Nat × Bool => x.1 ≤ r.notes.length ∧ x.2 = (r.notes.take x.1).any fun y => sEq y n) (fun x : Nat × Bool => r.notes.length - x.1) (0, false) (by kernel_rfl) (fun J => by kernel_rfl) ⟨Nat.zero_le _, rfl⟩ rfl ⟨rfl, rfl, rfl, rfl, trivial⟩ (fun w hr => close _ _ _ hr) ?_
        rintro ⟨k, st⟩ ⟨hk, hst⟩ u
        dsimp only at hk hst
        try dsimp only
        simp only [List.nil_append, List.cons_append]
        refine G_run (kc := false) (ss := []) (Cs := []) trivial hmR 900 ?_
        rw [rGn_2]
        have hN := ho.2.1
        have w1 : IntKind.wrap .i64 ((k : Int) + 1) = ((k + 1 : Nat) : Int) := IntWalk.i64_in _ (by omega)
        refine ⟨rfl, ?_⟩
        cases hlt2 : decide ((k : Int) < (r.notes.length : Int)) with
        | true =>
          simp only [decide_eq_true_eq] at hlt2
          have hk2 : k < r.notes.length := by omega
          have hgk : r.notes.getD k ByteArray.empty = r.notes[k] := getD_ltR _ _ _ hk2
          rw [Int.toNat_natCast k, hgk]
          have hnx : (r.notes.take (k + 1)).any (fun y => sEq y n) = (st || sEq r.notes[k] n) := by
            rw [List.take_succ_eq_append_getElem hk2, List.any_append, ← hst]
            simp
          cases st with
          | true =>
            refine G_back (k + 1, true) ⟨hk2, ?_⟩ (by dsimp only; omega) rfl ⟨rfl, rfl, rfl, congrArg (Value.int .i64) w1, trivial⟩ (fun w hw => hw)
            dsimp only; rw [hnx]; rfl
          | false =>
            refine ⟨rfl, ⟨rfl, rfl, rfl, by omega, by omega⟩, ⟨rfl, rfl, rfl, hk2⟩, ?_⟩
            refine G_back (k + 1, sEq r.notes[k] n) ⟨hk2, ?_⟩ (by dsimp only; omega) rfl ⟨rfl, rfl, rfl, congrArg (Value.int .i64) w1, trivial⟩ (fun w hw => hw)
            dsimp only; rw [hnx]; rfl
        | false =>
          simp only [decide_eq_false_iff_not] at hlt2
          rw [List.take_of_length_le (by omega)] at hst
          rw [← hst] at h
          have h := fun aoN capN => h ag cg aoN capN
          simp only [hrs] at h
          cases st with
          | true =>
            exact ⟨{ r with L := r.L.set i ⟨r.L[i].name, ag, cg, got⟩ }, fun W F w hr => hr, h none 0⟩
          | false =>
            have fin : ∀ (ao2 : Option Addr) (cap2 : Nat) (e5 : Ent), (fun h' res => ∃ r', (∀ W F w, Rep W F h' w → Rep W F (rgE r' b) w) ∧ N r' res) [⟨.blk b, .cells [.vec 1 r.aoL (r.L.set i ⟨r.L[i].name, ag, cg, got⟩).length r.capL, .vec 2 ao2 (r.notes.length + 1) cap2] 126⟩, ⟨.sl r.aoL r.capL, .vecL 131 2 encRg (r.L.set i ⟨r.L[i].name, ag, cg, got⟩) zR⟩, ⟨.sl ao2 cap2, .vecL 9 1 encS (r.notes ++ [n]) ByteArray.empty⟩, pk 0 ((r.L.set i ⟨r.L[i].name, ag, cg, got⟩).map pidE), e5] (.bool true) := fun ao2 cap2 e5 => by
              refine ⟨_, fun W F w hr => ?_, h ao2 cap2⟩
              have g1 := Rep.dropR (h := [⟨.blk b, .cells [.vec 1 r.aoL (r.L.set i ⟨r.L[i].name, ag, cg, got⟩).length r.capL, .vec 2 ao2 (r.notes.length + 1) cap2] 126⟩, ⟨.sl r.aoL r.capL, .vecL 131 2 encRg (r.L.set i ⟨r.L[i].name, ag, cg, got⟩) zR⟩, ⟨.sl ao2 cap2, .vecL 9 1 encS (r.notes ++ [n]) ByteArray.empty⟩, pk 0 ((r.L.set i ⟨r.L[i].name, ag, cg, got⟩).map pidE)]) (t := [e5]) hr
              exact Rep.cellsEq (l := 0) (cs' := [.vec 1 r.aoL (r.L.set i ⟨r.L[i].name, ag, cg, got⟩).length r.capL, .vec 2 ao2 (r.notes ++ [n]).length cap2]) rfl (by rw [List.length_append]; rfl) g1
            repeat' first
              | exact rfl
              | exact fin _ _ _
              | (refine ⟨[n], rfl, rfl, fun ao2 cap2 _ => ?_⟩)
              | apply And.intro
              | (refine fun b1 => ?_)
              | (show _ ≤ _; omega)
              | (show _ < _; omega)
              | fail
section
variable {q : RG} {b i : Nat} {pid : Int} {name : ByteArray} {W : World} {F : List Ch} {N : RG → SV → Prop}
theorem rPt_fin (ho : rOk q) (hi : i < q.L.length) {k : Nat} (hk : k ≤ q.L[i].pids.length) (hins : insI q.L[i].pids pid = q.L[i].pids.take k ++ pid :: q.L[i].pids.drop k) (hN : ∀ ao cap, N { q with L := rSet q.L i (insI q.L[i].pids pid) ao cap } (.int .i64 0)) {tm : List SV} (h1 : lenN tm = 109) (h2 : liveOk tm [(0, .ptr 0 b 0), (1, .int .i64 pid), (11, .int .i64 (i : Int)), (13, .int .i64 (k : Int))]) :
    G Tryz.prog (endQ Tryz.prog Tryz.f67 W F (fun h' res => ∃ r', (∀ W F w, Rep W F h' w → Rep W F (rgE r' b) w) ∧ N r' res)) W F (frmR [] (bodyOf Tryz.f67) 12) ⟨tm, [⟨.blk b, .cells [.vec 1 q.aoL (q.L).length q.capL, .vec 2 q.aoN (q.notes).length q.capN] 126⟩, ⟨.sl q.aoL q.capL, .vecL 131 2 encRg (q.L) zR⟩, ⟨.sl q.aoN q.capN, .vecL 9 1 encS (q.notes) ByteArray.empty⟩, pk 0 ((q.L.take i).map pidE ++ (q.L.drop (i + 1)).map pidE), ⟨.sl q.L[i].ao q.L[i].cap, .vecL 3 1 encI1 q.L[i].pids 0⟩]⟩ := by
  have hL := ho.1
  have hg : ∀ d, q.L.getD i d = q.L[i] := fun d => getD_ltR _ _ _ hi
  have hpl := ho.2.2 _ (List.getElem_mem hi)
  refine G_live 109 [(0, .ptr 0 b 0), (1, .int .i64 pid), (11, .int .i64 (i : Int)), (13, .int .i64 (k : Int))] [⟨.blk b, .cells [.vec 1 q.aoL (q.L).length q.capL, .vec 2 q.aoN (q.notes).length q.capN] 126⟩, ⟨.sl q.aoL q.capL, .vecL 131 2 encRg (q.L) zR⟩, ⟨.sl q.aoN q.capN, .vecL 9 1 encS (q.notes) ByteArray.empty⟩, pk 0 ((q.L.take i).map pidE ++ (q.L.drop (i + 1)).map pidE), ⟨.sl q.L[i].ao q.L[i].cap, .vecL 3 1 encI1 q.L[i].pids 0⟩] h1 h2 (fun w hw => hw) fun u => ?_
  refine G_vec (l := 4) rfl fun hcap _ => ?_
  refine G_run (kc := true) (ss := [13]) (Cs := []) trivial hmR 1500 ?_
  rw [rPt_12, Int.toNat_natCast i, Int.toNat_natCast k, hg]
  have e0 : (q.L[i].pids.drop 0).take (k - 0) = q.L[i].pids.take k := by rw [List.drop_zero, Nat.sub_zero]
  have e1 : (q.L[i].pids.take k).length = k := by simp; omega
  rw [e0, Nat.sub_zero]
  refine ⟨rfl, ⟨rfl, rfl, rfl, by omega, by omega⟩, ⟨rfl, rfl, rfl, hi⟩, ⟨by omega, by omega⟩, ⟨rfl, rfl, rfl, rfl, Nat.zero_le _, hk, by omega, by omega⟩, fun ao2 cap2 _ => ?_⟩
  refine G_live 109 [(0, .ptr 0 b 0), (1, .int .i64 pid), (11, .int .i64 (i : Int)), (13, .int .i64 (k : Int)), (14, .vec 5 ao2 (q.L[i].pids.take k).length cap2)] [⟨.blk b, .cells [.vec 1 q.aoL (q.L).length q.capL, .vec 2 q.aoN (q.notes).length q.capN] 126⟩, ⟨.sl q.aoL q.capL, .vecL 131 2 encRg (q.L) zR⟩, ⟨.sl q.aoN q.capN, .vecL 9 1 encS (q.notes) ByteArray.empty⟩, pk 0 ((q.L.take i).map pidE ++ (q.L.drop (i + 1)).map pidE), ⟨.sl q.L[i].ao q.L[i].cap, .vecL 3 1 encI1 q.L[i].pids 0⟩, ⟨.sl ao2 cap2, .vecL 3 1 encI1 (q.L[i].pids.take k) 0⟩] rfl ⟨rfl, rfl, rfl, rfl, congrArg (fun z => Value.slice ao2 z cap2) e1.symm, trivial⟩ (fun w hw => hw) fun u => ?_
  refine G_run (kc := true) (ss := [200005]) (Cs := []) trivial hmR 1500 ?_
  rw [rPt_13, Int.toNat_natCast i, Int.toNat_natCast k, hg]
  have fin : ∀ (ao3 : Option Addr) (cap3 : Nat) (e6 : Ent), ∃ r', (∀ W F w, Rep W F [⟨.blk b, .cells [.vec 1 q.aoL (q.L).length q.capL, .vec 2 q.aoN (q.notes).length q.capN] 126⟩, ⟨.sl q.aoL q.capL, .vecL 131 2 encRg (q.L.set i ⟨q.L[i].name, ao3, cap3, insI q.L[i].pids pid⟩) zR⟩, ⟨.sl q.aoN q.capN, .vecL 9 1 encS (q.notes) ByteArray.empty⟩, pk 0 ((q.L.take i).map pidE ++ (q.L.drop (i + 1)).map pidE), ⟨.sl q.L[i].ao q.L[i].cap, .vecL 3 1 encI1 q.L[i].pids 0⟩, ⟨.sl ao3 cap3, .vecL 3 1 encI1 (q.L[i].pids.take k ++ [pid] ++ q.L[i].pids.drop k) 0⟩, e6] w → Rep W F (rgE r' b) w) ∧ N r' (.int .i64 0) := fun ao3 cap3 e6 => by
    refine ⟨_, fun W F w hr => ?_, hN ao3 cap3⟩
    have g1 := Rep.pick (π := [0, 1, 2, 3, 5]) (by decide) rfl hr
    have e7 : q.L[i].pids.take k ++ [pid] ++ q.L[i].pids.drop k = insI q.L[i].pids pid := by rw [hins]; simp
    rw [e7] at g1
    have g2 := rg_close (g := ⟨q.L[i].name, ao3, cap3, insI q.L[i].pids pid⟩) hi g1
    have g3 := Rep.cellsEq (l := 0) (cs' := [.vec 1 q.aoL (q.L.set i ⟨q.L[i].name, ao3, cap3, insI q.L[i].pids pid⟩).length q.capL, .vec 2 q.aoN q.notes.length q.capN]) rfl (by rw [List.length_set]) g2
    unfold rgE rSet
    dsimp only
    rw [hg]
    exact g3
  have e8 : (q.L[i].pids.drop k).take (q.L[i].pids.length - k) = q.L[i].pids.drop k := List.take_of_length_le (by simp)
  have e9 : (q.L[i].pids.drop k).length = q.L[i].pids.length - k := by simp
  have e10 : ∀ (es es1 : List Int), es = [pid] → es1 = q.L[i].pids.drop k → (insI q.L[i].pids pid).length = k + 1 + (q.L[i].pids.length - k) := fun _ _ _ _ => by rw [hins]; simp; omega
  have e11 := e10 _ _ rfl rfl
  rw [e1]
  repeat' first
    | exact rfl
    | exact trivial
    | exact fin _ _ _
    | (refine ⟨[pid], rfl, rfl, fun ao2 cap2 _ => ?_⟩)
    | (refine ⟨q.L[i].pids.drop k, e9, by rw [e8], fun ao2 cap2 _ => ?_⟩)
    | (refine ⟨⟨q.L[i].name, ao2, cap2, insI q.L[i].pids pid⟩, congrArg (fun z => [Value.string q.L[i].name, Value.slice ao2 z cap2]) e11, ?_⟩)
    | exact hi
    | exact hk
    | exact hcap
    | apply And.intro
    | (refine fun _ => ?_)
    | (show _ ≤ _; omega)
    | (show _ < _; omega)
    | (simp; done)
    | (simp; omega)
    | fail
theorem rPt_walk (ho : rOk q) (hi : i < q.L.length) (hN : ∀ ao cap, N { q with L := rSet q.L i (insI q.L[i].pids pid) ao cap } (.int .i64 0)) {tm : List SV} (h1 : lenN tm = 109) (h2 : liveOk tm [(0, .ptr 0 b 0), (1, .int .i64 pid), (11, .int .i64 (i : Int)), (13, .int .i64 ((0 : Nat) : Int))]) :
    G Tryz.prog (endQ Tryz.prog Tryz.f67 W F (fun h' res => ∃ r', (∀ W F w, Rep W F h' w → Rep W F (rgE r' b) w) ∧ N r' res)) W F (frm [] (bodyOf Tryz.f67) [1, 1, 1, 1, 1, 1, 1, 1, 0, 0] []) ⟨tm, [pkA b rgE q]⟩ := by
  have hL := ho.1
  have hg : ∀ d, q.L.getD i d = q.L[i] := fun d => getD_ltR _ _ _ hi
  have hpl := ho.2.2 _ (List.getElem_mem hi)
  refine G_loopAt (ι := Nat) [] (bodyOf Tryz.f67) [1, 1, 1, 1, 1, 1, 1, 1, 0, 0] 109 (fun k : Nat => [(0, .ptr 0 b 0), (1, .int .i64 pid), (11, .int .i64 (i : Int)), (13, .int .i64 (k : Int))]) (fun _ => [⟨.blk b, .cells [.vec 1 q.aoL (q.L).length q.capL, .vec 2 q.aoN (q.notes).length q.capN] 126⟩, ⟨.sl q.aoL q.capL, .vecL 131 2 encRg (q.L) zR⟩, ⟨.sl q.aoN q.capN, .vecL 9 1 encS (q.notes) ByteArray.empty⟩, pk 0 ((q.L.take i).map pidE ++ (q.L.drop (i + 1)).map pidE), pidE q.L[i]]) (fun k : Nat => k ≤ q.L[i].pids.length ∧ ∀ p ∈ q.L[i].pids.take k, decide (p < pid) = true) (fun k : Nat => q.L[i].pids.length - k) 0 (by kernel_rfl) (fun J => by kernel_rfl) ⟨Nat.zero_le _, fun p hp => by simp at hp⟩ h1 h2 (fun w hr => rg_open hi hr.unpkA1) ?_
  rintro k ⟨hk, hp⟩ u
  try dsimp only at hk hp ⊢
  simp only [List.nil_append, List.cons_append]
  refine G_run (kc := true) (ss := [12]) (Cs := []) trivial hmR 900 ?_
  unfold pidE
  rw [rPt_1, Int.toNat_natCast i, hg]
  have w1 : IntKind.wrap .i64 ((k : Int) + 1) = ((k + 1 : Nat) : Int) := IntWalk.i64_in _ (by omega)
  have done : (∀ h : k < q.L[i].pids.length, decide (q.L[i].pids[k] < pid) = false) → insI q.L[i].pids pid = q.L[i].pids.take k ++ pid :: q.L[i].pids.drop k := fun hq => by
    have e := tw_len (fun x => decide (x < pid)) q.L[i].pids k hk hp hq
    have t1 : q.L[i].pids.takeWhile (fun x => decide (x < pid)) = q.L[i].pids.take k := by
      have := List.prefix_iff_eq_take.1 (List.takeWhile_prefix (fun x => decide (x < pid)) (l := q.L[i].pids))
      rw [e] at this; exact this
    have t2 : q.L[i].pids.dropWhile (fun x => decide (x < pid)) = q.L[i].pids.drop k := by
      have g1 := List.takeWhile_append_dropWhile (p := fun x : Int => decide (x < pid)) (l := q.L[i].pids)
      have g2 := List.take_append_drop k q.L[i].pids
      rw [t1] at g1
      exact List.append_cancel_left (g1.trans g2.symm)
    unfold insI
    rw [t1, t2]
  refine ⟨rfl, ⟨rfl, rfl, rfl, by omega, by omega⟩, ⟨rfl, rfl, rfl, hi⟩, ?_⟩
  cases hlt : decide ((k : Int) < (q.L[i].pids.length : Int)) with
  | false =>
    simp only [decide_eq_false_iff_not] at hlt
    exact rPt_fin ho hi hk (done fun h => by omega) hN rfl ⟨rfl, rfl, rfl, rfl, trivial⟩
  | true =>
    simp only [decide_eq_true_eq] at hlt
    have hk2 : k < q.L[i].pids.length := by omega
    have hgk : q.L[i].pids.getD k 0 = q.L[i].pids[k] := getD_ltR _ _ _ hk2
    rw [Int.toNat_natCast k, hgk]
    refine ⟨rfl, ⟨rfl, rfl, rfl, by omega, by omega⟩, ⟨rfl, rfl, rfl, hi⟩, ⟨rfl, rfl, rfl, by omega, by omega⟩, ⟨rfl, rfl, rfl, hk2⟩, ?_⟩
    cases hc : decide (q.L[i].pids[k] < pid) with
    | true =>
      refine G_back (k + 1) ⟨hk2, fun p hpm => ?_⟩ (by omega) rfl ⟨rfl, rfl, rfl, congrArg (Value.int .i64) w1, trivial⟩ (fun w hw => hw)
      rw [List.take_succ_eq_append_getElem hk2] at hpm
      rcases List.mem_append.1 hpm with hpm | hpm
      · exact hp p hpm
      · rw [List.mem_singleton.1 hpm]; exact hc
    | false => exact rPt_fin ho hi hk (done fun _ => hc) hN rfl ⟨rfl, rfl, rfl, rfl, trivial⟩
end
theorem rPt_ok : CtrOk Tryz.prog 67 (adtC rgE rputM) := adt_ok fun b r rest N h => by
  unfold rputM at h
  split at h
  case h_2 => exact h.elim
  rename_i pid name
  obtain ⟨ho, h⟩ := h
  obtain ⟨⟨ho, hn⟩, hat⟩ := ho
  refine Spec.pre (hs' := [pkA b rgE r]) (args' := [.ptr 0 b 0, .int .i64 pid, .str name]) (fun W F w hr => Rep.pkA1 hr) rfl ?_
  refine Spec.of_G 109 Tryz.func67 (c := bodyOf Tryz.f67) (by kernel_rfl) (by kernel_rfl) (Nat.le_of_ble_eq_true rfl) fun W F => ?_
  refine G_run (kc := false) (ss := []) (Cs := [(64, adtC rgE ratM), (89, adtC rgE rofM), (71, adtC rgE rgoneM)]) ⟨rAt_ok, rOf_ok, rGn_ok, trivial⟩ hmR 900 ?_
  rw [rPt_start]
  refine ⟨rfl, rfl, rfl, HEq.rfl, ho, ?_⟩
  unfold rPut at h
  cases hh : rHas r.L name with
  | false =>
    rw [hh] at h
    exact ⟨r, fun W F w hr => hr.unpkA1, h none 0 none 0 none 0⟩
  | true =>
    rw [hh] at h
    rw [Bool.not_true, Bool.false_or] at h
    rw [Bool.not_true]
    dsimp only
    cases hd : decide (pid < 2) with
    | true =>
      rw [hd] at h
      exact ⟨r, fun W F w hr => hr.unpkA1, h none 0 none 0 none 0⟩
    | false =>
      rw [hd] at h
      dsimp only at h ⊢
      have main : rIn r.L pid name = false → ∀ (ao : Option Addr) (cap : Nat) (aoN : Option Addr) (capN : Nat) (tm : List SV), lenN tm = 109 → liveOk tm [(0, .ptr 0 b 0), (1, .int .i64 pid), (11, .int .i64 (rAt (rGone r pid ao cap aoN capN).1.L name : Int)), (13, .int .i64 ((0 : Nat) : Int))] →
          G Tryz.prog (endQ Tryz.prog Tryz.f67 W F (fun h' res => ∃ r', (∀ W F w, Rep W F h' w → Rep W F (rgE r' b) w) ∧ N r' res)) W F (frm [] (bodyOf Tryz.f67) [1, 1, 1, 1, 1, 1, 1, 1, 0, 0] []) ⟨tm, [pkA b rgE (rGone r pid ao cap aoN capN).1]⟩ := fun hin ao cap aoN capN tm g1 g2 => by
        rw [hin] at h
        have hnm := rAt_names (rGone_names r pid ao cap aoN capN) name
        have hh2 : rHas (rGone r pid ao cap aoN capN).1.L name = true := by rw [hnm.2]; exact hh
        have hi : rAt (rGone r pid ao cap aoN capN).1.L name < (rGone r pid ao cap aoN capN).1.L.length := by
          unfold rHas at hh2
          simp only [Bool.and_eq_true, decide_eq_true_eq] at hh2
          exact hh2.1
        refine rPt_walk (rGone_ok ho hn _ _ _ _ _) hi (fun ao2 cap2 => ?_) g1 g2
        have hf := h ao cap aoN capN ao2 cap2
        dsimp only at hf
        unfold rPut2 at hf
        have hg : (rGone r pid ao cap aoN capN).1.L.getD (rAt (rGone r pid ao cap aoN capN).1.L name) zR = (rGone r pid ao cap aoN capN).1.L[rAt (rGone r pid ao cap aoN capN).1.L name] := getD_ltR _ _ _ hi
        rw [hg] at hf
        exact hf
      have hok2 : ∀ ao cap aoN capN, rOk (rGone r pid ao cap aoN capN).1 := fun ao cap aoN capN => rGone_ok ho hn _ _ _ _ _
      refine ⟨rfl, rfl, rfl, HEq.rfl, ho, ?_⟩
      cases hof : rOf r.L pid with
      | none =>
        have hin : rIn r.L pid name = false := by unfold rIn; rw [hof]
        exact ⟨rfl, rfl, rfl, HEq.rfl, ⟨ho, hat⟩, fun ao cap aoN capN => ⟨rfl, rfl, rfl, HEq.rfl, hok2 _ _ _ _, main hin ao cap aoN capN _ rfl ⟨rfl, rfl, rfl, rfl, trivial⟩⟩⟩
      | some n =>
        dsimp only [Option.isSome_some]
        cases hq : sEq n name with
        | true =>
          have hin : rIn r.L pid name = true := by unfold rIn; rw [hof]; exact hq
          rw [hin] at h
          exact ⟨r, fun W F w hr => hr.unpkA1, h none 0 none 0 none 0⟩
        | false =>
          have hin : rIn r.L pid name = false := by unfold rIn; rw [hof]; exact hq
          exact ⟨rfl, rfl, rfl, HEq.rfl, ⟨ho, hat⟩, fun ao cap aoN capN => ⟨rfl, rfl, rfl, HEq.rfl, hok2 _ _ _ _, main hin ao cap aoN capN _ rfl ⟨rfl, rfl, rfl, rfl, trivial⟩⟩⟩
end Go.Proofs.YtkcmgcoppecfpaaGreat

namespace Go.Proofs.YtkcmgcoppecfpaaGreat
open Go Go.RowKit
set_option allowUnsafeReducibility true

theorem ints_run (K : List Frm → Sy → Prop) (N : List Ent → SV → Prop) (xs : List Int) (ao ao' : Option Addr) (cap cap' : Nat) : (run Tryz.prog [] false [] K (retP Tryz.prog Tryz.f44.results.toList N) 600 [.code (bodyOf Tryz.f44)] ⟨padTo 26 [.vec 0 ao xs.length cap, .vec 1 ao' xs.length cap'], [⟨.sl ao cap, .vecL 3 1 encI1 xs 0⟩, ⟨.sl ao' cap', .vecL 3 1 encI1 xs 0⟩]⟩) = ( match (↑(List.length xs) : Int) != (↑(List.length xs) : Int) with
 | true => N [Ent.mk (Loc.sl ao cap) (SObj.vecL 3 1 encI1 xs (0 : Int)), Ent.mk (Loc.sl ao' cap') (SObj.vecL 3 1 encI1 xs (0 : Int))] (SV.bool false)
 | false => K (frm [] (bodyOf Tryz.f44) [1, 1, 0, 1, 0] []) (Sy.mk (SV.vec 0 ao (List.length xs) cap :: (SV.vec 1 ao' (List.length xs) cap' :: (SV.raw (Value.tuple #[]) :: (SV.raw (Value.tuple #[]) :: (SV.bool false :: (SV.int .i64 (0 : Int) :: (SV.vec 0 ao (List.length xs) cap :: (SV.int .i64 (↑(List.length xs) : Int) :: (SV.vec 1 ao' (List.length xs) cap' :: (SV.int .i64 (↑(List.length xs) : Int) :: (SV.bool false :: (rawE [] 15)))))))))))) [Ent.mk (Loc.sl ao cap) (SObj.vecL 3 1 encI1 xs (0 : Int)), Ent.mk (Loc.sl ao' cap') (SObj.vecL 3 1 encI1 xs (0 : Int))])) := by kernel_rfl
@[reducible] def ints_body_z0 (xs : List Int) (ao' : Option Addr) (cap' : Nat) : Ent := Ent.mk (Loc.sl ao' cap') (SObj.vecL 3 1 encI1 xs (0 : Int))
@[reducible] def ints_body_z1 (xs : List Int) (ao : Option Addr) (cap : Nat) : Ent := Ent.mk (Loc.sl ao cap) (SObj.vecL 3 1 encI1 xs (0 : Int))
theorem ints_body (K : List Frm → Sy → Prop) (N : List Ent → SV → Prop) (J : Act → World → Prop) (xs : List Int) (ao ao' : Option Addr) (cap cap' : Nat) (i : Nat) (u : Nat → Value) : (run Tryz.prog [] false [] K (retP Tryz.prog Tryz.f44.results.toList N) 900 (frm [J] (bodyOf Tryz.f44) [1, 1, 0, 1, 0, 0] []) ⟨mkT u 26 0 [(0, .vec 0 ao xs.length cap), (1, .vec 1 ao' xs.length cap'), (5, .int .i64 (i : Int))], [⟨.sl ao cap, .vecL 3 1 encI1 xs 0⟩, ⟨.sl ao' cap', .vecL 3 1 encI1 xs 0⟩]⟩) = ( match decide ((↑i : Int) < (↑(List.length xs) : Int)) with
 | true => (ao = ao ∧ cap = cap ∧ List.length xs = List.length xs ∧ (0 : Int) ≤ (↑i : Int) ∧ (↑i : Int) < (↑(List.length xs) : Int)) ∧ (Addr.blkD ao = Addr.blkD ao ∧ Addr.offD ao = Addr.offD ao ∧ 1 = 1 ∧ Int.toNat (↑i : Int) < List.length xs) ∧ (ao' = ao' ∧ cap' = cap' ∧ List.length xs = List.length xs ∧ (0 : Int) ≤ (↑i : Int) ∧ (↑i : Int) < (↑(List.length xs) : Int)) ∧ (Addr.blkD ao' = Addr.blkD ao' ∧ Addr.offD ao' = Addr.offD ao' ∧ 1 = 1 ∧ Int.toNat (↑i : Int) < List.length xs) ∧ match List.getD xs (Int.toNat (↑i : Int)) (0 : Int) != List.getD xs (Int.toNat (↑i : Int)) (0 : Int) with
  | true => N [ints_body_z1 xs ao cap, ints_body_z0 xs ao' cap'] (SV.bool false)
  | false => K (Frm.loop J :: Frm.blk 0 :: frm [] (bodyOf Tryz.f44) [1, 1, 1] []) (Sy.mk (SV.vec 0 ao (List.length xs) cap :: (SV.vec 1 ao' (List.length xs) cap' :: (rawR u 2 (SV.int .i64 (IntKind.wrap IntKind.i64 ((↑i : Int) + (1 : Int))) :: (rawR u 6 (SV.int .i64 (↑i : Int) :: (SV.vec 0 ao (List.length xs) cap :: (SV.int .i64 (↑(List.length xs) : Int) :: (SV.bool true :: (SV.int .i64 (↑i : Int) :: (SV.int .i64 (IntKind.wrap IntKind.i64 ((↑i : Int) + (1 : Int))) :: (SV.vec 0 ao (List.length xs) cap :: (SV.int .i64 (↑i : Int) :: (SV.eptr 0 (Addr.blkD ao) (Addr.offD ao) 1 (Int.toNat (↑i : Int)) 0 :: (SV.int .i64 (List.getD xs (Int.toNat (↑i : Int)) (0 : Int)) :: (SV.vec 1 ao' (List.length xs) cap' :: (SV.int .i64 (↑i : Int) :: (SV.eptr 1 (Addr.blkD ao') (Addr.offD ao') 1 (Int.toNat (↑i : Int)) 0 :: (SV.int .i64 (List.getD xs (Int.toNat (↑i : Int)) (0 : Int)) :: (SV.bool false :: []))))))))))))))) 5)) 3))) [ints_body_z1 xs ao cap, ints_body_z0 xs ao' cap'])
 | false => N [ints_body_z1 xs ao cap, ints_body_z0 xs ao' cap'] (SV.bool true)) := by kernel_rfl
end Go.Proofs.YtkcmgcoppecfpaaGreat

namespace Go.Proofs.YtkcmgcoppecfpaaGreat
open Go Go.RowKit
set_option allowUnsafeReducibility true


end Go.Proofs.YtkcmgcoppecfpaaGreat

/- GroupOne: Members, Ints, known. -/
namespace Go.Proofs.YtkcmgcoppecfpaaGreat
open Go Go.RowKit

theorem ints_ok : CtrOk Tryz.prog 44 intsC := by
  intro args hs N h
  unfold intsC at h
  split at h
  case h_2 => exact h.elim
  rename_i l ao n cap l' ao' n' cap'
  obtain ⟨xs, h1, h2, ⟨hne, rfl, rfl, hx⟩, h⟩ := h
  refine Spec.at (hp := [⟨.sl ao cap, .vecL 3 1 encI1 xs 0⟩, ⟨.sl ao' cap', .vecL 3 1 encI1 xs 0⟩]) (args' := [.vec 0 ao xs.length cap, .vec 1 ao' xs.length cap']) (Post' := fun h' r => h' = [⟨.sl ao cap, .vecL 3 1 encI1 xs 0⟩, ⟨.sl ao' cap', .vecL 3 1 encI1 xs 0⟩] ∧ r = .bool true) [l, l'] (by simpa [distinct] using ne_of_beq hne) (by simp [pickE, h1, h2]) ?_ rfl ?_
  · refine Spec.up ?_
    refine Spec.of_G 26 Tryz.func44 (c := bodyOf Tryz.f44) (by kernel_rfl) (by kernel_rfl) (Nat.le_of_ble_eq_true rfl) fun W F => ?_
    refine G_run (kc := false) (ss := []) (Cs := []) trivial hmG 600 ?_
    rw [ints_run]
    have : ((xs.length : Int) != (xs.length : Int)) = false := by simp
    rw [this]
    refine G_loopAt (ι := Nat) [] (bodyOf Tryz.f44) [1, 1, 0, 1, 0] 26 (fun i => [(0, .vec 0 ao xs.length cap), (1, .vec 1 ao' xs.length cap'), (5, .int .i64 (i : Int))]) (fun i => [⟨.sl ao cap, .vecL 3 1 encI1 xs 0⟩, ⟨.sl ao' cap', .vecL 3 1 encI1 xs 0⟩]) (fun i => i ≤ xs.length) (fun i => xs.length - i) 0 (by kernel_rfl) (fun J => by kernel_rfl) (Nat.zero_le _) rfl ⟨rfl, rfl, rfl, trivial⟩ (fun w hw => hw) ?_
    intro i hi u
    try dsimp only at hi ⊢
    simp only [List.nil_append, List.cons_append]
    refine G_run (kc := false) (ss := []) (Cs := []) trivial hmG 900 ?_
    rw [ints_body]
    cases hlt : decide ((i : Int) < (xs.length : Int)) with
    | false => exact ⟨_, .bool true, fun W F w hr => hr, rfl, rfl, rfl⟩
    | true =>
      simp only [decide_eq_true_eq] at hlt
      have w1 : IntKind.wrap .i64 ((i : Int) + 1) = ((i + 1 : Nat) : Int) := IntWalk.i64_in _ (by omega)
      have e : (xs.getD (Int.toNat (i : Int)) 0 != xs.getD (Int.toNat (i : Int)) 0) = false := by simp
      refine ⟨⟨rfl, rfl, rfl, by omega, by omega⟩, ⟨rfl, rfl, rfl, by omega⟩, ⟨rfl, rfl, rfl, by omega, by omega⟩, ⟨rfl, rfl, rfl, by omega⟩, ?_⟩
      rw [e]
      exact G_back (i + 1) (by omega) (by omega) rfl ⟨rfl, rfl, congrArg (Value.int .i64) w1, trivial⟩ (fun w hw => hw)
  · rintro h' r ⟨rfl, rfl⟩
    refine ⟨Nat.le_refl _, _, rfl, ?_⟩
    simpa [putBack, appE_eq, setN_self h1, setN_self h2] using h
end Go.Proofs.YtkcmgcoppecfpaaGreat

namespace Go.Proofs.YtkcmgcoppecfpaaGreat
open Go Go.RowKit

theorem rp_start (K : List Frm → Sy → Prop) (X : Code → Sy → Prop) (E : Sy → Prop) (s : PT) (b : Nat) (parent : Int) : (runR Tryz.prog ptAr (noY) true [] K X E 600 [.code (bodyOf Tryz.f60)] ⟨padTo 26 [.ptr 0 b 0, .int .i64 parent], [pkA b ptE s]⟩) = (
true = true ∧
 ∀ (b_1 : Nat),
  true = true ∧
   ∀ (b_2 b_3 b_4 : Nat),
    b_1 = b_1 ∧
     true = true ∧
      true = true ∧
       ∀ (b_5 : Nat),
        K (frm [] (bodyOf Tryz.f60) [1, 0, 1, 0] [])
         (Sy.mk (SV.ptr 0 b 0 :: (SV.int IntKind.i64 parent :: (SV.ptr 1 b_1 0 :: (SV.ptr 2 b_2 0 :: (SV.ptr 3 b_3 0 :: (SV.ptr 4 b_4 0 :: (SV.raw (Value.tuple #[]) :: (SV.ptr 0 b 0 :: (SV.func (Fn.func 79) [] [SV.ptr 5 b_5 0] :: (rawE [] 17))))))))))
          [pkA b ptE s, Ent.mk (Loc.blk b_1) (SObj.cells [SV.ptr 0 b 0] 42), Ent.mk (Loc.blk b_2) (SObj.cells [SV.int IntKind.i64 parent] 3),
           Ent.mk (Loc.blk b_3)
            (SObj.cells [SV.int IntKind.i64 (0 : Int), SV.int IntKind.i64 (0 : Int), SV.str (ByteArray.mk #[]), SV.bool false, SV.int IntKind.i64 (0 : Int), SV.str (ByteArray.mk #[])]
             38),
           Ent.mk (Loc.blk b_4) (SObj.cells [SV.int IntKind.i64 (0 : Int)] 27), Ent.mk (Loc.blk b_5) (SObj.cells [SV.ptr 0 b 0] 42)])) := by kernel_rfl
end Go.Proofs.YtkcmgcoppecfpaaGreat

