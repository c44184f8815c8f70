import Derived.Test.YtihajdkipkfiiaaMgGroupPlays10
import Derived.Test.YtihajdkipkfiiaaMgGroupPlays6
/- YtihajdkipkfiiaaRg2 -/
/- The document's groups: Remove, Of, Members, Emptied. -/
namespace Go.Proofs.Ytihajdkipkfiiaa
open Go Go.RowKit
set_option linter.unusedVariables false
set_option linter.unusedSimpArgs false
set_option linter.unnecessarySimpa false
set_option maxHeartbeats 0
theorem setN_selfR2 {α : Type 1} {l : Nat} {v : α} : ∀ {h : List α}, nth h l = some v → setN h l v = h := by
  induction l with
  | zero => intro h hl; cases h <;> simp [nth, setN] at hl ⊢; exact hl.symm
  | succ l ih => intro h hl; cases h <;> simp [nth, setN] at hl ⊢; exact ih hl
theorem rRm_ok : CtrOk Try.prog 61 (adtC rgE rremoveM) := adt_ok fun b r rest N h => by
  unfold rremoveM at h
  split at h
  case h_2 => exact h.elim
  rename_i name
  obtain ⟨ho, h⟩ := h
  have hL := ho.1
  refine Spec.pre (hs' := [pkA b rgE r]) (args' := [.ptr 0 b 0, .str name]) (fun W F w hr => Rep.pkA1 hr) rfl ?_
  refine Spec.of_G 48 Try.func61 (c := bodyOf Try.f61) (by kernel_rfl) (by kernel_rfl) (Nat.le_of_ble_eq_true rfl) fun W F => ?_
  refine G_run (kc := false) (ss := [4]) (Cs := [(89, adtC rgE ratM)]) ⟨rAt_ok, trivial⟩ hmR 600 ?_
  rw [rRm_start]
  refine ⟨rfl, rfl, rfl, HEq.rfl, ho, ?_⟩
  unfold rRemove at h
  cases hh : rHas r.L name with
  | false =>
    rw [hh] at h
    rw [Bool.not_false]
    exact ⟨r, fun W F w hr => hr.unpkA1, h none 0 none 0⟩
  | true =>
    rw [hh] at h
    rw [Bool.not_true]
    dsimp only at h ⊢
    refine G_live 48 [(0, .ptr 0 b 0), (1, .str name), (5, .int .i64 (rAt r.L name : Int))] [⟨.blk b, .cells [.vec 1 r.aoL (r.L).length r.capL, .vec 2 r.aoN (r.notes).length r.capN] 103⟩, ⟨.sl r.aoL r.capL, .vecL 112 2 encR (r.L) zR⟩, ⟨.sl r.aoN r.capN, .vecL 9 1 encS (r.notes) ByteArray.empty⟩, pk 0 (r.L.map pidE)] rfl ⟨rfl, rfl, rfl, trivial⟩ (fun w hr => hr.unpkA1) fun u => ?_
    refine G_vec (l := 1) rfl fun hcap _ => ?_
    refine G_run (kc := true) (ss := [7]) (Cs := []) trivial hmR 1500 ?_
    rw [rRm_4]
    have hi : rAt r.L name < r.L.length := by
      unfold rHas at hh
      simp only [Bool.and_eq_true, decide_eq_true_eq] at hh
      exact hh.1
    generalize rAt r.L name = i at hi h ⊢
    have w1 : IntKind.wrap .i64 ((i : Int) + 1) = ((i + 1 : Nat) : Int) := IntWalk.i64_in _ (by omega)
    have hg : ∀ d, r.L.getD i d = r.L[i] := fun d => getD_ltR _ _ _ hi
    rw [w1, Int.toNat_natCast, Int.toNat_natCast, hg]
    rw [hg] at h
    refine ⟨rfl, ⟨rfl, rfl, rfl, by omega, by omega⟩, ⟨rfl, rfl, rfl, hi⟩, ?_⟩
    cases hc : decide ((r.L[i].pids.length : Int) > 0) with
    | true =>
      rw [hc] at h
      exact ⟨r, fun W F w hr => hr, h none 0 none 0⟩
    | false =>
      rw [hc] at h
      dsimp only at h
      simp only [decide_eq_false_iff_not] at hc
      have hnil : r.L[i].pids = [] := List.eq_nil_of_length_eq_zero (by omega)
      have hdr : (r.L.drop (i + 1)).take (r.L.length - (i + 1)) = r.L.drop (i + 1) := List.take_of_length_le (by simp)
      have fin : ∀ (tm : List SV) (ao2 : Option Addr) (cap2 : Nat) (e5 : List Ent), lenN tm = 48 → liveOk tm [(0, .ptr 0 b 0), (1, .str name)] → G Try.prog (endQ Try.prog Try.f61 W F (fun h' res => ∃ r', (∀ W F w, Rep W F h' w → Rep W F (rgE r' b) w) ∧ N r' res)) W F (frmR [] (bodyOf Try.f61) 7) ⟨tm, [⟨.blk b, .cells [.vec 4 ao2 (i - 0 + (r.L.length - (i + 1))) cap2, .vec 2 r.aoN r.notes.length r.capN] 103⟩, ⟨.sl r.aoL r.capL, .vecL 112 2 encR (r.L) zR⟩, ⟨.sl r.aoN r.capN, .vecL 9 1 encS (r.notes) ByteArray.empty⟩, pk 0 (r.L.map pidE), ⟨.sl ao2 cap2, .vecL 112 2 encR ((r.L.drop 0).take (i - 0) ++ (r.L.drop (i + 1)).take (r.L.length - (i + 1))) zR⟩] ++ e5⟩ := fun tm ao2 cap2 e5 g1 g2 => by
        refine G_live 48 [(0, .ptr 0 b 0), (1, .str name)] [pkA b rgE { r with L := r.L.take i ++ r.L.drop (i + 1), aoL := ao2, capL := cap2 }] g1 g2 (fun w hr => ?_) fun u => ?_
        · have hr := Rep.dropR (t := e5) hr
          have em : r.L.map pidE = (r.L.take i).map pidE ++ pidE r.L[i] :: (r.L.drop (i + 1)).map pidE := by
            rw [← List.map_cons, ← List.map_append]
            congr 1
            rw [← List.drop_eq_getElem_cons hi, List.take_append_drop]
          rw [em] at hr
          have h1 := Rep.outP (p := [⟨.blk b, .cells [.vec 4 ao2 (i - 0 + (r.L.length - (i + 1))) cap2, .vec 2 r.aoN r.notes.length r.capN] 103⟩, ⟨.sl r.aoL r.capL, .vecL 112 2 encR (r.L) zR⟩, ⟨.sl r.aoN r.capN, .vecL 9 1 encS (r.notes) ByteArray.empty⟩]) (t := [⟨.sl ao2 cap2, .vecL 112 2 encR ((r.L.drop 0).take (i - 0) ++ (r.L.drop (i + 1)).take (r.L.length - (i + 1))) zR⟩]) hr
          have h2 := Rep.pick (π := [0, 5, 2, 4]) (by decide) rfl h1
          have h3 := Rep.cellsEq (l := 0) (cs' := [.vec 1 ao2 (r.L.take i ++ r.L.drop (i + 1)).length cap2, .vec 2 r.aoN r.notes.length r.capN]) rfl (by
            have e7 : i - 0 + (r.L.length - (i + 1)) = (r.L.take i ++ r.L.drop (i + 1)).length := by simp; omega
            rw [e7]; rfl) h2
          refine Rep.pkA1 ?_
          unfold rgE
          dsimp only
          rw [List.map_append]
          rw [hdr] at h3
          exact h3
        · have ho2 : rOk { r with L := r.L.take i ++ r.L.drop (i + 1), aoL := ao2, capL := cap2 } := by
            refine ⟨?_, ho.2.1, fun g hgm => ?_⟩
            · simp; omega
            · rcases List.mem_append.1 hgm with hgm | hgm
              · exact ho.2.2 g (List.mem_of_mem_take hgm)
              · exact ho.2.2 g (List.mem_of_mem_drop hgm)
          refine G_run (kc := false) (ss := []) (Cs := [(92, adtC rgE rforgetM)]) ⟨rFg_ok, trivial⟩ hmR 900 ?_
          rw [rRm_7]
          refine ⟨rfl, rfl, rfl, HEq.rfl, ho2, fun ao3 cap3 => ?_⟩
          exact ⟨_, fun W F w hr => hr.unpkA1, h ao2 cap2 ao3 cap3⟩
      repeat' first
        | exact rfl
        | exact fin _ _ _ _ rfl ⟨rfl, rfl, trivial⟩
        | exact fin _ _ _ [] rfl ⟨rfl, rfl, trivial⟩
        | (refine ⟨(r.L.drop (i + 1)).take (r.L.length - (i + 1)), ?_, rfl, fun ao2 cap2 _ => ?_⟩)
        | (refine fun y => rfl)
        | (refine fun ao2 cap2 _ => ?_)
        | apply And.intro
        | (show _ ≤ _; omega)
        | (show _ < _; omega)
        | (simp; done)
        | (simp; omega)
        | fail
theorem rOf_ok : CtrOk Try.prog 66 (adtC rgE rofM) := adt_ok fun b r rest N h => by
  unfold rofM at h
  split at h
  case h_2 => exact h.elim
  rename_i pid
  obtain ⟨ho, h⟩ := h
  have hL := ho.1
  refine Spec.pre (hs' := [⟨.blk b, .cells [.vec 1 r.aoL (r.L).length r.capL, .vec 2 r.aoN (r.notes).length r.capN] 103⟩, ⟨.sl r.aoL r.capL, .vecL 112 2 encR (r.L) zR⟩, ⟨.sl r.aoN r.capN, .vecL 9 1 encS (r.notes) ByteArray.empty⟩, pk 0 (r.L.map pidE)]) (args' := [.ptr 0 b 0, .int .i64 pid]) (fun W F w hr => hr) rfl ?_
  refine Spec.of_G 51 Try.func66 (c := bodyOf Try.f66) (by kernel_rfl) (by kernel_rfl) (Nat.le_of_ble_eq_true rfl) fun W F => ?_
  refine G_run (kc := false) (ss := []) (Cs := []) trivial hmR 600 ?_
  rw [rOf_start]
  refine G_loopAt (ι := Nat) [] (bodyOf Try.f66) [1, 0, 1, 0] 51 (fun i : Nat => [(0, .ptr 0 b 0), (1, .int .i64 pid), (6, .int .i64 (i : Int))]) (fun _ : Nat => [⟨.blk b, .cells [.vec 1 r.aoL (r.L).length r.capL, .vec 2 r.aoN (r.notes).length r.capN] 103⟩, ⟨.sl r.aoL r.capL, .vecL 112 2 encR (r.L) zR⟩, ⟨.sl r.aoN r.capN, .vecL 9 1 encS (r.notes) ByteArray.empty⟩, pk 0 (r.L.map pidE)]) (fun i : Nat => i ≤ r.L.length ∧ rOf r.L pid = rOf (r.L.drop i) pid) (fun i : Nat => r.L.length - i) 0 (by kernel_rfl) (fun J => by kernel_rfl) ⟨Nat.zero_le _, rfl⟩ rfl ⟨rfl, rfl, rfl, trivial⟩ (fun w hw => hw) ?_
  rintro i ⟨hi, hv⟩ u
  try dsimp only at hi hv ⊢
  simp only [List.nil_append, List.cons_append]
  refine G_run (kc := false) (ss := []) (Cs := []) trivial hmR 900 ?_
  rw [rOf_1]
  have w1 : IntKind.wrap .i64 ((i : Int) + 1) = ((i + 1 : Nat) : Int) := IntWalk.i64_in _ (by omega)
  refine ⟨rfl, ?_⟩
  cases hlt : decide ((i : Int) < (r.L.length : Int)) with
  | false =>
    simp only [decide_eq_false_iff_not] at hlt
    have e : rOf r.L pid = none := by rw [hv, List.drop_of_length_le (by omega)]; rfl
    rw [e] at h
    exact ⟨r, fun W F w hr => hr, h⟩
  | true =>
    simp only [decide_eq_true_eq] at hlt
    have hi2 : i < r.L.length := by omega
    have hg : ∀ d, r.L.getD i d = r.L[i] := fun d => getD_ltR _ _ _ hi2
    have hpl := ho.2.2 _ (List.getElem_mem hi2)
    have hdc : r.L.drop i = r.L[i] :: r.L.drop (i + 1) := List.drop_eq_getElem_cons hi2
    refine G_loopAt (ι := Nat) [(Back W F 51 (fun i : Nat => [(0, .ptr 0 b 0), (1, .int .i64 pid), (6, .int .i64 (i : Int))]) (fun _ : Nat => [⟨.blk b, .cells [.vec 1 r.aoL (r.L).length r.capL, .vec 2 r.aoN (r.notes).length r.capN] 103⟩, ⟨.sl r.aoL r.capL, .vecL 112 2 encR (r.L) zR⟩, ⟨.sl r.aoN r.capN, .vecL 9 1 encS (r.notes) ByteArray.empty⟩, pk 0 (r.L.map pidE)]) (fun i : Nat => i ≤ r.L.length ∧ rOf r.L pid = rOf (r.L.drop i) pid) (fun i : Nat => r.L.length - i) (r.L.length - i))] (bodyOf Try.f66) [1, 0, 1, 0, 0, 1, 0, 0, 1, 0] 51 (fun k : Nat => [(0, .ptr 0 b 0), (1, .int .i64 pid), (6, .int .i64 (i : Int)), (7, .int .i64 (k : Int))]) (fun _ : Nat => [⟨.blk b, .cells [.vec 1 r.aoL (r.L).length r.capL, .vec 2 r.aoN (r.notes).length r.capN] 103⟩, ⟨.sl r.aoL r.capL, .vecL 112 2 encR (r.L) zR⟩, ⟨.sl r.aoN r.capN, .vecL 9 1 encS (r.notes) ByteArray.empty⟩, pk 0 ((r.L.take i).map pidE ++ (r.L.drop (i + 1)).map pidE), pidE r.L[i]]) (fun k : Nat => k ≤ r.L[i].pids.length ∧ ∀ p ∈ r.L[i].pids.take k, p ≠ pid) (fun k : Nat => r.L[i].pids.length - k) 0 (by kernel_rfl) (fun J => by kernel_rfl) ⟨Nat.zero_le _, fun p hp => by simp at hp⟩ rfl ⟨rfl, rfl, rfl, rfl, trivial⟩ (fun w hw => rg_open hi2 hw) ?_
    rintro k ⟨hk, hp⟩ u
    try dsimp only at hk hp ⊢
    simp only [List.nil_append, List.cons_append]
    refine G_run (kc := false) (ss := []) (Cs := []) trivial hmR 900 ?_
    unfold pidE
    rw [rOf_2]
    have w2 : IntKind.wrap .i64 ((k : Int) + 1) = ((k + 1 : Nat) : Int) := IntWalk.i64_in _ (by omega)
    have close : ∀ W F w, Rep W F [⟨.blk b, .cells [.vec 1 r.aoL (r.L).length r.capL, .vec 2 r.aoN (r.notes).length r.capN] 103⟩, ⟨.sl r.aoL r.capL, .vecL 112 2 encR (r.L) zR⟩, ⟨.sl r.aoN r.capN, .vecL 9 1 encS (r.notes) ByteArray.empty⟩, pk 0 ((r.L.take i).map pidE ++ (r.L.drop (i + 1)).map pidE), ⟨.sl r.L[i].ao r.L[i].cap, .vecL 3 1 encI1 r.L[i].pids 0⟩] w → Rep W F (rgE r b) w := fun W F w hr => by
      have h1 := rg_close (g := r.L[i]) hi2 hr
      rw [set_selfL _ _ hi2] at h1
      exact h1
    rw [Int.toNat_natCast i, hg]
    refine ⟨rfl, ⟨rfl, rfl, rfl, by omega, by omega⟩, ⟨rfl, rfl, rfl, hi2⟩, ?_⟩
    cases hlt2 : decide ((k : Int) < (r.L[i].pids.length : Int)) with
    | false =>
      simp only [decide_eq_false_iff_not] at hlt2
      rw [List.take_of_length_le (by omega)] at hp
      have hnc : r.L[i].pids.contains pid = false := by
        rw [List.contains_eq_any_beq, List.any_eq_false]
        intro p hpm
        simpa using fun e => hp p hpm e.symm
      refine G_back (i + 1) ⟨hi2, ?_⟩ (by omega) rfl ⟨rfl, rfl, congrArg (Value.int .i64) w1, trivial⟩ (fun w hr => close _ _ w hr)
      rw [hv, hdc]
      unfold rOf
      rw [List.find?_cons, hnc]
    | true =>
      simp only [decide_eq_true_eq] at hlt2
      have hk2 : k < r.L[i].pids.length := by omega
      have hgk : r.L[i].pids.getD k 0 = r.L[i].pids[k] := getD_ltR _ _ _ hk2
      rw [Int.toNat_natCast k, hgk]
      refine ⟨rfl, ⟨rfl, rfl, rfl, by omega, by omega⟩, ⟨rfl, rfl, rfl, hi2⟩, ⟨rfl, rfl, rfl, by omega, by omega⟩, ⟨rfl, rfl, rfl, hk2⟩, ?_⟩
      cases hc : r.L[i].pids[k] == pid with
      | true =>
        have hcc : r.L[i].pids.contains pid = true := by
          rw [List.contains_iff_mem, ← (beq_iff_eq.1 hc)]
          exact List.getElem_mem hk2
        have e : rOf r.L pid = some r.L[i].name := by
          rw [hv, hdc]
          unfold rOf
          rw [List.find?_cons, hcc]
          rfl
        rw [e] at h
        exact ⟨rfl, ⟨rfl, rfl, rfl, by omega, by omega⟩, ⟨rfl, rfl, rfl, hi2⟩, r, close, h⟩
      | false =>
        refine G_back (k + 1) ⟨hk2, fun p hpm => ?_⟩ (by omega) rfl ⟨rfl, rfl, rfl, congrArg (Value.int .i64) w2, trivial⟩ (fun w hr => hr)
        rw [List.take_succ_eq_append_getElem hk2] at hpm
        rcases List.mem_append.1 hpm with hpm | hpm
        · exact hp p hpm
        · rw [List.mem_singleton.1 hpm]
          exact beq_eq_false_iff_ne.1 hc
theorem rMem_ok : CtrOk Try.prog 67 rmembersC := by
  intro args hs N h
  unfold rmembersC at h
  split at h
  case h_2 => exact h.elim
  rename_i l b name
  split at h
  case h_2 => exact h.elim
  rename_i b' σ' p r hl
  obtain ⟨rfl, rfl, hp, ho, hN⟩ := h
  obtain rfl := eq_of_heq hp
  simp only [cast_eq] at ho hN
  have hL := ho.1
  refine Spec.at (hp := [pkA b' rgE r]) (args' := [.ptr 0 b' 0, .str name]) (Post' := fun h' res => ∃ ao cap, h' = [pkA b' rgE r, ⟨.sl ao cap, .vecL 3 1 encI1 (rMem r.L name) 0⟩] ∧ res = .vec 1 ao (rMem r.L name).length cap) [l] (by simp [distinct]) (by
    have hl' : nth hs l = some (pkA b' rgE r) := hl
    simp [pickE, hl']) ?_ rfl ?_
  · refine Spec.up ?_
    refine Spec.of_G 24 Try.func67 (c := bodyOf Try.f67) (by kernel_rfl) (by kernel_rfl) (Nat.le_of_ble_eq_true rfl) fun W F => ?_
    refine G_run (kc := false) (ss := [4]) (Cs := [(89, adtC rgE ratM)]) ⟨rAt_ok, trivial⟩ hmR 600 ?_
    rw [rMb_start]
    refine ⟨rfl, rfl, rfl, HEq.rfl, ho, ?_⟩
    unfold rMem
    cases hh : rHas r.L name with
    | false =>
      rw [Bool.not_false]
      exact ⟨[pkA b' rgE r, ⟨.sl none 0, .vecL 3 1 encI1 [] 0⟩], .vec 1 none 0 0, fun W F w hr => Rep.nilvec 3 (sz := 1) (enc := encI1) 0 (fun _ => rfl) hr, rfl, none, 0, rfl, rfl⟩
    | true =>
      rw [Bool.not_true]
      have hi : rAt r.L name < r.L.length := by
        unfold rHas at hh
        simp only [Bool.and_eq_true, decide_eq_true_eq] at hh
        exact hh.1
      generalize rAt r.L name = i at hi ⊢
      have hg : ∀ d, r.L.getD i d = r.L[i] := fun d => getD_ltR _ _ _ hi
      have hpl := ho.2.2 _ (List.getElem_mem hi)
      refine G_live 24 [(0, .ptr 0 b' 0), (5, .int .i64 (i : Int))] [⟨.blk b', .cells [.vec 1 r.aoL (r.L).length r.capL, .vec 2 r.aoN (r.notes).length r.capN] 103⟩, ⟨.sl r.aoL r.capL, .vecL 112 2 encR (r.L) zR⟩, ⟨.sl r.aoN r.capN, .vecL 9 1 encS (r.notes) ByteArray.empty⟩, pk 0 ((r.L.take i).map pidE ++ (r.L.drop (i + 1)).map pidE), ⟨.sl r.L[i].ao r.L[i].cap, .vecL 3 1 encI1 r.L[i].pids 0⟩] rfl ⟨rfl, rfl, trivial⟩ (fun w hr => rg_open hi hr.unpkA1) fun u => ?_
      refine G_run (kc := false) (ss := []) (Cs := []) trivial hmR 900 ?_
      rw [rMb_4, Int.toNat_natCast, hg]
      rw [hg]
      refine ⟨rfl, ⟨rfl, rfl, rfl, by omega, by omega⟩, ⟨rfl, rfl, rfl, hi⟩, ⟨rfl, rfl, rfl, by omega, by omega⟩, fun ao2 cap2 _ => ?_⟩
      refine ⟨[pkA b' rgE r, ⟨.sl ao2 cap2, .vecL 3 1 encI1 r.L[i].pids 0⟩], .vec 1 ao2 r.L[i].pids.length cap2, fun W F w hr => ?_, rfl, ao2, cap2, rfl, rfl⟩
      have h0 := Rep.pick (π := [0, 1, 2, 4, 3, 5]) (by decide) rfl hr
      have h1 := Rep.intoP (p := [⟨.blk b', .cells [.vec 1 r.aoL (r.L).length r.capL, .vec 2 r.aoN (r.notes).length r.capN] 103⟩, ⟨.sl r.aoL r.capL, .vecL 112 2 encR (r.L) zR⟩, ⟨.sl r.aoN r.capN, .vecL 9 1 encS (r.notes) ByteArray.empty⟩]) (t := [⟨.sl ao2 cap2, .vecL 3 1 encI1 r.L[i].pids 0⟩]) (e := pidE r.L[i]) h0
      have em : (r.L.take i).map pidE ++ pidE r.L[i] :: (r.L.drop (i + 1)).map pidE = r.L.map pidE := by
        rw [← List.map_cons, ← List.map_append]
        congr 1
        rw [← List.drop_eq_getElem_cons hi, List.take_append_drop]
      rw [em] at h1
      exact Rep.pkA (S := rgE) (s := r) (t := [⟨.sl ao2 cap2, .vecL 3 1 encI1 r.L[i].pids 0⟩]) h1
  · rintro h' res ⟨ao, cap, rfl, rfl⟩
    refine ⟨Nat.le_of_ble_eq_true rfl, .vec (lenN hs) ao (rMem r.L name).length cap, rfl, ?_⟩
    have e0 : setN hs l (pkA b' rgE r) = hs := setN_selfR2 hl
    simpa [putBack, appE_eq, snoc_eq, e0] using hN ao cap
theorem rEm_ok : CtrOk Try.prog 64 (adtC rgE remptiedM) := adt_ok fun b r rest N h => by
  unfold remptiedM at h
  split at h
  case h_2 => exact h.elim
  obtain ⟨ho, h⟩ := h
  refine Spec.pre (hs' := [pkA b rgE r]) (args' := [.ptr 0 b 0]) (fun W F w hr => Rep.pkA1 hr) rfl ?_
  refine Spec.of_G 47 Try.func64 (c := bodyOf Try.f64) (by kernel_rfl) (by kernel_rfl) (Nat.le_of_ble_eq_true rfl) fun W F => ?_
  refine G_run (kc := false) (ss := []) (Cs := []) trivial hmR 600 ?_
  rw [rEm_start]
  refine G_loopAt (ι := List ByteArray × Option Addr × Nat) [] (bodyOf Try.f64) [1, 0, 0] 47 (fun _ => [(0, .ptr 0 b 0)]) (fun i => [pkA b rgE { r with notes := i.1, aoN := i.2.1, capN := i.2.2 }]) (fun i => rFirst r.L i.1 = rFirst r.L r.notes ∧ i.1.length ≤ r.notes.length) (fun i => i.1.length) (r.notes, r.aoN, r.capN) (by kernel_rfl) (fun J => by kernel_rfl) ⟨rfl, Nat.le_refl _⟩ rfl ⟨rfl, trivial⟩ (fun w hw => hw) ?_
  rintro ⟨notes, ao, cap⟩ ⟨hfe, hnl⟩ u
  dsimp only at hfe hnl
  try dsimp only
  simp only [List.nil_append, List.cons_append]
  have hfin := h
  simp only [← hfe] at hfin
  clear h
  have hN := ho.2.1
  refine G_live 47 [(0, .ptr 0 b 0)] [⟨.blk b, .cells [.vec 1 r.aoL (r.L).length r.capL, .vec 2 ao (notes).length cap] 103⟩, ⟨.sl r.aoL r.capL, .vecL 112 2 encR (r.L) zR⟩, ⟨.sl ao cap, .vecL 9 1 encS (notes) ByteArray.empty⟩, pk 0 (r.L.map pidE)] rfl ⟨rfl, trivial⟩ (fun w hr => hr.unpkA1) fun u => ?_
  refine G_vec (l := 2) rfl fun hcap _ => ?_
  refine G_run (kc := false) (ss := [4]) (Cs := []) trivial hmR 900 ?_
  rw [rEm_1]
  refine ⟨rfl, ?_⟩
  cases notes with
  | nil =>
    have hd : decide ((([] : List ByteArray).length : Int) > 0) = false := rfl
    rw [hd]
    exact ⟨{ r with notes := [], aoN := ao, capN := cap }, fun W F w hr => hr, hfin ao cap⟩
  | cons n notes =>
    have hd : decide ((((n :: notes).length : Nat) : Int) > 0) = true := by simp
    rw [hd]
    simp only [List.length_cons] at hnl hcap
    refine ⟨rfl, ⟨rfl, rfl, rfl, by omega, by simp⟩, ⟨rfl, rfl, rfl, by simp⟩, rfl, ⟨by omega, by simp only [List.length_cons]; omega, by simp only [List.length_cons]; omega⟩, ⟨rfl, rfl, rfl, Nat.le_refl _⟩, ?_⟩
    refine G_live 47 [(0, .ptr 0 b 0), (4, .str n)] [pkA b rgE { r with notes := notes, aoN := cutA ao cap 1 1, capN := cap - 1 }] rfl ⟨rfl, rfl, trivial⟩ (fun w hw => ?_) fun u => ?_
    · have a1 := Rep.cut (l := 2) (k := 1) rfl (by simp) hw
      have a2 := Rep.cellsEq (l := 0) (cs' := [.vec 1 r.aoL r.L.length r.capL, .vec 2 (cutA ao cap 1 1) notes.length (cap - 1)]) rfl (by simp [denL, den_cut]) a1
      exact Rep.pkA1 a2
    have ho2 : rOk { r with notes := notes, aoN := cutA ao cap 1 1, capN := cap - 1 } := ⟨ho.1, by dsimp only; omega, ho.2.2⟩
    have hL := ho.1
    refine G_run (kc := false) (ss := [5]) (Cs := [(89, adtC rgE ratM)]) ⟨rAt_ok, trivial⟩ hmR 900 ?_
    rw [rEm_4]
    refine ⟨rfl, rfl, rfl, HEq.rfl, ho2, ?_⟩
    refine G_live 47 [(0, .ptr 0 b 0), (4, .str n), (5, .int .i64 (rAt r.L n : Int)), (6, .bool (rHas r.L n))] [⟨.blk b, .cells [.vec 1 r.aoL (r.L).length r.capL, .vec 2 (cutA ao cap 1 1) (notes).length (cap - 1)] 103⟩, ⟨.sl r.aoL r.capL, .vecL 112 2 encR (r.L) zR⟩, ⟨.sl (cutA ao cap 1 1) (cap - 1), .vecL 9 1 encS (notes) ByteArray.empty⟩, pk 0 (r.L.map pidE)] rfl ⟨rfl, rfl, rfl, rfl, trivial⟩ (fun w hr => hr.unpkA1) fun u => ?_
    refine G_run (kc := false) (ss := []) (Cs := []) trivial hmR 900 ?_
    rw [rEm_5]
    have back : ∀ (tm : List SV), rFirst r.L (n :: notes) = rFirst r.L notes → lenN tm = 47 → liveOk tm [(0, .ptr 0 b 0)] → G Try.prog (endQ Try.prog Try.f64 W F (fun h' res => ∃ r', (∀ W F w, Rep W F h' w → Rep W F (rgE r' b) w) ∧ N r' res)) W F (.loop (Back W F 47 (fun _ : List ByteArray × Option Addr × Nat => [(0, .ptr 0 b 0)]) (fun i => [pkA b rgE { r with notes := i.1, aoN := i.2.1, capN := i.2.2 }]) (fun i => rFirst r.L i.1 = rFirst r.L r.notes ∧ i.1.length ≤ r.notes.length) (fun i => i.1.length) ((n :: notes).length)) :: .blk 0 :: frm [] (bodyOf Try.f64) [1, 1] []) ⟨tm, [⟨.blk b, .cells [.vec 1 r.aoL (r.L).length r.capL, .vec 2 (cutA ao cap 1 1) (notes).length (cap - 1)] 103⟩, ⟨.sl r.aoL r.capL, .vecL 112 2 encR (r.L) zR⟩, ⟨.sl (cutA ao cap 1 1) (cap - 1), .vecL 9 1 encS (notes) ByteArray.empty⟩, pk 0 (r.L.map pidE)]⟩ := fun tm e g1 g2 =>
      G_back (notes, cutA ao cap 1 1, cap - 1) ⟨by dsimp only; rw [← e]; exact hfe, by dsimp only; omega⟩ (by simp) g1 g2 (fun w hr => Rep.pkA1 hr)
    cases hh : rHas r.L n with
    | false =>
      refine back _ ?_ rfl ⟨rfl, trivial⟩
      simp only [rFirst, hh, Bool.false_and]
    | true =>
      have hi : rAt r.L n < r.L.length := by
        unfold rHas at hh
        simp only [Bool.and_eq_true, decide_eq_true_eq] at hh
        exact hh.1
      have hg : ∀ d, r.L.getD (rAt r.L n) d = r.L[rAt r.L n] := fun d => getD_ltR _ _ _ hi
      rw [Int.toNat_natCast, hg]
      refine ⟨rfl, ⟨rfl, rfl, rfl, by omega, by omega⟩, ⟨rfl, rfl, rfl, hi⟩, ?_⟩
      have hc0 : (((r.L[rAt r.L n].pids.length : Nat) : Int) == 0) = (r.L[rAt r.L n].pids.length == 0) := by rw [Bool.eq_iff_iff]; simp
      rw [hc0]
      cases hc : r.L[rAt r.L n].pids.length == 0 with
      | true =>
        have e : rFirst r.L (n :: notes) = (notes, some n) := by simp only [rFirst, hh, hg, hc, Bool.and_self]
        have hf := hfin (cutA ao cap 1 1) (cap - 1)
        rw [e] at hf
        exact ⟨{ r with notes := notes, aoN := cutA ao cap 1 1, capN := cap - 1 }, fun W F w hr => hr, hf⟩
      | false =>
        refine back _ ?_ rfl ⟨rfl, trivial⟩
        simp only [rFirst, hh, hg, hc, Bool.and_false]
end Go.Proofs.Ytihajdkipkfiiaa

/- YtihajdkipkfiiaaRg3Run -/
namespace Go.Proofs.Ytihajdkipkfiiaa
set_option linter.unusedVariables false
open Go Go.RowKit
set_option maxHeartbeats 0
set_option maxRecDepth 100000
set_option linter.unusedVariables false
set_option maxRecDepth 100000

theorem rGn_start (K : List Frm → Sy → Prop) (N : List Ent → SV → Prop) (r : RG) (b : Nat) (pid : Int) : (run Try.prog [(89, adtC rgE ratM), (66, adtC rgE rofM)] false [] K (retP Try.prog Try.f63.results.toList N) 600 [.code (bodyOf Try.f63)] ⟨padTo 111 [.ptr 0 b 0, .int .i64 pid], [pkA b rgE r]⟩) = (
true = true ∧
 b = b ∧
  ∃ (h : RG = RG),
   AdtIs (fun (s : RG) (b : Nat) ↦ packs (rgE s b)) rgE ∧
    rOk r ∧
     match !Option.isSome (rOf r.3 pid) with
     | true => N [pkA b rgE r] (SV.bool false)
     | false =>
      true = true ∧
       b = b ∧
        ∃ (h : RG = RG),
         AdtIs (fun (s : RG) (b : Nat) ↦ packs (rgE s b)) rgE ∧
          rOk r ∧
           K (frm [] (bodyOf Try.f63) [1, 1, 1, 1, 1, 0, 1, 0] [])
            (Sy.mk (SV.ptr 0 b 0 :: (SV.int IntKind.i64 pid :: (SV.raw (Value.tuple #[]) :: (SV.raw (Value.tuple #[]) :: (SV.bool false :: ((SV.str (match rOf r.3 pid with | some x => x | none => ByteArray.mk #[])) :: (SV.bool (Option.isSome (rOf r.3 pid)) :: ((SV.int IntKind.i64 (↑(rAt r.3 (match rOf r.3 pid with | some x => x | none => ByteArray.mk #[])) : Int)) :: ((SV.bool (rHas r.3 (match rOf r.3 pid with | some x => x | none => ByteArray.mk #[]))) :: (SV.raw (Value.slice (@none Addr) 0 0) :: (SV.int IntKind.i64 (0 : Int) :: (SV.raw (Value.tuple #[]) :: (SV.raw (Value.tuple #[]) :: ((SV.tuple [SV.str (match rOf r.3 pid with | some x => x | none => ByteArray.mk #[]), SV.bool (Option.isSome (rOf r.3 pid))]) :: (SV.ptr 0 b 0 :: (SV.int IntKind.i64 pid :: ((SV.tuple [SV.str (match rOf r.3 pid with | some x => x | none => ByteArray.mk #[]), SV.bool (Option.isSome (rOf r.3 pid))]) :: ((SV.str (match rOf r.3 pid with | some x => x | none => ByteArray.mk #[])) :: (SV.bool (Option.isSome (rOf r.3 pid)) :: (SV.bool (Option.isSome (rOf r.3 pid)) :: (SV.bool false :: ((SV.tuple [SV.int IntKind.i64 (↑(rAt r.3 (match rOf r.3 pid with | some x => x | none => ByteArray.mk #[])) : Int), SV.bool (rHas r.3 (match rOf r.3 pid with | some x => x | none => ByteArray.mk #[]))]) :: (SV.ptr 0 b 0 :: ((SV.str (match rOf r.3 pid with | some x => x | none => ByteArray.mk #[])) :: ((SV.tuple [SV.int IntKind.i64 (↑(rAt r.3 (match rOf r.3 pid with | some x => x | none => ByteArray.mk #[])) : Int), SV.bool (rHas r.3 (match rOf r.3 pid with | some x => x | none => ByteArray.mk #[]))]) :: ((SV.int IntKind.i64 (↑(rAt r.3 (match rOf r.3 pid with | some x => x | none => ByteArray.mk #[])) : Int)) :: ((SV.bool (rHas r.3 (match rOf r.3 pid with | some x => x | none => ByteArray.mk #[]))) :: (rawE [] 84))))))))))))))))))))))))))))
             [pkA b rgE r])) := by kernel_rfl


theorem rGn_1 (K : List Frm → Sy → Prop) (N : List Ent → SV → Prop) (J : Act → World → Prop) (aoL : Option Addr) (capL : Nat) (L : List RGrp) (aoN : Option Addr) (capN : Nat) (nt : List ByteArray) (b : Nat) (rest : List Ent) (pid : Int) (n : ByteArray) (i k : Nat) (g : RGrp) (ag : Option Addr) (cg : Nat) (got : List Int) (u : Nat → Value) : (run Try.prog [] false [11] K (retP Try.prog Try.f63.results.toList N) 900 (frm [J] (bodyOf Try.f63) [1, 1, 1, 1, 1, 0, 1, 0, 0] []) ⟨mkT u 111 0 [(0, .ptr 0 b 0), (1, .int .i64 pid), (5, .str n), (7, .int .i64 (i : Int)), (9, .vec 5 ag got.length cg), (10, .int .i64 (k : Int))], [⟨.blk b, .cells [.vec 1 aoL (L).length capL, .vec 2 aoN (nt).length capN] 103⟩, ⟨.sl aoL capL, .vecL 112 2 encR (L) zR⟩, ⟨.sl aoN capN, .vecL 9 1 encS (nt) ByteArray.empty⟩, pk 0 rest, ⟨.sl g.ao g.cap, .vecL 3 1 encI1 (g.pids) 0⟩, ⟨.sl ag cg, .vecL 3 1 encI1 (got) 0⟩]⟩) = (
b = b ∧
 (aoL = aoL ∧ capL = capL ∧ List.length L = List.length L ∧ (0 : Int) ≤ (↑i : Int) ∧ (↑i : Int) < (↑(List.length L) : Int)) ∧
  (Addr.blkD aoL = Addr.blkD aoL ∧ Addr.offD aoL = Addr.offD aoL ∧ 2 = 2 ∧ Int.toNat (↑i : Int) < List.length L) ∧
   match decide ((↑k : Int) < (↑(List.length (List.getD L (Int.toNat (↑i : Int)) (RGrp.mk (ByteArray.mk #[]) (@none Addr) 0 [])).4) : Int)) with
   | true =>
    b = b ∧
     (aoL = aoL ∧ capL = capL ∧ List.length L = List.length L ∧ (0 : Int) ≤ (↑i : Int) ∧ (↑i : Int) < (↑(List.length L) : Int)) ∧
      (Addr.blkD aoL = Addr.blkD aoL ∧ Addr.offD aoL = Addr.offD aoL ∧ 2 = 2 ∧ Int.toNat (↑i : Int) < List.length L) ∧
       (g.ao = (List.getD L (Int.toNat (↑i : Int)) (RGrp.mk (ByteArray.mk #[]) (@none Addr) 0 [])).ao ∧
        g.3 = (List.getD L (Int.toNat (↑i : Int)) (RGrp.mk (ByteArray.mk #[]) (@none Addr) 0 [])).3 ∧
         List.length (List.getD L (Int.toNat (↑i : Int)) (RGrp.mk (ByteArray.mk #[]) (@none Addr) 0 [])).4 = List.length g.4 ∧
          (0 : Int) ≤ (↑k : Int) ∧ (↑k : Int) < (↑(List.length (List.getD L (Int.toNat (↑i : Int)) (RGrp.mk (ByteArray.mk #[]) (@none Addr) 0 [])).4) : Int)) ∧
        (Addr.blkD (List.getD L (Int.toNat (↑i : Int)) (RGrp.mk (ByteArray.mk #[]) (@none Addr) 0 [])).ao = Addr.blkD g.ao ∧
         Addr.offD (List.getD L (Int.toNat (↑i : Int)) (RGrp.mk (ByteArray.mk #[]) (@none Addr) 0 [])).ao = Addr.offD g.ao ∧
          1 = 1 ∧ Int.toNat (↑k : Int) < List.length g.4) ∧
         match List.getD g.4 (Int.toNat (↑k : Int)) (0 : Int) != pid with
         | true =>
          b = b ∧
           (aoL = aoL ∧ capL = capL ∧ List.length L = List.length L ∧ (0 : Int) ≤ (↑i : Int) ∧ (↑i : Int) < (↑(List.length L) : Int)) ∧
            (Addr.blkD aoL = Addr.blkD aoL ∧ Addr.offD aoL = Addr.offD aoL ∧ 2 = 2 ∧ Int.toNat (↑i : Int) < List.length L) ∧
             (g.ao = (List.getD L (Int.toNat (↑i : Int)) (RGrp.mk (ByteArray.mk #[]) (@none Addr) 0 [])).ao ∧
              g.3 = (List.getD L (Int.toNat (↑i : Int)) (RGrp.mk (ByteArray.mk #[]) (@none Addr) 0 [])).3 ∧
               List.length (List.getD L (Int.toNat (↑i : Int)) (RGrp.mk (ByteArray.mk #[]) (@none Addr) 0 [])).4 = List.length g.4 ∧
                (0 : Int) ≤ (↑k : Int) ∧ (↑k : Int) < (↑(List.length (List.getD L (Int.toNat (↑i : Int)) (RGrp.mk (ByteArray.mk #[]) (@none Addr) 0 [])).4) : Int)) ∧
              (Addr.blkD (List.getD L (Int.toNat (↑i : Int)) (RGrp.mk (ByteArray.mk #[]) (@none Addr) 0 [])).ao = Addr.blkD g.ao ∧
               Addr.offD (List.getD L (Int.toNat (↑i : Int)) (RGrp.mk (ByteArray.mk #[]) (@none Addr) 0 [])).ao = Addr.offD g.ao ∧
                1 = 1 ∧ Int.toNat (↑k : Int) < List.length g.4) ∧
               (true = true ∧ 1 = 1 ∧ 0 < 1 ∧ 1 ≤ 16777216) ∧
                ∀ (b_1 : Nat),
                 (ag = ag ∧
                  cg = cg ∧
                   List.length got = List.length got ∧
                    some (Addr.mk b_1 0 (@none Nat)) = some (Addr.mk b_1 0 (@none Nat)) ∧
                     (3 : TypeId) = 3 ∧
                      1 = 1 ∧
                       1 = 1 ∧
                        0 < 1 ∧
                         true = true ∧ (List.length got + 1) * 8 ≤ 140737488355328 ∧ List.length got + 1 ≤ 9223372036854775807) ∧
                  ∃ (es : List Int),
                   List.length es = 1 ∧
                    denL (List.flatMap encI1 es) = denL [SV.int IntKind.i64 (List.getD g.4 (Int.toNat (↑k : Int)) (0 : Int))] ∧
                     ∀ (ao2 : Option Addr) (cap2 : Nat),
                      List.length got + 1 ≤ cap2 →
                       K (Frm.loop J :: Frm.blk 0 :: frm [] (bodyOf Try.f63) [1, 1, 1, 1, 1, 1] [])
                        (Sy.mk (SV.ptr 0 b 0 :: (SV.int IntKind.i64 pid :: (rawR u 2 (SV.str n :: (SV.raw (u 6) :: (SV.int IntKind.i64 (↑i : Int) :: (SV.raw (u 8) :: (SV.vec 5 ao2 (List.length got + 1) cap2 :: (SV.int IntKind.i64 (IntKind.wrap IntKind.i64 ((↑k : Int) + (1 : Int))) :: (rawR u 11 (SV.int IntKind.i64 (↑k : Int) :: (SV.ptr 0 b 0 :: (SV.ptr 0 b 0 :: (SV.ptr 0 b 0 :: (SV.vec 1 aoL (List.length L) capL :: (SV.int IntKind.i64 (↑i : Int) :: (SV.eptr 1 (Addr.blkD aoL) (Addr.offD aoL) 2 (Int.toNat (↑i : Int)) 0 :: (SV.eptr 1 (Addr.blkD aoL) (Addr.offD aoL) 2 (Int.toNat (↑i : Int)) 1 :: (SV.vec 4 (List.getD L (Int.toNat (↑i : Int)) (RGrp.mk (ByteArray.mk #[]) (@none Addr) 0 [])).ao (List.length (List.getD L (Int.toNat (↑i : Int)) (RGrp.mk (ByteArray.mk #[]) (@none Addr) 0 [])).4) (List.getD L (Int.toNat (↑i : Int)) (RGrp.mk (ByteArray.mk #[]) (@none Addr) 0 [])).3 :: (SV.int IntKind.i64 (↑(List.length (List.getD L (Int.toNat (↑i : Int)) (RGrp.mk (ByteArray.mk #[]) (@none Addr) 0 [])).4) : Int) :: (SV.bool true :: (SV.int IntKind.i64 (↑k : Int) :: (SV.int IntKind.i64 (IntKind.wrap IntKind.i64 ((↑k : Int) + (1 : Int))) :: (SV.ptr 0 b 0 :: (SV.ptr 0 b 0 :: (SV.ptr 0 b 0 :: (SV.vec 1 aoL (List.length L) capL :: (SV.int IntKind.i64 (↑i : Int) :: (SV.eptr 1 (Addr.blkD aoL) (Addr.offD aoL) 2 (Int.toNat (↑i : Int)) 0 :: (SV.eptr 1 (Addr.blkD aoL) (Addr.offD aoL) 2 (Int.toNat (↑i : Int)) 1 :: (SV.vec 4 (List.getD L (Int.toNat (↑i : Int)) (RGrp.mk (ByteArray.mk #[]) (@none Addr) 0 [])).ao (List.length (List.getD L (Int.toNat (↑i : Int)) (RGrp.mk (ByteArray.mk #[]) (@none Addr) 0 [])).4) (List.getD L (Int.toNat (↑i : Int)) (RGrp.mk (ByteArray.mk #[]) (@none Addr) 0 [])).3 :: (SV.int IntKind.i64 (↑k : Int) :: (SV.eptr 4 (Addr.blkD (List.getD L (Int.toNat (↑i : Int)) (RGrp.mk (ByteArray.mk #[]) (@none Addr) 0 [])).ao) (Addr.offD (List.getD L (Int.toNat (↑i : Int)) (RGrp.mk (ByteArray.mk #[]) (@none Addr) 0 [])).ao) 1 (Int.toNat (↑k : Int)) 0 :: (SV.int IntKind.i64 (List.getD g.4 (Int.toNat (↑k : Int)) (0 : Int)) :: (SV.int IntKind.i64 pid :: (SV.bool true :: (SV.vec 5 ag (List.length got) cg :: (SV.ptr 0 b 0 :: (SV.ptr 0 b 0 :: (SV.ptr 0 b 0 :: (SV.vec 1 aoL (List.length L) capL :: (SV.int IntKind.i64 (↑i : Int) :: (SV.eptr 1 (Addr.blkD aoL) (Addr.offD aoL) 2 (Int.toNat (↑i : Int)) 0 :: (SV.eptr 1 (Addr.blkD aoL) (Addr.offD aoL) 2 (Int.toNat (↑i : Int)) 1 :: (SV.vec 4 (List.getD L (Int.toNat (↑i : Int)) (RGrp.mk (ByteArray.mk #[]) (@none Addr) 0 [])).ao (List.length (List.getD L (Int.toNat (↑i : Int)) (RGrp.mk (ByteArray.mk #[]) (@none Addr) 0 [])).4) (List.getD L (Int.toNat (↑i : Int)) (RGrp.mk (ByteArray.mk #[]) (@none Addr) 0 [])).3 :: (SV.int IntKind.i64 (↑k : Int) :: (SV.eptr 4 (Addr.blkD (List.getD L (Int.toNat (↑i : Int)) (RGrp.mk (ByteArray.mk #[]) (@none Addr) 0 [])).ao) (Addr.offD (List.getD L (Int.toNat (↑i : Int)) (RGrp.mk (ByteArray.mk #[]) (@none Addr) 0 [])).ao) 1 (Int.toNat (↑k : Int)) 0 :: (SV.int IntKind.i64 (List.getD g.4 (Int.toNat (↑k : Int)) (0 : Int)) :: (SV.vec 6 (some (Addr.mk b_1 0 (@none Nat))) 1 1 :: (SV.vec 5 ao2 (List.length got + 1) cap2 :: (rawR u 67 [] 44))))))))))))))))))))))))))))))))))))))))) 16))))))) 3)))
                         [Ent.mk (Loc.blk b) (SObj.cells [SV.vec 1 aoL (List.length L) capL, SV.vec 2 aoN (List.length nt) capN] (103 : TypeId)),
                          Ent.mk (Loc.sl aoL capL) (SObj.vecL (112 : TypeId) 2 encR L (RGrp.mk (ByteArray.mk #[]) (@none Addr) 0 [])),
                          Ent.mk (Loc.sl aoN capN) (SObj.vecL (9 : TypeId) 1 encS nt ByteArray.empty), pk 0 rest,
                          Ent.mk (Loc.sl g.ao g.3) (SObj.vecL (3 : TypeId) 1 encI1 g.4 (0 : Int)),
                          Ent.mk (Loc.sl ao2 cap2) (SObj.vecL (3 : TypeId) 1 encI1 (got ++ es) (0 : Int)),
                          Ent.mk (Loc.blk b_1) (SObj.cells [SV.int IntKind.i64 (List.getD g.4 (Int.toNat (↑k : Int)) (0 : Int))] 3)])
         | false =>
          K (Frm.loop J :: Frm.blk 0 :: frm [] (bodyOf Try.f63) [1, 1, 1, 1, 1, 1] [])
           (Sy.mk (SV.ptr 0 b 0 :: (SV.int IntKind.i64 pid :: (rawR u 2 (SV.str n :: (SV.raw (u 6) :: (SV.int IntKind.i64 (↑i : Int) :: (SV.raw (u 8) :: (SV.vec 5 ag (List.length got) cg :: (SV.int IntKind.i64 (IntKind.wrap IntKind.i64 ((↑k : Int) + (1 : Int))) :: (rawR u 11 (SV.int IntKind.i64 (↑k : Int) :: (SV.ptr 0 b 0 :: (SV.ptr 0 b 0 :: (SV.ptr 0 b 0 :: (SV.vec 1 aoL (List.length L) capL :: (SV.int IntKind.i64 (↑i : Int) :: (SV.eptr 1 (Addr.blkD aoL) (Addr.offD aoL) 2 (Int.toNat (↑i : Int)) 0 :: (SV.eptr 1 (Addr.blkD aoL) (Addr.offD aoL) 2 (Int.toNat (↑i : Int)) 1 :: (SV.vec 4 (List.getD L (Int.toNat (↑i : Int)) (RGrp.mk (ByteArray.mk #[]) (@none Addr) 0 [])).ao (List.length (List.getD L (Int.toNat (↑i : Int)) (RGrp.mk (ByteArray.mk #[]) (@none Addr) 0 [])).4) (List.getD L (Int.toNat (↑i : Int)) (RGrp.mk (ByteArray.mk #[]) (@none Addr) 0 [])).3 :: (SV.int IntKind.i64 (↑(List.length (List.getD L (Int.toNat (↑i : Int)) (RGrp.mk (ByteArray.mk #[]) (@none Addr) 0 [])).4) : Int) :: (SV.bool true :: (SV.int IntKind.i64 (↑k : Int) :: (SV.int IntKind.i64 (IntKind.wrap IntKind.i64 ((↑k : Int) + (1 : Int))) :: (SV.ptr 0 b 0 :: (SV.ptr 0 b 0 :: (SV.ptr 0 b 0 :: (SV.vec 1 aoL (List.length L) capL :: (SV.int IntKind.i64 (↑i : Int) :: (SV.eptr 1 (Addr.blkD aoL) (Addr.offD aoL) 2 (Int.toNat (↑i : Int)) 0 :: (SV.eptr 1 (Addr.blkD aoL) (Addr.offD aoL) 2 (Int.toNat (↑i : Int)) 1 :: (SV.vec 4 (List.getD L (Int.toNat (↑i : Int)) (RGrp.mk (ByteArray.mk #[]) (@none Addr) 0 [])).ao (List.length (List.getD L (Int.toNat (↑i : Int)) (RGrp.mk (ByteArray.mk #[]) (@none Addr) 0 [])).4) (List.getD L (Int.toNat (↑i : Int)) (RGrp.mk (ByteArray.mk #[]) (@none Addr) 0 [])).3 :: (SV.int IntKind.i64 (↑k : Int) :: (SV.eptr 4 (Addr.blkD (List.getD L (Int.toNat (↑i : Int)) (RGrp.mk (ByteArray.mk #[]) (@none Addr) 0 [])).ao) (Addr.offD (List.getD L (Int.toNat (↑i : Int)) (RGrp.mk (ByteArray.mk #[]) (@none Addr) 0 [])).ao) 1 (Int.toNat (↑k : Int)) 0 :: (SV.int IntKind.i64 (List.getD g.4 (Int.toNat (↑k : Int)) (0 : Int)) :: (SV.int IntKind.i64 pid :: (SV.bool false :: (rawR u 53 [] 58))))))))))))))))))))))))))) 16))))))) 3)))
            [Ent.mk (Loc.blk b) (SObj.cells [SV.vec 1 aoL (List.length L) capL, SV.vec 2 aoN (List.length nt) capN] (103 : TypeId)),
             Ent.mk (Loc.sl aoL capL) (SObj.vecL (112 : TypeId) 2 encR L (RGrp.mk (ByteArray.mk #[]) (@none Addr) 0 [])),
             Ent.mk (Loc.sl aoN capN) (SObj.vecL (9 : TypeId) 1 encS nt ByteArray.empty), pk 0 rest,
             Ent.mk (Loc.sl g.ao g.3) (SObj.vecL (3 : TypeId) 1 encI1 g.4 (0 : Int)), Ent.mk (Loc.sl ag cg) (SObj.vecL (3 : TypeId) 1 encI1 got (0 : Int))])
   | false =>
    K (frmR [] (bodyOf Try.f63) 11)
     (Sy.mk (SV.ptr 0 b 0 :: (SV.int IntKind.i64 pid :: (rawR u 2 (SV.str n :: (SV.raw (u 6) :: (SV.int IntKind.i64 (↑i : Int) :: (SV.raw (u 8) :: (SV.vec 5 ag (List.length got) cg :: (SV.int IntKind.i64 (↑k : Int) :: (rawR u 11 (SV.int IntKind.i64 (↑k : Int) :: (SV.ptr 0 b 0 :: (SV.ptr 0 b 0 :: (SV.ptr 0 b 0 :: (SV.vec 1 aoL (List.length L) capL :: (SV.int IntKind.i64 (↑i : Int) :: (SV.eptr 1 (Addr.blkD aoL) (Addr.offD aoL) 2 (Int.toNat (↑i : Int)) 0 :: (SV.eptr 1 (Addr.blkD aoL) (Addr.offD aoL) 2 (Int.toNat (↑i : Int)) 1 :: (SV.vec 4 (List.getD L (Int.toNat (↑i : Int)) (RGrp.mk (ByteArray.mk #[]) (@none Addr) 0 [])).ao (List.length (List.getD L (Int.toNat (↑i : Int)) (RGrp.mk (ByteArray.mk #[]) (@none Addr) 0 [])).4) (List.getD L (Int.toNat (↑i : Int)) (RGrp.mk (ByteArray.mk #[]) (@none Addr) 0 [])).3 :: (SV.int IntKind.i64 (↑(List.length (List.getD L (Int.toNat (↑i : Int)) (RGrp.mk (ByteArray.mk #[]) (@none Addr) 0 [])).4) : Int) :: (SV.bool false :: (rawR u 38 [] 73)))))))))))) 16))))))) 3)))
      [Ent.mk (Loc.blk b) (SObj.cells [SV.vec 1 aoL (List.length L) capL, SV.vec 2 aoN (List.length nt) capN] (103 : TypeId)),
       Ent.mk (Loc.sl aoL capL) (SObj.vecL (112 : TypeId) 2 encR L (RGrp.mk (ByteArray.mk #[]) (@none Addr) 0 [])),
       Ent.mk (Loc.sl aoN capN) (SObj.vecL (9 : TypeId) 1 encS nt ByteArray.empty), pk 0 rest, Ent.mk (Loc.sl g.ao g.3) (SObj.vecL (3 : TypeId) 1 encI1 g.4 (0 : Int)),
       Ent.mk (Loc.sl ag cg) (SObj.vecL (3 : TypeId) 1 encI1 got (0 : Int))])) := by kernel_rfl


theorem rGn_11 (K : List Frm → Sy → Prop) (N : List Ent → SV → Prop) (aoL : Option Addr) (capL : Nat) (L : List RGrp) (aoN : Option Addr) (capN : Nat) (nt : List ByteArray) (b : Nat) (rest : List Ent) (pid : Int) (n : ByteArray) (i k : Nat) (g : RGrp) (ag : Option Addr) (cg : Nat) (got : List Int) (u : Nat → Value) : (run Try.prog [] false [] K (retP Try.prog Try.f63.results.toList N) 900 (frmR [] (bodyOf Try.f63) 11) ⟨mkT u 111 0 [(0, .ptr 0 b 0), (1, .int .i64 pid), (5, .str n), (7, .int .i64 (i : Int)), (9, .vec 5 ag got.length cg)], [⟨.blk b, .cells [.vec 1 aoL (L).length capL, .vec 2 aoN (nt).length capN] 103⟩, ⟨.sl aoL capL, .vecL 112 2 encR (L) zR⟩, ⟨.sl aoN capN, .vecL 9 1 encS (nt) ByteArray.empty⟩, pk 0 rest, ⟨.sl g.ao g.cap, .vecL 3 1 encI1 (g.pids) 0⟩, ⟨.sl ag cg, .vecL 3 1 encI1 (got) 0⟩]⟩) = (
b = b ∧
 (aoL = aoL ∧ capL = capL ∧ List.length L = List.length L ∧ (0 : Int) ≤ (↑i : Int) ∧ (↑i : Int) < (↑(List.length L) : Int)) ∧
  (Addr.blkD aoL = Addr.blkD aoL ∧ Addr.offD aoL = Addr.offD aoL ∧ 2 = 2 ∧ Int.toNat (↑i : Int) < List.length L ∧ true = true ∧ 1 = 1 ∧ 2 ≤ 2) ∧
   ∃ (e : RGrp),
    denL [SV.str e.1, SV.vec 4 e.ao (List.length e.4) e.3] =
     denL [SV.str (List.getD L (Int.toNat (↑i : Int)) (RGrp.mk (ByteArray.mk #[]) (@none Addr) 0 [])).1, SV.vec 5 ag (List.length got) cg] ∧
     match (↑(List.length got) : Int) == (0 : Int) with
     | true =>
      K (frm [] (bodyOf Try.f63) [1, 1, 1, 1, 1, 1, 1, 0, 1, 0, 1, 0, 1, 0] [])
       (Sy.mk (SV.ptr 0 b 0 :: (SV.int IntKind.i64 pid :: (rawR u 2 (SV.str n :: (SV.raw (u 6) :: (SV.int IntKind.i64 (↑i : Int) :: (SV.raw (u 8) :: (SV.vec 5 ag (List.length got) cg :: (SV.raw (u 10) :: (SV.bool false :: (SV.int IntKind.i64 (0 : Int) :: (rawR u 13 (SV.ptr 0 b 0 :: (SV.ptr 0 b 0 :: (SV.ptr 0 b 0 :: (SV.vec 1 aoL (List.length L) capL :: (SV.int IntKind.i64 (↑i : Int) :: (SV.vec 5 ag (List.length got) cg :: (SV.eptr 1 (Addr.blkD aoL) (Addr.offD aoL) 2 (Int.toNat (↑i : Int)) 0 :: (SV.eptr 1 (Addr.blkD aoL) (Addr.offD aoL) 2 (Int.toNat (↑i : Int)) 1 :: (SV.vec 5 ag (List.length got) cg :: (SV.int IntKind.i64 (↑(List.length got) : Int) :: (SV.bool true :: (rawR u 78 [] 33)))))))))))) 54))))))))) 3)))
        [Ent.mk (Loc.blk b) (SObj.cells [SV.vec 1 aoL (List.length L) capL, SV.vec 2 aoN (List.length nt) capN] (103 : TypeId)),
         Ent.mk (Loc.sl aoL capL) (SObj.vecL (112 : TypeId) 2 encR (List.set L (Int.toNat (↑i : Int)) e) (RGrp.mk (ByteArray.mk #[]) (@none Addr) 0 [])),
         Ent.mk (Loc.sl aoN capN) (SObj.vecL (9 : TypeId) 1 encS nt ByteArray.empty), pk 0 rest,
         Ent.mk (Loc.sl g.ao g.3) (SObj.vecL (3 : TypeId) 1 encI1 g.4 (0 : Int)), Ent.mk (Loc.sl ag cg) (SObj.vecL (3 : TypeId) 1 encI1 got (0 : Int))])
     | false =>
      N
       [Ent.mk (Loc.blk b) (SObj.cells [SV.vec 1 aoL (List.length L) capL, SV.vec 2 aoN (List.length nt) capN] (103 : TypeId)),
        Ent.mk (Loc.sl aoL capL) (SObj.vecL (112 : TypeId) 2 encR (List.set L (Int.toNat (↑i : Int)) e) (RGrp.mk (ByteArray.mk #[]) (@none Addr) 0 [])),
        Ent.mk (Loc.sl aoN capN) (SObj.vecL (9 : TypeId) 1 encS nt ByteArray.empty), pk 0 rest, Ent.mk (Loc.sl g.ao g.3) (SObj.vecL (3 : TypeId) 1 encI1 g.4 (0 : Int)),
        Ent.mk (Loc.sl ag cg) (SObj.vecL (3 : TypeId) 1 encI1 got (0 : Int))]
       (SV.bool true)) := by kernel_rfl
end Go.Proofs.Ytihajdkipkfiiaa

/- YtihajdkipkfiiaaRg5Run -/
namespace Go.Proofs.Ytihajdkipkfiiaa
set_option linter.unusedVariables false
open Go Go.RowKit
set_option maxHeartbeats 0
set_option maxRecDepth 100000
set_option linter.unusedVariables false
set_option maxRecDepth 100000

theorem rGn_2 (K : List Frm → Sy → Prop) (N : List Ent → SV → Prop) (J : Act → World → Prop) (aoL : Option Addr) (capL : Nat) (L : List RGrp) (aoN : Option Addr) (capN : Nat) (nt : List ByteArray) (b : Nat) (rest : List Ent) (n : ByteArray) (k : Nat) (st : Bool) (u : Nat → Value) : (run Try.prog [] false [] K (retP Try.prog Try.f63.results.toList N) 900 (frm [J] (bodyOf Try.f63) [1, 1, 1, 1, 1, 1, 1, 0, 1, 0, 1, 0, 1, 0, 0] []) ⟨mkT u 111 0 [(0, .ptr 0 b 0), (5, .str n), (11, .bool st), (12, .int .i64 (k : Int))], [⟨.blk b, .cells [.vec 1 aoL (L).length capL, .vec 2 aoN (nt).length capN] 103⟩, ⟨.sl aoL capL, .vecL 112 2 encR (L) zR⟩, ⟨.sl aoN capN, .vecL 9 1 encS (nt) ByteArray.empty⟩, pk 0 rest]⟩) = (
b = b ∧
 match decide ((↑k : Int) < (↑(List.length nt) : Int)) with
 | true =>
  match st with
  | true =>
   K
    (Frm.loop J ::
     Frm.blk 2 :: frm [] (bodyOf Try.f63) [1, 1, 1, 1, 1, 1, 1, 0, 1, 0, 1, 1] [])
    (Sy.mk (SV.ptr 0 b 0 :: (rawR u 1 (SV.str n :: (rawR u 6 (SV.bool true :: (SV.int IntKind.i64 (IntKind.wrap IntKind.i64 ((↑k : Int) + (1 : Int))) :: (rawR u 13 (SV.int IntKind.i64 (↑k : Int) :: (SV.ptr 0 b 0 :: (SV.ptr 0 b 0 :: (SV.ptr 0 b 1 :: (SV.vec 2 aoN (List.length nt) capN :: (SV.int IntKind.i64 (↑(List.length nt) : Int) :: (SV.bool true :: (SV.int IntKind.i64 (↑k : Int) :: (SV.int IntKind.i64 (IntKind.wrap IntKind.i64 ((↑k : Int) + (1 : Int))) :: (SV.bool st :: (SV.bool true :: (rawE (SV.bool true :: (rawR u 99 [] 12)) 9)))))))))))) 65))) 5)) 4))
     [Ent.mk (Loc.blk b) (SObj.cells [SV.vec 1 aoL (List.length L) capL, SV.vec 2 aoN (List.length nt) capN] (103 : TypeId)),
      Ent.mk (Loc.sl aoL capL) (SObj.vecL (112 : TypeId) 2 encR L (RGrp.mk (ByteArray.mk #[]) (@none Addr) 0 [])),
      Ent.mk (Loc.sl aoN capN) (SObj.vecL (9 : TypeId) 1 encS nt ByteArray.empty), pk 0 rest])
  | false =>
   b = b ∧
    (aoN = aoN ∧ capN = capN ∧ List.length nt = List.length nt ∧ (0 : Int) ≤ (↑k : Int) ∧ (↑k : Int) < (↑(List.length nt) : Int)) ∧
     (Addr.blkD aoN = Addr.blkD aoN ∧ Addr.offD aoN = Addr.offD aoN ∧ 1 = 1 ∧ Int.toNat (↑k : Int) < List.length nt) ∧
      K
       (Frm.loop J ::
        Frm.blk 2 :: frm [] (bodyOf Try.f63) [1, 1, 1, 1, 1, 1, 1, 0, 1, 0, 1, 1] [])
       (Sy.mk (SV.ptr 0 b 0 :: (rawR u 1 (SV.str n :: (rawR u 6 (SV.bool (sEq (List.getD nt (Int.toNat (↑k : Int)) ByteArray.empty) n) :: (SV.int IntKind.i64 (IntKind.wrap IntKind.i64 ((↑k : Int) + (1 : Int))) :: (rawR u 13 (SV.int IntKind.i64 (↑k : Int) :: (SV.ptr 0 b 0 :: (SV.ptr 0 b 0 :: (SV.ptr 0 b 1 :: (SV.vec 2 aoN (List.length nt) capN :: (SV.int IntKind.i64 (↑(List.length nt) : Int) :: (SV.bool true :: (SV.int IntKind.i64 (↑k : Int) :: (SV.int IntKind.i64 (IntKind.wrap IntKind.i64 ((↑k : Int) + (1 : Int))) :: (SV.bool st :: (SV.bool false :: (SV.ptr 0 b 0 :: (SV.ptr 0 b 0 :: (SV.ptr 0 b 1 :: (SV.vec 2 aoN (List.length nt) capN :: (SV.int IntKind.i64 (↑k : Int) :: (SV.eptr 2 (Addr.blkD aoN) (Addr.offD aoN) 1 (Int.toNat (↑k : Int)) 0 :: (SV.str (List.getD nt (Int.toNat (↑k : Int)) ByteArray.empty) :: (SV.str n :: (SV.bool (sEq (List.getD nt (Int.toNat (↑k : Int)) ByteArray.empty) n) :: (SV.bool (sEq (List.getD nt (Int.toNat (↑k : Int)) ByteArray.empty) n) :: (rawR u 99 [] 12)))))))))))))))))))))) 65))) 5)) 4))
        [Ent.mk (Loc.blk b) (SObj.cells [SV.vec 1 aoL (List.length L) capL, SV.vec 2 aoN (List.length nt) capN] (103 : TypeId)),
         Ent.mk (Loc.sl aoL capL) (SObj.vecL (112 : TypeId) 2 encR L (RGrp.mk (ByteArray.mk #[]) (@none Addr) 0 [])),
         Ent.mk (Loc.sl aoN capN) (SObj.vecL (9 : TypeId) 1 encS nt ByteArray.empty), pk 0 rest])
 | false =>
  match !st with
  | true =>
   b = b ∧
    (true = true ∧ 1 = 1 ∧ 0 < 1 ∧ 1 ≤ 16777216) ∧
     ∀ (b_1 : Nat),
      (aoN = aoN ∧
       capN = capN ∧
        List.length nt = List.length nt ∧
         some (Addr.mk b_1 0 (@none Nat)) = some (Addr.mk b_1 0 (@none Nat)) ∧
          (9 : TypeId) = 9 ∧
           1 = 1 ∧
            1 = 1 ∧
             0 < 1 ∧ true = true ∧ (List.length nt + 1) * 16 ≤ 140737488355328 ∧ List.length nt + 1 ≤ 9223372036854775807) ∧
       ∃ (es : List ByteArray),
        List.length es = 1 ∧
         denL (List.flatMap encS es) = denL [SV.str n] ∧
          ∀ (ao2 : Option Addr) (cap2 : Nat),
           List.length nt + 1 ≤ cap2 →
            (b = b ∧ true = true ∧ 1 = 1 ∧ 2 ≤ 2) ∧
             N
              [Ent.mk (Loc.blk b) (SObj.cells [SV.vec 1 aoL (List.length L) capL, SV.vec 2 ao2 (List.length nt + 1) cap2] (103 : TypeId)),
               Ent.mk (Loc.sl aoL capL) (SObj.vecL (112 : TypeId) 2 encR L (RGrp.mk (ByteArray.mk #[]) (@none Addr) 0 [])),
               Ent.mk (Loc.sl ao2 cap2) (SObj.vecL (9 : TypeId) 1 encS (nt ++ es) ByteArray.empty), pk 0 rest, Ent.mk (Loc.blk b_1) (SObj.cells [SV.str n] 9)]
              (SV.bool true)
  | false =>
   N
    [Ent.mk (Loc.blk b) (SObj.cells [SV.vec 1 aoL (List.length L) capL, SV.vec 2 aoN (List.length nt) capN] (103 : TypeId)),
     Ent.mk (Loc.sl aoL capL) (SObj.vecL (112 : TypeId) 2 encR L (RGrp.mk (ByteArray.mk #[]) (@none Addr) 0 [])),
     Ent.mk (Loc.sl aoN capN) (SObj.vecL (9 : TypeId) 1 encS nt ByteArray.empty), pk 0 rest]
    (SV.bool true)) := by kernel_rfl
end Go.Proofs.Ytihajdkipkfiiaa

/- YtihajdkipkfiiaaRg4Run -/
namespace Go.Proofs.Ytihajdkipkfiiaa
set_option linter.unusedVariables false
open Go Go.RowKit
set_option maxHeartbeats 0
set_option maxRecDepth 100000
set_option linter.unusedVariables false
set_option maxRecDepth 100000

theorem rPt_start (K : List Frm → Sy → Prop) (N : List Ent → SV → Prop) (r : RG) (b : Nat) (pid : Int) (name : ByteArray) : (run Try.prog [(89, adtC rgE ratM), (66, adtC rgE rofM), (63, adtC rgE rgoneM)] false [] K (retP Try.prog Try.f62.results.toList N) 900 [.code (bodyOf Try.f62)] ⟨padTo 109 [.ptr 0 b 0, .int .i64 pid, .str name], [pkA b rgE r]⟩) = (
true = true ∧
 b = b ∧
  ∃ (h : RG = RG),
   AdtIs (fun (s : RG) (b : Nat) ↦ packs (rgE s b)) rgE ∧
    rOk r ∧
     match !rHas r.3 name with
     | true => N [pkA b rgE r] (SV.int IntKind.i64 (90 : Int))
     | false =>
      match decide (pid < (2 : Int)) with
      | true => N [pkA b rgE r] (SV.int IntKind.i64 (90 : Int))
      | false =>
       true = true ∧
        b = b ∧
         ∃ (h : RG = RG),
          AdtIs (fun (s : RG) (b : Nat) ↦ packs (rgE s b)) rgE ∧
           rOk r ∧
            match Option.isSome (rOf r.3 pid) with
            | true =>
             match
              sEq
               (match rOf r.3 pid with
               | some x => x
               | none => ByteArray.mk #[])
               name with
             | true => N [pkA b rgE r] (SV.int IntKind.i64 (0 : Int))
             | false =>
              true = true ∧
               b = b ∧
                ∃ (h : RG = RG),
                 AdtIs (fun (s : RG) (b : Nat) ↦ packs (rgE s b)) rgE ∧
                  (rOk r ∧ rAtOk r.L pid) ∧
                   ∀ (ao : Option Addr) (cap : Nat) (aoN : Option Addr) (capN : Nat),
                    true = true ∧
                     b = b ∧
                      ∃ (h : RG = RG),
                       AdtIs (fun (s : RG) (b : Nat) ↦ packs (rgE s b)) rgE ∧
                        rOk (rGone r pid ao cap aoN capN).1 ∧
                         K (frm [] (bodyOf Try.f62) [1, 1, 1, 1, 1, 1, 1, 1, 0, 0] [])
                          (Sy.mk (SV.ptr 0 b 0 :: (SV.int IntKind.i64 pid :: (SV.str name :: (rawE (SV.int IntKind.i64 (0 : Int) :: (SV.int IntKind.i64 (↑(rAt r.3 name) : Int) :: (SV.bool (rHas r.3 name) :: ((SV.str (match rOf r.3 pid with | some x => x | none => ByteArray.mk #[])) :: (SV.bool (Option.isSome (rOf r.3 pid)) :: (SV.int IntKind.i64 (↑(rAt (rGone r pid ao cap aoN capN).1.3 name) : Int) :: (SV.bool (rHas (rGone r pid ao cap aoN capN).1.3 name) :: (SV.int IntKind.i64 (0 : Int) :: (SV.raw (Value.tuple #[]) :: (SV.tuple [SV.int IntKind.i64 (↑(rAt r.3 name) : Int), SV.bool (rHas r.3 name)] :: (SV.ptr 0 b 0 :: (SV.str name :: (SV.tuple [SV.int IntKind.i64 (↑(rAt r.3 name) : Int), SV.bool (rHas r.3 name)] :: (SV.int IntKind.i64 (↑(rAt r.3 name) : Int) :: (SV.bool (rHas r.3 name) :: (SV.bool (rHas r.3 name) :: ((SV.bool !rHas r.3 name) :: (SV.bool false :: (SV.int IntKind.i64 pid :: (SV.bool (decide (pid < (2 : Int))) :: (SV.bool false :: ((SV.tuple [SV.str (match rOf r.3 pid with | some x => x | none => ByteArray.mk #[]), SV.bool (Option.isSome (rOf r.3 pid))]) :: (SV.ptr 0 b 0 :: (SV.int IntKind.i64 pid :: ((SV.tuple [SV.str (match rOf r.3 pid with | some x => x | none => ByteArray.mk #[]), SV.bool (Option.isSome (rOf r.3 pid))]) :: ((SV.str (match rOf r.3 pid with | some x => x | none => ByteArray.mk #[])) :: (SV.bool (Option.isSome (rOf r.3 pid)) :: (SV.bool (Option.isSome (rOf r.3 pid)) :: (SV.bool true :: ((SV.str (match rOf r.3 pid with | some x => x | none => ByteArray.mk #[])) :: (SV.str name :: ((SV.bool (sEq (match rOf r.3 pid with | some x => x | none => ByteArray.mk #[]) name)) :: (SV.bool false :: (SV.ptr 0 b 0 :: (SV.int IntKind.i64 pid :: (SV.bool (rGone r pid ao cap aoN capN).2 :: (SV.tuple [SV.int IntKind.i64 (↑(rAt (rGone r pid ao cap aoN capN).1.3 name) : Int), SV.bool (rHas (rGone r pid ao cap aoN capN).1.3 name)] :: (SV.ptr 0 b 0 :: (SV.str name :: (SV.tuple [SV.int IntKind.i64 (↑(rAt (rGone r pid ao cap aoN capN).1.3 name) : Int), SV.bool (rHas (rGone r pid ao cap aoN capN).1.3 name)] :: (SV.int IntKind.i64 (↑(rAt (rGone r pid ao cap aoN capN).1.3 name) : Int) :: (SV.bool (rHas (rGone r pid ao cap aoN capN).1.3 name) :: (rawE [] 61))))))))))))))))))))))))))))))))))))))))))) 3))))
                           [pkA b rgE (rGone r pid ao cap aoN capN).1])
            | false =>
             true = true ∧
              b = b ∧
               ∃ (h : RG = RG),
                AdtIs (fun (s : RG) (b : Nat) ↦ packs (rgE s b)) rgE ∧
                 (rOk r ∧ rAtOk r.L pid) ∧
                  ∀ (ao : Option Addr) (cap : Nat) (aoN : Option Addr) (capN : Nat),
                   true = true ∧
                    b = b ∧
                     ∃ (h : RG = RG),
                      AdtIs (fun (s : RG) (b : Nat) ↦ packs (rgE s b)) rgE ∧
                       rOk (rGone r pid ao cap aoN capN).1 ∧
                        K (frm [] (bodyOf Try.f62) [1, 1, 1, 1, 1, 1, 1, 1, 0, 0] [])
                         (Sy.mk (SV.ptr 0 b 0 :: (SV.int IntKind.i64 pid :: (SV.str name :: (rawE (SV.int IntKind.i64 (0 : Int) :: (SV.int IntKind.i64 (↑(rAt r.3 name) : Int) :: (SV.bool (rHas r.3 name) :: ((SV.str (match rOf r.3 pid with | some x => x | none => ByteArray.mk #[])) :: (SV.bool (Option.isSome (rOf r.3 pid)) :: (SV.int IntKind.i64 (↑(rAt (rGone r pid ao cap aoN capN).1.3 name) : Int) :: (SV.bool (rHas (rGone r pid ao cap aoN capN).1.3 name) :: (SV.int IntKind.i64 (0 : Int) :: (SV.raw (Value.tuple #[]) :: (SV.tuple [SV.int IntKind.i64 (↑(rAt r.3 name) : Int), SV.bool (rHas r.3 name)] :: (SV.ptr 0 b 0 :: (SV.str name :: (SV.tuple [SV.int IntKind.i64 (↑(rAt r.3 name) : Int), SV.bool (rHas r.3 name)] :: (SV.int IntKind.i64 (↑(rAt r.3 name) : Int) :: (SV.bool (rHas r.3 name) :: (SV.bool (rHas r.3 name) :: ((SV.bool !rHas r.3 name) :: (SV.bool false :: (SV.int IntKind.i64 pid :: (SV.bool (decide (pid < (2 : Int))) :: (SV.bool false :: ((SV.tuple [SV.str (match rOf r.3 pid with | some x => x | none => ByteArray.mk #[]), SV.bool (Option.isSome (rOf r.3 pid))]) :: (SV.ptr 0 b 0 :: (SV.int IntKind.i64 pid :: ((SV.tuple [SV.str (match rOf r.3 pid with | some x => x | none => ByteArray.mk #[]), SV.bool (Option.isSome (rOf r.3 pid))]) :: ((SV.str (match rOf r.3 pid with | some x => x | none => ByteArray.mk #[])) :: (SV.bool (Option.isSome (rOf r.3 pid)) :: (SV.bool (Option.isSome (rOf r.3 pid)) :: (SV.bool false :: (rawE (SV.bool false :: (SV.ptr 0 b 0 :: (SV.int IntKind.i64 pid :: (SV.bool (rGone r pid ao cap aoN capN).2 :: (SV.tuple [SV.int IntKind.i64 (↑(rAt (rGone r pid ao cap aoN capN).1.3 name) : Int), SV.bool (rHas (rGone r pid ao cap aoN capN).1.3 name)] :: (SV.ptr 0 b 0 :: (SV.str name :: (SV.tuple [SV.int IntKind.i64 (↑(rAt (rGone r pid ao cap aoN capN).1.3 name) : Int), SV.bool (rHas (rGone r pid ao cap aoN capN).1.3 name)] :: (SV.int IntKind.i64 (↑(rAt (rGone r pid ao cap aoN capN).1.3 name) : Int) :: (SV.bool (rHas (rGone r pid ao cap aoN capN).1.3 name) :: (rawE [] 61))))))))))) 3)))))))))))))))))))))))))))))) 3))))
                          [pkA b rgE (rGone r pid ao cap aoN capN).1])) := by kernel_rfl


theorem rPt_1 (K : List Frm → Sy → Prop) (N : List Ent → SV → Prop) (J : Act → World → Prop) (aoL : Option Addr) (capL : Nat) (L : List RGrp) (aoN : Option Addr) (capN : Nat) (nt : List ByteArray) (b : Nat) (rest : List Ent) (pid : Int) (i k : Nat) (g : RGrp) (u : Nat → Value) : (run Try.prog [] true [12] K (retP Try.prog Try.f62.results.toList N) 900 (frm [J] (bodyOf Try.f62) [1, 1, 1, 1, 1, 1, 1, 1, 0, 0, 0] []) ⟨mkT u 109 0 [(0, .ptr 0 b 0), (1, .int .i64 pid), (11, .int .i64 (i : Int)), (13, .int .i64 (k : Int))], [⟨.blk b, .cells [.vec 1 aoL (L).length capL, .vec 2 aoN (nt).length capN] 103⟩, ⟨.sl aoL capL, .vecL 112 2 encR (L) zR⟩, ⟨.sl aoN capN, .vecL 9 1 encS (nt) ByteArray.empty⟩, pk 0 rest, ⟨.sl g.ao g.cap, .vecL 3 1 encI1 (g.pids) 0⟩]⟩) = (
b = b ∧
 (aoL = aoL ∧ capL = capL ∧ List.length L = List.length L ∧ (0 : Int) ≤ (↑i : Int) ∧ (↑i : Int) < (↑(List.length L) : Int)) ∧
  (Addr.blkD aoL = Addr.blkD aoL ∧ Addr.offD aoL = Addr.offD aoL ∧ 2 = 2 ∧ Int.toNat (↑i : Int) < List.length L) ∧
   match decide ((↑k : Int) < (↑(List.length (List.getD L (Int.toNat (↑i : Int)) (RGrp.mk (ByteArray.mk #[]) (@none Addr) 0 [])).4) : Int)) with
   | true =>
    b = b ∧
     (aoL = aoL ∧ capL = capL ∧ List.length L = List.length L ∧ (0 : Int) ≤ (↑i : Int) ∧ (↑i : Int) < (↑(List.length L) : Int)) ∧
      (Addr.blkD aoL = Addr.blkD aoL ∧ Addr.offD aoL = Addr.offD aoL ∧ 2 = 2 ∧ Int.toNat (↑i : Int) < List.length L) ∧
       (g.ao = (List.getD L (Int.toNat (↑i : Int)) (RGrp.mk (ByteArray.mk #[]) (@none Addr) 0 [])).ao ∧
        g.3 = (List.getD L (Int.toNat (↑i : Int)) (RGrp.mk (ByteArray.mk #[]) (@none Addr) 0 [])).3 ∧
         List.length (List.getD L (Int.toNat (↑i : Int)) (RGrp.mk (ByteArray.mk #[]) (@none Addr) 0 [])).4 = List.length g.4 ∧
          (0 : Int) ≤ (↑k : Int) ∧ (↑k : Int) < (↑(List.length (List.getD L (Int.toNat (↑i : Int)) (RGrp.mk (ByteArray.mk #[]) (@none Addr) 0 [])).4) : Int)) ∧
        (Addr.blkD (List.getD L (Int.toNat (↑i : Int)) (RGrp.mk (ByteArray.mk #[]) (@none Addr) 0 [])).ao = Addr.blkD g.ao ∧
         Addr.offD (List.getD L (Int.toNat (↑i : Int)) (RGrp.mk (ByteArray.mk #[]) (@none Addr) 0 [])).ao = Addr.offD g.ao ∧
          1 = 1 ∧ Int.toNat (↑k : Int) < List.length g.4) ∧
         match decide (List.getD g.4 (Int.toNat (↑k : Int)) (0 : Int) < pid) with
         | true =>
          K (Frm.loop J :: Frm.blk 0 :: frm [] (bodyOf Try.f62) [1, 1, 1, 1, 1, 1, 1, 1, 1] [])
           (Sy.mk (SV.ptr 0 b 0 :: (SV.int IntKind.i64 pid :: (rawR u 2 (SV.int IntKind.i64 (↑i : Int) :: (SV.raw (u 12) :: (SV.int IntKind.i64 (IntKind.wrap IntKind.i64 ((↑k : Int) + (1 : Int))) :: (rawR u 14 (SV.int IntKind.i64 (↑k : Int) :: (SV.ptr 0 b 0 :: (SV.ptr 0 b 0 :: (SV.ptr 0 b 0 :: (SV.vec 1 aoL (List.length L) capL :: (SV.int IntKind.i64 (↑i : Int) :: (SV.eptr 1 (Addr.blkD aoL) (Addr.offD aoL) 2 (Int.toNat (↑i : Int)) 0 :: (SV.eptr 1 (Addr.blkD aoL) (Addr.offD aoL) 2 (Int.toNat (↑i : Int)) 1 :: (SV.vec 4 (List.getD L (Int.toNat (↑i : Int)) (RGrp.mk (ByteArray.mk #[]) (@none Addr) 0 [])).ao (List.length (List.getD L (Int.toNat (↑i : Int)) (RGrp.mk (ByteArray.mk #[]) (@none Addr) 0 [])).4) (List.getD L (Int.toNat (↑i : Int)) (RGrp.mk (ByteArray.mk #[]) (@none Addr) 0 [])).3 :: (SV.int IntKind.i64 (↑(List.length (List.getD L (Int.toNat (↑i : Int)) (RGrp.mk (ByteArray.mk #[]) (@none Addr) 0 [])).4) : Int) :: (SV.bool (decide ((↑k : Int) < (↑(List.length (List.getD L (Int.toNat (↑i : Int)) (RGrp.mk (ByteArray.mk #[]) (@none Addr) 0 [])).4) : Int))) :: (SV.bool true :: (SV.ptr 0 b 0 :: (SV.ptr 0 b 0 :: (SV.ptr 0 b 0 :: (SV.vec 1 aoL (List.length L) capL :: (SV.int IntKind.i64 (↑i : Int) :: (SV.eptr 1 (Addr.blkD aoL) (Addr.offD aoL) 2 (Int.toNat (↑i : Int)) 0 :: (SV.eptr 1 (Addr.blkD aoL) (Addr.offD aoL) 2 (Int.toNat (↑i : Int)) 1 :: (SV.vec 4 (List.getD L (Int.toNat (↑i : Int)) (RGrp.mk (ByteArray.mk #[]) (@none Addr) 0 [])).ao (List.length (List.getD L (Int.toNat (↑i : Int)) (RGrp.mk (ByteArray.mk #[]) (@none Addr) 0 [])).4) (List.getD L (Int.toNat (↑i : Int)) (RGrp.mk (ByteArray.mk #[]) (@none Addr) 0 [])).3 :: (SV.int IntKind.i64 (↑k : Int) :: (SV.eptr 4 (Addr.blkD (List.getD L (Int.toNat (↑i : Int)) (RGrp.mk (ByteArray.mk #[]) (@none Addr) 0 [])).ao) (Addr.offD (List.getD L (Int.toNat (↑i : Int)) (RGrp.mk (ByteArray.mk #[]) (@none Addr) 0 [])).ao) 1 (Int.toNat (↑k : Int)) 0 :: (SV.int IntKind.i64 (List.getD g.4 (Int.toNat (↑k : Int)) (0 : Int)) :: (SV.int IntKind.i64 pid :: (SV.bool (decide (List.getD g.4 (Int.toNat (↑k : Int)) (0 : Int) < pid)) :: (SV.bool true :: (SV.int IntKind.i64 (↑k : Int) :: (SV.int IntKind.i64 (IntKind.wrap IntKind.i64 ((↑k : Int) + (1 : Int))) :: (rawR u 76 [] 33))))))))))))))))))))))))))))) 34)))) 9)))
            [Ent.mk (Loc.blk b) (SObj.cells [SV.vec 1 aoL (List.length L) capL, SV.vec 2 aoN (List.length nt) capN] (103 : TypeId)),
             Ent.mk (Loc.sl aoL capL) (SObj.vecL (112 : TypeId) 2 encR L (RGrp.mk (ByteArray.mk #[]) (@none Addr) 0 [])),
             Ent.mk (Loc.sl aoN capN) (SObj.vecL (9 : TypeId) 1 encS nt ByteArray.empty), pk 0 rest,
             Ent.mk (Loc.sl g.ao g.3) (SObj.vecL (3 : TypeId) 1 encI1 g.4 (0 : Int))])
         | false =>
          K (frmR [] (bodyOf Try.f62) 12)
           (Sy.mk (SV.ptr 0 b 0 :: (SV.int IntKind.i64 pid :: (rawR u 2 (SV.int IntKind.i64 (↑i : Int) :: (SV.raw (u 12) :: (SV.int IntKind.i64 (↑k : Int) :: (rawR u 14 (SV.int IntKind.i64 (↑k : Int) :: (SV.ptr 0 b 0 :: (SV.ptr 0 b 0 :: (SV.ptr 0 b 0 :: (SV.vec 1 aoL (List.length L) capL :: (SV.int IntKind.i64 (↑i : Int) :: (SV.eptr 1 (Addr.blkD aoL) (Addr.offD aoL) 2 (Int.toNat (↑i : Int)) 0 :: (SV.eptr 1 (Addr.blkD aoL) (Addr.offD aoL) 2 (Int.toNat (↑i : Int)) 1 :: (SV.vec 4 (List.getD L (Int.toNat (↑i : Int)) (RGrp.mk (ByteArray.mk #[]) (@none Addr) 0 [])).ao (List.length (List.getD L (Int.toNat (↑i : Int)) (RGrp.mk (ByteArray.mk #[]) (@none Addr) 0 [])).4) (List.getD L (Int.toNat (↑i : Int)) (RGrp.mk (ByteArray.mk #[]) (@none Addr) 0 [])).3 :: (SV.int IntKind.i64 (↑(List.length (List.getD L (Int.toNat (↑i : Int)) (RGrp.mk (ByteArray.mk #[]) (@none Addr) 0 [])).4) : Int) :: (SV.bool (decide ((↑k : Int) < (↑(List.length (List.getD L (Int.toNat (↑i : Int)) (RGrp.mk (ByteArray.mk #[]) (@none Addr) 0 [])).4) : Int))) :: (SV.bool true :: (SV.ptr 0 b 0 :: (SV.ptr 0 b 0 :: (SV.ptr 0 b 0 :: (SV.vec 1 aoL (List.length L) capL :: (SV.int IntKind.i64 (↑i : Int) :: (SV.eptr 1 (Addr.blkD aoL) (Addr.offD aoL) 2 (Int.toNat (↑i : Int)) 0 :: (SV.eptr 1 (Addr.blkD aoL) (Addr.offD aoL) 2 (Int.toNat (↑i : Int)) 1 :: (SV.vec 4 (List.getD L (Int.toNat (↑i : Int)) (RGrp.mk (ByteArray.mk #[]) (@none Addr) 0 [])).ao (List.length (List.getD L (Int.toNat (↑i : Int)) (RGrp.mk (ByteArray.mk #[]) (@none Addr) 0 [])).4) (List.getD L (Int.toNat (↑i : Int)) (RGrp.mk (ByteArray.mk #[]) (@none Addr) 0 [])).3 :: (SV.int IntKind.i64 (↑k : Int) :: (SV.eptr 4 (Addr.blkD (List.getD L (Int.toNat (↑i : Int)) (RGrp.mk (ByteArray.mk #[]) (@none Addr) 0 [])).ao) (Addr.offD (List.getD L (Int.toNat (↑i : Int)) (RGrp.mk (ByteArray.mk #[]) (@none Addr) 0 [])).ao) 1 (Int.toNat (↑k : Int)) 0 :: (SV.int IntKind.i64 (List.getD g.4 (Int.toNat (↑k : Int)) (0 : Int)) :: (SV.int IntKind.i64 pid :: (SV.bool (decide (List.getD g.4 (Int.toNat (↑k : Int)) (0 : Int) < pid)) :: (SV.bool false :: (rawR u 74 [] 35))))))))))))))))))))))))))) 34)))) 9)))
            [Ent.mk (Loc.blk b) (SObj.cells [SV.vec 1 aoL (List.length L) capL, SV.vec 2 aoN (List.length nt) capN] (103 : TypeId)),
             Ent.mk (Loc.sl aoL capL) (SObj.vecL (112 : TypeId) 2 encR L (RGrp.mk (ByteArray.mk #[]) (@none Addr) 0 [])),
             Ent.mk (Loc.sl aoN capN) (SObj.vecL (9 : TypeId) 1 encS nt ByteArray.empty), pk 0 rest,
             Ent.mk (Loc.sl g.ao g.3) (SObj.vecL (3 : TypeId) 1 encI1 g.4 (0 : Int))])
   | false =>
    K (frmR [] (bodyOf Try.f62) 12)
     (Sy.mk (SV.ptr 0 b 0 :: (SV.int IntKind.i64 pid :: (rawR u 2 (SV.int IntKind.i64 (↑i : Int) :: (SV.raw (u 12) :: (SV.int IntKind.i64 (↑k : Int) :: (rawR u 14 (SV.int IntKind.i64 (↑k : Int) :: (SV.ptr 0 b 0 :: (SV.ptr 0 b 0 :: (SV.ptr 0 b 0 :: (SV.vec 1 aoL (List.length L) capL :: (SV.int IntKind.i64 (↑i : Int) :: (SV.eptr 1 (Addr.blkD aoL) (Addr.offD aoL) 2 (Int.toNat (↑i : Int)) 0 :: (SV.eptr 1 (Addr.blkD aoL) (Addr.offD aoL) 2 (Int.toNat (↑i : Int)) 1 :: (SV.vec 4 (List.getD L (Int.toNat (↑i : Int)) (RGrp.mk (ByteArray.mk #[]) (@none Addr) 0 [])).ao (List.length (List.getD L (Int.toNat (↑i : Int)) (RGrp.mk (ByteArray.mk #[]) (@none Addr) 0 [])).4) (List.getD L (Int.toNat (↑i : Int)) (RGrp.mk (ByteArray.mk #[]) (@none Addr) 0 [])).3 :: (SV.int IntKind.i64 (↑(List.length (List.getD L (Int.toNat (↑i : Int)) (RGrp.mk (ByteArray.mk #[]) (@none Addr) 0 [])).4) : Int) :: (SV.bool (decide ((↑k : Int) < (↑(List.length (List.getD L (Int.toNat (↑i : Int)) (RGrp.mk (ByteArray.mk #[]) (@none Addr) 0 [])).4) : Int))) :: (SV.bool false :: (rawE (SV.bool false :: (rawR u 74 [] 35)) 13))))))))))))) 34)))) 9)))
      [Ent.mk (Loc.blk b) (SObj.cells [SV.vec 1 aoL (List.length L) capL, SV.vec 2 aoN (List.length nt) capN] (103 : TypeId)),
       Ent.mk (Loc.sl aoL capL) (SObj.vecL (112 : TypeId) 2 encR L (RGrp.mk (ByteArray.mk #[]) (@none Addr) 0 [])),
       Ent.mk (Loc.sl aoN capN) (SObj.vecL (9 : TypeId) 1 encS nt ByteArray.empty), pk 0 rest, Ent.mk (Loc.sl g.ao g.3) (SObj.vecL (3 : TypeId) 1 encI1 g.4 (0 : Int))])) := by kernel_rfl


theorem rPt_12 (K : List Frm → Sy → Prop) (N : List Ent → SV → Prop) (aoL : Option Addr) (capL : Nat) (L : List RGrp) (aoN : Option Addr) (capN : Nat) (nt : List ByteArray) (b : Nat) (rest : List Ent) (pid : Int) (i k : Nat) (g : RGrp) (u : Nat → Value) : (run Try.prog [] true [13] K (retP Try.prog Try.f62.results.toList N) 1500 (frmR [] (bodyOf Try.f62) 12) ⟨mkT u 109 0 [(0, .ptr 0 b 0), (1, .int .i64 pid), (11, .int .i64 (i : Int)), (13, .int .i64 (k : Int))], [⟨.blk b, .cells [.vec 1 aoL (L).length capL, .vec 2 aoN (nt).length capN] 103⟩, ⟨.sl aoL capL, .vecL 112 2 encR (L) zR⟩, ⟨.sl aoN capN, .vecL 9 1 encS (nt) ByteArray.empty⟩, pk 0 rest, ⟨.sl g.ao g.cap, .vecL 3 1 encI1 (g.pids) 0⟩]⟩) = (
b = b ∧
 (aoL = aoL ∧ capL = capL ∧ List.length L = List.length L ∧ (0 : Int) ≤ (↑i : Int) ∧ (↑i : Int) < (↑(List.length L) : Int)) ∧
  (Addr.blkD aoL = Addr.blkD aoL ∧ Addr.offD aoL = Addr.offD aoL ∧ 2 = 2 ∧ Int.toNat (↑i : Int) < List.length L) ∧
   ((0 : Int) ≤ (↑k : Int) ∧ (↑k : Int) ≤ (↑(List.getD L (Int.toNat (↑i : Int)) (RGrp.mk (ByteArray.mk #[]) (@none Addr) 0 [])).3 : Int)) ∧
    (g.ao = (List.getD L (Int.toNat (↑i : Int)) (RGrp.mk (ByteArray.mk #[]) (@none Addr) 0 [])).ao ∧
     g.3 = (List.getD L (Int.toNat (↑i : Int)) (RGrp.mk (ByteArray.mk #[]) (@none Addr) 0 [])).3 ∧
      1 = 1 ∧
       1 = 1 ∧
        0 ≤ Int.toNat (↑k : Int) ∧
         Int.toNat (↑k : Int) ≤ List.length g.4 ∧
          (Int.toNat (↑k : Int) - 0) * 8 ≤ 140737488355328 ∧ Int.toNat (↑k : Int) - 0 ≤ 9223372036854775807) ∧
     ∀ (ao2 : Option Addr) (cap2 : Nat),
      Int.toNat (↑k : Int) - 0 ≤ cap2 →
       K (frmR [] (bodyOf Try.f62) 13)
        (Sy.mk (SV.ptr 0 b 0 :: (SV.int IntKind.i64 pid :: (rawR u 2 (SV.int IntKind.i64 (↑i : Int) :: (SV.raw (u 12) :: (SV.int IntKind.i64 (↑k : Int) :: (SV.vec 5 ao2 (Int.toNat (↑k : Int) - 0) cap2 :: (rawR u 15 (SV.ptr 0 b 0 :: (SV.ptr 0 b 0 :: (SV.ptr 0 b 0 :: (SV.vec 1 aoL (List.length L) capL :: (SV.int IntKind.i64 (↑i : Int) :: (SV.eptr 1 (Addr.blkD aoL) (Addr.offD aoL) 2 (Int.toNat (↑i : Int)) 0 :: (SV.eptr 1 (Addr.blkD aoL) (Addr.offD aoL) 2 (Int.toNat (↑i : Int)) 1 :: (SV.vec 4 (List.getD L (Int.toNat (↑i : Int)) (RGrp.mk (ByteArray.mk #[]) (@none Addr) 0 [])).ao (List.length (List.getD L (Int.toNat (↑i : Int)) (RGrp.mk (ByteArray.mk #[]) (@none Addr) 0 [])).4) (List.getD L (Int.toNat (↑i : Int)) (RGrp.mk (ByteArray.mk #[]) (@none Addr) 0 [])).3 :: (SV.int IntKind.i64 (↑k : Int) :: (SV.sub 4 (List.getD L (Int.toNat (↑i : Int)) (RGrp.mk (ByteArray.mk #[]) (@none Addr) 0 [])).ao (List.getD L (Int.toNat (↑i : Int)) (RGrp.mk (ByteArray.mk #[]) (@none Addr) 0 [])).3 1 0 (Int.toNat (↑k : Int)) :: (SV.vec 5 ao2 (Int.toNat (↑k : Int) - 0) cap2 :: (rawR u 87 [] 22)))))))))))) 61))))) 9)))
         [Ent.mk (Loc.blk b) (SObj.cells [SV.vec 1 aoL (List.length L) capL, SV.vec 2 aoN (List.length nt) capN] (103 : TypeId)),
          Ent.mk (Loc.sl aoL capL) (SObj.vecL (112 : TypeId) 2 encR L (RGrp.mk (ByteArray.mk #[]) (@none Addr) 0 [])),
          Ent.mk (Loc.sl aoN capN) (SObj.vecL (9 : TypeId) 1 encS nt ByteArray.empty), pk 0 rest,
          Ent.mk (Loc.sl g.ao g.3) (SObj.vecL (3 : TypeId) 1 encI1 g.4 (0 : Int)),
          Ent.mk (Loc.sl ao2 cap2) (SObj.vecL 3 1 encI1 (List.take (Int.toNat (↑k : Int) - 0) (List.drop 0 g.4)) (0 : Int))])) := by kernel_rfl


theorem rPt_13 (K : List Frm → Sy → Prop) (N : List Ent → SV → Prop) (aoL : Option Addr) (capL : Nat) (L : List RGrp) (aoN : Option Addr) (capN : Nat) (nt : List ByteArray) (b : Nat) (rest : List Ent) (pid : Int) (i k : Nat) (g : RGrp) (ag : Option Addr) (cg : Nat) (got : List Int) (u : Nat → Value) : (run Try.prog [] true [200005] K (retP Try.prog Try.f62.results.toList N) 1500 (frmR [] (bodyOf Try.f62) 13) ⟨mkT u 109 0 [(0, .ptr 0 b 0), (1, .int .i64 pid), (11, .int .i64 (i : Int)), (13, .int .i64 (k : Int)), (14, .vec 5 ag got.length cg)], [⟨.blk b, .cells [.vec 1 aoL (L).length capL, .vec 2 aoN (nt).length capN] 103⟩, ⟨.sl aoL capL, .vecL 112 2 encR (L) zR⟩, ⟨.sl aoN capN, .vecL 9 1 encS (nt) ByteArray.empty⟩, pk 0 rest, ⟨.sl g.ao g.cap, .vecL 3 1 encI1 (g.pids) 0⟩, ⟨.sl ag cg, .vecL 3 1 encI1 (got) 0⟩]⟩) = (
b = b ∧
 b = b ∧
  (aoL = aoL ∧ capL = capL ∧ List.length L = List.length L ∧ (0 : Int) ≤ (↑i : Int) ∧ (↑i : Int) < (↑(List.length L) : Int)) ∧
   (Addr.blkD aoL = Addr.blkD aoL ∧ Addr.offD aoL = Addr.offD aoL ∧ 2 = 2 ∧ Int.toNat (↑i : Int) < List.length L) ∧
    ((0 : Int) ≤ (↑k : Int) ∧
     (↑k : Int) ≤ (↑(List.length (List.getD L (Int.toNat (↑i : Int)) (RGrp.mk (ByteArray.mk #[]) (@none Addr) 0 [])).4) : Int) ∧
      List.length (List.getD L (Int.toNat (↑i : Int)) (RGrp.mk (ByteArray.mk #[]) (@none Addr) 0 [])).4 ≤
       (List.getD L (Int.toNat (↑i : Int)) (RGrp.mk (ByteArray.mk #[]) (@none Addr) 0 [])).3) ∧
     (true = true ∧ 1 = 1 ∧ 0 < 1 ∧ 1 ≤ 16777216) ∧
      ∀ (b_1 : Nat),
       (Ent.mk (Loc.blk b) (SObj.cells [SV.vec 1 aoL (List.length L) capL, SV.vec 2 aoN (List.length nt) capN] (103 : TypeId)) =
        Ent.mk (Loc.blk b) (SObj.cells [SV.vec 1 aoL (List.length L) capL, SV.vec 2 aoN (List.length nt) capN] (103 : TypeId)) ∧
        Ent.mk (Loc.sl aoL capL) (SObj.vecL (112 : TypeId) 2 encR L (RGrp.mk (ByteArray.mk #[]) (@none Addr) 0 [])) =
         Ent.mk (Loc.sl aoL capL) (SObj.vecL (112 : TypeId) 2 encR L (RGrp.mk (ByteArray.mk #[]) (@none Addr) 0 [])) ∧
         Ent.mk (Loc.sl aoN capN) (SObj.vecL (9 : TypeId) 1 encS nt ByteArray.empty) = Ent.mk (Loc.sl aoN capN) (SObj.vecL (9 : TypeId) 1 encS nt ByteArray.empty) ∧
          pk 0 rest = pk 0 rest ∧
           Ent.mk (Loc.sl g.ao g.3) (SObj.vecL (3 : TypeId) 1 encI1 g.4 (0 : Int)) = Ent.mk (Loc.sl g.ao g.3) (SObj.vecL (3 : TypeId) 1 encI1 g.4 (0 : Int)) ∧ True) ∧
        (ag = ag ∧
         cg = cg ∧
          List.length got = List.length got ∧
           some (Addr.mk b_1 0 (@none Nat)) = some (Addr.mk b_1 0 (@none Nat)) ∧
            (3 : TypeId) = 3 ∧
             1 = 1 ∧
              1 = 1 ∧
               0 < 1 ∧ true = true ∧ (List.length got + 1) * 8 ≤ 140737488355328 ∧ List.length got + 1 ≤ 9223372036854775807) ∧
         ∃ (es : List Int),
          List.length es = 1 ∧
           denL (List.flatMap encI1 es) = denL [SV.int IntKind.i64 pid] ∧
            ∀ (ao2 : Option Addr) (cap2 : Nat),
             List.length got + 1 ≤ cap2 →
              (Ent.mk (Loc.blk b) (SObj.cells [SV.vec 1 aoL (List.length L) capL, SV.vec 2 aoN (List.length nt) capN] (103 : TypeId)) =
               Ent.mk (Loc.blk b) (SObj.cells [SV.vec 1 aoL (List.length L) capL, SV.vec 2 aoN (List.length nt) capN] (103 : TypeId)) ∧
               Ent.mk (Loc.sl aoL capL) (SObj.vecL (112 : TypeId) 2 encR L (RGrp.mk (ByteArray.mk #[]) (@none Addr) 0 [])) =
                Ent.mk (Loc.sl aoL capL) (SObj.vecL (112 : TypeId) 2 encR L (RGrp.mk (ByteArray.mk #[]) (@none Addr) 0 [])) ∧
                Ent.mk (Loc.sl aoN capN) (SObj.vecL (9 : TypeId) 1 encS nt ByteArray.empty) =
                 Ent.mk (Loc.sl aoN capN) (SObj.vecL (9 : TypeId) 1 encS nt ByteArray.empty) ∧
                 pk 0 rest = pk 0 rest ∧
                  Ent.mk (Loc.sl g.ao g.3) (SObj.vecL (3 : TypeId) 1 encI1 g.4 (0 : Int)) =
                   Ent.mk (Loc.sl g.ao g.3) (SObj.vecL (3 : TypeId) 1 encI1 g.4 (0 : Int)) ∧
                   True) ∧
               (ao2 = ao2 ∧
                cap2 = cap2 ∧
                 List.length got + 1 = List.length (got ++ es) ∧
                  (3 : TypeId) = 3 ∧
                   1 = 1 ∧
                    g.ao = (List.getD L (Int.toNat (↑i : Int)) (RGrp.mk (ByteArray.mk #[]) (@none Addr) 0 [])).ao ∧
                     g.3 = (List.getD L (Int.toNat (↑i : Int)) (RGrp.mk (ByteArray.mk #[]) (@none Addr) 0 [])).3 ∧
                      1 = 1 ∧
                       1 = 1 ∧
                        Int.toNat (↑k : Int) ≤ List.length (List.getD L (Int.toNat (↑i : Int)) (RGrp.mk (ByteArray.mk #[]) (@none Addr) 0 [])).4 ∧
                         List.length (List.getD L (Int.toNat (↑i : Int)) (RGrp.mk (ByteArray.mk #[]) (@none Addr) 0 [])).4 ≤ List.length g.4 ∧
                          (∀ (y : Int), true = true) ∧
                           (List.length got + 1 +
                            (List.length (List.getD L (Int.toNat (↑i : Int)) (RGrp.mk (ByteArray.mk #[]) (@none Addr) 0 [])).4 - Int.toNat (↑k : Int))) *
                            8 ≤
                            140737488355328 ∧
                            List.length got + 1 +
                             (List.length (List.getD L (Int.toNat (↑i : Int)) (RGrp.mk (ByteArray.mk #[]) (@none Addr) 0 [])).4 - Int.toNat (↑k : Int)) ≤
                             9223372036854775807) ∧
                ∃ (es_1 : List Int),
                 List.length es_1 = List.length (List.getD L (Int.toNat (↑i : Int)) (RGrp.mk (ByteArray.mk #[]) (@none Addr) 0 [])).4 - Int.toNat (↑k : Int) ∧
                  denL (List.flatMap encI1 es_1) =
                   denL
                    (List.flatMap encI1
                     (List.take (List.length (List.getD L (Int.toNat (↑i : Int)) (RGrp.mk (ByteArray.mk #[]) (@none Addr) 0 [])).4 - Int.toNat (↑k : Int))
                      (List.drop (Int.toNat (↑k : Int)) g.4))) ∧
                   ∀ (ao2 : Option Addr) (cap2 : Nat),
                    List.length got + 1 +
                     (List.length (List.getD L (Int.toNat (↑i : Int)) (RGrp.mk (ByteArray.mk #[]) (@none Addr) 0 [])).4 - Int.toNat (↑k : Int)) ≤
                     cap2 →
                     (Ent.mk (Loc.blk b) (SObj.cells [SV.vec 1 aoL (List.length L) capL, SV.vec 2 aoN (List.length nt) capN] (103 : TypeId)) =
                      Ent.mk (Loc.blk b) (SObj.cells [SV.vec 1 aoL (List.length L) capL, SV.vec 2 aoN (List.length nt) capN] (103 : TypeId)) ∧
                      Ent.mk (Loc.sl aoL capL) (SObj.vecL (112 : TypeId) 2 encR L (RGrp.mk (ByteArray.mk #[]) (@none Addr) 0 [])) =
                       Ent.mk (Loc.sl aoL capL) (SObj.vecL (112 : TypeId) 2 encR L (RGrp.mk (ByteArray.mk #[]) (@none Addr) 0 [])) ∧
                       Ent.mk (Loc.sl aoN capN) (SObj.vecL (9 : TypeId) 1 encS nt ByteArray.empty) =
                        Ent.mk (Loc.sl aoN capN) (SObj.vecL (9 : TypeId) 1 encS nt ByteArray.empty) ∧
                        pk 0 rest = pk 0 rest ∧
                         Ent.mk (Loc.sl g.ao g.3) (SObj.vecL (3 : TypeId) 1 encI1 g.4 (0 : Int)) =
                          Ent.mk (Loc.sl g.ao g.3) (SObj.vecL (3 : TypeId) 1 encI1 g.4 (0 : Int)) ∧
                          True) ∧
                      (aoL = aoL ∧ capL = capL ∧ List.length L = List.length L ∧ (0 : Int) ≤ (↑i : Int) ∧ (↑i : Int) < (↑(List.length L) : Int)) ∧
                       (Addr.blkD aoL = Addr.blkD aoL ∧
                        Addr.offD aoL = Addr.offD aoL ∧
                         2 = 2 ∧ Int.toNat (↑i : Int) < List.length L ∧ true = true ∧ 1 = 1 ∧ 2 ≤ 2) ∧
                        ∃ (e : RGrp),
                         denL [SV.str e.1, SV.vec 4 e.ao (List.length e.4) e.3] =
                          denL
                           [SV.str (List.getD L (Int.toNat (↑i : Int)) (RGrp.mk (ByteArray.mk #[]) (@none Addr) 0 [])).1,
                            SV.vec 5 ao2
                             (List.length got + 1 +
                              (List.length (List.getD L (Int.toNat (↑i : Int)) (RGrp.mk (ByteArray.mk #[]) (@none Addr) 0 [])).4 - Int.toNat (↑k : Int)))
                             cap2] ∧
                          N
                           [Ent.mk (Loc.blk b) (SObj.cells [SV.vec 1 aoL (List.length L) capL, SV.vec 2 aoN (List.length nt) capN] (103 : TypeId)),
                            Ent.mk (Loc.sl aoL capL)
                             (SObj.vecL (112 : TypeId) 2 encR (List.set L (Int.toNat (↑i : Int)) e) (RGrp.mk (ByteArray.mk #[]) (@none Addr) 0 [])),
                            Ent.mk (Loc.sl aoN capN) (SObj.vecL (9 : TypeId) 1 encS nt ByteArray.empty), pk 0 rest,
                            Ent.mk (Loc.sl g.ao g.3) (SObj.vecL (3 : TypeId) 1 encI1 g.4 (0 : Int)),
                            Ent.mk (Loc.sl ao2 cap2) (SObj.vecL (3 : TypeId) 1 encI1 (got ++ es ++ es_1) (0 : Int)),
                            Ent.mk (Loc.blk b_1) (SObj.cells [SV.int IntKind.i64 pid] 3)]
                           (SV.int IntKind.i64 (0 : Int))) := by kernel_rfl
end Go.Proofs.Ytihajdkipkfiiaa

