import Derived.Test.YtihajdkipkfiiaaMgGroupPlays11
import Derived.Test.YtihajdkipkfiiaaMgGroupPlays6
import Derived.Shelf.SlIterI.Nil
import Derived.Shelf.SlIter.Nil
import Derived.Shelf.SortM.Plain
import Derived.Shelf.SortM.SortNone
import Derived.Ground.GgzProg
import Derived.Ground.SlgmProg
import Derived.Shelf.SlGeneric
import Derived.Test.YtihajdkipkfiiaaProg
import Derived.Test.YtihajdkipkfiiaaMgGroupPlays7
import Derived.Test.YtihajdkipkfiiaaMgGroupPlays9
/- YtihajdkipkfiiaaRg3 -/
/- The document's groups: Gone, Put. -/
namespace Go.Proofs.Ytihajdkipkfiiaa
open Go Go.RowKit
set_option linter.unusedVariables false
set_option linter.unusedSimpArgs false
set_option linter.unnecessarySimpa false
set_option maxHeartbeats 0

theorem rAt_names {L L' : List RGrp} (h : L.map (·.name) = L'.map (·.name)) (n : ByteArray) : rAt L n = rAt L' n ∧ rHas L n = rHas L' n := by
  have e1 : ∀ L : List RGrp, rAt L n = ((L.map (·.name)).takeWhile fun x => sLt x n).length := fun L => by
    unfold rAt
    rw [List.takeWhile_map, List.length_map]
    rfl
  have hl : L.length = L'.length := by simpa using congrArg List.length h
  have e2 : rAt L n = rAt L' n := by rw [e1, e1, h]
  have e3 : ∀ (L : List RGrp) (k : Nat), (L.getD k zR).name = (L.map (·.name)).getD k zR.name := fun L k => by
    simp only [List.getD, List.getElem?_map]
    cases L[k]? <;> rfl
  refine ⟨e2, ?_⟩
  unfold rHas
  rw [e2, hl, e3, e3, h]
theorem rSet_names {L : List RGrp} {i : Nat} (l : List Int) (ao : Option Addr) (cap : Nat) : (rSet L i l ao cap).map (·.name) = L.map (·.name) := by
  unfold rSet
  rw [List.map_set]
  refine List.ext_getElem? fun k => ?_
  rw [List.getElem?_set]
  split
  · rename_i e
    subst e
    split
    · rename_i hl
      simp only [List.length_map] at hl
      simp [List.getD, hl]
    · rename_i hl
      simp only [List.length_map, Nat.not_lt] at hl
      simp [hl]
  · rfl
theorem rGone_names (r : RG) (pid : Int) (ao : Option Addr) (cap : Nat) (aoN : Option Addr) (capN : Nat) : (rGone r pid ao cap aoN capN).1.L.map (·.name) = r.L.map (·.name) := by
  unfold rGone
  split
  · rfl
  · split <;> exact rSet_names _ _ _
theorem rGone_ok {r : RG} (h : rOk r) (hn : r.notes.length ≤ 10000) (pid : Int) (ao : Option Addr) (cap : Nat) (aoN : Option Addr) (capN : Nat) : rOk (rGone r pid ao cap aoN capN).1 := by
  have hs : ∀ (i : Nat) (l : List Int), l.length ≤ 1000 → ∀ g ∈ rSet r.L i l ao cap, g.pids.length ≤ 1000 := fun i l hl g hg => by
    unfold rSet at hg
    rcases List.mem_or_eq_of_mem_set hg with hg | rfl
    · exact h.2.2 g hg
    · exact hl
  have hgl : ∀ k, (r.L.getD k zR).pids.length ≤ 1000 := fun k => by
    by_cases hk : k < r.L.length
    · have e : r.L.getD k zR = r.L[k] := by simp [List.getD, hk]
      rw [e]; exact h.2.2 _ (List.getElem_mem hk)
    · have e : r.L.getD k zR = zR := by simp only [Nat.not_lt] at hk; simp [List.getD, hk]
      rw [e]; exact Nat.zero_le _
  unfold rGone
  split
  · exact h
  · rename_i n hn2
    have hf := Nat.le_trans (List.length_filter_le (fun p => p != pid) (r.L.getD (rAt r.L n) zR).pids) (hgl _)
    split
    · exact ⟨by dsimp only; unfold rSet; rw [List.length_set]; exact h.1, by simp; omega, hs _ _ hf⟩
    · exact ⟨by dsimp only; unfold rSet; rw [List.length_set]; exact h.1, h.2.1, hs _ _ hf⟩
theorem rGn_ok : CtrOk Try.prog 63 (adtC rgE rgoneM) := adt_ok fun b r rest N h => by
  unfold rgoneM at h
  split at h
  case h_2 => exact h.elim
  rename_i pid
  obtain ⟨ho, h⟩ := h
  obtain ⟨ho, hat⟩ := ho
  refine Spec.pre (hs' := [pkA b rgE r]) (args' := [.ptr 0 b 0, .int .i64 pid]) (fun W F w hr => Rep.pkA1 hr) rfl ?_
  refine Spec.of_G 111 Try.func63 (c := bodyOf Try.f63) (by kernel_rfl) (by kernel_rfl) (Nat.le_of_ble_eq_true rfl) fun W F => ?_
  refine G_run (kc := false) (ss := []) (Cs := [(89, adtC rgE ratM), (66, adtC rgE rofM)]) ⟨rAt_ok, rOf_ok, trivial⟩ hmR 600 ?_
  rw [rGn_start]
  refine ⟨rfl, rfl, rfl, HEq.rfl, ho, ?_⟩
  unfold rGone at h
  cases hof : rOf r.L pid with
  | none =>
    rw [hof] at h
    exact ⟨r, fun W F w hr => hr.unpkA1, h none 0 none 0⟩
  | some n =>
    rw [hof] at h
    have hh := hat n hof
    have hi : rAt r.L n < r.L.length := by
      unfold rHas at hh
      simp only [Bool.and_eq_true, decide_eq_true_eq] at hh
      exact hh.1
    refine ⟨rfl, rfl, rfl, HEq.rfl, ho, ?_⟩
    dsimp only at h ⊢
    generalize rAt r.L n = i at hi h ⊢
    have hg : ∀ d, r.L.getD i d = r.L[i] := fun d => getD_ltR _ _ _ hi
    rw [hg] at h
    have hL := ho.1
    have hpl := ho.2.2 _ (List.getElem_mem hi)
    refine G_loopAt (ι := Nat × Option Addr × Nat × List Int) [] (bodyOf Try.f63) [1, 1, 1, 1, 1, 0, 1, 0] 111 (fun x : Nat × Option Addr × Nat × List Int => [(0, .ptr 0 b 0), (1, .int .i64 pid), (5, .str n), (7, .int .i64 (i : Int)), (9, .vec 5 x.2.1 (x.2.2.2).length x.2.2.1), (10, .int .i64 (x.1 : Int))]) (fun x : Nat × Option Addr × Nat × List Int => [⟨.blk b, .cells [.vec 1 r.aoL (r.L).length r.capL, .vec 2 r.aoN (r.notes).length r.capN] 103⟩, ⟨.sl r.aoL r.capL, .vecL 112 2 encR (r.L) zR⟩, ⟨.sl r.aoN r.capN, .vecL 9 1 encS (r.notes) ByteArray.empty⟩, pk 0 ((r.L.take i).map pidE ++ (r.L.drop (i + 1)).map pidE), pidE r.L[i], ⟨.sl x.2.1 x.2.2.1, .vecL 3 1 encI1 (x.2.2.2) 0⟩]) (fun x : Nat × Option Addr × Nat × List Int => x.1 ≤ r.L[i].pids.length ∧ x.2.2.2 = (r.L[i].pids.take x.1).filter fun q => q != pid) (fun x : Nat × Option Addr × Nat × List Int => r.L[i].pids.length - x.1) (0, none, 0, []) (by kernel_rfl) (fun J => by kernel_rfl) ⟨Nat.zero_le _, rfl⟩ rfl ⟨rfl, rfl, rfl, rfl, rfl, rfl, trivial⟩ (fun w hr => Rep.nilvec 3 (sz := 1) (enc := encI1) 0 (fun _ => rfl) (rg_open hi hr.unpkA1)) ?_
    rintro ⟨k, ag, cg, got⟩ ⟨hk, hv⟩ u
    dsimp only at hk hv
    try dsimp only
    simp only [List.nil_append, List.cons_append]
    refine G_run (kc := false) (ss := [11]) (Cs := []) trivial hmR 900 ?_
    unfold pidE
    rw [rGn_1]
    have w1 : IntKind.wrap .i64 ((k : Int) + 1) = ((k + 1 : Nat) : Int) := IntWalk.i64_in _ (by omega)
    have hgl : got.length ≤ 1000 := by
      rw [hv]
      have h1 := List.length_filter_le (fun q => q != pid) (r.L[i].pids.take k)
      simp at h1
      omega
    rw [Int.toNat_natCast i, hg]
    refine ⟨rfl, ⟨rfl, rfl, rfl, by omega, by omega⟩, ⟨rfl, rfl, rfl, hi⟩, ?_⟩
    cases hlt : decide ((k : Int) < (r.L[i].pids.length : Int)) with
    | true =>
      simp only [decide_eq_true_eq] at hlt
      have hk2 : k < r.L[i].pids.length := by omega
      have hgk : r.L[i].pids.getD k 0 = r.L[i].pids[k] := getD_ltR _ _ _ hk2
      rw [Int.toNat_natCast k, hgk]
      refine ⟨rfl, ⟨rfl, rfl, rfl, by omega, by omega⟩, ⟨rfl, rfl, rfl, hi⟩, ⟨rfl, rfl, rfl, by omega, by omega⟩, ⟨rfl, rfl, rfl, hk2⟩, ?_⟩
      have hnx : (r.L[i].pids.take (k + 1)).filter (fun q => q != pid) = got ++ if r.L[i].pids[k] != pid then [r.L[i].pids[k]] else [] := by
        rw [List.take_succ_eq_append_getElem hk2, List.filter_append, ← hv]
        congr 1
        cases hq : r.L[i].pids[k] != pid <;> simp [List.filter_cons, hq]
      have back : ∀ (tm : List SV) (a : Option Addr) (c : Nat) (l : List Int) (x : List Ent), l = (r.L[i].pids.take (k + 1)).filter (fun q => q != pid) → lenN tm = 111 → liveOk tm [(0, .ptr 0 b 0), (1, .int .i64 pid), (5, .str n), (7, .int .i64 (i : Int)), (9, .vec 5 a (l).length c), (10, .int .i64 ((k + 1 : Nat) : Int))] → G Try.prog (endQ Try.prog Try.f63 W F (fun h' res => ∃ r', (∀ W F w, Rep W F h' w → Rep W F (rgE r' b) w) ∧ N r' res)) W F (.loop (Back W F 111 (fun x : Nat × Option Addr × Nat × List Int => [(0, .ptr 0 b 0), (1, .int .i64 pid), (5, .str n), (7, .int .i64 (i : Int)), (9, .vec 5 x.2.1 (x.2.2.2).length x.2.2.1), (10, .int .i64 (x.1 : Int))]) (fun x : Nat × Option Addr × Nat × List Int => [⟨.blk b, .cells [.vec 1 r.aoL (r.L).length r.capL, .vec 2 r.aoN (r.notes).length r.capN] 103⟩, ⟨.sl r.aoL r.capL, .vecL 112 2 encR (r.L) zR⟩, ⟨.sl r.aoN r.capN, .vecL 9 1 encS (r.notes) ByteArray.empty⟩, pk 0 ((r.L.take i).map pidE ++ (r.L.drop (i + 1)).map pidE), pidE r.L[i], ⟨.sl x.2.1 x.2.2.1, .vecL 3 1 encI1 (x.2.2.2) 0⟩]) (fun x : Nat × Option Addr × Nat × List Int => x.1 ≤ r.L[i].pids.length ∧ x.2.2.2 = (r.L[i].pids.take x.1).filter fun q => q != pid) (fun x : Nat × Option Addr × Nat × List Int => r.L[i].pids.length - x.1) (r.L[i].pids.length - k)) :: .blk 0 :: frm [] (bodyOf Try.f63) [1, 1, 1, 1, 1, 1] []) ⟨tm, [⟨.blk b, .cells [.vec 1 r.aoL (r.L).length r.capL, .vec 2 r.aoN (r.notes).length r.capN] 103⟩, ⟨.sl r.aoL r.capL, .vecL 112 2 encR (r.L) zR⟩, ⟨.sl r.aoN r.capN, .vecL 9 1 encS (r.notes) ByteArray.empty⟩, pk 0 ((r.L.take i).map pidE ++ (r.L.drop (i + 1)).map pidE), ⟨.sl r.L[i].ao r.L[i].cap, .vecL 3 1 encI1 r.L[i].pids 0⟩, ⟨.sl a c, .vecL 3 1 encI1 (l) 0⟩] ++ x⟩ := fun tm a c l x hl g1 g2 =>
        G_back (k + 1, a, c, l) ⟨hk2, hl⟩ (by dsimp only; omega) g1 g2 (fun w hw => Rep.dropR hw)
      cases hc : r.L[i].pids[k] != pid with
      | true =>
        have hl : got ++ [r.L[i].pids[k]] = (r.L[i].pids.take (k + 1)).filter (fun q => q != pid) := by rw [hnx, hc]; rfl
        repeat' first
          | exact rfl
          | exact hi
          | exact hk2
          | (refine ⟨[r.L[i].pids[k]], rfl, rfl, fun ao2 cap2 _ => ?_⟩)
          | exact back _ _ _ _ [_] hl rfl ⟨rfl, rfl, rfl, rfl, by rw [List.length_append]; rfl, congrArg (Value.int .i64) w1, trivial⟩
          | apply And.intro
          | (refine fun b1 => ?_)
          | (show _ ≤ _; omega)
          | (show _ < _; omega)
          | fail
      | false =>
        have hl : got = (r.L[i].pids.take (k + 1)).filter (fun q => q != pid) := by rw [hnx, hc]; simp
        exact back _ _ _ _ [] hl rfl ⟨rfl, rfl, rfl, rfl, rfl, congrArg (Value.int .i64) w1, trivial⟩
    | false =>
      simp only [decide_eq_false_iff_not] at hlt
      rw [List.take_of_length_le (by omega)] at hv
      rw [← hv] at h
      refine G_live 111 [(0, .ptr 0 b 0), (1, .int .i64 pid), (5, .str n), (7, .int .i64 (i : Int)), (9, .vec 5 ag got.length cg)] [⟨.blk b, .cells [.vec 1 r.aoL (r.L).length r.capL, .vec 2 r.aoN (r.notes).length r.capN] 103⟩, ⟨.sl r.aoL r.capL, .vecL 112 2 encR (r.L) zR⟩, ⟨.sl r.aoN r.capN, .vecL 9 1 encS (r.notes) ByteArray.empty⟩, pk 0 ((r.L.take i).map pidE ++ (r.L.drop (i + 1)).map pidE), ⟨.sl r.L[i].ao r.L[i].cap, .vecL 3 1 encI1 r.L[i].pids 0⟩, ⟨.sl ag cg, .vecL 3 1 encI1 (got) 0⟩] rfl ⟨rfl, rfl, rfl, rfl, rfl, trivial⟩ (fun w hr => hr) fun u => ?_
      refine G_run (kc := false) (ss := []) (Cs := []) trivial hmR 900 ?_
      rw [rGn_11 (k := 0), Int.toNat_natCast i, hg]
      refine ⟨rfl, ⟨rfl, rfl, rfl, by omega, by omega⟩, ⟨rfl, rfl, rfl, hi, rfl, rfl, Nat.le_refl _⟩, ⟨r.L[i].name, ag, cg, got⟩, rfl, ?_⟩
      have close : ∀ W F w, Rep W F [⟨.blk b, .cells [.vec 1 r.aoL (r.L).length r.capL, .vec 2 r.aoN (r.notes).length r.capN] 103⟩, ⟨.sl r.aoL r.capL, .vecL 112 2 encR (r.L.set i ⟨r.L[i].name, ag, cg, got⟩) zR⟩, ⟨.sl r.aoN r.capN, .vecL 9 1 encS (r.notes) ByteArray.empty⟩, pk 0 ((r.L.take i).map pidE ++ (r.L.drop (i + 1)).map pidE), ⟨.sl r.L[i].ao r.L[i].cap, .vecL 3 1 encI1 r.L[i].pids 0⟩, ⟨.sl ag cg, .vecL 3 1 encI1 (got) 0⟩] w → Rep W F (rgE { r with L := r.L.set i ⟨r.L[i].name, ag, cg, got⟩ } b) w := fun W F w hr => by
        have g1 := Rep.pick (π := [0, 1, 2, 3, 5]) (by decide) rfl hr
        have g2 := rg_close (g := ⟨r.L[i].name, ag, cg, got⟩) hi g1
        exact Rep.cellsEq (l := 0) (cs' := [.vec 1 r.aoL (r.L.set i ⟨r.L[i].name, ag, cg, got⟩).length r.capL, .vec 2 r.aoN r.notes.length r.capN]) rfl (by rw [List.length_set]) g2
      have hrs : rSet r.L i got ag cg = r.L.set i ⟨r.L[i].name, ag, cg, got⟩ := by unfold rSet; rw [hg]
      have hc0 : (((got.length : Nat) : Int) == 0) = (got.length == 0) := by rw [Bool.eq_iff_iff]; simp
      rw [hc0]
      cases hz : got.length == 0 with
      | false =>
        have hf := h ag cg none 0
        simp only [hz, Bool.false_and, hrs] at hf
        exact ⟨_, close, hf⟩
      | true =>
        simp only [hz, Bool.true_and] at h
        refine G_loopAt (ι := Nat × Bool) [] (bodyOf Try.f63) [1, 1, 1, 1, 1, 1, 1, 0, 1, 0, 1, 0, 1, 0] 111 (fun x : Nat × Bool => [(0, .ptr 0 b 0), (5, .str n), (11, .bool x.2), (12, .int .i64 (x.1 : Int))]) (fun _ => [⟨.blk b, .cells [.vec 1 r.aoL ((r.L.set i ⟨r.L[i].name, ag, cg, got⟩)).length r.capL, .vec 2 r.aoN (r.notes).length r.capN] 103⟩, ⟨.sl r.aoL r.capL, .vecL 112 2 encR ((r.L.set i ⟨r.L[i].name, ag, cg, got⟩)) zR⟩, ⟨.sl r.aoN r.capN, .vecL 9 1 encS (r.notes) ByteArray.empty⟩, pk 0 ((r.L.set i ⟨r.L[i].name, ag, cg, got⟩).map pidE)]) (fun x : Nat × Bool => x.1 ≤ r.notes.length ∧ x.2 = (r.notes.take x.1).any fun y => sEq y n) (fun x : Nat × Bool => r.notes.length - x.1) (0, false) (by kernel_rfl) (fun J => by kernel_rfl) ⟨Nat.zero_le _, rfl⟩ rfl ⟨rfl, rfl, rfl, rfl, trivial⟩ (fun w hr => close _ _ _ hr) ?_
        rintro ⟨k, st⟩ ⟨hk, hst⟩ u
        dsimp only at hk hst
        try dsimp only
        simp only [List.nil_append, List.cons_append]
        refine G_run (kc := false) (ss := []) (Cs := []) trivial hmR 900 ?_
        rw [rGn_2]
        have hN := ho.2.1
        have w1 : IntKind.wrap .i64 ((k : Int) + 1) = ((k + 1 : Nat) : Int) := IntWalk.i64_in _ (by omega)
        refine ⟨rfl, ?_⟩
        cases hlt2 : decide ((k : Int) < (r.notes.length : Int)) with
        | true =>
          simp only [decide_eq_true_eq] at hlt2
          have hk2 : k < r.notes.length := by omega
          have hgk : r.notes.getD k ByteArray.empty = r.notes[k] := getD_ltR _ _ _ hk2
          rw [Int.toNat_natCast k, hgk]
          have hnx : (r.notes.take (k + 1)).any (fun y => sEq y n) = (st || sEq r.notes[k] n) := by
            rw [List.take_succ_eq_append_getElem hk2, List.any_append, ← hst]
            simp
          cases st with
          | true =>
            refine G_back (k + 1, true) ⟨hk2, ?_⟩ (by dsimp only; omega) rfl ⟨rfl, rfl, rfl, congrArg (Value.int .i64) w1, trivial⟩ (fun w hw => hw)
            dsimp only; rw [hnx]; rfl
          | false =>
            refine ⟨rfl, ⟨rfl, rfl, rfl, by omega, by omega⟩, ⟨rfl, rfl, rfl, hk2⟩, ?_⟩
            refine G_back (k + 1, sEq r.notes[k] n) ⟨hk2, ?_⟩ (by dsimp only; omega) rfl ⟨rfl, rfl, rfl, congrArg (Value.int .i64) w1, trivial⟩ (fun w hw => hw)
            dsimp only; rw [hnx]; rfl
        | false =>
          simp only [decide_eq_false_iff_not] at hlt2
          rw [List.take_of_length_le (by omega)] at hst
          rw [← hst] at h
          have h := fun aoN capN => h ag cg aoN capN
          simp only [hrs] at h
          cases st with
          | true =>
            exact ⟨{ r with L := r.L.set i ⟨r.L[i].name, ag, cg, got⟩ }, fun W F w hr => hr, h none 0⟩
          | false =>
            have fin : ∀ (ao2 : Option Addr) (cap2 : Nat) (e5 : Ent), (fun h' res => ∃ r', (∀ W F w, Rep W F h' w → Rep W F (rgE r' b) w) ∧ N r' res) [⟨.blk b, .cells [.vec 1 r.aoL (r.L.set i ⟨r.L[i].name, ag, cg, got⟩).length r.capL, .vec 2 ao2 (r.notes.length + 1) cap2] 103⟩, ⟨.sl r.aoL r.capL, .vecL 112 2 encR (r.L.set i ⟨r.L[i].name, ag, cg, got⟩) zR⟩, ⟨.sl ao2 cap2, .vecL 9 1 encS (r.notes ++ [n]) ByteArray.empty⟩, pk 0 ((r.L.set i ⟨r.L[i].name, ag, cg, got⟩).map pidE), e5] (.bool true) := fun ao2 cap2 e5 => by
              refine ⟨_, fun W F w hr => ?_, h ao2 cap2⟩
              have g1 := Rep.dropR (h := [⟨.blk b, .cells [.vec 1 r.aoL (r.L.set i ⟨r.L[i].name, ag, cg, got⟩).length r.capL, .vec 2 ao2 (r.notes.length + 1) cap2] 103⟩, ⟨.sl r.aoL r.capL, .vecL 112 2 encR (r.L.set i ⟨r.L[i].name, ag, cg, got⟩) zR⟩, ⟨.sl ao2 cap2, .vecL 9 1 encS (r.notes ++ [n]) ByteArray.empty⟩, pk 0 ((r.L.set i ⟨r.L[i].name, ag, cg, got⟩).map pidE)]) (t := [e5]) hr
              exact Rep.cellsEq (l := 0) (cs' := [.vec 1 r.aoL (r.L.set i ⟨r.L[i].name, ag, cg, got⟩).length r.capL, .vec 2 ao2 (r.notes ++ [n]).length cap2]) rfl (by rw [List.length_append]; rfl) g1
            repeat' first
              | exact rfl
              | exact fin _ _ _
              | (refine ⟨[n], rfl, rfl, fun ao2 cap2 _ => ?_⟩)
              | apply And.intro
              | (refine fun b1 => ?_)
              | (show _ ≤ _; omega)
              | (show _ < _; omega)
              | fail
section
variable {q : RG} {b i : Nat} {pid : Int} {name : ByteArray} {W : World} {F : List Ch} {N : RG → SV → Prop}
theorem rPt_fin (ho : rOk q) (hi : i < q.L.length) {k : Nat} (hk : k ≤ q.L[i].pids.length) (hins : insI q.L[i].pids pid = q.L[i].pids.take k ++ pid :: q.L[i].pids.drop k) (hN : ∀ ao cap, N { q with L := rSet q.L i (insI q.L[i].pids pid) ao cap } (.int .i64 0)) {tm : List SV} (h1 : lenN tm = 109) (h2 : liveOk tm [(0, .ptr 0 b 0), (1, .int .i64 pid), (11, .int .i64 (i : Int)), (13, .int .i64 (k : Int))]) :
    G Try.prog (endQ Try.prog Try.f62 W F (fun h' res => ∃ r', (∀ W F w, Rep W F h' w → Rep W F (rgE r' b) w) ∧ N r' res)) W F (frmR [] (bodyOf Try.f62) 12) ⟨tm, [⟨.blk b, .cells [.vec 1 q.aoL (q.L).length q.capL, .vec 2 q.aoN (q.notes).length q.capN] 103⟩, ⟨.sl q.aoL q.capL, .vecL 112 2 encR (q.L) zR⟩, ⟨.sl q.aoN q.capN, .vecL 9 1 encS (q.notes) ByteArray.empty⟩, pk 0 ((q.L.take i).map pidE ++ (q.L.drop (i + 1)).map pidE), ⟨.sl q.L[i].ao q.L[i].cap, .vecL 3 1 encI1 q.L[i].pids 0⟩]⟩ := by
  have hL := ho.1
  have hg : ∀ d, q.L.getD i d = q.L[i] := fun d => getD_ltR _ _ _ hi
  have hpl := ho.2.2 _ (List.getElem_mem hi)
  refine G_live 109 [(0, .ptr 0 b 0), (1, .int .i64 pid), (11, .int .i64 (i : Int)), (13, .int .i64 (k : Int))] [⟨.blk b, .cells [.vec 1 q.aoL (q.L).length q.capL, .vec 2 q.aoN (q.notes).length q.capN] 103⟩, ⟨.sl q.aoL q.capL, .vecL 112 2 encR (q.L) zR⟩, ⟨.sl q.aoN q.capN, .vecL 9 1 encS (q.notes) ByteArray.empty⟩, pk 0 ((q.L.take i).map pidE ++ (q.L.drop (i + 1)).map pidE), ⟨.sl q.L[i].ao q.L[i].cap, .vecL 3 1 encI1 q.L[i].pids 0⟩] h1 h2 (fun w hw => hw) fun u => ?_
  refine G_vec (l := 4) rfl fun hcap _ => ?_
  refine G_run (kc := true) (ss := [13]) (Cs := []) trivial hmR 1500 ?_
  rw [rPt_12, Int.toNat_natCast i, Int.toNat_natCast k, hg]
  have e0 : (q.L[i].pids.drop 0).take (k - 0) = q.L[i].pids.take k := by rw [List.drop_zero, Nat.sub_zero]
  have e1 : (q.L[i].pids.take k).length = k := by simp; omega
  rw [e0, Nat.sub_zero]
  refine ⟨rfl, ⟨rfl, rfl, rfl, by omega, by omega⟩, ⟨rfl, rfl, rfl, hi⟩, ⟨by omega, by omega⟩, ⟨rfl, rfl, rfl, rfl, Nat.zero_le _, hk, by omega, by omega⟩, fun ao2 cap2 _ => ?_⟩
  refine G_live 109 [(0, .ptr 0 b 0), (1, .int .i64 pid), (11, .int .i64 (i : Int)), (13, .int .i64 (k : Int)), (14, .vec 5 ao2 (q.L[i].pids.take k).length cap2)] [⟨.blk b, .cells [.vec 1 q.aoL (q.L).length q.capL, .vec 2 q.aoN (q.notes).length q.capN] 103⟩, ⟨.sl q.aoL q.capL, .vecL 112 2 encR (q.L) zR⟩, ⟨.sl q.aoN q.capN, .vecL 9 1 encS (q.notes) ByteArray.empty⟩, pk 0 ((q.L.take i).map pidE ++ (q.L.drop (i + 1)).map pidE), ⟨.sl q.L[i].ao q.L[i].cap, .vecL 3 1 encI1 q.L[i].pids 0⟩, ⟨.sl ao2 cap2, .vecL 3 1 encI1 (q.L[i].pids.take k) 0⟩] rfl ⟨rfl, rfl, rfl, rfl, congrArg (fun z => Value.slice ao2 z cap2) e1.symm, trivial⟩ (fun w hw => hw) fun u => ?_
  refine G_run (kc := true) (ss := [200005]) (Cs := []) trivial hmR 1500 ?_
  rw [rPt_13, Int.toNat_natCast i, Int.toNat_natCast k, hg]
  have fin : ∀ (ao3 : Option Addr) (cap3 : Nat) (e6 : Ent), ∃ r', (∀ W F w, Rep W F [⟨.blk b, .cells [.vec 1 q.aoL (q.L).length q.capL, .vec 2 q.aoN (q.notes).length q.capN] 103⟩, ⟨.sl q.aoL q.capL, .vecL 112 2 encR (q.L.set i ⟨q.L[i].name, ao3, cap3, insI q.L[i].pids pid⟩) zR⟩, ⟨.sl q.aoN q.capN, .vecL 9 1 encS (q.notes) ByteArray.empty⟩, pk 0 ((q.L.take i).map pidE ++ (q.L.drop (i + 1)).map pidE), ⟨.sl q.L[i].ao q.L[i].cap, .vecL 3 1 encI1 q.L[i].pids 0⟩, ⟨.sl ao3 cap3, .vecL 3 1 encI1 (q.L[i].pids.take k ++ [pid] ++ q.L[i].pids.drop k) 0⟩, e6] w → Rep W F (rgE r' b) w) ∧ N r' (.int .i64 0) := fun ao3 cap3 e6 => by
    refine ⟨_, fun W F w hr => ?_, hN ao3 cap3⟩
    have g1 := Rep.pick (π := [0, 1, 2, 3, 5]) (by decide) rfl hr
    have e7 : q.L[i].pids.take k ++ [pid] ++ q.L[i].pids.drop k = insI q.L[i].pids pid := by rw [hins]; simp
    rw [e7] at g1
    have g2 := rg_close (g := ⟨q.L[i].name, ao3, cap3, insI q.L[i].pids pid⟩) hi g1
    have g3 := Rep.cellsEq (l := 0) (cs' := [.vec 1 q.aoL (q.L.set i ⟨q.L[i].name, ao3, cap3, insI q.L[i].pids pid⟩).length q.capL, .vec 2 q.aoN q.notes.length q.capN]) rfl (by rw [List.length_set]) g2
    unfold rgE rSet
    dsimp only
    rw [hg]
    exact g3
  have e8 : (q.L[i].pids.drop k).take (q.L[i].pids.length - k) = q.L[i].pids.drop k := List.take_of_length_le (by simp)
  have e9 : (q.L[i].pids.drop k).length = q.L[i].pids.length - k := by simp
  have e10 : ∀ (es es1 : List Int), es = [pid] → es1 = q.L[i].pids.drop k → (insI q.L[i].pids pid).length = k + 1 + (q.L[i].pids.length - k) := fun _ _ _ _ => by rw [hins]; simp; omega
  have e11 := e10 _ _ rfl rfl
  rw [e1]
  repeat' first
    | exact rfl
    | exact trivial
    | exact fin _ _ _
    | (refine ⟨[pid], rfl, rfl, fun ao2 cap2 _ => ?_⟩)
    | (refine ⟨q.L[i].pids.drop k, e9, by rw [e8], fun ao2 cap2 _ => ?_⟩)
    | (refine ⟨⟨q.L[i].name, ao2, cap2, insI q.L[i].pids pid⟩, congrArg (fun z => [Value.string q.L[i].name, Value.slice ao2 z cap2]) e11, ?_⟩)
    | exact hi
    | exact hk
    | exact hcap
    | apply And.intro
    | (refine fun _ => ?_)
    | (show _ ≤ _; omega)
    | (show _ < _; omega)
    | (simp; done)
    | (simp; omega)
    | fail
theorem rPt_walk (ho : rOk q) (hi : i < q.L.length) (hN : ∀ ao cap, N { q with L := rSet q.L i (insI q.L[i].pids pid) ao cap } (.int .i64 0)) {tm : List SV} (h1 : lenN tm = 109) (h2 : liveOk tm [(0, .ptr 0 b 0), (1, .int .i64 pid), (11, .int .i64 (i : Int)), (13, .int .i64 ((0 : Nat) : Int))]) :
    G Try.prog (endQ Try.prog Try.f62 W F (fun h' res => ∃ r', (∀ W F w, Rep W F h' w → Rep W F (rgE r' b) w) ∧ N r' res)) W F (frm [] (bodyOf Try.f62) [1, 1, 1, 1, 1, 1, 1, 1, 0, 0] []) ⟨tm, [pkA b rgE q]⟩ := by
  have hL := ho.1
  have hg : ∀ d, q.L.getD i d = q.L[i] := fun d => getD_ltR _ _ _ hi
  have hpl := ho.2.2 _ (List.getElem_mem hi)
  refine G_loopAt (ι := Nat) [] (bodyOf Try.f62) [1, 1, 1, 1, 1, 1, 1, 1, 0, 0] 109 (fun k : Nat => [(0, .ptr 0 b 0), (1, .int .i64 pid), (11, .int .i64 (i : Int)), (13, .int .i64 (k : Int))]) (fun _ => [⟨.blk b, .cells [.vec 1 q.aoL (q.L).length q.capL, .vec 2 q.aoN (q.notes).length q.capN] 103⟩, ⟨.sl q.aoL q.capL, .vecL 112 2 encR (q.L) zR⟩, ⟨.sl q.aoN q.capN, .vecL 9 1 encS (q.notes) ByteArray.empty⟩, pk 0 ((q.L.take i).map pidE ++ (q.L.drop (i + 1)).map pidE), pidE q.L[i]]) (fun k : Nat => k ≤ q.L[i].pids.length ∧ ∀ p ∈ q.L[i].pids.take k, decide (p < pid) = true) (fun k : Nat => q.L[i].pids.length - k) 0 (by kernel_rfl) (fun J => by kernel_rfl) ⟨Nat.zero_le _, fun p hp => by simp at hp⟩ h1 h2 (fun w hr => rg_open hi hr.unpkA1) ?_
  rintro k ⟨hk, hp⟩ u
  try dsimp only at hk hp ⊢
  simp only [List.nil_append, List.cons_append]
  refine G_run (kc := true) (ss := [12]) (Cs := []) trivial hmR 900 ?_
  unfold pidE
  rw [rPt_1, Int.toNat_natCast i, hg]
  have w1 : IntKind.wrap .i64 ((k : Int) + 1) = ((k + 1 : Nat) : Int) := IntWalk.i64_in _ (by omega)
  have done : (∀ h : k < q.L[i].pids.length, decide (q.L[i].pids[k] < pid) = false) → insI q.L[i].pids pid = q.L[i].pids.take k ++ pid :: q.L[i].pids.drop k := fun hq => by
    have e := tw_len (fun x => decide (x < pid)) q.L[i].pids k hk hp hq
    have t1 : q.L[i].pids.takeWhile (fun x => decide (x < pid)) = q.L[i].pids.take k := by
      have := List.prefix_iff_eq_take.1 (List.takeWhile_prefix (fun x => decide (x < pid)) (l := q.L[i].pids))
      rw [e] at this; exact this
    have t2 : q.L[i].pids.dropWhile (fun x => decide (x < pid)) = q.L[i].pids.drop k := by
      have g1 := List.takeWhile_append_dropWhile (p := fun x : Int => decide (x < pid)) (l := q.L[i].pids)
      have g2 := List.take_append_drop k q.L[i].pids
      rw [t1] at g1
      exact List.append_cancel_left (g1.trans g2.symm)
    unfold insI
    rw [t1, t2]
  refine ⟨rfl, ⟨rfl, rfl, rfl, by omega, by omega⟩, ⟨rfl, rfl, rfl, hi⟩, ?_⟩
  cases hlt : decide ((k : Int) < (q.L[i].pids.length : Int)) with
  | false =>
    simp only [decide_eq_false_iff_not] at hlt
    exact rPt_fin ho hi hk (done fun h => by omega) hN rfl ⟨rfl, rfl, rfl, rfl, trivial⟩
  | true =>
    simp only [decide_eq_true_eq] at hlt
    have hk2 : k < q.L[i].pids.length := by omega
    have hgk : q.L[i].pids.getD k 0 = q.L[i].pids[k] := getD_ltR _ _ _ hk2
    rw [Int.toNat_natCast k, hgk]
    refine ⟨rfl, ⟨rfl, rfl, rfl, by omega, by omega⟩, ⟨rfl, rfl, rfl, hi⟩, ⟨rfl, rfl, rfl, by omega, by omega⟩, ⟨rfl, rfl, rfl, hk2⟩, ?_⟩
    cases hc : decide (q.L[i].pids[k] < pid) with
    | true =>
      refine G_back (k + 1) ⟨hk2, fun p hpm => ?_⟩ (by omega) rfl ⟨rfl, rfl, rfl, congrArg (Value.int .i64) w1, trivial⟩ (fun w hw => hw)
      rw [List.take_succ_eq_append_getElem hk2] at hpm
      rcases List.mem_append.1 hpm with hpm | hpm
      · exact hp p hpm
      · rw [List.mem_singleton.1 hpm]; exact hc
    | false => exact rPt_fin ho hi hk (done fun _ => hc) hN rfl ⟨rfl, rfl, rfl, rfl, trivial⟩
end
theorem rPt_ok : CtrOk Try.prog 62 (adtC rgE rputM) := adt_ok fun b r rest N h => by
  unfold rputM at h
  split at h
  case h_2 => exact h.elim
  rename_i pid name
  obtain ⟨ho, h⟩ := h
  obtain ⟨⟨ho, hn⟩, hat⟩ := ho
  refine Spec.pre (hs' := [pkA b rgE r]) (args' := [.ptr 0 b 0, .int .i64 pid, .str name]) (fun W F w hr => Rep.pkA1 hr) rfl ?_
  refine Spec.of_G 109 Try.func62 (c := bodyOf Try.f62) (by kernel_rfl) (by kernel_rfl) (Nat.le_of_ble_eq_true rfl) fun W F => ?_
  refine G_run (kc := false) (ss := []) (Cs := [(89, adtC rgE ratM), (66, adtC rgE rofM), (63, adtC rgE rgoneM)]) ⟨rAt_ok, rOf_ok, rGn_ok, trivial⟩ hmR 900 ?_
  rw [rPt_start]
  refine ⟨rfl, rfl, rfl, HEq.rfl, ho, ?_⟩
  unfold rPut at h
  cases hh : rHas r.L name with
  | false =>
    rw [hh] at h
    exact ⟨r, fun W F w hr => hr.unpkA1, h none 0 none 0 none 0⟩
  | true =>
    rw [hh] at h
    rw [Bool.not_true, Bool.false_or] at h
    rw [Bool.not_true]
    dsimp only
    cases hd : decide (pid < 2) with
    | true =>
      rw [hd] at h
      exact ⟨r, fun W F w hr => hr.unpkA1, h none 0 none 0 none 0⟩
    | false =>
      rw [hd] at h
      dsimp only at h ⊢
      have main : rIn r.L pid name = false → ∀ (ao : Option Addr) (cap : Nat) (aoN : Option Addr) (capN : Nat) (tm : List SV), lenN tm = 109 → liveOk tm [(0, .ptr 0 b 0), (1, .int .i64 pid), (11, .int .i64 (rAt (rGone r pid ao cap aoN capN).1.L name : Int)), (13, .int .i64 ((0 : Nat) : Int))] →
          G Try.prog (endQ Try.prog Try.f62 W F (fun h' res => ∃ r', (∀ W F w, Rep W F h' w → Rep W F (rgE r' b) w) ∧ N r' res)) W F (frm [] (bodyOf Try.f62) [1, 1, 1, 1, 1, 1, 1, 1, 0, 0] []) ⟨tm, [pkA b rgE (rGone r pid ao cap aoN capN).1]⟩ := fun hin ao cap aoN capN tm g1 g2 => by
        rw [hin] at h
        have hnm := rAt_names (rGone_names r pid ao cap aoN capN) name
        have hh2 : rHas (rGone r pid ao cap aoN capN).1.L name = true := by rw [hnm.2]; exact hh
        have hi : rAt (rGone r pid ao cap aoN capN).1.L name < (rGone r pid ao cap aoN capN).1.L.length := by
          unfold rHas at hh2
          simp only [Bool.and_eq_true, decide_eq_true_eq] at hh2
          exact hh2.1
        refine rPt_walk (rGone_ok ho hn _ _ _ _ _) hi (fun ao2 cap2 => ?_) g1 g2
        have hf := h ao cap aoN capN ao2 cap2
        dsimp only at hf
        unfold rPut2 at hf
        have hg : (rGone r pid ao cap aoN capN).1.L.getD (rAt (rGone r pid ao cap aoN capN).1.L name) zR = (rGone r pid ao cap aoN capN).1.L[rAt (rGone r pid ao cap aoN capN).1.L name] := getD_ltR _ _ _ hi
        rw [hg] at hf
        exact hf
      have hok2 : ∀ ao cap aoN capN, rOk (rGone r pid ao cap aoN capN).1 := fun ao cap aoN capN => rGone_ok ho hn _ _ _ _ _
      refine ⟨rfl, rfl, rfl, HEq.rfl, ho, ?_⟩
      cases hof : rOf r.L pid with
      | none =>
        have hin : rIn r.L pid name = false := by unfold rIn; rw [hof]
        exact ⟨rfl, rfl, rfl, HEq.rfl, ⟨ho, hat⟩, fun ao cap aoN capN => ⟨rfl, rfl, rfl, HEq.rfl, hok2 _ _ _ _, main hin ao cap aoN capN _ rfl ⟨rfl, rfl, rfl, rfl, trivial⟩⟩⟩
      | some n =>
        dsimp only [Option.isSome_some]
        cases hq : sEq n name with
        | true =>
          have hin : rIn r.L pid name = true := by unfold rIn; rw [hof]; exact hq
          rw [hin] at h
          exact ⟨r, fun W F w hr => hr.unpkA1, h none 0 none 0 none 0⟩
        | false =>
          have hin : rIn r.L pid name = false := by unfold rIn; rw [hof]; exact hq
          exact ⟨rfl, rfl, rfl, HEq.rfl, ⟨ho, hat⟩, fun ao cap aoN capN => ⟨rfl, rfl, rfl, HEq.rfl, hok2 _ _ _ _, main hin ao cap aoN capN _ rfl ⟨rfl, rfl, rfl, rfl, trivial⟩⟩⟩
end Go.Proofs.Ytihajdkipkfiiaa

/- YtihajdkipkfiiaaGa1Run -/
namespace Go.Proofs.Ytihajdkipkfiiaa
set_option linter.unusedVariables false
open Go Go.RowKit
set_option maxHeartbeats 0
set_option maxRecDepth 100000
set_option linter.unusedVariables false
set_option maxRecDepth 100000

theorem gOf_none (K : List Frm → Sy → Prop) (N : List Ent → SV → Prop) (s : Grp) (b : Nat) (pid : Int) (n : ByteArray) : (run Try.prog [] false [] K (retP Try.prog Try.f65.results.toList N) 600 [.code (bodyOf Try.f65)] ⟨padTo 19 [.ptr 0 b 0, .int .i64 pid], [⟨.blk b, .cells [.map 1 s.bg, .map 2 s.bo, .vec 3 s.ao s.notes.length s.cap] 118⟩, ⟨.blk s.bg, .mapL none encG s.gs⟩, ⟨.blk s.bo, .map1 (some .i64) encO s.of (.i .i64 pid) none⟩, ⟨.sl s.ao s.cap, .vecL 9 1 encS s.notes ByteArray.empty⟩, pk 0 (s.gs.map setE)]⟩) = (
b = b ∧
 (s.2 = s.2 ∧ Key.i IntKind.i64 pid = Key.i IntKind.i64 pid ∧ some IntKind.i64 = some IntKind.i64) ∧
  N
   [Ent.mk (Loc.blk b) (SObj.cells [SV.map 1 s.1, SV.map 2 s.2, SV.vec 3 s.ao (List.length s.7) s.4] (118 : TypeId)),
    Ent.mk (Loc.blk s.1) (SObj.mapL (@none IntKind) encG s.5), Ent.mk (Loc.blk s.2) (SObj.map1 (some IntKind.i64) encO s.6 (Key.i IntKind.i64 pid) (@none SV)),
    Ent.mk (Loc.sl s.ao s.4) (SObj.vecL (9 : TypeId) 1 encS s.7 ByteArray.empty), pk 0 (List.map setE s.5)]
   (SV.tuple [SV.str (ByteArray.mk #[]), SV.bool false])) := by kernel_rfl


theorem gOf_some (K : List Frm → Sy → Prop) (N : List Ent → SV → Prop) (s : Grp) (b : Nat) (pid : Int) (n : ByteArray) : (run Try.prog [] false [] K (retP Try.prog Try.f65.results.toList N) 600 [.code (bodyOf Try.f65)] ⟨padTo 19 [.ptr 0 b 0, .int .i64 pid], [⟨.blk b, .cells [.map 1 s.bg, .map 2 s.bo, .vec 3 s.ao s.notes.length s.cap] 118⟩, ⟨.blk s.bg, .mapL none encG s.gs⟩, ⟨.blk s.bo, .map1 (some .i64) encO s.of (.i .i64 pid) (some (.str n))⟩, ⟨.sl s.ao s.cap, .vecL 9 1 encS s.notes ByteArray.empty⟩, pk 0 (s.gs.map setE)]⟩) = (
b = b ∧
 (s.2 = s.2 ∧ Key.i IntKind.i64 pid = Key.i IntKind.i64 pid ∧ some IntKind.i64 = some IntKind.i64) ∧
  N
   [Ent.mk (Loc.blk b) (SObj.cells [SV.map 1 s.1, SV.map 2 s.2, SV.vec 3 s.ao (List.length s.7) s.4] (118 : TypeId)),
    Ent.mk (Loc.blk s.1) (SObj.mapL (@none IntKind) encG s.5), Ent.mk (Loc.blk s.2) (SObj.map1 (some IntKind.i64) encO s.6 (Key.i IntKind.i64 pid) (some (SV.str n))),
    Ent.mk (Loc.sl s.ao s.4) (SObj.vecL (9 : TypeId) 1 encS s.7 ByteArray.empty), pk 0 (List.map setE s.5)]
   (SV.tuple [SV.str n, SV.bool true])) := by kernel_rfl


theorem gMb_none (K : List Frm → Sy → Prop) (N : List Ent → SV → Prop) (s : Grp) (b : Nat) (n : ByteArray) : (run Try.prog gaT true [] K (retP Try.prog Try.f18.results.toList N) 600 [.code (bodyOf Try.f18)] ⟨padTo 12 [.ptr 0 b 0, .str n], [⟨.blk b, .cells [.map 1 s.bg, .map 2 s.bo, .vec 3 s.ao s.notes.length s.cap] 118⟩, ⟨.blk s.bg, .map1 none encG s.gs (.s n) none⟩, ⟨.blk s.bo, .mapL (some .i64) encO s.of⟩, ⟨.sl s.ao s.cap, .vecL 9 1 encS s.notes ByteArray.empty⟩, pk 0 (s.gs.map setE)]⟩) = (
b = b ∧
 (s.1 = s.1 ∧ Key.s n = Key.s n ∧ @none IntKind = @none IntKind) ∧
  true = true ∧
   true = true ∧
    true = true ∧
     ∀ (b_1 : Nat),
      true = true ∧
       110 = 110 ∧
        b_1 = b_1 ∧
         ∀ (ao : Option Addr) (cap : Nat),
          N
           [Ent.mk (Loc.blk b) (SObj.cells [SV.map 1 s.1, SV.map 2 s.2, SV.vec 3 s.ao (List.length s.7) s.4] (118 : TypeId)),
            Ent.mk (Loc.blk s.1) (SObj.map1 (@none IntKind) encG s.5 (Key.s n) (@none SV)), Ent.mk (Loc.blk s.2) (SObj.mapL (some IntKind.i64) encO s.6),
            Ent.mk (Loc.sl s.ao s.4) (SObj.vecL (9 : TypeId) 1 encS s.7 ByteArray.empty), pk 0 (List.map setE s.5),
            Ent.mk (Loc.blk b_1) (SObj.cells [SV.raw (Value.map (@none Nat))] 120), Ent.mk (Loc.sl ao cap) (SObj.vecL 3 1 encI1 [] (0 : Int))]
           (SV.vec 6 ao 0 cap)) := by kernel_rfl


theorem gMb_some (K : List Frm → Sy → Prop) (N : List Ent → SV → Prop) (s : Grp) (b : Nat) (nb : Nat) (n : ByteArray) (ms : List (Key × Unit)) (rest : List Ent) : (run Try.prog gaT true [] K (retP Try.prog Try.f18.results.toList N) 600 [.code (bodyOf Try.f18)] ⟨padTo 12 [.ptr 0 b 0, .str n], [⟨.blk b, .cells [.map 1 s.bg, .map 2 s.bo, .vec 3 s.ao s.notes.length s.cap] 118⟩, ⟨.blk s.bg, .map1 none encG s.gs (.s n) (some (.map 4 nb))⟩, ⟨.blk s.bo, .mapL (some .i64) encO s.of⟩, ⟨.sl s.ao s.cap, .vecL 9 1 encS s.notes ByteArray.empty⟩, ⟨.blk nb, .mapL (some .i64) encU ms⟩, pk 0 rest]⟩) = (
b = b ∧
 (s.1 = s.1 ∧ Key.s n = Key.s n ∧ @none IntKind = @none IntKind) ∧
  true = true ∧
   true = true ∧
    true = true ∧
     ∀ (b_1 : Nat),
      true = true ∧
       110 = 110 ∧
        (b_1 = b_1 ∧ nb = nb ∧ some IntKind.i64 = some IntKind.i64 ∧ wfI ms) ∧
         ∀ (ao : Option Addr) (cap : Nat),
          N
           [Ent.mk (Loc.blk b) (SObj.cells [SV.map 1 s.1, SV.map 2 s.2, SV.vec 3 s.ao (List.length s.7) s.4] (118 : TypeId)),
            Ent.mk (Loc.blk s.1) (SObj.map1 (@none IntKind) encG s.5 (Key.s n) (some (SV.map 4 nb))), Ent.mk (Loc.blk s.2) (SObj.mapL (some IntKind.i64) encO s.6),
            Ent.mk (Loc.sl s.ao s.4) (SObj.vecL (9 : TypeId) 1 encS s.7 ByteArray.empty), Ent.mk (Loc.blk nb) (SObj.mapL (some IntKind.i64) encU ms), pk 0 rest,
            Ent.mk (Loc.blk b_1) (SObj.cells [SV.map 4 nb] 120), Ent.mk (Loc.sl ao cap) (SObj.vecL 3 1 encI1 (sortI ms) (0 : Int))]
           (SV.vec 7 ao (List.length (sortI ms)) cap)) := by kernel_rfl


theorem gNm_run (K : List Frm → Sy → Prop) (N : List Ent → SV → Prop) (s : Grp) (b : Nat) : (run Try.prog gnT true [] K (retP Try.prog Try.f94.results.toList N) 600 [.code (bodyOf Try.f94)] ⟨padTo 10 [.ptr 0 b 0], [⟨.blk b, .cells [.map 1 s.bg, .map 2 s.bo, .vec 3 s.ao s.notes.length s.cap] 118⟩, ⟨.blk s.bg, .mapL none encG s.gs⟩, ⟨.blk s.bo, .mapL (some .i64) encO s.of⟩, ⟨.sl s.ao s.cap, .vecL 9 1 encS s.notes ByteArray.empty⟩, pk 0 (s.gs.map setE)]⟩) = (
b = b ∧
 true = true ∧
  true = true ∧
   ∀ (b_1 : Nat),
    true = true ∧
     116 = 116 ∧
      (b_1 = b_1 ∧ s.1 = s.1 ∧ @none IntKind = @none IntKind ∧ wfS s.5) ∧
       ∀ (ao : Option Addr) (cap : Nat),
        true = true ∧
         true = true ∧
          ∀ (b_2 : Nat),
           N
            [Ent.mk (Loc.blk b) (SObj.cells [SV.map 1 s.1, SV.map 2 s.2, SV.vec 3 s.ao (List.length s.7) s.4] (118 : TypeId)),
             Ent.mk (Loc.blk s.1) (SObj.mapL (@none IntKind) encG s.5), Ent.mk (Loc.blk s.2) (SObj.mapL (some IntKind.i64) encO s.6),
             Ent.mk (Loc.sl s.ao s.4) (SObj.vecL (9 : TypeId) 1 encS s.7 ByteArray.empty), pk 0 (List.map setE s.5),
             Ent.mk (Loc.blk b_1) (SObj.cells [SV.map 1 s.1] 115), Ent.mk (Loc.sl ao cap) (SObj.vecL 9 1 encS1 (sortS s.5) ByteArray.empty),
             Ent.mk (Loc.blk b_2) (SObj.cells [SV.vec 6 ao (List.length (sortS s.5)) cap] 93)]
            (SV.func (Fn.func 104) [] [SV.ptr 7 b_2 0])) := by kernel_rfl


theorem al9_start (K : List Frm → Sy → Prop) (X : Code → Sy → Prop) (E : Sy → Prop) (s : Grp) (b : Nat) (bx : Nat) (fv : Value) (rr : List Ent) : (runR Try.prog [(94, namesC)] (noY) true [] K X E 300 [.code (bodyOf Try.f93)] ⟨padTo 14 [.raw fv, .ptr 1 bx 0], [pkA b grpE s, ⟨.blk bx, .cells [.ptr 0 b 0] 25⟩, pk 0 rr]⟩) = (
((match SV.raw fv with
 | SV.agg cs => false
 | SV.tuple cs => false
 | SV.raw (Value.agg cells) => false
 | SV.raw (Value.tuple vs) => false
 | SV.raw (Value.int k n) => true
 | SV.raw (Value.bool b) => true
 | SV.raw (Value.string s) => true
 | SV.raw (Value.pointer a) => true
 | SV.raw (Value.slice a len cap) => true
 | SV.raw (Value.map r) => true
 | SV.raw (Value.func fn first captured) => true
 | SV.raw Value.nilFunc => true
 | SV.raw (Value.iface t v) => true
 | SV.raw Value.nilIface => true
 | SV.raw v => false
 | x => true) &&
 true) =
 true ∧
 ∀ (b_1 : Nat),
  bx = bx ∧
   true = true ∧
    b = b ∧
     ∃ (h : Grp = Grp),
      AdtIs (fun (s : Grp) (b : Nat) ↦ packs (grpE s b)) grpE ∧
       wfS (cast h s).gs ∧
        ∀ (ao : Option Addr) (cap bx_1 : Nat),
         K (frm [] (bodyOf Try.f93) [1, 1, 0] [])
          (Sy.mk (SV.raw fv :: (SV.ptr 1 bx 0 :: (SV.ptr 3 b_1 0 :: (SV.raw (Value.tuple #[]) :: (SV.ptr 0 b 0 :: (SV.func (Fn.func (104 : FuncId)) [] [SV.ptr 5 bx_1 0] :: (rawE [] 8)))))))
           [pkA b grpE s, Ent.mk (Loc.blk bx) (SObj.cells [SV.ptr 0 b 0] (25 : TypeId)), pk 0 rr, Ent.mk (Loc.blk b_1) (SObj.cells [SV.raw fv] 113),
            Ent.mk (Loc.sl ao cap) (SObj.vecL (9 : TypeId) 1 encS (sortS s.5) ByteArray.empty),
            Ent.mk (Loc.blk bx_1) (SObj.cells [SV.vec 4 ao (List.length (sortS s.5)) cap] (93 : TypeId))])) := by kernel_rfl


theorem al9_asg (K : List Frm → Sy → Prop) (X : Code → Sy → Prop) (E : Sy → Prop) (s : Grp) (b : Nat) (bx : Nat) (fv : Value) (rr : List Ent) (by_ D l : Nat) (rc : Loop) (x : ByteArray) (u : Nat → Value) : (runR Try.prog [] (noY) true [] K X E 60 ([.code (rfA (codeAt (bodyOf Try.f93) [1, 1, 0]))]) ⟨mkT u 14 0 [(1, .ptr 1 bx 0), (2, .ptr 2 by_ 0), (6, .str x)], [pkA b grpE s, ⟨.blk bx, .cells [.ptr 0 b 0] 25⟩, ⟨.blk by_, .cells [.raw fv] 113⟩, pk 0 (rr), dent D true, lp l rc .ready none]⟩) = (
E
 (Sy.mk (SV.raw (u 0) :: (SV.ptr 1 bx 0 :: (SV.ptr 2 by_ 0 :: (SV.str x :: (SV.raw (u 4) :: (SV.raw (u 5) :: (SV.str x :: (rawR u 7 [] 7))))))))
  [pkA b grpE s, Ent.mk (Loc.blk bx) (SObj.cells [SV.ptr 0 b 0] (25 : TypeId)), Ent.mk (Loc.blk by_) (SObj.cells [SV.raw fv] (113 : TypeId)), pk 0 rr, dent D true,
   lp l rc LoopState.ready (@none Code)])) := by kernel_rfl


theorem al9_body (K : List Frm → Sy → Prop) (X : Code → Sy → Prop) (E : Sy → Prop) (s : Grp) (b : Nat) (bx : Nat) (fv : Value) (R : Nat → List Ent) (Stop : List Ent → Prop) (ns : List ByteArray) (i : Nat) (by_ D l : Nat) (rc : Loop) (x : ByteArray) (u : Nat → Value) : (runR Try.prog [(18, membersNC)] (allGY fv s b ns R Stop) true [] K X E 600 ([.code (rfB (codeAt (bodyOf Try.f93) [1, 1, 0]))]) ⟨mkT u 14 0 [(1, .ptr 1 bx 0), (2, .ptr 2 by_ 0), (3, .str x)], [pkA b grpE s, ⟨.blk bx, .cells [.ptr 0 b 0] 25⟩, ⟨.blk by_, .cells [.raw fv] 113⟩, pk 0 (R i), dent D true, lp l rc .busy none]⟩) = (
by_ = by_ ∧
 (bx = bx ∧
  true = true ∧
   b = b ∧
    ∃ (h : Grp = Grp),
     AdtIs (fun (s : Grp) (b : Nat) ↦ packs (grpE s b)) grpE ∧
      memGOk (cast h s) x ∧
       ∀ (ao : Option Addr) (cap : Nat),
        (pkA b grpE s = pkA b grpE s ∧
         Ent.mk (Loc.blk bx) (SObj.cells [SV.ptr 0 b 0] (25 : TypeId)) = Ent.mk (Loc.blk bx) (SObj.cells [SV.ptr 0 b 0] (25 : TypeId)) ∧
          Ent.mk (Loc.blk by_) (SObj.cells [SV.raw fv] (113 : TypeId)) = Ent.mk (Loc.blk by_) (SObj.cells [SV.raw fv] (113 : TypeId)) ∧
           pk 0 (R i) = pk 0 (R i) ∧ dent D true = dent D true ∧ lp l rc LoopState.busy (@none Code) = lp l rc LoopState.busy (@none Code) ∧ True) ∧
         fv = fv ∧
          ∃ (i_1 : Nat),
           ∃ (x_1 : ByteArray),
            ∃ (ao_1 : Option Addr),
             ∃ (cap_1 : Nat),
              ns[i_1]? = some x_1 ∧
               [SV.str x, SV.vec 6 ao (List.length (memG s x)) cap] = [SV.str x_1, SV.vec 6 ao_1 (List.length (memG s x_1)) cap_1] ∧
                pkA b grpE s = pkA b grpE s ∧
                 pk 0 (R i) = pk 0 (R i_1) ∧
                  Ent.mk (Loc.sl ao cap) (SObj.vecL (3 : TypeId) 1 encI1 (memG s x) (0 : Int)) =
                   Ent.mk (Loc.sl ao_1 cap_1) (SObj.vecL (3 : TypeId) 1 encI1 (memG s x_1) (0 : Int)) ∧
                   E
                    (Sy.mk (SV.raw (u 0) :: (SV.ptr 1 bx 0 :: (SV.ptr 2 by_ 0 :: (SV.str x :: (rawR u 4 (SV.raw fv :: (SV.str x :: (SV.ptr 0 b 0 :: (SV.str x :: (SV.vec 6 ao (List.length (memG s x)) cap :: (SV.bool true :: (SV.bool false :: []))))))) 3)))))
                     [pkA b grpE s, Ent.mk (Loc.blk bx) (SObj.cells [SV.ptr 0 b 0] (25 : TypeId)),
                      Ent.mk (Loc.blk by_) (SObj.cells [SV.raw fv] (113 : TypeId)), pk 0 (R (i_1 + 1)), dent D true, lp l rc LoopState.busy (@none Code),
                      Ent.mk (Loc.sl ao cap) (SObj.vecL (3 : TypeId) 1 encI1 (memG s x) (0 : Int))]) ∧
                    ∀ (R' : List Ent),
                     Stop R' →
                      X Code.ret
                       (Sy.mk (SV.raw (u 0) :: (SV.ptr 1 bx 0 :: (SV.ptr 2 by_ 0 :: (SV.str x :: (rawR u 4 (SV.raw fv :: (SV.str x :: (SV.ptr 0 b 0 :: (SV.str x :: (SV.vec 6 ao (List.length (memG s x)) cap :: (SV.bool false :: (SV.bool true :: []))))))) 3)))))
                        [pkA b grpE s, Ent.mk (Loc.blk bx) (SObj.cells [SV.ptr 0 b 0] (25 : TypeId)),
                         Ent.mk (Loc.blk by_) (SObj.cells [SV.raw fv] (113 : TypeId)), pk 0 R', dent D true, lp l rc LoopState.busy (@none Code),
                         Ent.mk (Loc.sl ao cap) (SObj.vecL (3 : TypeId) 1 encI1 (memG s x) (0 : Int))])) ∧
  bx = bx ∧
   true = true ∧
    b = b ∧
     ∃ (h : Grp = Grp),
      AdtIs (fun (s : Grp) (b : Nat) ↦ packs (grpE s b)) grpE ∧
       memGOk (cast h s) x ∧
        ∀ (ao : Option Addr) (cap : Nat),
         (pkA b grpE s = pkA b grpE s ∧
          Ent.mk (Loc.blk bx) (SObj.cells [SV.ptr 0 b 0] (25 : TypeId)) = Ent.mk (Loc.blk bx) (SObj.cells [SV.ptr 0 b 0] (25 : TypeId)) ∧
           Ent.mk (Loc.blk by_) (SObj.cells [SV.raw fv] (113 : TypeId)) = Ent.mk (Loc.blk by_) (SObj.cells [SV.raw fv] (113 : TypeId)) ∧
            pk 0 (R i) = pk 0 (R i) ∧ dent D true = dent D true ∧ lp l rc LoopState.busy (@none Code) = lp l rc LoopState.busy (@none Code) ∧ True) ∧
          fv = fv ∧
           ∃ (i_1 : Nat),
            ∃ (x_1 : ByteArray),
             ∃ (ao_1 : Option Addr),
              ∃ (cap_1 : Nat),
               ns[i_1]? = some x_1 ∧
                [SV.str x, SV.vec 6 ao (List.length (memG s x)) cap] = [SV.str x_1, SV.vec 6 ao_1 (List.length (memG s x_1)) cap_1] ∧
                 pkA b grpE s = pkA b grpE s ∧
                  pk 0 (R i) = pk 0 (R i_1) ∧
                   Ent.mk (Loc.sl ao cap) (SObj.vecL (3 : TypeId) 1 encI1 (memG s x) (0 : Int)) =
                    Ent.mk (Loc.sl ao_1 cap_1) (SObj.vecL (3 : TypeId) 1 encI1 (memG s x_1) (0 : Int)) ∧
                    E
                     (Sy.mk (SV.raw (u 0) :: (SV.ptr 1 bx 0 :: (SV.ptr 2 by_ 0 :: (SV.str x :: (rawR u 4 (SV.raw fv :: (SV.str x :: (SV.ptr 0 b 0 :: (SV.str x :: (SV.vec 6 ao (List.length (memG s x)) cap :: (SV.bool true :: (SV.bool false :: []))))))) 3)))))
                      [pkA b grpE s, Ent.mk (Loc.blk bx) (SObj.cells [SV.ptr 0 b 0] (25 : TypeId)),
                       Ent.mk (Loc.blk by_) (SObj.cells [SV.raw fv] (113 : TypeId)), pk 0 (R (i_1 + 1)), dent D true, lp l rc LoopState.busy (@none Code),
                       Ent.mk (Loc.sl ao cap) (SObj.vecL (3 : TypeId) 1 encI1 (memG s x) (0 : Int))]) ∧
                     ∀ (R' : List Ent),
                      Stop R' →
                       X Code.ret
                        (Sy.mk (SV.raw (u 0) :: (SV.ptr 1 bx 0 :: (SV.ptr 2 by_ 0 :: (SV.str x :: (rawR u 4 (SV.raw fv :: (SV.str x :: (SV.ptr 0 b 0 :: (SV.str x :: (SV.vec 6 ao (List.length (memG s x)) cap :: (SV.bool false :: (SV.bool true :: []))))))) 3)))))
                         [pkA b grpE s, Ent.mk (Loc.blk bx) (SObj.cells [SV.ptr 0 b 0] (25 : TypeId)),
                          Ent.mk (Loc.blk by_) (SObj.cells [SV.raw fv] (113 : TypeId)), pk 0 R', dent D true, lp l rc LoopState.busy (@none Code),
                          Ent.mk (Loc.sl ao cap) (SObj.vecL (3 : TypeId) 1 encI1 (memG s x) (0 : Int))])) := by kernel_rfl


theorem al9_end (K : List Frm → Sy → Prop) (E : Sy → Prop) (N : List Ent → SV → Prop) (s : Grp) (b : Nat) (bx : Nat) (fv : Value) (rr : List Ent) (by_ D l : Nat) (rc : Loop) (u : Nat → Value) : (runR Try.prog [] (noY) true [] K (endMX Try.prog Try.f93.results.toList D 4 N) E 900 ((frm [] (bodyOf Try.f93) [1, 1, 0] []).tail) ⟨mkT u 14 0 [(1, .ptr 1 bx 0), (2, .ptr 2 by_ 0)], [pkA b grpE s, ⟨.blk bx, .cells [.ptr 0 b 0] 25⟩, ⟨.blk by_, .cells [.raw fv] 113⟩, pk 0 (rr), dent D true, lp l rc .exhausted none]⟩) = (
E
 (Sy.mk (SV.raw (u 0) :: (SV.ptr 1 bx 0 :: (SV.ptr 2 by_ 0 :: (rawR u 3 [] 11))))
  [pkA b grpE s, Ent.mk (Loc.blk bx) (SObj.cells [SV.ptr 0 b 0] (25 : TypeId)), Ent.mk (Loc.blk by_) (SObj.cells [SV.raw fv] (113 : TypeId)), pk 0 rr, dent D true,
   lp l rc LoopState.exhausted (@none Code)])) := by kernel_rfl


theorem al9_ret (K : List Frm → Sy → Prop) (E : Sy → Prop) (N : List Ent → SV → Prop) (s : Grp) (b : Nat) (bx : Nat) (fv : Value) (rr : List Ent) (by_ D l : Nat) (rc : Loop) (u : Nat → Value) : (runR Try.prog [] (noY) true [] K (endMX Try.prog Try.f93.results.toList D 4 N) E 900 (Frm.code .ret :: (frm [] (bodyOf Try.f93) [1, 1, 0] []).tail) ⟨mkT u 14 0 [(1, .ptr 1 bx 0), (2, .ptr 2 by_ 0)], [pkA b grpE s, ⟨.blk bx, .cells [.ptr 0 b 0] 25⟩, ⟨.blk by_, .cells [.raw fv] 113⟩, pk 0 (rr), dent D true, lp l rc .exhausted (some .ret)]⟩) = (
some (dent D true) = some (dent D true) ∧
 N
  [pkA b grpE s, Ent.mk (Loc.blk bx) (SObj.cells [SV.ptr 0 b 0] (25 : TypeId)), Ent.mk (Loc.blk by_) (SObj.cells [SV.raw fv] (113 : TypeId)), pk 0 rr, dent D false,
   lp l rc LoopState.exhausted (some Code.ret)]
  (SV.tuple [])) := by kernel_rfl
end Go.Proofs.Ytihajdkipkfiiaa

/- YtihajdkipkfiiaaLayM -/
/- Layings of the kit's contracts for slices.Sorted and maps.Keys at this program, in plain words. -/
namespace Go.Proofs.Ytihajdkipkfiiaa
open Go.Shelf
def keysM_ren : Go.Shelf.Ren := ⟨fun | 7 => 109 | 10 => 116 | n => n, fun | 23 => 115 | 26 => 9 | 3 => 120 | 28 => 95 | 0 => 0 | 27 => 94 | 33 => 97 | 4 => 4 | n => n, fun | n => n⟩
theorem keysM : Go.Proofs.SlLaysZ.n7 Try.prog keysM_ren := {
  mixed := by kernel_rfl
  f7 := ⟨Try.f109.name, by decide, Try.func109.trans (congrArg some (by kernel_rfl))⟩
  f10 := ⟨Try.f116.name, by decide, Try.func116.trans (congrArg some (by kernel_rfl))⟩
  t0 := Try.underlying0
  a0 := Try.isAgg0
  z0 := Try.sizeOf0
  v0 := Try.zeroValue0
  t4 := Try.underlying4
  a4 := Try.isAgg4
  z4 := Try.sizeOf4
  v4 := Try.zeroValue4
  t23 := Try.underlying115
  a23 := Try.isAgg115
  z23 := Try.sizeOf115
  v23 := Try.zeroValue115
  t26 := Try.underlying9
  a26 := Try.isAgg9
  z26 := Try.sizeOf9
  v26 := Try.zeroValue9
  t27 := Try.underlying94
  a27 := Try.isAgg94
  z27 := Try.sizeOf94
  v27 := Try.zeroValue94
  t28 := Try.underlying95
  a28 := Try.isAgg95
  z28 := Try.sizeOf95
  v28 := Try.zeroValue95
  t33 := Try.underlying97
  a33 := Try.isAgg97
  z33 := Try.sizeOf97
  v33 := Try.zeroValue97 }
end Go.Proofs.Ytihajdkipkfiiaa

/- YtihajdkipkfiiaaValSC -/
/- slices.Values: going through a row. -/
namespace Go.Proofs.Ytihajdkipkfiiaa
open Go Go.RowKit
set_option linter.unusedVariables false
set_option linter.unusedSimpArgs false
set_option linter.unnecessarySimpa false
set_option maxHeartbeats 0

/-- The function that is called for each element: R i: the entries ahead of element i; Stop: where it says 'false'. -/
def valSY (fv : Value) (xs : List ByteArray) (R : Nat → List Ent) (Stop : List Ent → Prop) : YCtr := fun v args hs N => v = fv ∧ match hs with
  | e0 :: e1 :: e2 :: rest => ∃ i x, xs[i]? = some x ∧ args = [.str x] ∧ e2 = pk 0 (R i) ∧ N (e0 :: e1 :: pk 0 (R (i + 1)) :: rest) (.bool true) ∧ ∀ R', Stop R' → N (e0 :: e1 :: pk 0 R' :: rest) (.bool false)
  | _ => False
end Go.Proofs.Ytihajdkipkfiiaa

/- YtihajdkipkfiiaaValS1Run -/
namespace Go.Proofs.Ytihajdkipkfiiaa
set_option linter.unusedVariables false
open Go Go.RowKit
set_option maxHeartbeats 0
set_option maxRecDepth 100000
set_option maxRecDepth 100000

theorem vS_start (K : List Frm → Sy → Prop) (X : Code → Sy → Prop) (E : Sy → Prop) (xs : List ByteArray) (bx : Nat) (ao : Option Addr) (cap : Nat) (fv : Value) (R : Nat → List Ent) (Stop : List Ent → Prop) : (runR Try.prog [] (valSY fv xs R Stop) true [] K X E 300 [.code (bodyOf Try.f104)] ⟨padTo 16 [.raw fv, .ptr 0 bx 0], [⟨.blk bx, .cells [.vec 1 ao xs.length cap] 93⟩, ⟨.sl ao cap, .vecL 9 1 encS xs ByteArray.empty⟩, pk 0 (R 0)]⟩) = (
bx = bx ∧
 K (frm [] (bodyOf Try.f104) [1, 0] [])
  (Sy.mk (SV.raw fv :: (SV.ptr 0 bx 0 :: (rawE (SV.vec 1 ao (List.length xs) cap :: (SV.int IntKind.i64 (↑(List.length xs) : Int) :: (SV.int IntKind.i64 (0 : Int) :: (rawE [] 8)))) 3)))
   [Ent.mk (Loc.blk bx) (SObj.cells [SV.vec 1 ao (List.length xs) cap] (93 : TypeId)), Ent.mk (Loc.sl ao cap) (SObj.vecL (9 : TypeId) 1 encS xs ByteArray.empty),
    pk 0 (R 0)])) := by kernel_rfl


theorem vS_body (K : List Frm → Sy → Prop) (X : Code → Sy → Prop) (E : Sy → Prop) (J : Act → World → Prop) (xs : List ByteArray) (bx : Nat) (ao : Option Addr) (cap : Nat) (fv : Value) (R : Nat → List Ent) (Stop : List Ent → Prop) (i : Nat) (u : Nat → Value) : (runR Try.prog [] (valSY fv xs R Stop) true [] K X E 900 (frm [J] (bodyOf Try.f104) [1, 0, 0] []) ⟨mkT u 16 0 [(0, .raw fv), (1, .ptr 0 bx 0), (5, .vec 1 ao xs.length cap), (6, .int .i64 (xs.length : Int)), (7, .int .i64 (i : Int))], [⟨.blk bx, .cells [.vec 1 ao xs.length cap] 93⟩, ⟨.sl ao cap, .vecL 9 1 encS xs ByteArray.empty⟩, pk 0 (R i)]⟩) = (
match decide ((↑i : Int) < (↑(List.length xs) : Int)) with
| true =>
 (ao = ao ∧ cap = cap ∧ List.length xs = List.length xs ∧ (0 : Int) ≤ (↑i : Int) ∧ (↑i : Int) < (↑(List.length xs) : Int)) ∧
  (Addr.blkD ao = Addr.blkD ao ∧ Addr.offD ao = Addr.offD ao ∧ 1 = 1 ∧ Int.toNat (↑i : Int) < List.length xs) ∧
   fv = fv ∧
    ∃ (i_1 : Nat),
     ∃ (x : ByteArray),
      xs[i_1]? = some x ∧
       [SV.str (List.getD xs (Int.toNat (↑i : Int)) ByteArray.empty)] = [SV.str x] ∧
        pk 0 (R i) = pk 0 (R i_1) ∧
         K [Frm.loop J, Frm.blk 0]
          (Sy.mk (SV.raw fv :: (SV.ptr 0 bx 0 :: (SV.raw (u 2) :: (SV.raw (u 3) :: (SV.str (List.getD xs (Int.toNat (↑i : Int)) ByteArray.empty) :: (SV.vec 1 ao (List.length xs) cap :: (SV.int IntKind.i64 (↑(List.length xs) : Int) :: (SV.int IntKind.i64 (IntKind.wrap IntKind.i64 ((↑i : Int) + (1 : Int))) :: (SV.bool true :: (SV.eptr 1 (Addr.blkD ao) (Addr.offD ao) 1 (Int.toNat (↑i : Int)) 0 :: (SV.str (List.getD xs (Int.toNat (↑i : Int)) ByteArray.empty) :: (SV.raw fv :: (SV.str (List.getD xs (Int.toNat (↑i : Int)) ByteArray.empty) :: (SV.bool true :: (SV.bool false :: (SV.int IntKind.i64 (IntKind.wrap IntKind.i64 ((↑i : Int) + (1 : Int))) :: []))))))))))))))))
           [Ent.mk (Loc.blk bx) (SObj.cells [SV.vec 1 ao (List.length xs) cap] (93 : TypeId)), Ent.mk (Loc.sl ao cap) (SObj.vecL (9 : TypeId) 1 encS xs ByteArray.empty),
            pk 0 (R (i_1 + 1))]) ∧
          ∀ (R' : List Ent),
           Stop R' →
            X Code.ret
             (Sy.mk (SV.raw fv :: (SV.ptr 0 bx 0 :: (SV.raw (u 2) :: (SV.raw (u 3) :: (SV.str (List.getD xs (Int.toNat (↑i : Int)) ByteArray.empty) :: (SV.vec 1 ao (List.length xs) cap :: (SV.int IntKind.i64 (↑(List.length xs) : Int) :: (SV.int IntKind.i64 (↑i : Int) :: (SV.bool true :: (SV.eptr 1 (Addr.blkD ao) (Addr.offD ao) 1 (Int.toNat (↑i : Int)) 0 :: (SV.str (List.getD xs (Int.toNat (↑i : Int)) ByteArray.empty) :: (SV.raw fv :: (SV.str (List.getD xs (Int.toNat (↑i : Int)) ByteArray.empty) :: (SV.bool false :: (SV.bool true :: (SV.raw (u 15) :: []))))))))))))))))
              [Ent.mk (Loc.blk bx) (SObj.cells [SV.vec 1 ao (List.length xs) cap] (93 : TypeId)),
               Ent.mk (Loc.sl ao cap) (SObj.vecL (9 : TypeId) 1 encS xs ByteArray.empty), pk 0 R'])
| false =>
 E
  (Sy.mk (SV.raw fv :: (SV.ptr 0 bx 0 :: (rawR u 2 (SV.vec 1 ao (List.length xs) cap :: (SV.int IntKind.i64 (↑(List.length xs) : Int) :: (SV.int IntKind.i64 (↑i : Int) :: (SV.bool false :: (rawR u 9 [] 7))))) 3)))
   [Ent.mk (Loc.blk bx) (SObj.cells [SV.vec 1 ao (List.length xs) cap] (93 : TypeId)), Ent.mk (Loc.sl ao cap) (SObj.vecL (9 : TypeId) 1 encS xs ByteArray.empty),
    pk 0 (R i)])) := by kernel_rfl
end Go.Proofs.Ytihajdkipkfiiaa

/- YtihajdkipkfiiaaValS -/
/- slices.Values: going through a row. -/
namespace Go.Proofs.Ytihajdkipkfiiaa
open Go Go.RowKit
set_option linter.unusedVariables false
set_option linter.unusedSimpArgs false
set_option linter.unnecessarySimpa false
set_option maxHeartbeats 0
theorem hmValS : Try.prog.follows .mixedOrders = true := by kernel_rfl

/-- What the function says of one element. -/
def OneS (fv : Value) (xs : List ByteArray) (R : Nat → List Ent) (Stop : List Ent → Prop) : Prop := ∀ i x, xs[i]? = some x → VSpec Try.prog fv [pk 0 (R i)] [.str x] fun h r => (h = [pk 0 (R (i + 1))] ∧ r = .bool true) ∨ ∃ R', Stop R' ∧ h = [pk 0 R'] ∧ r = .bool false
theorem valSY_ok {fv : Value} {xs : List ByteArray} {R : Nat → List Ent} {Stop : List Ent → Prop} (hV : OneS fv xs R Stop) : YOk Try.prog (valSY fv xs R Stop) := by
  rintro v args hs N ⟨rfl, h⟩
  split at h
  case h_2 => exact h.elim
  rename_i e0 e1 e2 rest
  obtain ⟨i, x, hx, rfl, rfl, hN1, hN2⟩ := h
  refine VSpec.at [2] rfl rfl (hV i x hx) fun h' r hp => ?_
  rcases hp with ⟨rfl, rfl⟩ | ⟨R', hs, rfl, rfl⟩
  · exact ⟨Nat.le_refl _, by simpa [putBack, setN, appE_eq] using hN1⟩
  · exact ⟨Nat.le_refl _, by simpa [putBack, setN, appE_eq] using hN2 R' hs⟩
/-- slices.Values: for each element, as1 far as1 the function wants them. -/
theorem valS_iter {fv : Value} {xs : List ByteArray} {bx : Nat} {ao : Option Addr} {cap : Nat} {R : Nat → List Ent} {Stop : List Ent → Prop} (hx : xs.length ≤ 1000000) (hV : OneS fv xs R Stop) :
    Spec Try.prog 104 [⟨.blk bx, .cells [.vec 1 ao xs.length cap] 93⟩, ⟨.sl ao cap, .vecL 9 1 encS xs ByteArray.empty⟩, pk 0 (R 0)] [.raw fv, .ptr 0 bx 0] fun h' r => r = .tuple [] ∧ (h' = [⟨.blk bx, .cells [.vec 1 ao xs.length cap] 93⟩, ⟨.sl ao cap, .vecL 9 1 encS xs ByteArray.empty⟩, pk 0 (R xs.length)] ∨ ∃ R', Stop R' ∧ h' = [⟨.blk bx, .cells [.vec 1 ao xs.length cap] 93⟩, ⟨.sl ao cap, .vecL 9 1 encS xs ByteArray.empty⟩, pk 0 R']) := by
  refine Spec.up ?_
  refine Spec.of_GR 16 Try.func104 (c := bodyOf Try.f104) (by kernel_rfl) (by kernel_rfl) (Nat.le_of_ble_eq_true rfl) fun W F => ?_
  refine runR_sound (kc := true) (ss := []) (Cs := []) (fun _ _ h => h) trivial (valSY_ok hV) hmValS Ends.fn 300 _ _ ?_
  rw [vS_start]
  try refine ⟨rfl, ?_⟩
  refine GR_loopAt (ι := Nat) [] (bodyOf Try.f104) [1, 0] 16 (fun i => [(0, .raw fv), (1, .ptr 0 bx 0), (5, .vec 1 ao xs.length cap), (6, .int .i64 (xs.length : Int)), (7, .int .i64 (i : Int))]) (fun i => [⟨.blk bx, .cells [.vec 1 ao xs.length cap] 93⟩, ⟨.sl ao cap, .vecL 9 1 encS xs ByteArray.empty⟩, pk 0 (R i)]) (fun i => i ≤ xs.length) (fun i => xs.length - i) 0 (by kernel_rfl) (fun J => by kernel_rfl) (Nat.zero_le _) rfl ⟨rfl, rfl, rfl, rfl, rfl, trivial⟩ (fun w hw => hw) fun i hi u => ?_
  simp only [List.nil_append, List.cons_append]
  refine runR_sound (kc := true) (ss := []) (Cs := []) (fun _ _ h => h) trivial (valSY_ok hV) hmValS Ends.fn 900 _ _ ?_
  rw [vS_body]
  cases hlt : decide ((i : Int) < (xs.length : Int)) with
  | false =>
    simp only [decide_eq_false_iff_not] at hlt
    obtain rfl : i = xs.length := by omega
    exact ⟨_, _, fun W F w hr => hr, rfl, rfl, .inl rfl⟩
  | true =>
    simp only [decide_eq_true_eq] at hlt
    have hi' : i < xs.length := by omega
    have t2 : IntKind.wrap .i64 ((i : Int) + 1) = ((i + 1 : Nat) : Int) := IntWalk.i64_in _ (by omega)
    have hk : xs.getD i ByteArray.empty = xs[i] := by simp [List.getD, hi']
    rw [Int.toNat_natCast, hk]
    refine ⟨⟨rfl, rfl, rfl, by omega, by omega⟩, ⟨rfl, rfl, rfl, hi'⟩, ?_⟩
    repeat' first
      | exact rfl
      | (refine ⟨i, xs[i], List.getElem?_eq_getElem hi', rfl, rfl, ?_, fun R' hst => ?_⟩)
      | (refine GR_back (i + 1) (by omega) (by omega) rfl ⟨rfl, rfl, rfl, rfl, congrArg (Value.int .i64) t2, trivial⟩ (fun w hr => hr))
      | exact ⟨_, _, fun W F w hr => hr, rfl, rfl, .inr ⟨R', hst, rfl⟩⟩
      | apply And.intro
      | fail
end Go.Proofs.Ytihajdkipkfiiaa

/- YtihajdkipkfiiaaGa -/
/- cgroup.Groups: Of, Members, names, All. -/
namespace Go.Proofs.Ytihajdkipkfiiaa
open Go Go.RowKit
set_option linter.unusedVariables false
set_option linter.unusedSimpArgs false
set_option linter.unnecessarySimpa false
set_option maxHeartbeats 0
open Go.Maps Go.Sort Go.Shelf
theorem hmA : Try.prog.follows .mixedOrders = true := by kernel_rfl
theorem setN_selfA {α : Type 1} {l : Nat} {v : α} : ∀ {h : List α}, nth h l = some v → setN h l v = h := by
  induction l with
  | zero => intro h hl; cases h <;> simp [nth, setN] at hl ⊢; exact hl.symm
  | succ l ih => intro h hl; cases h <;> simp [nth, setN] at hl ⊢; exact ih hl
theorem srtQ_ok {fI T : Nat} (hT : T = 3) (hI : CtrOk Try.prog 80 (srtIC fI T)) (hg : ∃ fn, Try.prog.funcs[fI]? = some fn ∧ (fn.name == "runtime.NumGoroutine") = false ∧ ∃ c, fn.body = some c)
    (hK : ∀ (w : World) (b : Nat), b < w.heap.size → w.cell? ⟨b, 0, none⟩ = some (.map none) → SeqGives Fence.wide 2 Try.prog fI #[.pointer (some ⟨b, 0, none⟩)] encZ (fun ss => ss = []) 0 w) : CtrOk Try.prog 80 (srtQC fI T) := by
  subst hT
  intro args hs N h
  unfold srtQC at h
  split at h
  case h_2 => exact h.elim
  rename_i f lb b
  obtain ⟨hf, h⟩ := h
  split at h
  case h_3 => exact h.elim
  · rename_i b' lm rm T' hlb
    refine hI _ hs N ?_
    unfold srtIC
    exact ⟨hf, by rw [hlb]; exact h⟩
  · rename_i b' T' hlb
    subst hf
    obtain ⟨rfl, h⟩ := h
    intro W F w hr
    obtain ⟨fn, g1, g2, c, g3⟩ := hg
    have hcell : w.cell? ⟨b', 0, none⟩ = some (.map none) := by rw [hr.cells hlb]; rfl
    have hb : b' < w.heap.size := World.block_lt_of_cell? _ _ hcell
    have hseq := hK w b' hb hcell
    have cS := AnyZI.sorted_in sortedI Fence.wide 5 trivial trivial trivial trivial rfl (by omega) (sortsI _) (enters_of Try.func100 (by kernel_rfl) rfl) f #[.pointer (some ⟨b', 0, none⟩)] trivial (enters_of g1 g2 g3) _ _ (by unfold maxLen; omega) (by omega) _ hseq
    refine Calls.mono ((callsIn_wide (n := 5)).1 cS) ?_
    rintro e w' ⟨v, ss, rfl, hS, hrow, hnil, hbel⟩
    subst hS
    have hm : ([] : List Int).mergeSort leI = [] := by simp
    rcases hrow.2 with ⟨rfl, h0⟩ | ⟨g, cap, cur, rfl, hge, hgb, hle, hcap, hsz, htk⟩
    · refine ⟨_, _, h none 0, rfl, ?_⟩
      have hr' : Rep W F hs w' := hr.move fun L hL => hL.below hbel
      exact Rep.nilvec _ (sz := 1) (enc := encI1) 0 (fun _ => rfl) hr'
    · refine ⟨_, _, h (some ⟨g, 0, none⟩) cap, rfl, ?_⟩
      refine hr.new (c := [(g, .cells cur _ (0, 0))]) ⟨⟨by simp [flatV], by simp, .inr ⟨g, 0, cur, rfl, rfl, by have := hsz; simp at this; omega, by simp [flatV]⟩⟩, fun _ => rfl⟩ fun L hL => hL.grow hbel hge hgb
theorem gaT0_ok : AllOk Try.prog gaT0 := ⟨inl_ok trivial hmA Try.func96 (by kernel_rfl),
  srtQ_ok rfl (srtI_ok rfl ⟨_, Try.func110, by kernel_rfl, _, rfl⟩ (fun w b rm nn D0 h1 h2 h3 => AnyZI.keys_gives (ρ := keysG_ren) { keysG with } Fence.wide _ trivial rfl (by omega) b rm nn D0 w h1 h2 h3)) ⟨_, Try.func110, by kernel_rfl, _, rfl⟩
    (fun w b h1 h2 => AnyZI.keys_gives_nil (ρ := keysG_ren) { keysG with } Fence.wide _ trivial rfl b w h1 h2), trivial⟩
theorem gaT_ok : AllOk Try.prog gaT := ⟨inl_ok gaT0_ok hmA Try.func73 (by kernel_rfl), gaT0_ok⟩
theorem gnT_ok : AllOk Try.prog gnT := ⟨inl_ok trivial hmA Try.func109 (by kernel_rfl), srtS_ok rfl ⟨_, Try.func116, by kernel_rfl, _, rfl⟩ (fun w b rm nn D0 h1 h2 h3 => AnyZ.keys_gives (ρ := keysM_ren) { keysM with } Fence.wide _ trivial rfl (by omega) b rm nn D0 w h1 h2 h3), inl_ok trivial hmA Try.func86 (by kernel_rfl), trivial⟩
theorem gOf_ok : CtrOk Try.prog 65 (adtC grpE gofM) := adt_ok fun b s rest N h => by
  unfold gofM at h
  split at h
  case h_2 => exact h.elim
  rename_i pid
  cases hg : mget s.of (.i .i64 pid) with
  | none =>
    rw [hg] at h
    refine Spec.pre (hs' := [⟨.blk b, .cells [.map 1 s.bg, .map 2 s.bo, .vec 3 s.ao s.notes.length s.cap] 118⟩, ⟨.blk s.bg, .mapL none encG s.gs⟩, ⟨.blk s.bo, .map1 (some .i64) encO s.of (.i .i64 pid) none⟩, ⟨.sl s.ao s.cap, .vecL 9 1 encS s.notes ByteArray.empty⟩, pk 0 (s.gs.map setE)]) (fun W F w hr => Rep.know1 (l := 2) (.i .i64 pid) none rfl rfl (by rw [hg]; rfl) hr) rfl ?_
    refine Spec.of_G 19 Try.func65 (c := bodyOf Try.f65) (by kernel_rfl) (by kernel_rfl) (Nat.le_of_ble_eq_true rfl) fun W F => ?_
    refine G_run (kc := false) (ss := []) (Cs := []) trivial hmA 600 ?_
    rw [gOf_none (n := ByteArray.empty)]
    exact ⟨rfl, ⟨rfl, rfl, rfl⟩, s, fun W F w hr => Rep.forget1 (l := 2) rfl hr, h⟩
  | some n =>
    rw [hg] at h
    refine Spec.pre (hs' := [⟨.blk b, .cells [.map 1 s.bg, .map 2 s.bo, .vec 3 s.ao s.notes.length s.cap] 118⟩, ⟨.blk s.bg, .mapL none encG s.gs⟩, ⟨.blk s.bo, .map1 (some .i64) encO s.of (.i .i64 pid) (some (.str n))⟩, ⟨.sl s.ao s.cap, .vecL 9 1 encS s.notes ByteArray.empty⟩, pk 0 (s.gs.map setE)]) (fun W F w hr => Rep.know1 (l := 2) (.i .i64 pid) (some (.str n)) rfl rfl (by rw [hg]; rfl) hr) rfl ?_
    refine Spec.of_G 19 Try.func65 (c := bodyOf Try.f65) (by kernel_rfl) (by kernel_rfl) (Nat.le_of_ble_eq_true rfl) fun W F => ?_
    refine G_run (kc := false) (ss := []) (Cs := []) trivial hmA 600 ?_
    rw [gOf_some]
    exact ⟨rfl, ⟨rfl, rfl, rfl⟩, s, fun W F w hr => Rep.forget1 (l := 2) rfl hr, h⟩
theorem gMb_ok : CtrOk Try.prog 18 membersNC := by
  intro args hs N h
  unfold membersNC at h
  split at h
  case h_2 => exact h.elim
  rename_i l b name
  split at h
  case h_2 => exact h.elim
  rename_i b' σ' p s hl
  obtain ⟨rfl, rfl, hp, hw, hN⟩ := h
  cases hp
  simp only [cast_eq] at hw hN
  refine Spec.at (hp := [pkA b' grpE s]) (args' := [.ptr 0 b' 0, .str name]) (Post' := fun h' r => ∃ ao cap, h' = [pkA b' grpE s, ⟨.sl ao cap, .vecL 3 1 encI1 (memG s name) 0⟩] ∧ r = .vec 1 ao (memG s name).length cap) [l] (by simp [distinct]) (by simp [pickE, hl, pkA]) ?_ rfl ?_
  · refine Spec.up ?_
    cases hx : mget s.gs (.s name) with
    | none =>
      have e : memG s name = [] := by simp only [memG, hx]
      rw [e]
      refine Spec.pre (hs' := [⟨.blk b', .cells [.map 1 s.bg, .map 2 s.bo, .vec 3 s.ao s.notes.length s.cap] 118⟩, ⟨.blk s.bg, .map1 none encG s.gs (.s name) none⟩, ⟨.blk s.bo, .mapL (some .i64) encO s.of⟩, ⟨.sl s.ao s.cap, .vecL 9 1 encS s.notes ByteArray.empty⟩, pk 0 (s.gs.map setE)]) (fun W F w hr => Rep.know1 (l := 1) (.s name) none rfl rfl (by rw [hx]; rfl) hr.unpkA1) rfl ?_
      refine Spec.of_G 12 Try.func18 (c := bodyOf Try.f18) (by kernel_rfl) (by kernel_rfl) (Nat.le_of_ble_eq_true rfl) fun W F => ?_
      refine G_run (kc := true) (ss := []) gaT_ok hmA 600 ?_
      rw [gMb_none]
      have fin : ∀ (ao : Option Addr) (cap b1 : Nat), up (fun h' r => ∃ ao cap, h' = [pkA b' grpE s, ⟨.sl ao cap, .vecL 3 1 encI1 [] 0⟩] ∧ r = .vec 1 ao ([] : List Int).length cap) [⟨.blk b', .cells [.map 1 s.bg, .map 2 s.bo, .vec 3 s.ao s.notes.length s.cap] 118⟩, ⟨.blk s.bg, .map1 none encG s.gs (.s name) none⟩, ⟨.blk s.bo, .mapL (some .i64) encO s.of⟩, ⟨.sl s.ao s.cap, .vecL 9 1 encS s.notes ByteArray.empty⟩, pk 0 (s.gs.map setE), ⟨.blk b1, .cells [.raw (.map none)] 120⟩, ⟨.sl ao cap, .vecL 3 1 encI1 [] 0⟩] (.vec 6 ao 0 cap) := fun ao cap b1 => by
        refine ⟨[pkA b' grpE s, ⟨.sl ao cap, .vecL 3 1 encI1 [] 0⟩], .vec 1 ao 0 cap, fun W F w hr => ?_, rfl, ao, cap, rfl, rfl⟩
        have h1 := Rep.forget1 (l := 1) rfl hr
        have h2 := Rep.pick (π := [0, 1, 2, 3, 4, 6]) (by decide) rfl h1
        exact Rep.pkA (S := grpE) (s := s) (t := [_]) h2
      repeat' first
        | exact rfl
        | exact HEq.rfl
        | exact fin _ _ _
        | apply And.intro
        | (refine fun _ => ?_)
        | fail
    | some v =>
      obtain ⟨nb, ms⟩ := v
      have hwf := hw _ hx
      have e : memG s name = sortI ms := by simp only [memG, hx]
      rw [e]
      obtain ⟨x, y, hs, _, _⟩ := gs_split hx
      refine Spec.pre (hs' := [⟨.blk b', .cells [.map 1 s.bg, .map 2 s.bo, .vec 3 s.ao s.notes.length s.cap] 118⟩, ⟨.blk s.bg, .map1 none encG s.gs (.s name) (some (.map 4 nb))⟩, ⟨.blk s.bo, .mapL (some .i64) encO s.of⟩, ⟨.sl s.ao s.cap, .vecL 9 1 encS s.notes ByteArray.empty⟩, ⟨.blk nb, .mapL (some .i64) encU ms⟩, pk 0 (x.map setE ++ y.map setE)]) (fun W F w hr => Rep.know1 (l := 1) (.s name) (some (.map 4 nb)) rfl rfl (by rw [hx]; rfl) (grp_open hs hr.unpkA1)) rfl ?_
      refine Spec.of_G 12 Try.func18 (c := bodyOf Try.f18) (by kernel_rfl) (by kernel_rfl) (Nat.le_of_ble_eq_true rfl) fun W F => ?_
      refine G_run (kc := true) (ss := []) gaT_ok hmA 600 ?_
      rw [gMb_some]
      have fin : ∀ (ao : Option Addr) (cap b1 : Nat), up (fun h' r => ∃ ao cap, h' = [pkA b' grpE s, ⟨.sl ao cap, .vecL 3 1 encI1 (sortI ms) 0⟩] ∧ r = .vec 1 ao (sortI ms).length cap) [⟨.blk b', .cells [.map 1 s.bg, .map 2 s.bo, .vec 3 s.ao s.notes.length s.cap] 118⟩, ⟨.blk s.bg, .map1 none encG s.gs (.s name) (some (.map 4 nb))⟩, ⟨.blk s.bo, .mapL (some .i64) encO s.of⟩, ⟨.sl s.ao s.cap, .vecL 9 1 encS s.notes ByteArray.empty⟩, ⟨.blk nb, .mapL (some .i64) encU ms⟩, pk 0 (x.map setE ++ y.map setE), ⟨.blk b1, .cells [.map 4 nb] 120⟩, ⟨.sl ao cap, .vecL 3 1 encI1 (sortI ms) 0⟩] (.vec 7 ao (sortI ms).length cap) := fun ao cap b1 => by
        refine ⟨[pkA b' grpE s, ⟨.sl ao cap, .vecL 3 1 encI1 (sortI ms) 0⟩], .vec 1 ao (sortI ms).length cap, fun W F w hr => ?_, rfl, ao, cap, rfl, rfl⟩
        have h1 := Rep.forget1 (l := 1) rfl hr
        have h2 := Rep.intoP (p := [⟨.blk b', .cells [.map 1 s.bg, .map 2 s.bo, .vec 3 s.ao s.notes.length s.cap] 118⟩, ⟨.blk s.bg, .mapL none encG s.gs⟩, ⟨.blk s.bo, .mapL (some .i64) encO s.of⟩, ⟨.sl s.ao s.cap, .vecL 9 1 encS s.notes ByteArray.empty⟩]) (t := [_, _]) (e := setE (.s name, (nb, ms))) h1
        have h3 := Rep.pick (π := [0, 1, 2, 3, 4, 6]) (by decide) rfl h2
        have e : x.map setE ++ setE (.s name, (nb, ms)) :: y.map setE = s.gs.map setE := by rw [hs]; simp
        rw [e] at h3
        exact Rep.pkA (S := grpE) (s := s) (t := [_]) h3
      repeat' first
        | exact rfl
        | exact HEq.rfl
        | exact hwf
        | exact fin _ _ _
        | apply And.intro
        | (refine fun _ => ?_)
        | fail
  · rintro h' r ⟨ao, cap, rfl, rfl⟩
    refine ⟨Nat.le_of_ble_eq_true rfl, .vec (lenN hs) ao (memG s name).length cap, rfl, ?_⟩
    have := hN ao cap
    have e0 : setN hs l (pkA b' grpE s) = hs := setN_selfA hl
    simpa [putBack, appE_eq, snoc_eq, e0] using this
theorem gNm_ok : CtrOk Try.prog 94 namesC := by
  intro args hs N h
  unfold namesC at h
  split at h
  case h_2 => exact h.elim
  rename_i l b
  split at h
  case h_2 => exact h.elim
  rename_i b' σ' p s hl
  obtain ⟨rfl, rfl, hp, hw, hN⟩ := h
  cases hp
  simp only [cast_eq] at hw hN
  refine Spec.at (hp := [pkA b' grpE s]) (args' := [.ptr 0 b' 0]) (Post' := fun h' r => ∃ ao cap bx, h' = [pkA b' grpE s, ⟨.sl ao cap, .vecL 9 1 encS (sortS s.gs) ByteArray.empty⟩, ⟨.blk bx, .cells [.vec (lenN hs) ao (sortS s.gs).length cap] 93⟩] ∧ r = .func (.func 104) [] [.ptr 2 bx 0]) [l] (by simp [distinct]) (by simp [pickE, hl, pkA]) ?_ rfl ?_
  · refine Spec.up ?_
    refine Spec.pre (hs' := [⟨.blk b', .cells [.map 1 s.bg, .map 2 s.bo, .vec 3 s.ao s.notes.length s.cap] 118⟩, ⟨.blk s.bg, .mapL none encG s.gs⟩, ⟨.blk s.bo, .mapL (some .i64) encO s.of⟩, ⟨.sl s.ao s.cap, .vecL 9 1 encS s.notes ByteArray.empty⟩, pk 0 (s.gs.map setE)]) (args' := [.ptr 0 b' 0]) (fun W F w hr => hr.unpkA1) rfl ?_
    refine Spec.of_G 10 Try.func94 (c := bodyOf Try.f94) (by kernel_rfl) (by kernel_rfl) (Nat.le_of_ble_eq_true rfl) fun W F => ?_
    refine G_run (kc := true) (ss := []) gnT_ok hmA 600 ?_
    rw [gNm_run]
    have fin : ∀ (ao : Option Addr) (cap b1 bx : Nat), up (fun h' r => ∃ ao cap bx, h' = [pkA b' grpE s, ⟨.sl ao cap, .vecL 9 1 encS (sortS s.gs) ByteArray.empty⟩, ⟨.blk bx, .cells [.vec (lenN hs) ao (sortS s.gs).length cap] 93⟩] ∧ r = .func (.func 104) [] [.ptr 2 bx 0]) [⟨.blk b', .cells [.map 1 s.bg, .map 2 s.bo, .vec 3 s.ao s.notes.length s.cap] 118⟩, ⟨.blk s.bg, .mapL none encG s.gs⟩, ⟨.blk s.bo, .mapL (some .i64) encO s.of⟩, ⟨.sl s.ao s.cap, .vecL 9 1 encS s.notes ByteArray.empty⟩, pk 0 (s.gs.map setE), ⟨.blk b1, .cells [.map 1 s.bg] 115⟩, ⟨.sl ao cap, .vecL 9 1 encS1 (sortS s.gs) ByteArray.empty⟩, ⟨.blk bx, .cells [.vec 6 ao (sortS s.gs).length cap] 93⟩] (.func (.func 104) [] [.ptr 7 bx 0]) := fun ao cap b1 bx => by
      refine ⟨[pkA b' grpE s, ⟨.sl ao cap, .vecL 9 1 encS (sortS s.gs) ByteArray.empty⟩, ⟨.blk bx, .cells [.vec (lenN hs) ao (sortS s.gs).length cap] 93⟩], .func (.func 104) [] [.ptr 2 bx 0], fun W F w hr => ?_, rfl, ao, cap, bx, rfl, rfl⟩
      have h2 := Rep.pick (π := [0, 1, 2, 3, 4, 6, 7]) (by decide) rfl hr
      have h3 := Rep.cellsEq (l := 6) (cs' := [.vec (lenN hs) ao (sortS s.gs).length cap]) rfl (by rfl) h2
      exact Rep.pkA (S := grpE) (s := s) (t := [_, _]) h3
    repeat' first
      | exact rfl
      | exact HEq.rfl
      | exact hw
      | exact fin _ _ _ _
      | apply And.intro
      | (refine fun _ => ?_)
      | fail
  · rintro h' r ⟨ao, cap, bx, rfl, rfl⟩
    refine ⟨by simp [lenN], .func (.func 104) [] [.ptr (lenN hs + 1) bx 0], rfl, ?_⟩
    have e0 : setN hs l (pkA b' grpE s) = hs := setN_selfA hl
    have := hN ao cap bx
    simpa [putBack, appE_eq, snoc_eq, e0] using this

/-- What the function says of one group. -/
def OneG (fv : Value) (s : Grp) (b : Nat) (ns : List ByteArray) (R : Nat → List Ent) (Stop : List Ent → Prop) : Prop := ∀ i x, ns[i]? = some x → ∀ (ao : Option Addr) (cap : Nat),
  VSpec Try.prog fv [pkA b grpE s, pk 0 (R i), ⟨.sl ao cap, .vecL 3 1 encI1 (memG s x) 0⟩] [.str x, .vec 2 ao (memG s x).length cap] fun h r =>
    (h = [pkA b grpE s, pk 0 (R (i + 1)), ⟨.sl ao cap, .vecL 3 1 encI1 (memG s x) 0⟩] ∧ r = .bool true) ∨ ∃ R', Stop R' ∧ h = [pkA b grpE s, pk 0 R', ⟨.sl ao cap, .vecL 3 1 encI1 (memG s x) 0⟩] ∧ r = .bool false
theorem allGY_ok {fv : Value} {s : Grp} {b : Nat} {ns : List ByteArray} {R : Nat → List Ent} {Stop : List Ent → Prop} (hV : OneG fv s b ns R Stop) : YOk Try.prog (allGY fv s b ns R Stop) := by
  rintro v args hs N ⟨rfl, h⟩
  split at h
  case h_2 => exact h.elim
  rename_i e0 e1 e2 e3 e4 e5 e6 rest
  obtain ⟨i, x, ao, cap, hx, rfl, rfl, rfl, rfl, hN1, hN2⟩ := h
  refine VSpec.at [0, 3, 6] rfl rfl (VSpec.conv (fun W F w hr => hr) (args' := [.str x, .vec 2 ao (memG s x).length cap]) rfl (hV i x hx ao cap) fun h' r hq => ⟨h', r, fun W F w hr => hr, rfl, hq⟩) fun h' r hp => ?_
  rcases hp with ⟨rfl, rfl⟩ | ⟨R', hs, rfl, rfl⟩
  · exact ⟨Nat.le_refl _, by simpa [putBack, setN, appE_eq] using hN1⟩
  · exact ⟨Nat.le_refl _, by simpa [putBack, setN, appE_eq] using hN2 R' hs⟩
def agR (s : Grp) (b bx by_ : Nat) (fv : Value) (D l : Nat) (rc : Loop) (R : Nat → List Ent) (i : Nat) : List Ent := [pkA b grpE s, ⟨.blk bx, .cells [.ptr 0 b 0] 25⟩, ⟨.blk by_, .cells [.raw fv] 113⟩, pk 0 (R i), dent D true, lp l rc .ready none]
section
variable {s : Grp} {b bx by_ D l : Nat} {fv : Value} {rc : Loop} {R : Nat → List Ent} {Stop : List Ent → Prop} {T : List SV}
theorem al9_V (hm : ∀ n, memGOk s n) (hV : OneG fv s b (sortS s.gs) R Stop) (hrt : rc.tmps = (denL T).toArray) (hrp : rc.params = rfP (codeAt (bodyOf Try.f93) [1, 1, 0])) (hra : rc.assign = rfA (codeAt (bodyOf Try.f93) [1, 1, 0])) (hrb : rc.body = rfB (codeAt (bodyOf Try.f93) [1, 1, 0]))
    (hl : ∀ v, lenN (setMany T [6] [v]) = 14 ∧ liveOk (setMany T [6] [v]) [(1, .ptr 1 bx 0), (2, .ptr 2 by_ 0), (6, v)]) :
    OneS (.func (.yield l) #[] #[]) (sortS s.gs) (agR s b bx by_ fv D l rc R) (fun R' => ∃ R'', Stop R'' ∧ R' = [pkA b grpE s, ⟨.blk bx, .cells [.ptr 0 b 0] 25⟩, ⟨.blk by_, .cells [.raw fv] 113⟩, pk 0 (R''), dent D true, lp l rc .done (some .ret)]) := by
  intro i x hxi
  refine VSpec.conv (hs' := agR s b bx by_ fv D l rc R i) (args' := [.str x]) (Post' := fun h r => (h = agR s b bx by_ fv D l rc R (i + 1) ∧ r = .bool true) ∨ ∃ R'', Stop R'' ∧ h = [pkA b grpE s, ⟨.blk bx, .cells [.ptr 0 b 0] 25⟩, ⟨.blk by_, .cells [.raw fv] 113⟩, pk 0 (R''), dent D true, lp l rc .done (some .ret)] ∧ r = .bool false) (fun W F w hr => by have := Rep.unpk hr; simpa using this) rfl (.inr ⟨l, rfl, ?_⟩) ?_
  · unfold agR
    refine YSpec.up (YSpec.of_GR (p := 5) (T0 := T) (ps := [6]) rfl hrt hrp hra hrb rfl rfl fun W F => ?_)
    refine GR_live 14 [(1, .ptr 1 bx 0), (2, .ptr 2 by_ 0), (6, .str x)] [pkA b grpE s, ⟨.blk bx, .cells [.ptr 0 b 0] 25⟩, ⟨.blk by_, .cells [.raw fv] 113⟩, pk 0 (R i), dent D true, lp l rc .ready none] (hl _).1 (hl _).2 (fun _ h => h) fun u => ?_
    refine runR_sound (kc := true) (ss := []) (Cs := []) (Y := noY) (K := fun _ _ => False) (fun _ _ h => h.elim) trivial (noY_ok _) hmA Ends.assign 60 _ _ ?_
    rw [al9_asg]
    refine ⟨rfl, ?_⟩
    refine GR_live 14 [(1, .ptr 1 bx 0), (2, .ptr 2 by_ 0), (3, .str x)] [pkA b grpE s, ⟨.blk bx, .cells [.ptr 0 b 0] 25⟩, ⟨.blk by_, .cells [.raw fv] 113⟩, pk 0 (R i), dent D true, lp l rc .busy none] rfl ⟨rfl, rfl, rfl, trivial⟩ (fun w hr => hr) fun u => ?_
    refine runR_sound (kc := true) (ss := []) (Cs := [(18, membersNC)]) (Y := allGY fv s b (sortS s.gs) R Stop) (K := fun _ _ => False) (fun _ _ h => h.elim) ⟨gMb_ok, trivial⟩ (allGY_ok hV) hmA (Ends.round (p := 5) (rc := rc) (j := none)) 600 _ _ ?_
    rw [al9_body]
    have c1 : ∀ (tm : List SV) (ao : Option Addr) (cap : Nat), roundE l 5 rc none (up fun h r => (h = [pkA b grpE s, ⟨.blk bx, .cells [.ptr 0 b 0] 25⟩, ⟨.blk by_, .cells [.raw fv] 113⟩, pk 0 (R (i + 1)), dent D true, lp l rc .ready none] ∧ r = .bool true) ∨ ∃ R'', Stop R'' ∧ h = [pkA b grpE s, ⟨.blk bx, .cells [.ptr 0 b 0] 25⟩, ⟨.blk by_, .cells [.raw fv] 113⟩, pk 0 (R''), dent D true, lp l rc .done (some .ret)] ∧ r = .bool false) ⟨tm, [pkA b grpE s, ⟨.blk bx, .cells [.ptr 0 b 0] 25⟩, ⟨.blk by_, .cells [.raw fv] 113⟩, pk 0 (R (i + 1)), dent D true, lp l rc .busy none, ⟨.sl ao cap, .vecL 3 1 encI1 (memG s x) 0⟩]⟩ := fun tm ao cap =>
      ⟨rfl, [pkA b grpE s, ⟨.blk bx, .cells [.ptr 0 b 0] 25⟩, ⟨.blk by_, .cells [.raw fv] 113⟩, pk 0 (R (i + 1)), dent D true, lp l rc .ready none], .bool true, fun W F w hr => Rep.dropR (h := [pkA b grpE s, ⟨.blk bx, .cells [.ptr 0 b 0] 25⟩, ⟨.blk by_, .cells [.raw fv] 113⟩, pk 0 (R (i + 1)), dent D true, lp l rc .ready none]) (t := [_]) hr, rfl, .inl ⟨rfl, rfl⟩⟩
    have c2 : ∀ (tm : List SV) (ao : Option Addr) (cap : Nat) (R' : List Ent), Stop R' → roundX l 5 rc none (up fun h r => (h = [pkA b grpE s, ⟨.blk bx, .cells [.ptr 0 b 0] 25⟩, ⟨.blk by_, .cells [.raw fv] 113⟩, pk 0 (R (i + 1)), dent D true, lp l rc .ready none] ∧ r = .bool true) ∨ ∃ R'', Stop R'' ∧ h = [pkA b grpE s, ⟨.blk bx, .cells [.ptr 0 b 0] 25⟩, ⟨.blk by_, .cells [.raw fv] 113⟩, pk 0 (R''), dent D true, lp l rc .done (some .ret)] ∧ r = .bool false) .ret ⟨tm, [pkA b grpE s, ⟨.blk bx, .cells [.ptr 0 b 0] 25⟩, ⟨.blk by_, .cells [.raw fv] 113⟩, pk 0 (R'), dent D true, lp l rc .busy none, ⟨.sl ao cap, .vecL 3 1 encI1 (memG s x) 0⟩]⟩ := fun tm ao cap R' hs =>
      ⟨rfl, [pkA b grpE s, ⟨.blk bx, .cells [.ptr 0 b 0] 25⟩, ⟨.blk by_, .cells [.raw fv] 113⟩, pk 0 (R'), dent D true, lp l rc .done (some .ret)], .bool false, fun W F w hr => Rep.dropR (h := [pkA b grpE s, ⟨.blk bx, .cells [.ptr 0 b 0] 25⟩, ⟨.blk by_, .cells [.raw fv] 113⟩, pk 0 (R'), dent D true, lp l rc .done (some .ret)]) (t := [_]) hr, rfl, .inr ⟨R', hs, rfl, rfl⟩⟩
    repeat' first
      | exact rfl
      | exact HEq.rfl
      | exact hm x
      | exact c1 _ _ _
      | exact c2 _ _ _ _ (by assumption)
      | (refine ⟨i, x, _, _, hxi, rfl, rfl, rfl, rfl, ?_, fun R' hst => ?_⟩)
      | exact trivial
      | (refine ⟨rfl, ?_⟩)
      | apply And.intro
      | (refine fun _ => ?_)
      | fail
  · rintro h' r (⟨rfl, rfl⟩ | ⟨R'', hs, rfl, rfl⟩)
    · exact ⟨[pk 0 (agR s b bx by_ fv D l rc R (i + 1))], .bool true, fun W F w hr => Rep.pk (t := []) 0 (by simpa using hr), rfl, .inl ⟨rfl, rfl⟩⟩
    · exact ⟨[pk 0 [pkA b grpE s, ⟨.blk bx, .cells [.ptr 0 b 0] 25⟩, ⟨.blk by_, .cells [.raw fv] 113⟩, pk 0 (R''), dent D true, lp l rc .done (some .ret)]], .bool false, fun W F w hr => Rep.pk (t := []) 0 (by simpa using hr), rfl, .inr ⟨_, ⟨R'', hs, rfl⟩, rfl, rfl⟩⟩
end
/-- All's function: for each group by its name, as1 far as1 the function wants them. -/
theorem allG_iter {fv : Value} {s : Grp} {b bx : Nat} {R : Nat → List Ent} {Stop : List Ent → Prop} (hf : ∃ fn first cap, fv = .func fn first cap) (hw : wfS s.gs) (hl6 : (sortS s.gs).length ≤ 1000000) (hm : ∀ n, memGOk s n) (hV : OneG fv s b (sortS s.gs) R Stop) :
    Spec Try.prog 93 [pkA b grpE s, ⟨.blk bx, .cells [.ptr 0 b 0] 25⟩, pk 0 (R 0)] [.raw fv, .ptr 1 bx 0] fun h' r => r = .tuple [] ∧ (h' = [pkA b grpE s, ⟨.blk bx, .cells [.ptr 0 b 0] 25⟩, pk 0 (R (sortS s.gs).length)] ∨ ∃ R', Stop R' ∧ h' = [pkA b grpE s, ⟨.blk bx, .cells [.ptr 0 b 0] 25⟩, pk 0 R']) := by
  refine Spec.up ?_
  refine Spec.of_GR 14 Try.func93 (c := bodyOf Try.f93) (by kernel_rfl) (by kernel_rfl) (Nat.le_of_ble_eq_true rfl) fun W F => ?_
  refine runR_sound (kc := true) (ss := []) (Cs := [(94, namesC)]) (fun _ _ h => h) ⟨gNm_ok, trivial⟩ (noY_ok _) hmA Ends.fn 300 _ _ ?_
  rw [al9_start]
  obtain ⟨ff, f1, f2, rfl⟩ := hf
  refine ⟨rfl, fun by_ => ⟨rfl, rfl, rfl, rfl, HEq.rfl, hw, fun aw cw bv => ?_⟩⟩
  generalize Value.func ff f1 f2 = fv at hV ⊢
  refine GR_rangeAt [] (bodyOf Try.f93) [1, 1, 0] (f := 104) (first := []) (captured := [.ptr 5 bv 0]) (by kernel_rfl) (by kernel_rfl) (by kernel_rfl) fun D l rc hrt hrp hra hrb =>
    ⟨fun h _ => h = [pkA b grpE s, ⟨.blk bx, .cells [.ptr 0 b 0] 25⟩, ⟨.blk by_, .cells [.raw fv] 113⟩, pk 0 (R (sortS s.gs).length), dent D true, lp l rc .ready none, ⟨.blk bv, .cells [.vec 1 aw (sortS s.gs).length cw] 93⟩, ⟨.sl aw cw, .vecL 9 1 encS (sortS s.gs) ByteArray.empty⟩] ∨ ∃ R'', Stop R'' ∧ h = [pkA b grpE s, ⟨.blk bx, .cells [.ptr 0 b 0] 25⟩, ⟨.blk by_, .cells [.raw fv] 113⟩, pk 0 (R''), dent D true, lp l rc .done (some .ret), ⟨.blk bv, .cells [.vec 1 aw (sortS s.gs).length cw] 93⟩, ⟨.sl aw cw, .vecL 9 1 encS (sortS s.gs) ByteArray.empty⟩], ?_, ?_⟩
  · intro W F w hr
    have hV1 := al9_V (T := _) (l := l) (D := D) (bx := bx) (by_ := by_) hm hV hrt hrp hra hrb fun v => ⟨rfl, rfl, rfl, rfl, trivial⟩
    have h1 : Rep W F [⟨.blk bv, .cells [.vec 1 aw (sortS s.gs).length cw] 93⟩, ⟨.sl aw cw, .vecL 9 1 encS (sortS s.gs) ByteArray.empty⟩, pk 0 (agR s b bx by_ fv D l rc R 0)] w := by
      refine Rep.pkAt 0 (p := [_, _]) (t := []) ?_
      have h2 := Rep.pick (π := [5, 4, 0, 1, 3, 2, 6, 7]) (by decide) rfl hr
      exact Rep.cellsEq (l := 0) (cs' := [.vec 1 aw (sortS s.gs).length cw]) rfl (by rfl) h2
    refine Calls.mono (valS_iter (ao := aw) (cap := cw) (bx := bv) hl6 hV1 W F w h1) ?_
    rintro e w' ⟨h', r, ⟨rfl, hc⟩, rfl, hr'⟩
    rcases hc with rfl | ⟨R', ⟨R'', hs, rfl⟩, rfl⟩
    · have h7 := Rep.unpkAt (p := [_, _]) (t := []) hr'
      refine ⟨_, .tuple [], .inl rfl, rfl, ?_⟩
      exact Rep.pick (π := [2, 3, 4, 5, 6, 7, 0, 1]) (by decide) rfl h7
    · have h7 := Rep.unpkAt (p := [_, _]) (t := []) hr'
      refine ⟨_, .tuple [], .inr ⟨R'', hs, rfl⟩, rfl, ?_⟩
      exact Rep.pick (π := [2, 3, 4, 5, 6, 7, 0, 1]) (by decide) rfl h7
  · have e5 : (fun (rr : List Ent) (st : LoopState) (j : Option Code) => ([pkA b grpE s, ⟨.blk bx, .cells [.ptr 0 b 0] 25⟩, ⟨.blk by_, .cells [.raw fv] 113⟩, pk 0 rr, dent D true, lp l rc st j] : List Ent)) = fun rr st j => [pkA b grpE s, ⟨.blk bx, .cells [.ptr 0 b 0] 25⟩, ⟨.blk by_, .cells [.raw fv] 113⟩, pk 0 rr, dent D true, lp l rc st j] := rfl
    rintro h' v (rfl | ⟨R'', hs, rfl⟩)
    · refine ⟨5, .ready, none, by decide, rfl, ?_⟩
      dsimp only
      refine GR_live 14 [(1, .ptr 1 bx 0), (2, .ptr 2 by_ 0)] [pkA b grpE s, ⟨.blk bx, .cells [.ptr 0 b 0] 25⟩, ⟨.blk by_, .cells [.raw fv] 113⟩, pk 0 (R (sortS s.gs).length), dent D true, lp l rc .exhausted none] rfl ⟨rfl, rfl, trivial⟩ (fun w hr => Rep.dropR (t := [_, _]) hr) fun u => ?_
      refine runR_sound (Cs := []) (Y := noY) (kc := true) (ss := []) (K := fun _ _ => False) (fun _ _ h => h.elim) trivial (noY_ok _) hmA (Ends.fnM D 4) 900 _ _ ?_
      rw [al9_end]
      exact ⟨rfl, _, .tuple [], fun W F w hr => Rep.pick (π := [0, 1, 3]) (by decide) rfl hr, rfl, rfl, .inl rfl⟩
    · refine ⟨5, .done, some .ret, by decide, rfl, ?_⟩
      dsimp only
      refine GR_live 14 [(1, .ptr 1 bx 0), (2, .ptr 2 by_ 0)] [pkA b grpE s, ⟨.blk bx, .cells [.ptr 0 b 0] 25⟩, ⟨.blk by_, .cells [.raw fv] 113⟩, pk 0 (R''), dent D true, lp l rc .exhausted (some .ret)] rfl ⟨rfl, rfl, trivial⟩ (fun w hr => Rep.dropR (t := [_, _]) hr) fun u => ?_
      refine runR_sound (Cs := []) (Y := noY) (kc := true) (ss := []) (K := fun _ _ => False) (fun _ _ h => h.elim) trivial (noY_ok _) hmA (Ends.fnM D 4) 900 _ _ ?_
      rw [al9_ret]
      exact ⟨rfl, _, .tuple [], fun W F w hr => Rep.pick (π := [0, 1, 3]) (by decide) rfl hr, rfl, rfl, .inr ⟨R'', hs, rfl⟩⟩
end Go.Proofs.Ytihajdkipkfiiaa

