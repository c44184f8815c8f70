/- track.Track: Gone, puts. -/
import Derived.Test.YtihajdkipkfiiaaTk1Run
namespace Go.Proofs.Ytihajdkipkfiiaa
open Go Go.RowKit
set_option linter.unusedVariables false
set_option linter.unusedSimpArgs false
set_option linter.unnecessarySimpa false
set_option maxHeartbeats 0

theorem hmT : Try.prog.follows .mixedOrders = true := by kernel_rfl
theorem es_split {β : Type} {es : List (Key × β)} {n : ByteArray} {v : β} (h : mget es (.s n) = some v) : ∃ x y, es = x ++ (.s n, v) :: y ∧ (∀ u, mset es (.s n) u = x ++ (.s n, u) :: y) ∧ mdel es (.s n) = x ++ y := by
  obtain ⟨x, y, k', h1, h2, _, h3, h4⟩ := mget_split h
  rw [keyEq_s h2] at h1
  exact ⟨x, y, h1, h3, h4⟩
section
variable {W w : World} {F : List Ch} {s : Trk} {b : Nat} {n : ByteArray} {v : GSet} {x y : List (Key × GSet)}
theorem trk_open (hs : s.ps = x ++ (.s n, v) :: y) (hr : Rep W F (trkE s b) w) : Rep W F [⟨.blk b, .cells [.map 1 s.bo, .map 2 s.bp] 140⟩, ⟨.blk s.bo, .mapL (some .i64) encO s.of⟩, ⟨.blk s.bp, .mapL none encT s.ps⟩, ⟨.blk v.1, .mapL (some .i64) encU v.2⟩, pk 0 (x.map setE ++ y.map setE)] w := by
  have e : s.ps.map setE = x.map setE ++ setE (.s n, v) :: y.map setE := by rw [hs]; simp
  unfold trkE at hr
  rw [e] at hr
  exact Rep.outP (p := [⟨.blk b, .cells [.map 1 s.bo, .map 2 s.bp] 140⟩, ⟨.blk s.bo, .mapL (some .i64) encO s.of⟩, ⟨.blk s.bp, .mapL none encT s.ps⟩]) (t := []) hr
theorem trk_close {a1 a2 a3 : Ent} {t : List Ent} (hr : Rep W F (a1 :: a2 :: a3 :: ⟨.blk v.1, .mapL (some .i64) encU v.2⟩ :: pk 0 (x.map setE ++ y.map setE) :: t) w) : Rep W F ([a1, a2, a3, pk 0 ((x ++ (.s n, v) :: y).map setE)] ++ t) w := by
  have := Rep.intoP (p := [a1, a2, a3]) (t := t) (e := setE (.s n, v)) hr
  have e : (x ++ (.s n, v) :: y).map setE = x.map setE ++ setE (.s n, v) :: y.map setE := by simp
  rw [e]; exact this
theorem trk_map {a1 a2 : Ent} {t : List Ent} {bp : Nat} {v' : GSet} (hv : v'.1 = v.1) (hr : Rep W F (a1 :: a2 :: ⟨.blk bp, .mapL none encT (x ++ (.s n, v) :: y)⟩ :: t) w) : Rep W F (a1 :: a2 :: ⟨.blk bp, .mapL none encT (x ++ (.s n, v') :: y)⟩ :: t) w := by
  refine Rep.mapCongr (l := 2) encT (x ++ (.s n, v') :: y) rfl (fun e he => ?_) ?_ hr
  · have hk := Rep.mapKinds (l := 2) rfl hr
    rcases List.mem_append.1 he with he | he
    · exact hk e (List.mem_append.2 (.inl he))
    · rcases List.mem_cons.1 he with rfl | he
      · rfl
      · exact hk e (List.mem_append.2 (.inr (List.mem_cons_of_mem _ he)))
  · simp [encT, den, hv]
end
theorem tGone_ok : CtrOk Try.prog 33 (adtC trkE tgoneM) := adt_ok fun b s rest N h => by
  unfold tgoneM at h
  split at h
  case h_2 => exact h.elim
  rename_i pid
  obtain ⟨hof, h⟩ := h
  cases hg : mget s.of (.i .i64 pid) with
  | none =>
    have e : tGone s pid = (s, ⟨#[]⟩, 190) := by simp only [tGone, hg]
    rw [e] at h
    refine Spec.pre (hs' := [⟨.blk b, .cells [.map 1 s.bo, .map 2 s.bp] 140⟩, ⟨.blk s.bo, .map1 (some .i64) encO s.of (.i .i64 pid) none⟩, ⟨.blk s.bp, .mapL none encT s.ps⟩, pk 0 (s.ps.map setE)]) (fun W F w hr => Rep.know1 (l := 1) (.i .i64 pid) none rfl rfl (by rw [hg]; rfl) hr) rfl ?_
    refine Spec.of_G 45 Try.func33 (c := bodyOf Try.f33) (by kernel_rfl) (by kernel_rfl) (Nat.le_of_ble_eq_true rfl) fun W F => ?_
    refine G_run (kc := false) (ss := []) (Cs := []) trivial hmT 600 ?_
    rw [tGone_none]
    have fin := fun W F w hr => Rep.forget1 (W := W) (w := w) (F := F) (h := [⟨.blk b, .cells [.map 1 s.bo, .map 2 s.bp] 140⟩, ⟨.blk s.bo, .map1 (some .i64) encO s.of (.i .i64 pid) none⟩, ⟨.blk s.bp, .mapL none encT s.ps⟩, pk 0 (s.ps.map setE)]) (l := 1) rfl hr
    exact ⟨rfl, ⟨rfl, rfl, rfl⟩, s, fin, h⟩
  | some n =>
    obtain ⟨⟨nb, ms⟩, hx⟩ := hof n hg
    obtain ⟨x, y, hs, hset, hdel⟩ := es_split hx
    refine Spec.pre (hs' := [⟨.blk b, .cells [.map 1 s.bo, .map 2 s.bp] 140⟩, ⟨.blk s.bo, .map1 (some .i64) encO s.of (.i .i64 pid) (some (.str n))⟩, ⟨.blk s.bp, .map1 none encT s.ps (.s n) (some (.map 3 nb))⟩, ⟨.blk nb, .mapL (some .i64) encU ms⟩, pk 0 (x.map setE ++ y.map setE)]) (fun W F w hr => Rep.know1 (l := 2) (.s n) (some (.map 3 nb)) rfl rfl (by rw [hx]; rfl) (Rep.know1 (l := 1) (.i .i64 pid) (some (.str n)) rfl rfl (by rw [hg]; rfl) (trk_open hs hr))) rfl ?_
    refine Spec.of_G 45 Try.func33 (c := bodyOf Try.f33) (by kernel_rfl) (by kernel_rfl) (Nat.le_of_ble_eq_true rfl) fun W F => ?_
    refine G_run (kc := false) (ss := []) (Cs := []) trivial hmT 600 ?_
    rw [tGone_some]
    have hc : (((mdel ms (.i .i64 pid)).length : Int) == 0) = ((mdel ms (.i .i64 pid)).length == 0) := by rw [Bool.eq_iff_iff]; simp
    rw [hc]
    cases hm : ((mdel ms (.i .i64 pid)).length == 0) with
    | true =>
      have e : tGone s pid = ({ s with of := mdel s.of (.i .i64 pid), ps := mdel s.ps (.s n) }, n, 0) := by simp only [tGone, hg, hx, hm]
      rw [e] at h
      have hcl : ∀ (e3 : Ent) W F w, Rep W F [⟨.blk b, .cells [.map 1 s.bo, .map 2 s.bp] 140⟩, ⟨.blk s.bo, .mapL (some .i64) encO (mdel s.of (.i .i64 pid))⟩, ⟨.blk s.bp, .mapL none encT (mdel s.ps (.s n))⟩, e3, pk 0 (x.map setE ++ y.map setE)] w → Rep W F (trkE { s with of := mdel s.of (.i .i64 pid), ps := mdel s.ps (.s n) } b) w := fun e3 W F w hr => by
        have e2 : (mdel s.ps (.s n)).map setE = x.map setE ++ y.map setE := by rw [hdel]; simp
        unfold trkE
        dsimp only
        rw [e2]
        exact Rep.pick (π := [0, 1, 2, 4]) (by decide) rfl hr
      have fin := h
      repeat' first
        | exact rfl
        | exact ⟨_, hcl _, h⟩
        | apply And.intro
        | fail
    | false =>
      have e : tGone s pid = ({ s with of := mdel s.of (.i .i64 pid), ps := mset s.ps (.s n) (nb, mdel ms (.i .i64 pid)) }, n, 0) := by simp only [tGone, hg, hx, hm]
      rw [e] at h
      have hcl : ∀ W F w, Rep W F [⟨.blk b, .cells [.map 1 s.bo, .map 2 s.bp] 140⟩, ⟨.blk s.bo, .mapL (some .i64) encO (mdel s.of (.i .i64 pid))⟩, ⟨.blk s.bp, .map1 none encT s.ps (.s n) (some (.map 3 nb))⟩, ⟨.blk nb, .mapL (some .i64) encU (mdel ms (.i .i64 pid))⟩, pk 0 (x.map setE ++ y.map setE)] w → Rep W F (trkE { s with of := mdel s.of (.i .i64 pid), ps := mset s.ps (.s n) (nb, mdel ms (.i .i64 pid)) } b) w := fun W F w hr => by
        have h1 := Rep.forget1 (l := 2) rfl hr
        rw [hs] at h1
        have h2 := trk_map (v := (nb, ms)) (v' := (nb, mdel ms (.i .i64 pid))) rfl h1
        have h3 := trk_close (n := n) (v := (nb, mdel ms (.i .i64 pid))) (t := []) h2
        unfold trkE
        dsimp only
        rw [hset]
        simpa using h3
      repeat' first
        | exact rfl
        | exact ⟨_, hcl, h⟩
        | apply And.intro
        | fail
theorem tPut_ok : CtrOk Try.prog 78 (adtC trkE tputM) := adt_ok fun b s rest N h => by
  unfold tputM at h
  split at h
  case h_2 => exact h.elim
  rename_i n pid
  obtain ⟨hg, h⟩ := h
  have hgo : tGone s pid = (s, ⟨#[]⟩, 190) := by simp only [tGone, hg]
  refine Spec.pre (hs' := [pkA b trkE s]) (args' := [.ptr 0 b 0, .str n, .int .i64 pid]) (fun W F w hr => Rep.pkA1 hr) rfl ?_
  refine Spec.of_G 36 Try.func78 (c := bodyOf Try.f78) (by kernel_rfl) (by kernel_rfl) (Nat.le_of_ble_eq_true rfl) fun W F => ?_
  refine G_run (kc := false) (ss := [1]) (Cs := [(33, adtC trkE tgoneM)]) ⟨tGone_ok, trivial⟩ hmT 600 ?_
  rw [tPut_start]
  have hto : tOk s pid := fun m hm => by rw [hg] at hm; cases hm
  rw [hgo]
  refine ⟨rfl, rfl, rfl, HEq.rfl, hto, ?_⟩
  cases hx : mget s.ps (.s n) with
  | none =>
    have e : ∀ nb, tPut s n pid nb = { s with of := mset s.of (.i .i64 pid) n, ps := mset s.ps (.s n) (nb, [(.i .i64 pid, ())]) } := fun nb => by simp only [tPut, hx]
    refine G_live 36 [(0, .ptr 0 b 0), (1, .str n), (2, .int .i64 pid)] [⟨.blk b, .cells [.map 1 s.bo, .map 2 s.bp] 140⟩, ⟨.blk s.bo, .mapL (some .i64) encO s.of⟩, ⟨.blk s.bp, .map1 none encT s.ps (.s n) none⟩, pk 0 (s.ps.map setE)] rfl ⟨rfl, rfl, rfl, trivial⟩ (fun w hr => Rep.know1 (l := 2) (.s n) none rfl rfl (by rw [hx]; rfl) hr.unpkA1) fun u => ?_
    refine G_run (kc := false) (ss := []) (Cs := []) trivial hmT 900 ?_
    rw [tPut_none]
    have fin : ∀ (nb : Nat), (fun (h' : List Ent) (r : SV) => ∃ s', (∀ W F w, Rep W F h' w → Rep W F (trkE s' b) w) ∧ N s' r) [⟨.blk b, .cells [.map 1 s.bo, .map 2 s.bp] 140⟩, ⟨.blk s.bo, .mapL (some .i64) encO (mset s.of (.i .i64 pid) n)⟩, ⟨.blk s.bp, .map1 none encT (mset s.ps (.s n) (nb, [(.i .i64 pid, ())])) (.s n) (some (.map 4 nb))⟩, pk 0 (s.ps.map setE), ⟨.blk nb, .mapV (some .i64) [(.i .i64 pid, .agg [])]⟩] (.tuple []) := fun nb => by
      have hN := h nb
      rw [e] at hN
      refine ⟨_, fun W F w hr => ?_, hN⟩
      have h1 := Rep.forget1 (l := 2) rfl hr
      have h2 := Rep.mapOf (l := 4) encU [(.i .i64 pid, ())] rfl rfl h1
      have h4 := Rep.pick (π := [0, 1, 2, 4, 3]) (by decide) rfl h2
      have h5 := Rep.intoNewP (p := [⟨.blk b, .cells [.map 1 s.bo, .map 2 s.bp] 140⟩, ⟨.blk s.bo, .mapL (some .i64) encO (mset s.of (.i .i64 pid) n)⟩, ⟨.blk s.bp, .mapL none encT (mset s.ps (.s n) (nb, [(.i .i64 pid, ())]))⟩]) (t := []) h4
      have e2 : (mset s.ps (.s n) (nb, [((.i .i64 pid : Key), ())])).map setE = s.ps.map setE ++ [setE (.s n, (nb, [(.i .i64 pid, ())]))] := by rw [mset_none hx]; simp
      unfold trkE
      dsimp only
      rw [e2]
      exact h5
    repeat' first
      | exact rfl
      | exact fin _
      | (refine ⟨n, rfl, ?_⟩)
      | (refine ⟨(nb, [(.i .i64 pid, ())]), rfl, ?_⟩)
      | apply And.intro
      | (refine fun nb => ?_)
      | fail
  | some v =>
    obtain ⟨nb, ms⟩ := v
    obtain ⟨x, y, hs, hset, hdel⟩ := es_split hx
    have e : ∀ nb', tPut s n pid nb' = { s with of := mset s.of (.i .i64 pid) n, ps := mset s.ps (.s n) (nb, mset ms (.i .i64 pid) ()) } := fun nb' => by simp only [tPut, hx]
    refine G_live 36 [(0, .ptr 0 b 0), (1, .str n), (2, .int .i64 pid)] [⟨.blk b, .cells [.map 1 s.bo, .map 2 s.bp] 140⟩, ⟨.blk s.bo, .mapL (some .i64) encO s.of⟩, ⟨.blk s.bp, .map1 none encT s.ps (.s n) (some (.map 3 nb))⟩, ⟨.blk nb, .mapL (some .i64) encU ms⟩, pk 0 (x.map setE ++ y.map setE)] rfl ⟨rfl, rfl, rfl, trivial⟩ (fun w hr => Rep.know1 (l := 2) (.s n) (some (.map 3 nb)) rfl rfl (by rw [hx]; rfl) (trk_open hs hr.unpkA1)) fun u => ?_
    refine G_run (kc := false) (ss := []) (Cs := []) trivial hmT 900 ?_
    rw [tPut_some]
    have fin : (fun (h' : List Ent) (r : SV) => ∃ s', (∀ W F w, Rep W F h' w → Rep W F (trkE s' b) w) ∧ N s' r) [⟨.blk b, .cells [.map 1 s.bo, .map 2 s.bp] 140⟩, ⟨.blk s.bo, .mapL (some .i64) encO (mset s.of (.i .i64 pid) n)⟩, ⟨.blk s.bp, .map1 none encT s.ps (.s n) (some (.map 3 nb))⟩, ⟨.blk nb, .mapL (some .i64) encU (mset ms (.i .i64 pid) ())⟩, pk 0 (x.map setE ++ y.map setE)] (.tuple []) := by
      have hN := h 0
      rw [e] at hN
      refine ⟨_, fun W F w hr => ?_, hN⟩
      have h1 := Rep.forget1 (l := 2) rfl hr
      rw [hs] at h1
      have h2 := trk_map (v := (nb, ms)) (v' := (nb, mset ms (.i .i64 pid) ())) rfl h1
      have h3 := trk_close (n := n) (v := (nb, mset ms (.i .i64 pid) ())) (t := []) h2
      unfold trkE
      dsimp only
      rw [hset]
      simpa using h3
    repeat' first
      | exact rfl
      | exact fin
      | (refine ⟨n, rfl, ?_⟩)
      | (refine ⟨(), rfl, ?_⟩)
      | apply And.intro
      | fail
end Go.Proofs.Ytihajdkipkfiiaa
