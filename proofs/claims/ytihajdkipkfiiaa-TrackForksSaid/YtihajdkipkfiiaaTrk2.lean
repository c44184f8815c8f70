/- track.Track: Add, Fork, Unit, New, Pids. -/
import Derived.Test.YtihajdkipkfiiaaTrk1
import Derived.Test.YtihajdkipkfiiaaLayT
namespace Go.Proofs.Ytihajdkipkfiiaa
open Go Go.RowKit
set_option linter.unusedVariables false
set_option linter.unusedSimpArgs false
set_option linter.unnecessarySimpa false
set_option maxHeartbeats 0
open Go.Maps Go.Sort Go.Shelf
theorem setN_selfT {α : Type 1} {l : Nat} {v : α} : ∀ {h : List α}, nth h l = some v → setN h l v = h := by
  induction l with
  | zero => intro h hl; cases h <;> simp [nth, setN] at hl ⊢; exact hl.symm
  | succ l ih => intro h hl; cases h <;> simp [nth, setN] at hl ⊢; exact ih hl

theorem srtN_ok {fI T : Nat} (hT : T = 3) (hI : CtrOk Try.prog 80 (srtIC fI T)) (hg : ∃ fn, Try.prog.funcs[fI]? = some fn ∧ (fn.name == "runtime.NumGoroutine") = false ∧ ∃ c, fn.body = some c)
    (hK : ∀ (w : World) (b : Nat), b < w.heap.size → w.cell? ⟨b, 0, none⟩ = some (.map none) → SeqGives Fence.wide 2 Try.prog fI #[.pointer (some ⟨b, 0, none⟩)] encZ (fun ss => ss = []) 0 w) : CtrOk Try.prog 80 (srtNC fI T) := by
  subst hT
  intro args hs N h
  unfold srtNC at h
  split at h
  case h_2 => exact h.elim
  rename_i f lb b
  obtain ⟨hf, h⟩ := h
  split at h
  case h_3 => exact h.elim
  · rename_i b' lm rm T' hlb
    refine hI _ hs N ?_
    unfold srtIC
    exact ⟨hf, by rw [hlb]; exact h⟩
  · rename_i b' T' hlb
    subst hf
    obtain ⟨rfl, h⟩ := h
    intro W F w hr
    obtain ⟨fn, g1, g2, c, g3⟩ := hg
    have hcell : w.cell? ⟨b', 0, none⟩ = some (.map none) := by rw [hr.cells hlb]; rfl
    have hb : b' < w.heap.size := World.block_lt_of_cell? _ _ hcell
    have hseq := hK w b' hb hcell
    have cS := AnyZI.sorted_in sortedI Fence.wide 5 trivial trivial trivial trivial rfl (by omega) (sortsI _) (enters_of Try.func100 (by kernel_rfl) rfl) f #[.pointer (some ⟨b', 0, none⟩)] trivial (enters_of g1 g2 g3) _ _ (by unfold maxLen; omega) (by omega) _ hseq
    refine Calls.mono ((callsIn_wide (n := 5)).1 cS) ?_
    rintro e w' ⟨v, ss, rfl, hS, hrow, hnil, hbel⟩
    subst hS
    have hm : ([] : List Int).mergeSort leI = [] := by simp
    rcases hrow.2 with ⟨rfl, h0⟩ | ⟨g, cap, cur, rfl, hge, hgb, hle, hcap, hsz, htk⟩
    · refine ⟨_, _, h none 0, rfl, ?_⟩
      have hr' : Rep W F hs w' := hr.move fun L hL => hL.below hbel
      exact Rep.nilvec _ (sz := 1) (enc := encI1) 0 (fun _ => rfl) hr'
    · refine ⟨_, _, h (some ⟨g, 0, none⟩) cap, rfl, ?_⟩
      refine hr.new (c := [(g, .cells cur _ (0, 0))]) ⟨⟨by simp [flatV], by simp, .inr ⟨g, 0, cur, rfl, rfl, by have := hsz; simp at this; omega, by simp [flatV]⟩⟩, fun _ => rfl⟩ fun L hL => hL.grow hbel hge hgb
theorem tkT0_ok : AllOk Try.prog tkT0 := ⟨inl_ok trivial hmT Try.func81 (by kernel_rfl),
  srtN_ok rfl (srtI_ok rfl ⟨_, Try.func101, by kernel_rfl, _, rfl⟩ (fun w b rm nn D0 h1 h2 h3 => AnyZI.keys_gives (ρ := keysT_ren) { keysT with } Fence.wide _ trivial rfl (by omega) b rm nn D0 w h1 h2 h3)) ⟨_, Try.func101, by kernel_rfl, _, rfl⟩
    (fun w b h1 h2 => AnyZI.keys_gives_nil (ρ := keysT_ren) { keysT with } Fence.wide _ trivial rfl b w h1 h2),
  inl_ok trivial hmT Try.func79 (by kernel_rfl), trivial⟩
theorem tAdd_ok : CtrOk Try.prog 31 (adtC trkE taddM) := adt_ok fun b s rest N h => by
  unfold taddM at h
  split at h
  case h_2 => exact h.elim
  rename_i n pid
  cases hg : mget s.of (.i .i64 pid) with
  | some m =>
    have e : tAdd s n pid 0 = (s, 190) := by simp only [tAdd, hg, Option.isSome_some, Bool.true_or]
    have h := h 0
    rw [e] at h
    refine Spec.pre (hs' := [⟨.blk b, .cells [.map 1 s.bo, .map 2 s.bp] 140⟩, ⟨.blk s.bo, .map1 (some .i64) encO s.of (.i .i64 pid) (some (.str m))⟩, ⟨.blk s.bp, .mapL none encT s.ps⟩, pk 0 (s.ps.map setE)]) (fun W F w hr => Rep.know1 (l := 1) (.i .i64 pid) (some (.str m)) rfl rfl (by rw [hg]; rfl) hr) rfl ?_
    refine Spec.of_G 31 Try.func31 (c := bodyOf Try.f31) (by kernel_rfl) (by kernel_rfl) (Nat.le_of_ble_eq_true rfl) fun W F => ?_
    refine G_run (kc := false) (ss := []) (Cs := []) trivial hmT 600 ?_
    rw [tAdd_there]
    exact ⟨rfl, ⟨rfl, rfl, rfl⟩, s, fun W F w hr => Rep.forget1 (l := 1) rfl hr, h⟩
  | none =>
    refine Spec.pre (hs' := [⟨.blk b, .cells [.map 1 s.bo, .map 2 s.bp] 140⟩, ⟨.blk s.bo, .map1 (some .i64) encO s.of (.i .i64 pid) none⟩, ⟨.blk s.bp, .mapL none encT s.ps⟩, pk 0 (s.ps.map setE)]) (fun W F w hr => Rep.know1 (l := 1) (.i .i64 pid) none rfl rfl (by rw [hg]; rfl) hr) rfl ?_
    refine Spec.of_G 31 Try.func31 (c := bodyOf Try.f31) (by kernel_rfl) (by kernel_rfl) (Nat.le_of_ble_eq_true rfl) fun W F => ?_
    refine G_run (kc := false) (ss := [4]) (Cs := []) trivial hmT 600 ?_
    rw [tAdd_start]
    refine ⟨rfl, ⟨rfl, rfl, rfl⟩, ?_⟩
    cases h1 : sEq n ⟨#[]⟩ with
    | true =>
      have e : tAdd s n pid 0 = (s, 190) := by simp only [tAdd, h1, Bool.or_true, Bool.true_or]
      have h := h 0
      rw [e] at h
      exact ⟨s, fun W F w hr => Rep.forget1 (l := 1) rfl hr, h⟩
    | false =>
      cases h2 : decide (pid < 2) with
      | true =>
        have e : tAdd s n pid 0 = (s, 190) := by simp only [tAdd, h2, Bool.or_true]
        have h := h 0
        rw [e] at h
        exact ⟨s, fun W F w hr => Rep.forget1 (l := 1) rfl hr, h⟩
      | false =>
        have e : ∀ nb, tAdd s n pid nb = (tPut s n pid nb, 0) := fun nb => by simp only [tAdd, hg, h1, h2, Option.isSome_none, Bool.or_self]
        refine G_live 31 [(0, .ptr 0 b 0), (1, .str n), (2, .int .i64 pid)] [pkA b trkE s] rfl ⟨rfl, rfl, rfl, trivial⟩ (fun w hr => Rep.pkA1 (Rep.forget1 (l := 1) rfl hr)) fun u => ?_
        refine G_run (kc := false) (ss := []) (Cs := [(78, adtC trkE tputM)]) ⟨tPut_ok, trivial⟩ hmT 900 ?_
        rw [tAdd_end]
        refine ⟨rfl, rfl, rfl, HEq.rfl, hg, fun nb => ?_⟩
        have h := h nb
        rw [e] at h
        exact ⟨tPut s n pid nb, fun W F w hr => hr.unpkA1, h⟩
theorem tFork_ok : CtrOk Try.prog 32 (adtC trkE tforkM) := adt_ok fun b s rest N h => by
  unfold tforkM at h
  split at h
  case h_2 => exact h.elim
  rename_i pid c
  cases hg : mget s.of (.i .i64 pid) with
  | none =>
    have e : tFork s pid c 0 = (s, 190) := by simp only [tFork, hg]
    have h := h 0
    rw [e] at h
    refine Spec.pre (hs' := [⟨.blk b, .cells [.map 1 s.bo, .map 2 s.bp] 140⟩, ⟨.blk s.bo, .map1 (some .i64) encO s.of (.i .i64 pid) none⟩, ⟨.blk s.bp, .mapL none encT s.ps⟩, pk 0 (s.ps.map setE)]) (fun W F w hr => Rep.know1 (l := 1) (.i .i64 pid) none rfl rfl (by rw [hg]; rfl) hr) rfl ?_
    refine Spec.of_G 24 Try.func32 (c := bodyOf Try.f32) (by kernel_rfl) (by kernel_rfl) (Nat.le_of_ble_eq_true rfl) fun W F => ?_
    refine G_run (kc := false) (ss := []) (Cs := []) trivial hmT 600 ?_
    rw [tFork_none]
    exact ⟨rfl, ⟨rfl, rfl, rfl⟩, s, fun W F w hr => Rep.forget1 (l := 1) rfl hr, h⟩
  | some n =>
    have e : ∀ nb, tFork s pid c nb = tAdd s n c nb := fun nb => by simp only [tFork, hg]
    refine Spec.pre (hs' := [⟨.blk b, .cells [.map 1 s.bo, .map 2 s.bp] 140⟩, ⟨.blk s.bo, .map1 (some .i64) encO s.of (.i .i64 pid) (some (.str n))⟩, ⟨.blk s.bp, .mapL none encT s.ps⟩, pk 0 (s.ps.map setE)]) (fun W F w hr => Rep.know1 (l := 1) (.i .i64 pid) (some (.str n)) rfl rfl (by rw [hg]; rfl) hr) rfl ?_
    refine Spec.of_G 24 Try.func32 (c := bodyOf Try.f32) (by kernel_rfl) (by kernel_rfl) (Nat.le_of_ble_eq_true rfl) fun W F => ?_
    refine G_run (kc := false) (ss := [4]) (Cs := []) trivial hmT 600 ?_
    rw [tFork_some]
    refine ⟨rfl, ⟨rfl, rfl, rfl⟩, ?_⟩
    refine G_live 24 [(0, .ptr 0 b 0), (2, .int .i64 c), (7, .str n)] [pkA b trkE s] rfl ⟨rfl, rfl, rfl, trivial⟩ (fun w hr => Rep.pkA1 (Rep.forget1 (l := 1) rfl hr)) fun u => ?_
    refine G_run (kc := false) (ss := []) (Cs := [(31, adtC trkE taddM)]) ⟨tAdd_ok, trivial⟩ hmT 900 ?_
    rw [tFork_end]
    refine ⟨rfl, rfl, rfl, HEq.rfl, fun nb => ?_⟩
    have h := h nb
    rw [e] at h
    exact ⟨(tAdd s n c nb).1, fun W F w hr => hr.unpkA1, h⟩
theorem tUnit_ok : CtrOk Try.prog 56 (adtC trkE tunitM) := adt_ok fun b s rest N h => by
  unfold tunitM at h
  split at h
  case h_2 => exact h.elim
  rename_i pid
  cases hg : mget s.of (.i .i64 pid) with
  | none =>
    rw [hg] at h
    refine Spec.pre (hs' := [⟨.blk b, .cells [.map 1 s.bo, .map 2 s.bp] 140⟩, ⟨.blk s.bo, .map1 (some .i64) encO s.of (.i .i64 pid) none⟩, ⟨.blk s.bp, .mapL none encT s.ps⟩, pk 0 (s.ps.map setE)]) (fun W F w hr => Rep.know1 (l := 1) (.i .i64 pid) none rfl rfl (by rw [hg]; rfl) hr) rfl ?_
    refine Spec.of_G 19 Try.func56 (c := bodyOf Try.f56) (by kernel_rfl) (by kernel_rfl) (Nat.le_of_ble_eq_true rfl) fun W F => ?_
    refine G_run (kc := false) (ss := []) (Cs := []) trivial hmT 600 ?_
    rw [tUnit_none]
    exact ⟨rfl, ⟨rfl, rfl, rfl⟩, s, fun W F w hr => Rep.forget1 (l := 1) rfl hr, h⟩
  | some n =>
    rw [hg] at h
    refine Spec.pre (hs' := [⟨.blk b, .cells [.map 1 s.bo, .map 2 s.bp] 140⟩, ⟨.blk s.bo, .map1 (some .i64) encO s.of (.i .i64 pid) (some (.str n))⟩, ⟨.blk s.bp, .mapL none encT s.ps⟩, pk 0 (s.ps.map setE)]) (fun W F w hr => Rep.know1 (l := 1) (.i .i64 pid) (some (.str n)) rfl rfl (by rw [hg]; rfl) hr) rfl ?_
    refine Spec.of_G 19 Try.func56 (c := bodyOf Try.f56) (by kernel_rfl) (by kernel_rfl) (Nat.le_of_ble_eq_true rfl) fun W F => ?_
    refine G_run (kc := false) (ss := []) (Cs := []) trivial hmT 600 ?_
    rw [tUnit_some]
    exact ⟨rfl, ⟨rfl, rfl, rfl⟩, s, fun W F w hr => Rep.forget1 (l := 1) rfl hr, h⟩
theorem tNew_ok : CtrOk Try.prog 30 newTC := by
  intro args hs N h
  unfold newTC at h
  split at h
  · refine Spec.at (hp := []) (args' := []) (Post' := fun h' r => ∃ b bo bp, h' = [pkA b trkE ⟨bo, bp, [], []⟩] ∧ r = .ptr 0 b 0) [] rfl rfl ?_ rfl ?_
    · refine Spec.up ?_
      refine Spec.of_G 5 Try.func30 (c := bodyOf Try.f30) (by kernel_rfl) (by kernel_rfl) (Nat.le_of_ble_eq_true rfl) fun W F => ?_
      refine G_run (kc := false) (ss := []) (Cs := []) trivial hmT 600 ?_
      rw [tNew_run]
      refine fun bo bp => ⟨⟨rfl, rfl⟩, rfl, fun b => ?_⟩
      refine ⟨[pkA b trkE ⟨bo, bp, [], []⟩], .ptr 0 b 0, fun W F w hr => ?_, rfl, b, bo, bp, rfl, rfl⟩
      have h1 := Rep.mapOf (l := 0) encO [] rfl rfl hr
      have h2 := Rep.mapOf (l := 1) encT [] rfl rfl h1
      have h4 := Rep.pick (π := [2, 0, 1]) (by decide) rfl h2
      have h5 := Rep.cellsEq (l := 0) (cs' := [.map 1 bo, .map 2 bp]) rfl (by rfl) h4
      have h6 : Rep W F (pk 0 [] :: _) w := Rep.pk 0 (h := []) h5
      have h7 := Rep.pick (π := [1, 2, 3, 0]) (by decide) rfl h6
      exact Rep.pkA1 h7
    · rintro h' r ⟨b, bo, bp, rfl, rfl⟩
      refine ⟨Nat.zero_le _, .ptr (lenN hs) b 0, rfl, ?_⟩
      have := h b bo bp
      simpa [putBack, appE_eq, snoc_eq] using this
  · exact h.elim
theorem tPids_ok : CtrOk Try.prog 34 pidsC := by
  intro args hs N h
  unfold pidsC at h
  split at h
  case h_2 => exact h.elim
  rename_i l b n
  split at h
  case h_2 => exact h.elim
  rename_i b' σ' p s hl
  obtain ⟨rfl, rfl, hp, hw, hN⟩ := h
  cases hp
  simp only [cast_eq] at hw hN
  refine Spec.at (hp := [pkA b' trkE s]) (args' := [.ptr 0 b' 0, .str n]) (Post' := fun h' r => ∃ ao cap bx, h' = [pkA b' trkE s, ⟨.sl ao cap, .vecL 3 1 encI1 (pidsL s n) 0⟩, ⟨.blk bx, .cells [.vec (lenN hs) ao ((pidsL s n)).length cap] 32⟩] ∧ r = .func (.func 99) [] [.ptr 2 bx 0]) [l] (by simp [distinct]) (by simp [pickE, hl, pkA]) ?_ rfl ?_
  · refine Spec.up ?_
    cases hx : mget s.ps (.s n) with
    | none =>
      have e : pidsL s n = [] := by simp only [pidsL, hx]
      rw [e]
      refine Spec.pre (hs' := [⟨.blk b', .cells [.map 1 s.bo, .map 2 s.bp] 140⟩, ⟨.blk s.bo, .mapL (some .i64) encO s.of⟩, ⟨.blk s.bp, .map1 none encT s.ps (.s n) none⟩, pk 0 (s.ps.map setE)]) (fun W F w hr => Rep.know1 (l := 2) (.s n) none rfl rfl (by rw [hx]; rfl) hr.unpkA1) rfl ?_
      refine Spec.of_G 14 Try.func34 (c := bodyOf Try.f34) (by kernel_rfl) (by kernel_rfl) (Nat.le_of_ble_eq_true rfl) fun W F => ?_
      refine G_run (kc := true) (ss := []) tkT0_ok hmT 600 ?_
      rw [tPids_none]
      have fin : ∀ (ao : Option Addr) (cap b1 bx : Nat), up (fun h' r => ∃ ao cap bx, h' = [pkA b' trkE s, ⟨.sl ao cap, .vecL 3 1 encI1 [] 0⟩, ⟨.blk bx, .cells [.vec (lenN hs) ao ([] : List Int).length cap] 32⟩] ∧ r = .func (.func 99) [] [.ptr 2 bx 0]) [⟨.blk b', .cells [.map 1 s.bo, .map 2 s.bp] 140⟩, ⟨.blk s.bo, .mapL (some .i64) encO s.of⟩, ⟨.blk s.bp, .map1 none encT s.ps (.s n) none⟩, pk 0 (s.ps.map setE), ⟨.blk b1, .cells [.raw (.map none)] 119⟩, ⟨.sl ao cap, .vecL 3 1 encI1 [] 0⟩, ⟨.blk bx, .cells [.vec 5 ao 0 cap] 32⟩] (.func (.func 99) [] [.ptr 6 bx 0]) := fun ao cap b1 bx => by
        refine ⟨[pkA b' trkE s, ⟨.sl ao cap, .vecL 3 1 encI1 [] 0⟩, ⟨.blk bx, .cells [.vec (lenN hs) ao ([] : List Int).length cap] 32⟩], .func (.func 99) [] [.ptr 2 bx 0], fun W F w hr => ?_, rfl, ao, cap, bx, rfl, rfl⟩
        have h1 := Rep.forget1 (l := 2) rfl hr
        have h2 := Rep.pick (π := [0, 1, 2, 3, 5, 6]) (by decide) rfl h1
        have h3 := Rep.cellsEq (l := 5) (cs' := [.vec (lenN hs) ao ([] : List Int).length cap]) rfl (by rfl) h2
        exact Rep.pkA (S := trkE) (s := s) (t := [_, _]) h3
      repeat' first
        | exact rfl
        | exact HEq.rfl
        | exact fin _ _ _ _
        | apply And.intro
        | (refine fun _ => ?_)
        | fail
    | some v =>
      obtain ⟨nb, ms⟩ := v
      have hwf := hw _ hx
      have e : pidsL s n = sortI ms := by simp only [pidsL, hx]
      rw [e]
      obtain ⟨x, y, hsp, _, _⟩ := es_split hx
      refine Spec.pre (hs' := [⟨.blk b', .cells [.map 1 s.bo, .map 2 s.bp] 140⟩, ⟨.blk s.bo, .mapL (some .i64) encO s.of⟩, ⟨.blk s.bp, .map1 none encT s.ps (.s n) (some (.map 3 nb))⟩, ⟨.blk nb, .mapL (some .i64) encU ms⟩, pk 0 (x.map setE ++ y.map setE)]) (fun W F w hr => Rep.know1 (l := 2) (.s n) (some (.map 3 nb)) rfl rfl (by rw [hx]; rfl) (trk_open hsp hr.unpkA1)) rfl ?_
      refine Spec.of_G 14 Try.func34 (c := bodyOf Try.f34) (by kernel_rfl) (by kernel_rfl) (Nat.le_of_ble_eq_true rfl) fun W F => ?_
      refine G_run (kc := true) (ss := []) tkT0_ok hmT 600 ?_
      rw [tPids_some]
      have fin : ∀ (ao : Option Addr) (cap b1 bx : Nat), up (fun h' r => ∃ ao cap bx, h' = [pkA b' trkE s, ⟨.sl ao cap, .vecL 3 1 encI1 (sortI ms) 0⟩, ⟨.blk bx, .cells [.vec (lenN hs) ao (sortI ms).length cap] 32⟩] ∧ r = .func (.func 99) [] [.ptr 2 bx 0]) [⟨.blk b', .cells [.map 1 s.bo, .map 2 s.bp] 140⟩, ⟨.blk s.bo, .mapL (some .i64) encO s.of⟩, ⟨.blk s.bp, .map1 none encT s.ps (.s n) (some (.map 3 nb))⟩, ⟨.blk nb, .mapL (some .i64) encU ms⟩, pk 0 (x.map setE ++ y.map setE), ⟨.blk b1, .cells [.map 3 nb] 119⟩, ⟨.sl ao cap, .vecL 3 1 encI1 (sortI ms) 0⟩, ⟨.blk bx, .cells [.vec 6 ao (sortI ms).length cap] 32⟩] (.func (.func 99) [] [.ptr 7 bx 0]) := fun ao cap b1 bx => by
        refine ⟨[pkA b' trkE s, ⟨.sl ao cap, .vecL 3 1 encI1 (sortI ms) 0⟩, ⟨.blk bx, .cells [.vec (lenN hs) ao (sortI ms).length cap] 32⟩], .func (.func 99) [] [.ptr 2 bx 0], fun W F w hr => ?_, rfl, ao, cap, bx, rfl, rfl⟩
        have h1 := Rep.forget1 (l := 2) rfl hr
        have h0 := Rep.intoP (p := [⟨.blk b', .cells [.map 1 s.bo, .map 2 s.bp] 140⟩, ⟨.blk s.bo, .mapL (some .i64) encO s.of⟩, ⟨.blk s.bp, .mapL none encT s.ps⟩]) (t := [_, _, _]) (e := setE (.s n, (nb, ms))) h1
        have e2 : x.map setE ++ setE (.s n, (nb, ms)) :: y.map setE = s.ps.map setE := by rw [hsp]; simp
        rw [e2] at h0
        have h2 := Rep.pick (π := [0, 1, 2, 3, 5, 6]) (by decide) rfl h0
        have h3 := Rep.cellsEq (l := 5) (cs' := [.vec (lenN hs) ao (sortI ms).length cap]) rfl (by rfl) h2
        exact Rep.pkA (S := trkE) (s := s) (t := [_, _]) h3
      repeat' first
        | exact rfl
        | exact HEq.rfl
        | exact hwf
        | exact fin _ _ _ _
        | apply And.intro
        | (refine fun _ => ?_)
        | fail
  · rintro h' r ⟨ao, cap, bx, rfl, rfl⟩
    refine ⟨by simp [lenN], .func (.func 99) [] [.ptr (lenN hs + 1) bx 0], rfl, ?_⟩
    have e0 : setN hs l (pkA b' trkE s) = hs := setN_selfT hl
    have := hN ao cap bx
    simpa [putBack, appE_eq, snoc_eq, e0] using this
end Go.Proofs.Ytihajdkipkfiiaa
