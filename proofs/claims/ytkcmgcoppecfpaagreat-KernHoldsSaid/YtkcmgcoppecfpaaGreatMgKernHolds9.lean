import Derived.Test.YtkcmgcoppecfpaaGreatMgKernHolds8
import Derived.Test.YtkcmgcoppecfpaaGreatMgKernHolds6
import Derived.Test.YtkcmgcoppecfpaaGreatMgKernHolds7
/- YtkcmgcoppecfpaaGreatGa -/
/- cgroup.Groups: Of, Members, names, All. -/
namespace Go.Proofs.YtkcmgcoppecfpaaGreat
open Go Go.RowKit
set_option linter.unusedVariables false
set_option linter.unusedSimpArgs false
set_option linter.unnecessarySimpa false
set_option maxHeartbeats 0
open Go.Maps Go.Sort Go.Shelf
theorem hmA : Tryz.prog.follows .mixedOrders = true := by kernel_rfl
theorem setN_selfA {α : Type 1} {l : Nat} {v : α} : ∀ {h : List α}, nth h l = some v → setN h l v = h := by
  induction l with
  | zero => intro h hl; cases h <;> simp [nth, setN] at hl ⊢; exact hl.symm
  | succ l ih => intro h hl; cases h <;> simp [nth, setN] at hl ⊢; exact ih hl
theorem srtQ_ok {fI T : Nat} (hT : T = 3) (hI : CtrOk Tryz.prog 80 (srtIC fI T)) (hg : ∃ fn, Tryz.prog.funcs[fI]? = some fn ∧ (fn.name == "runtime.NumGoroutine") = false ∧ ∃ c, fn.body = some c)
    (hK : ∀ (w : World) (b : Nat), b < w.heap.size → w.cell? ⟨b, 0, none⟩ = some (.map none) → SeqGives Fence.wide 2 Tryz.prog fI #[.pointer (some ⟨b, 0, none⟩)] encZ (fun ss => ss = []) 0 w) : CtrOk Tryz.prog 80 (srtQC fI T) := by
  subst hT
  intro args hs N h
  unfold srtQC at h
  split at h
  case h_2 => exact h.elim
  rename_i f lb b
  obtain ⟨hf, h⟩ := h
  split at h
  case h_3 => exact h.elim
  · rename_i b' lm rm T' hlb
    refine hI _ hs N ?_
    unfold srtIC
    exact ⟨hf, by rw [hlb]; exact h⟩
  · rename_i b' T' hlb
    subst hf
    obtain ⟨rfl, h⟩ := h
    intro W F w hr
    obtain ⟨fn, g1, g2, c, g3⟩ := hg
    have hcell : w.cell? ⟨b', 0, none⟩ = some (.map none) := by rw [hr.cells hlb]; rfl
    have hb : b' < w.heap.size := World.block_lt_of_cell? _ _ hcell
    have hseq := hK w b' hb hcell
    have cS := AnyZI.sorted_in sortedI Fence.wide 5 trivial trivial trivial trivial rfl (by omega) (sortsI _) (enters_of Tryz.func93 (by kernel_rfl) rfl) f #[.pointer (some ⟨b', 0, none⟩)] trivial (enters_of g1 g2 g3) _ _ (by unfold maxLen; omega) (by omega) _ hseq
    refine Calls.mono ((callsIn_wide (n := 5)).1 cS) ?_
    rintro e w' ⟨v, ss, rfl, hS, hrow, hnil, hbel⟩
    subst hS
    have hm : ([] : List Int).mergeSort leI = [] := by simp
    rcases hrow.2 with ⟨rfl, h0⟩ | ⟨g, cap, cur, rfl, hge, hgb, hle, hcap, hsz, htk⟩
    · refine ⟨_, _, h none 0, rfl, ?_⟩
      have hr' : Rep W F hs w' := hr.move fun L hL => hL.below hbel
      exact Rep.nilvec _ (sz := 1) (enc := encI1) 0 (fun _ => rfl) hr'
    · refine ⟨_, _, h (some ⟨g, 0, none⟩) cap, rfl, ?_⟩
      refine hr.new (c := [(g, .cells cur _ (0, 0))]) ⟨⟨by simp [flatV], by simp, .inr ⟨g, 0, cur, rfl, rfl, by have := hsz; simp at this; omega, by simp [flatV]⟩⟩, fun _ => rfl⟩ fun L hL => hL.grow hbel hge hgb
theorem gaT0_ok : AllOk Tryz.prog gaT0 := ⟨inl_ok trivial hmA Tryz.func88 (by kernel_rfl),
  srtQ_ok rfl (srtI_ok rfl ⟨_, Tryz.func101, by kernel_rfl, _, rfl⟩ (fun w b rm nn D0 h1 h2 h3 => AnyZI.keys_gives (ρ := keysG_ren) { keysG with } Fence.wide _ trivial rfl (by omega) b rm nn D0 w h1 h2 h3)) ⟨_, Tryz.func101, by kernel_rfl, _, rfl⟩
    (fun w b h1 h2 => AnyZI.keys_gives_nil (ρ := keysG_ren) { keysG with } Fence.wide _ trivial rfl b w h1 h2), trivial⟩
theorem gaT_ok : AllOk Tryz.prog gaT := ⟨inl_ok gaT0_ok hmA Tryz.func61 (by kernel_rfl), gaT0_ok⟩
theorem gnT_ok : AllOk Tryz.prog gnT := ⟨inl_ok trivial hmA Tryz.func107 (by kernel_rfl), srtS_ok rfl ⟨_, Tryz.func122, by kernel_rfl, _, rfl⟩ (fun w b rm nn D0 h1 h2 h3 => AnyZ.keys_gives (ρ := keysM_ren) { keysM with } Fence.wide _ trivial rfl (by omega) b rm nn D0 w h1 h2 h3), inl_ok trivial hmA Tryz.func105 (by kernel_rfl), trivial⟩
theorem gOf_ok : CtrOk Tryz.prog 17 (adtC grpE gofM) := adt_ok fun b s rest N h => by
  unfold gofM at h
  split at h
  case h_2 => exact h.elim
  rename_i pid
  cases hg : mget s.of (.i .i64 pid) with
  | none =>
    rw [hg] at h
    refine Spec.pre (hs' := [⟨.blk b, .cells [.map 1 s.bg, .map 2 s.bo, .vec 3 s.ao s.notes.length s.cap] 104⟩, ⟨.blk s.bg, .mapL none encG s.gs⟩, ⟨.blk s.bo, .map1 (some .i64) encO s.of (.i .i64 pid) none⟩, ⟨.sl s.ao s.cap, .vecL 9 1 encS s.notes ByteArray.empty⟩, pk 0 (s.gs.map setE)]) (fun W F w hr => Rep.know1 (l := 2) (.i .i64 pid) none rfl rfl (by rw [hg]; rfl) hr) rfl ?_
    refine Spec.of_G 19 Tryz.func17 (c := bodyOf Tryz.f17) (by kernel_rfl) (by kernel_rfl) (Nat.le_of_ble_eq_true rfl) fun W F => ?_
    refine G_run (kc := false) (ss := []) (Cs := []) trivial hmA 600 ?_
    rw [gOf_none (n := ByteArray.empty)]
    exact ⟨rfl, ⟨rfl, rfl, rfl⟩, s, fun W F w hr => Rep.forget1 (l := 2) rfl hr, h⟩
  | some n =>
    rw [hg] at h
    refine Spec.pre (hs' := [⟨.blk b, .cells [.map 1 s.bg, .map 2 s.bo, .vec 3 s.ao s.notes.length s.cap] 104⟩, ⟨.blk s.bg, .mapL none encG s.gs⟩, ⟨.blk s.bo, .map1 (some .i64) encO s.of (.i .i64 pid) (some (.str n))⟩, ⟨.sl s.ao s.cap, .vecL 9 1 encS s.notes ByteArray.empty⟩, pk 0 (s.gs.map setE)]) (fun W F w hr => Rep.know1 (l := 2) (.i .i64 pid) (some (.str n)) rfl rfl (by rw [hg]; rfl) hr) rfl ?_
    refine Spec.of_G 19 Tryz.func17 (c := bodyOf Tryz.f17) (by kernel_rfl) (by kernel_rfl) (Nat.le_of_ble_eq_true rfl) fun W F => ?_
    refine G_run (kc := false) (ss := []) (Cs := []) trivial hmA 600 ?_
    rw [gOf_some]
    exact ⟨rfl, ⟨rfl, rfl, rfl⟩, s, fun W F w hr => Rep.forget1 (l := 2) rfl hr, h⟩
theorem gMb_ok : CtrOk Tryz.prog 18 membersNC := by
  intro args hs N h
  unfold membersNC at h
  split at h
  case h_2 => exact h.elim
  rename_i l b name
  split at h
  case h_2 => exact h.elim
  rename_i b' σ' p s hl
  obtain ⟨rfl, rfl, hp, hw, hN⟩ := h
  cases hp
  simp only [cast_eq] at hw hN
  refine Spec.at (hp := [pkA b' grpE s]) (args' := [.ptr 0 b' 0, .str name]) (Post' := fun h' r => ∃ ao cap, h' = [pkA b' grpE s, ⟨.sl ao cap, .vecL 3 1 encI1 (memG s name) 0⟩] ∧ r = .vec 1 ao (memG s name).length cap) [l] (by simp [distinct]) (by simp [pickE, hl, pkA]) ?_ rfl ?_
  · refine Spec.up ?_
    cases hx : mget s.gs (.s name) with
    | none =>
      have e : memG s name = [] := by simp only [memG, hx]
      rw [e]
      refine Spec.pre (hs' := [⟨.blk b', .cells [.map 1 s.bg, .map 2 s.bo, .vec 3 s.ao s.notes.length s.cap] 104⟩, ⟨.blk s.bg, .map1 none encG s.gs (.s name) none⟩, ⟨.blk s.bo, .mapL (some .i64) encO s.of⟩, ⟨.sl s.ao s.cap, .vecL 9 1 encS s.notes ByteArray.empty⟩, pk 0 (s.gs.map setE)]) (fun W F w hr => Rep.know1 (l := 1) (.s name) none rfl rfl (by rw [hx]; rfl) hr.unpkA1) rfl ?_
      refine Spec.of_G 12 Tryz.func18 (c := bodyOf Tryz.f18) (by kernel_rfl) (by kernel_rfl) (Nat.le_of_ble_eq_true rfl) fun W F => ?_
      refine G_run (kc := true) (ss := []) gaT_ok hmA 600 ?_
      rw [gMb_none]
      have fin : ∀ (ao : Option Addr) (cap b1 : Nat), up (fun h' r => ∃ ao cap, h' = [pkA b' grpE s, ⟨.sl ao cap, .vecL 3 1 encI1 [] 0⟩] ∧ r = .vec 1 ao ([] : List Int).length cap) [⟨.blk b', .cells [.map 1 s.bg, .map 2 s.bo, .vec 3 s.ao s.notes.length s.cap] 104⟩, ⟨.blk s.bg, .map1 none encG s.gs (.s name) none⟩, ⟨.blk s.bo, .mapL (some .i64) encO s.of⟩, ⟨.sl s.ao s.cap, .vecL 9 1 encS s.notes ByteArray.empty⟩, pk 0 (s.gs.map setE), ⟨.blk b1, .cells [.raw (.map none)] 98⟩, ⟨.sl ao cap, .vecL 3 1 encI1 [] 0⟩] (.vec 6 ao 0 cap) := fun ao cap b1 => by
        refine ⟨[pkA b' grpE s, ⟨.sl ao cap, .vecL 3 1 encI1 [] 0⟩], .vec 1 ao 0 cap, fun W F w hr => ?_, rfl, ao, cap, rfl, rfl⟩
        have h1 := Rep.forget1 (l := 1) rfl hr
        have h2 := Rep.pick (π := [0, 1, 2, 3, 4, 6]) (by decide) rfl h1
        exact Rep.pkA (S := grpE) (s := s) (t := [_]) h2
      repeat' first
        | exact rfl
        | exact HEq.rfl
        | exact fin _ _ _
        | apply And.intro
        | (refine fun _ => ?_)
        | fail
    | some v =>
      obtain ⟨nb, ms⟩ := v
      have hwf := hw _ hx
      have e : memG s name = sortI ms := by simp only [memG, hx]
      rw [e]
      obtain ⟨x, y, hs, _, _⟩ := gs_split hx
      refine Spec.pre (hs' := [⟨.blk b', .cells [.map 1 s.bg, .map 2 s.bo, .vec 3 s.ao s.notes.length s.cap] 104⟩, ⟨.blk s.bg, .map1 none encG s.gs (.s name) (some (.map 4 nb))⟩, ⟨.blk s.bo, .mapL (some .i64) encO s.of⟩, ⟨.sl s.ao s.cap, .vecL 9 1 encS s.notes ByteArray.empty⟩, ⟨.blk nb, .mapL (some .i64) encU ms⟩, pk 0 (x.map setE ++ y.map setE)]) (fun W F w hr => Rep.know1 (l := 1) (.s name) (some (.map 4 nb)) rfl rfl (by rw [hx]; rfl) (grp_open hs hr.unpkA1)) rfl ?_
      refine Spec.of_G 12 Tryz.func18 (c := bodyOf Tryz.f18) (by kernel_rfl) (by kernel_rfl) (Nat.le_of_ble_eq_true rfl) fun W F => ?_
      refine G_run (kc := true) (ss := []) gaT_ok hmA 600 ?_
      rw [gMb_some]
      have fin : ∀ (ao : Option Addr) (cap b1 : Nat), up (fun h' r => ∃ ao cap, h' = [pkA b' grpE s, ⟨.sl ao cap, .vecL 3 1 encI1 (sortI ms) 0⟩] ∧ r = .vec 1 ao (sortI ms).length cap) [⟨.blk b', .cells [.map 1 s.bg, .map 2 s.bo, .vec 3 s.ao s.notes.length s.cap] 104⟩, ⟨.blk s.bg, .map1 none encG s.gs (.s name) (some (.map 4 nb))⟩, ⟨.blk s.bo, .mapL (some .i64) encO s.of⟩, ⟨.sl s.ao s.cap, .vecL 9 1 encS s.notes ByteArray.empty⟩, ⟨.blk nb, .mapL (some .i64) encU ms⟩, pk 0 (x.map setE ++ y.map setE), ⟨.blk b1, .cells [.map 4 nb] 98⟩, ⟨.sl ao cap, .vecL 3 1 encI1 (sortI ms) 0⟩] (.vec 7 ao (sortI ms).length cap) := fun ao cap b1 => by
        refine ⟨[pkA b' grpE s, ⟨.sl ao cap, .vecL 3 1 encI1 (sortI ms) 0⟩], .vec 1 ao (sortI ms).length cap, fun W F w hr => ?_, rfl, ao, cap, rfl, rfl⟩
        have h1 := Rep.forget1 (l := 1) rfl hr
        have h2 := Rep.intoP (p := [⟨.blk b', .cells [.map 1 s.bg, .map 2 s.bo, .vec 3 s.ao s.notes.length s.cap] 104⟩, ⟨.blk s.bg, .mapL none encG s.gs⟩, ⟨.blk s.bo, .mapL (some .i64) encO s.of⟩, ⟨.sl s.ao s.cap, .vecL 9 1 encS s.notes ByteArray.empty⟩]) (t := [_, _]) (e := setE (.s name, (nb, ms))) h1
        have h3 := Rep.pick (π := [0, 1, 2, 3, 4, 6]) (by decide) rfl h2
        have e : x.map setE ++ setE (.s name, (nb, ms)) :: y.map setE = s.gs.map setE := by rw [hs]; simp
        rw [e] at h3
        exact Rep.pkA (S := grpE) (s := s) (t := [_]) h3
      repeat' first
        | exact rfl
        | exact HEq.rfl
        | exact hwf
        | exact fin _ _ _
        | apply And.intro
        | (refine fun _ => ?_)
        | fail
  · rintro h' r ⟨ao, cap, rfl, rfl⟩
    refine ⟨Nat.le_of_ble_eq_true rfl, .vec (lenN hs) ao (memG s name).length cap, rfl, ?_⟩
    have := hN ao cap
    have e0 : setN hs l (pkA b' grpE s) = hs := setN_selfA hl
    simpa [putBack, appE_eq, snoc_eq, e0] using this
theorem gNm_ok : CtrOk Tryz.prog 96 namesC := by
  intro args hs N h
  unfold namesC at h
  split at h
  case h_2 => exact h.elim
  rename_i l b
  split at h
  case h_2 => exact h.elim
  rename_i b' σ' p s hl
  obtain ⟨rfl, rfl, hp, hw, hN⟩ := h
  cases hp
  simp only [cast_eq] at hw hN
  refine Spec.at (hp := [pkA b' grpE s]) (args' := [.ptr 0 b' 0]) (Post' := fun h' r => ∃ ao cap bx, h' = [pkA b' grpE s, ⟨.sl ao cap, .vecL 9 1 encS (sortS s.gs) ByteArray.empty⟩, ⟨.blk bx, .cells [.vec (lenN hs) ao (sortS s.gs).length cap] 102⟩] ∧ r = .func (.func 119) [] [.ptr 2 bx 0]) [l] (by simp [distinct]) (by simp [pickE, hl, pkA]) ?_ rfl ?_
  · refine Spec.up ?_
    refine Spec.pre (hs' := [⟨.blk b', .cells [.map 1 s.bg, .map 2 s.bo, .vec 3 s.ao s.notes.length s.cap] 104⟩, ⟨.blk s.bg, .mapL none encG s.gs⟩, ⟨.blk s.bo, .mapL (some .i64) encO s.of⟩, ⟨.sl s.ao s.cap, .vecL 9 1 encS s.notes ByteArray.empty⟩, pk 0 (s.gs.map setE)]) (args' := [.ptr 0 b' 0]) (fun W F w hr => hr.unpkA1) rfl ?_
    refine Spec.of_G 10 Tryz.func96 (c := bodyOf Tryz.f96) (by kernel_rfl) (by kernel_rfl) (Nat.le_of_ble_eq_true rfl) fun W F => ?_
    refine G_run (kc := true) (ss := []) gnT_ok hmA 600 ?_
    rw [gNm_run]
    have fin : ∀ (ao : Option Addr) (cap b1 bx : Nat), up (fun h' r => ∃ ao cap bx, h' = [pkA b' grpE s, ⟨.sl ao cap, .vecL 9 1 encS (sortS s.gs) ByteArray.empty⟩, ⟨.blk bx, .cells [.vec (lenN hs) ao (sortS s.gs).length cap] 102⟩] ∧ r = .func (.func 119) [] [.ptr 2 bx 0]) [⟨.blk b', .cells [.map 1 s.bg, .map 2 s.bo, .vec 3 s.ao s.notes.length s.cap] 104⟩, ⟨.blk s.bg, .mapL none encG s.gs⟩, ⟨.blk s.bo, .mapL (some .i64) encO s.of⟩, ⟨.sl s.ao s.cap, .vecL 9 1 encS s.notes ByteArray.empty⟩, pk 0 (s.gs.map setE), ⟨.blk b1, .cells [.map 1 s.bg] 100⟩, ⟨.sl ao cap, .vecL 9 1 encS1 (sortS s.gs) ByteArray.empty⟩, ⟨.blk bx, .cells [.vec 6 ao (sortS s.gs).length cap] 102⟩] (.func (.func 119) [] [.ptr 7 bx 0]) := fun ao cap b1 bx => by
      refine ⟨[pkA b' grpE s, ⟨.sl ao cap, .vecL 9 1 encS (sortS s.gs) ByteArray.empty⟩, ⟨.blk bx, .cells [.vec (lenN hs) ao (sortS s.gs).length cap] 102⟩], .func (.func 119) [] [.ptr 2 bx 0], fun W F w hr => ?_, rfl, ao, cap, bx, rfl, rfl⟩
      have h2 := Rep.pick (π := [0, 1, 2, 3, 4, 6, 7]) (by decide) rfl hr
      have h3 := Rep.cellsEq (l := 6) (cs' := [.vec (lenN hs) ao (sortS s.gs).length cap]) rfl (by rfl) h2
      exact Rep.pkA (S := grpE) (s := s) (t := [_, _]) h3
    repeat' first
      | exact rfl
      | exact HEq.rfl
      | exact hw
      | exact fin _ _ _ _
      | apply And.intro
      | (refine fun _ => ?_)
      | fail
  · rintro h' r ⟨ao, cap, bx, rfl, rfl⟩
    refine ⟨by simp [lenN], .func (.func 119) [] [.ptr (lenN hs + 1) bx 0], rfl, ?_⟩
    have e0 : setN hs l (pkA b' grpE s) = hs := setN_selfA hl
    have := hN ao cap bx
    simpa [putBack, appE_eq, snoc_eq, e0] using this

/-- What the function says of one group. -/
def OneG (fv : Value) (s : Grp) (b : Nat) (ns : List ByteArray) (R : Nat → List Ent) (Stop : List Ent → Prop) : Prop := ∀ i x, ns[i]? = some x → ∀ (ao : Option Addr) (cap : Nat),
  VSpec Tryz.prog fv [pkA b grpE s, pk 0 (R i), ⟨.sl ao cap, .vecL 3 1 encI1 (memG s x) 0⟩] [.str x, .vec 2 ao (memG s x).length cap] fun h r =>
    (h = [pkA b grpE s, pk 0 (R (i + 1)), ⟨.sl ao cap, .vecL 3 1 encI1 (memG s x) 0⟩] ∧ r = .bool true) ∨ ∃ R', Stop R' ∧ h = [pkA b grpE s, pk 0 R', ⟨.sl ao cap, .vecL 3 1 encI1 (memG s x) 0⟩] ∧ r = .bool false
theorem allGY_ok {fv : Value} {s : Grp} {b : Nat} {ns : List ByteArray} {R : Nat → List Ent} {Stop : List Ent → Prop} (hV : OneG fv s b ns R Stop) : YOk Tryz.prog (allGY fv s b ns R Stop) := by
  rintro v args hs N ⟨rfl, h⟩
  split at h
  case h_2 => exact h.elim
  rename_i e0 e1 e2 e3 e4 e5 e6 rest
  obtain ⟨i, x, ao, cap, hx, rfl, rfl, rfl, rfl, hN1, hN2⟩ := h
  refine VSpec.at [0, 3, 6] rfl rfl (VSpec.conv (fun W F w hr => hr) (args' := [.str x, .vec 2 ao (memG s x).length cap]) rfl (hV i x hx ao cap) fun h' r hq => ⟨h', r, fun W F w hr => hr, rfl, hq⟩) fun h' r hp => ?_
  rcases hp with ⟨rfl, rfl⟩ | ⟨R', hs, rfl, rfl⟩
  · exact ⟨Nat.le_refl _, by simpa [putBack, setN, appE_eq] using hN1⟩
  · exact ⟨Nat.le_refl _, by simpa [putBack, setN, appE_eq] using hN2 R' hs⟩
def agR (s : Grp) (b bx by_ : Nat) (fv : Value) (D l : Nat) (rc : Loop) (R : Nat → List Ent) (i : Nat) : List Ent := [pkA b grpE s, ⟨.blk bx, .cells [.ptr 0 b 0] 28⟩, ⟨.blk by_, .cells [.raw fv] 171⟩, pk 0 (R i), dent D true, lp l rc .ready none]
section
variable {s : Grp} {b bx by_ D l : Nat} {fv : Value} {rc : Loop} {R : Nat → List Ent} {Stop : List Ent → Prop} {T : List SV}
theorem al9_V (hm : ∀ n, memGOk s n) (hV : OneG fv s b (sortS s.gs) R Stop) (hrt : rc.tmps = (denL T).toArray) (hrp : rc.params = rfP (codeAt (bodyOf Tryz.f95) [1, 1, 0])) (hra : rc.assign = rfA (codeAt (bodyOf Tryz.f95) [1, 1, 0])) (hrb : rc.body = rfB (codeAt (bodyOf Tryz.f95) [1, 1, 0]))
    (hl : ∀ v, lenN (setMany T [6] [v]) = 14 ∧ liveOk (setMany T [6] [v]) [(1, .ptr 1 bx 0), (2, .ptr 2 by_ 0), (6, v)]) :
    OneS (.func (.yield l) #[] #[]) (sortS s.gs) (agR s b bx by_ fv D l rc R) (fun R' => ∃ R'', Stop R'' ∧ R' = [pkA b grpE s, ⟨.blk bx, .cells [.ptr 0 b 0] 28⟩, ⟨.blk by_, .cells [.raw fv] 171⟩, pk 0 (R''), dent D true, lp l rc .done (some .ret)]) := by
  intro i x hxi
  refine VSpec.conv (hs' := agR s b bx by_ fv D l rc R i) (args' := [.str x]) (Post' := fun h r => (h = agR s b bx by_ fv D l rc R (i + 1) ∧ r = .bool true) ∨ ∃ R'', Stop R'' ∧ h = [pkA b grpE s, ⟨.blk bx, .cells [.ptr 0 b 0] 28⟩, ⟨.blk by_, .cells [.raw fv] 171⟩, pk 0 (R''), dent D true, lp l rc .done (some .ret)] ∧ r = .bool false) (fun W F w hr => by have := Rep.unpk hr; simpa using this) rfl (.inr ⟨l, rfl, ?_⟩) ?_
  · unfold agR
    refine YSpec.up (YSpec.of_GR (p := 5) (T0 := T) (ps := [6]) rfl hrt hrp hra hrb rfl rfl fun W F => ?_)
    refine GR_live 14 [(1, .ptr 1 bx 0), (2, .ptr 2 by_ 0), (6, .str x)] [pkA b grpE s, ⟨.blk bx, .cells [.ptr 0 b 0] 28⟩, ⟨.blk by_, .cells [.raw fv] 171⟩, pk 0 (R i), dent D true, lp l rc .ready none] (hl _).1 (hl _).2 (fun _ h => h) fun u => ?_
    refine runR_sound (kc := true) (ss := []) (Cs := []) (Y := noY) (K := fun _ _ => False) (fun _ _ h => h.elim) trivial (noY_ok _) hmA Ends.assign 60 _ _ ?_
    rw [al9_asg]
    refine ⟨rfl, ?_⟩
    refine GR_live 14 [(1, .ptr 1 bx 0), (2, .ptr 2 by_ 0), (3, .str x)] [pkA b grpE s, ⟨.blk bx, .cells [.ptr 0 b 0] 28⟩, ⟨.blk by_, .cells [.raw fv] 171⟩, pk 0 (R i), dent D true, lp l rc .busy none] rfl ⟨rfl, rfl, rfl, trivial⟩ (fun w hr => hr) fun u => ?_
    refine runR_sound (kc := true) (ss := []) (Cs := [(18, membersNC)]) (Y := allGY fv s b (sortS s.gs) R Stop) (K := fun _ _ => False) (fun _ _ h => h.elim) ⟨gMb_ok, trivial⟩ (allGY_ok hV) hmA (Ends.round (p := 5) (rc := rc) (j := none)) 600 _ _ ?_
    rw [al9_body]
    have c1 : ∀ (tm : List SV) (ao : Option Addr) (cap : Nat), roundE l 5 rc none (up fun h r => (h = [pkA b grpE s, ⟨.blk bx, .cells [.ptr 0 b 0] 28⟩, ⟨.blk by_, .cells [.raw fv] 171⟩, pk 0 (R (i + 1)), dent D true, lp l rc .ready none] ∧ r = .bool true) ∨ ∃ R'', Stop R'' ∧ h = [pkA b grpE s, ⟨.blk bx, .cells [.ptr 0 b 0] 28⟩, ⟨.blk by_, .cells [.raw fv] 171⟩, pk 0 (R''), dent D true, lp l rc .done (some .ret)] ∧ r = .bool false) ⟨tm, [pkA b grpE s, ⟨.blk bx, .cells [.ptr 0 b 0] 28⟩, ⟨.blk by_, .cells [.raw fv] 171⟩, pk 0 (R (i + 1)), dent D true, lp l rc .busy none, ⟨.sl ao cap, .vecL 3 1 encI1 (memG s x) 0⟩]⟩ := fun tm ao cap =>
      ⟨rfl, [pkA b grpE s, ⟨.blk bx, .cells [.ptr 0 b 0] 28⟩, ⟨.blk by_, .cells [.raw fv] 171⟩, pk 0 (R (i + 1)), dent D true, lp l rc .ready none], .bool true, fun W F w hr => Rep.dropR (h := [pkA b grpE s, ⟨.blk bx, .cells [.ptr 0 b 0] 28⟩, ⟨.blk by_, .cells [.raw fv] 171⟩, pk 0 (R (i + 1)), dent D true, lp l rc .ready none]) (t := [_]) hr, rfl, .inl ⟨rfl, rfl⟩⟩
    have c2 : ∀ (tm : List SV) (ao : Option Addr) (cap : Nat) (R' : List Ent), Stop R' → roundX l 5 rc none (up fun h r => (h = [pkA b grpE s, ⟨.blk bx, .cells [.ptr 0 b 0] 28⟩, ⟨.blk by_, .cells [.raw fv] 171⟩, pk 0 (R (i + 1)), dent D true, lp l rc .ready none] ∧ r = .bool true) ∨ ∃ R'', Stop R'' ∧ h = [pkA b grpE s, ⟨.blk bx, .cells [.ptr 0 b 0] 28⟩, ⟨.blk by_, .cells [.raw fv] 171⟩, pk 0 (R''), dent D true, lp l rc .done (some .ret)] ∧ r = .bool false) .ret ⟨tm, [pkA b grpE s, ⟨.blk bx, .cells [.ptr 0 b 0] 28⟩, ⟨.blk by_, .cells [.raw fv] 171⟩, pk 0 (R'), dent D true, lp l rc .busy none, ⟨.sl ao cap, .vecL 3 1 encI1 (memG s x) 0⟩]⟩ := fun tm ao cap R' hs =>
      ⟨rfl, [pkA b grpE s, ⟨.blk bx, .cells [.ptr 0 b 0] 28⟩, ⟨.blk by_, .cells [.raw fv] 171⟩, pk 0 (R'), dent D true, lp l rc .done (some .ret)], .bool false, fun W F w hr => Rep.dropR (h := [pkA b grpE s, ⟨.blk bx, .cells [.ptr 0 b 0] 28⟩, ⟨.blk by_, .cells [.raw fv] 171⟩, pk 0 (R'), dent D true, lp l rc .done (some .ret)]) (t := [_]) hr, rfl, .inr ⟨R', hs, rfl, rfl⟩⟩
    repeat' first
      | exact rfl
      | exact HEq.rfl
      | exact hm x
      | exact c1 _ _ _
      | exact c2 _ _ _ _ (by assumption)
      | (refine ⟨i, x, _, _, hxi, rfl, rfl, rfl, rfl, ?_, fun R' hst => ?_⟩)
      | exact trivial
      | (refine ⟨rfl, ?_⟩)
      | apply And.intro
      | (refine fun _ => ?_)
      | fail
  · rintro h' r (⟨rfl, rfl⟩ | ⟨R'', hs, rfl, rfl⟩)
    · exact ⟨[pk 0 (agR s b bx by_ fv D l rc R (i + 1))], .bool true, fun W F w hr => Rep.pk (t := []) 0 (by simpa using hr), rfl, .inl ⟨rfl, rfl⟩⟩
    · exact ⟨[pk 0 [pkA b grpE s, ⟨.blk bx, .cells [.ptr 0 b 0] 28⟩, ⟨.blk by_, .cells [.raw fv] 171⟩, pk 0 (R''), dent D true, lp l rc .done (some .ret)]], .bool false, fun W F w hr => Rep.pk (t := []) 0 (by simpa using hr), rfl, .inr ⟨_, ⟨R'', hs, rfl⟩, rfl, rfl⟩⟩
end
/-- All's function: for each group by its name, as1 far as1 the function wants them. -/
theorem allG_iter {fv : Value} {s : Grp} {b bx : Nat} {R : Nat → List Ent} {Stop : List Ent → Prop} (hf : ∃ fn first cap, fv = .func fn first cap) (hw : wfS s.gs) (hl6 : (sortS s.gs).length ≤ 1000000) (hm : ∀ n, memGOk s n) (hV : OneG fv s b (sortS s.gs) R Stop) :
    Spec Tryz.prog 95 [pkA b grpE s, ⟨.blk bx, .cells [.ptr 0 b 0] 28⟩, pk 0 (R 0)] [.raw fv, .ptr 1 bx 0] fun h' r => r = .tuple [] ∧ (h' = [pkA b grpE s, ⟨.blk bx, .cells [.ptr 0 b 0] 28⟩, pk 0 (R (sortS s.gs).length)] ∨ ∃ R', Stop R' ∧ h' = [pkA b grpE s, ⟨.blk bx, .cells [.ptr 0 b 0] 28⟩, pk 0 R']) := by
  refine Spec.up ?_
  refine Spec.of_GR 14 Tryz.func95 (c := bodyOf Tryz.f95) (by kernel_rfl) (by kernel_rfl) (Nat.le_of_ble_eq_true rfl) fun W F => ?_
  refine runR_sound (kc := true) (ss := []) (Cs := [(96, namesC)]) (fun _ _ h => h) ⟨gNm_ok, trivial⟩ (noY_ok _) hmA Ends.fn 300 _ _ ?_
  rw [al9_start]
  obtain ⟨ff, f1, f2, rfl⟩ := hf
  refine ⟨rfl, fun by_ => ⟨rfl, rfl, rfl, rfl, HEq.rfl, hw, fun aw cw bv => ?_⟩⟩
  generalize Value.func ff f1 f2 = fv at hV ⊢
  refine GR_rangeAt [] (bodyOf Tryz.f95) [1, 1, 0] (f := 119) (first := []) (captured := [.ptr 5 bv 0]) (by kernel_rfl) (by kernel_rfl) (by kernel_rfl) fun D l rc hrt hrp hra hrb =>
    ⟨fun h _ => h = [pkA b grpE s, ⟨.blk bx, .cells [.ptr 0 b 0] 28⟩, ⟨.blk by_, .cells [.raw fv] 171⟩, pk 0 (R (sortS s.gs).length), dent D true, lp l rc .ready none, ⟨.blk bv, .cells [.vec 1 aw (sortS s.gs).length cw] 102⟩, ⟨.sl aw cw, .vecL 9 1 encS (sortS s.gs) ByteArray.empty⟩] ∨ ∃ R'', Stop R'' ∧ h = [pkA b grpE s, ⟨.blk bx, .cells [.ptr 0 b 0] 28⟩, ⟨.blk by_, .cells [.raw fv] 171⟩, pk 0 (R''), dent D true, lp l rc .done (some .ret), ⟨.blk bv, .cells [.vec 1 aw (sortS s.gs).length cw] 102⟩, ⟨.sl aw cw, .vecL 9 1 encS (sortS s.gs) ByteArray.empty⟩], ?_, ?_⟩
  · intro W F w hr
    have hV1 := al9_V (T := _) (l := l) (D := D) (bx := bx) (by_ := by_) hm hV hrt hrp hra hrb fun v => ⟨rfl, rfl, rfl, rfl, trivial⟩
    have h1 : Rep W F [⟨.blk bv, .cells [.vec 1 aw (sortS s.gs).length cw] 102⟩, ⟨.sl aw cw, .vecL 9 1 encS (sortS s.gs) ByteArray.empty⟩, pk 0 (agR s b bx by_ fv D l rc R 0)] w := by
      refine Rep.pkAt 0 (p := [_, _]) (t := []) ?_
      have h2 := Rep.pick (π := [5, 4, 0, 1, 3, 2, 6, 7]) (by decide) rfl hr
      exact Rep.cellsEq (l := 0) (cs' := [.vec 1 aw (sortS s.gs).length cw]) rfl (by rfl) h2
    refine Calls.mono (valS_iter (ao := aw) (cap := cw) (bx := bv) hl6 hV1 W F w h1) ?_
    rintro e w' ⟨h', r, ⟨rfl, hc⟩, rfl, hr'⟩
    rcases hc with rfl | ⟨R', ⟨R'', hs, rfl⟩, rfl⟩
    · have h7 := Rep.unpkAt (p := [_, _]) (t := []) hr'
      refine ⟨_, .tuple [], .inl rfl, rfl, ?_⟩
      exact Rep.pick (π := [2, 3, 4, 5, 6, 7, 0, 1]) (by decide) rfl h7
    · have h7 := Rep.unpkAt (p := [_, _]) (t := []) hr'
      refine ⟨_, .tuple [], .inr ⟨R'', hs, rfl⟩, rfl, ?_⟩
      exact Rep.pick (π := [2, 3, 4, 5, 6, 7, 0, 1]) (by decide) rfl h7
  · have e5 : (fun (rr : List Ent) (st : LoopState) (j : Option Code) => ([pkA b grpE s, ⟨.blk bx, .cells [.ptr 0 b 0] 28⟩, ⟨.blk by_, .cells [.raw fv] 171⟩, pk 0 rr, dent D true, lp l rc st j] : List Ent)) = fun rr st j => [pkA b grpE s, ⟨.blk bx, .cells [.ptr 0 b 0] 28⟩, ⟨.blk by_, .cells [.raw fv] 171⟩, pk 0 rr, dent D true, lp l rc st j] := rfl
    rintro h' v (rfl | ⟨R'', hs, rfl⟩)
    · refine ⟨5, .ready, none, by decide, rfl, ?_⟩
      dsimp only
      refine GR_live 14 [(1, .ptr 1 bx 0), (2, .ptr 2 by_ 0)] [pkA b grpE s, ⟨.blk bx, .cells [.ptr 0 b 0] 28⟩, ⟨.blk by_, .cells [.raw fv] 171⟩, pk 0 (R (sortS s.gs).length), dent D true, lp l rc .exhausted none] rfl ⟨rfl, rfl, trivial⟩ (fun w hr => Rep.dropR (t := [_, _]) hr) fun u => ?_
      refine runR_sound (Cs := []) (Y := noY) (kc := true) (ss := []) (K := fun _ _ => False) (fun _ _ h => h.elim) trivial (noY_ok _) hmA (Ends.fnM D 4) 900 _ _ ?_
      rw [al9_end]
      exact ⟨rfl, _, .tuple [], fun W F w hr => Rep.pick (π := [0, 1, 3]) (by decide) rfl hr, rfl, rfl, .inl rfl⟩
    · refine ⟨5, .done, some .ret, by decide, rfl, ?_⟩
      dsimp only
      refine GR_live 14 [(1, .ptr 1 bx 0), (2, .ptr 2 by_ 0)] [pkA b grpE s, ⟨.blk bx, .cells [.ptr 0 b 0] 28⟩, ⟨.blk by_, .cells [.raw fv] 171⟩, pk 0 (R''), dent D true, lp l rc .exhausted (some .ret)] rfl ⟨rfl, rfl, trivial⟩ (fun w hr => Rep.dropR (t := [_, _]) hr) fun u => ?_
      refine runR_sound (Cs := []) (Y := noY) (kc := true) (ss := []) (K := fun _ _ => False) (fun _ _ h => h.elim) trivial (noY_ok _) hmA (Ends.fnM D 4) 900 _ _ ?_
      rw [al9_ret]
      exact ⟨rfl, _, .tuple [], fun W F w hr => Rep.pick (π := [0, 1, 3]) (by decide) rfl hr, rfl, rfl, .inr ⟨R'', hs, rfl⟩⟩
end Go.Proofs.YtkcmgcoppecfpaaGreat

/- YtkcmgcoppecfpaaGreatValIC -/
/- slices.Values: going through a row. -/
namespace Go.Proofs.YtkcmgcoppecfpaaGreat
open Go Go.RowKit
set_option linter.unusedVariables false
set_option linter.unusedSimpArgs false
set_option linter.unnecessarySimpa false
set_option maxHeartbeats 0

/-- The function that is called for each element: R i: the entries ahead of element i; Stop: where it says 'false'. -/
def valIY (fv : Value) (xs : List Int) (R : Nat → List Ent) (Stop : List Ent → Prop) : YCtr := fun v args hs N => v = fv ∧ match hs with
  | e0 :: e1 :: e2 :: rest => ∃ i x, xs[i]? = some x ∧ args = [.int .i64 x] ∧ e2 = pk 0 (R i) ∧ N (e0 :: e1 :: pk 0 (R (i + 1)) :: rest) (.bool true) ∧ ∀ R', Stop R' → N (e0 :: e1 :: pk 0 R' :: rest) (.bool false)
  | _ => False
end Go.Proofs.YtkcmgcoppecfpaaGreat

/- YtkcmgcoppecfpaaGreatValI1Run -/
namespace Go.Proofs.YtkcmgcoppecfpaaGreat
set_option linter.unusedVariables false
open Go Go.RowKit
set_option maxHeartbeats 0
set_option maxRecDepth 100000
set_option maxRecDepth 100000

theorem vI_start (K : List Frm → Sy → Prop) (X : Code → Sy → Prop) (E : Sy → Prop) (xs : List Int) (bx : Nat) (ao : Option Addr) (cap : Nat) (fv : Value) (R : Nat → List Ent) (Stop : List Ent → Prop) : (runR Tryz.prog [] (valIY fv xs R Stop) true [] K X E 300 [.code (bodyOf Tryz.f87)] ⟨padTo 16 [.raw fv, .ptr 0 bx 0], [⟨.blk bx, .cells [.vec 1 ao xs.length cap] 47⟩, ⟨.sl ao cap, .vecL 3 1 encI1 xs 0⟩, pk 0 (R 0)]⟩) = (
bx = bx ∧
 K (frm [] (bodyOf Tryz.f87) [1, 0] [])
  (Sy.mk (SV.raw fv :: (SV.ptr 0 bx 0 :: (rawE (SV.vec 1 ao (List.length xs) cap :: (SV.int IntKind.i64 (↑(List.length xs) : Int) :: (SV.int IntKind.i64 (0 : Int) :: (rawE [] 8)))) 3)))
   [Ent.mk (Loc.blk bx) (SObj.cells [SV.vec 1 ao (List.length xs) cap] (47 : TypeId)), Ent.mk (Loc.sl ao cap) (SObj.vecL (3 : TypeId) 1 encI1 xs (0 : Int)),
    pk 0 (R 0)])) := by kernel_rfl


theorem vI_body (K : List Frm → Sy → Prop) (X : Code → Sy → Prop) (E : Sy → Prop) (J : Act → World → Prop) (xs : List Int) (bx : Nat) (ao : Option Addr) (cap : Nat) (fv : Value) (R : Nat → List Ent) (Stop : List Ent → Prop) (i : Nat) (u : Nat → Value) : (runR Tryz.prog [] (valIY fv xs R Stop) true [] K X E 900 (frm [J] (bodyOf Tryz.f87) [1, 0, 0] []) ⟨mkT u 16 0 [(0, .raw fv), (1, .ptr 0 bx 0), (5, .vec 1 ao xs.length cap), (6, .int .i64 (xs.length : Int)), (7, .int .i64 (i : Int))], [⟨.blk bx, .cells [.vec 1 ao xs.length cap] 47⟩, ⟨.sl ao cap, .vecL 3 1 encI1 xs 0⟩, pk 0 (R i)]⟩) = (
match decide ((↑i : Int) < (↑(List.length xs) : Int)) with
| true =>
 (ao = ao ∧ cap = cap ∧ List.length xs = List.length xs ∧ (0 : Int) ≤ (↑i : Int) ∧ (↑i : Int) < (↑(List.length xs) : Int)) ∧
  (Addr.blkD ao = Addr.blkD ao ∧ Addr.offD ao = Addr.offD ao ∧ 1 = 1 ∧ Int.toNat (↑i : Int) < List.length xs) ∧
   fv = fv ∧
    ∃ (i_1 : Nat),
     ∃ (x : Int),
      xs[i_1]? = some x ∧
       [SV.int IntKind.i64 (List.getD xs (Int.toNat (↑i : Int)) (0 : Int))] = [SV.int IntKind.i64 x] ∧
        pk 0 (R i) = pk 0 (R i_1) ∧
         K [Frm.loop J, Frm.blk 0]
          (Sy.mk (SV.raw fv :: (SV.ptr 0 bx 0 :: (SV.raw (u 2) :: (SV.raw (u 3) :: (SV.int IntKind.i64 (List.getD xs (Int.toNat (↑i : Int)) (0 : Int)) :: (SV.vec 1 ao (List.length xs) cap :: (SV.int IntKind.i64 (↑(List.length xs) : Int) :: (SV.int IntKind.i64 (IntKind.wrap IntKind.i64 ((↑i : Int) + (1 : Int))) :: (SV.bool true :: (SV.eptr 1 (Addr.blkD ao) (Addr.offD ao) 1 (Int.toNat (↑i : Int)) 0 :: (SV.int IntKind.i64 (List.getD xs (Int.toNat (↑i : Int)) (0 : Int)) :: (SV.raw fv :: (SV.int IntKind.i64 (List.getD xs (Int.toNat (↑i : Int)) (0 : Int)) :: (SV.bool true :: (SV.bool false :: (SV.int IntKind.i64 (IntKind.wrap IntKind.i64 ((↑i : Int) + (1 : Int))) :: []))))))))))))))))
           [Ent.mk (Loc.blk bx) (SObj.cells [SV.vec 1 ao (List.length xs) cap] (47 : TypeId)), Ent.mk (Loc.sl ao cap) (SObj.vecL (3 : TypeId) 1 encI1 xs (0 : Int)),
            pk 0 (R (i_1 + 1))]) ∧
          ∀ (R' : List Ent),
           Stop R' →
            X Code.ret
             (Sy.mk (SV.raw fv :: (SV.ptr 0 bx 0 :: (SV.raw (u 2) :: (SV.raw (u 3) :: (SV.int IntKind.i64 (List.getD xs (Int.toNat (↑i : Int)) (0 : Int)) :: (SV.vec 1 ao (List.length xs) cap :: (SV.int IntKind.i64 (↑(List.length xs) : Int) :: (SV.int IntKind.i64 (↑i : Int) :: (SV.bool true :: (SV.eptr 1 (Addr.blkD ao) (Addr.offD ao) 1 (Int.toNat (↑i : Int)) 0 :: (SV.int IntKind.i64 (List.getD xs (Int.toNat (↑i : Int)) (0 : Int)) :: (SV.raw fv :: (SV.int IntKind.i64 (List.getD xs (Int.toNat (↑i : Int)) (0 : Int)) :: (SV.bool false :: (SV.bool true :: (SV.raw (u 15) :: []))))))))))))))))
              [Ent.mk (Loc.blk bx) (SObj.cells [SV.vec 1 ao (List.length xs) cap] (47 : TypeId)), Ent.mk (Loc.sl ao cap) (SObj.vecL (3 : TypeId) 1 encI1 xs (0 : Int)),
               pk 0 R'])
| false =>
 E
  (Sy.mk (SV.raw fv :: (SV.ptr 0 bx 0 :: (rawR u 2 (SV.vec 1 ao (List.length xs) cap :: (SV.int IntKind.i64 (↑(List.length xs) : Int) :: (SV.int IntKind.i64 (↑i : Int) :: (SV.bool false :: (rawR u 9 [] 7))))) 3)))
   [Ent.mk (Loc.blk bx) (SObj.cells [SV.vec 1 ao (List.length xs) cap] (47 : TypeId)), Ent.mk (Loc.sl ao cap) (SObj.vecL (3 : TypeId) 1 encI1 xs (0 : Int)), pk 0 (R i)])) := by kernel_rfl
end Go.Proofs.YtkcmgcoppecfpaaGreat

/- YtkcmgcoppecfpaaGreatValI -/
/- slices.Values: going through a row. -/
namespace Go.Proofs.YtkcmgcoppecfpaaGreat
open Go Go.RowKit
set_option linter.unusedVariables false
set_option linter.unusedSimpArgs false
set_option linter.unnecessarySimpa false
set_option maxHeartbeats 0
theorem hmValI : Tryz.prog.follows .mixedOrders = true := by kernel_rfl

/-- What the function says of one element. -/
def OneI (fv : Value) (xs : List Int) (R : Nat → List Ent) (Stop : List Ent → Prop) : Prop := ∀ i x, xs[i]? = some x → VSpec Tryz.prog fv [pk 0 (R i)] [.int .i64 x] fun h r => (h = [pk 0 (R (i + 1))] ∧ r = .bool true) ∨ ∃ R', Stop R' ∧ h = [pk 0 R'] ∧ r = .bool false
theorem valIY_ok {fv : Value} {xs : List Int} {R : Nat → List Ent} {Stop : List Ent → Prop} (hV : OneI fv xs R Stop) : YOk Tryz.prog (valIY fv xs R Stop) := by
  rintro v args hs N ⟨rfl, h⟩
  split at h
  case h_2 => exact h.elim
  rename_i e0 e1 e2 rest
  obtain ⟨i, x, hx, rfl, rfl, hN1, hN2⟩ := h
  refine VSpec.at [2] rfl rfl (hV i x hx) fun h' r hp => ?_
  rcases hp with ⟨rfl, rfl⟩ | ⟨R', hs, rfl, rfl⟩
  · exact ⟨Nat.le_refl _, by simpa [putBack, setN, appE_eq] using hN1⟩
  · exact ⟨Nat.le_refl _, by simpa [putBack, setN, appE_eq] using hN2 R' hs⟩
/-- slices.Values: for each element, as1 far as1 the function wants them. -/
theorem valI_iter {fv : Value} {xs : List Int} {bx : Nat} {ao : Option Addr} {cap : Nat} {R : Nat → List Ent} {Stop : List Ent → Prop} (hx : xs.length ≤ 1000000) (hV : OneI fv xs R Stop) :
    Spec Tryz.prog 87 [⟨.blk bx, .cells [.vec 1 ao xs.length cap] 47⟩, ⟨.sl ao cap, .vecL 3 1 encI1 xs 0⟩, pk 0 (R 0)] [.raw fv, .ptr 0 bx 0] fun h' r => r = .tuple [] ∧ (h' = [⟨.blk bx, .cells [.vec 1 ao xs.length cap] 47⟩, ⟨.sl ao cap, .vecL 3 1 encI1 xs 0⟩, pk 0 (R xs.length)] ∨ ∃ R', Stop R' ∧ h' = [⟨.blk bx, .cells [.vec 1 ao xs.length cap] 47⟩, ⟨.sl ao cap, .vecL 3 1 encI1 xs 0⟩, pk 0 R']) := by
  refine Spec.up ?_
  refine Spec.of_GR 16 Tryz.func87 (c := bodyOf Tryz.f87) (by kernel_rfl) (by kernel_rfl) (Nat.le_of_ble_eq_true rfl) fun W F => ?_
  refine runR_sound (kc := true) (ss := []) (Cs := []) (fun _ _ h => h) trivial (valIY_ok hV) hmValI Ends.fn 300 _ _ ?_
  rw [vI_start]
  try refine ⟨rfl, ?_⟩
  refine GR_loopAt (ι := Nat) [] (bodyOf Tryz.f87) [1, 0] 16 (fun i => [(0, .raw fv), (1, .ptr 0 bx 0), (5, .vec 1 ao xs.length cap), (6, .int .i64 (xs.length : Int)), (7, .int .i64 (i : Int))]) (fun i => [⟨.blk bx, .cells [.vec 1 ao xs.length cap] 47⟩, ⟨.sl ao cap, .vecL 3 1 encI1 xs 0⟩, pk 0 (R i)]) (fun i => i ≤ xs.length) (fun i => xs.length - i) 0 (by kernel_rfl) (fun J => by kernel_rfl) (Nat.zero_le _) rfl ⟨rfl, rfl, rfl, rfl, rfl, trivial⟩ (fun w hw => hw) fun i hi u => ?_
  simp only [List.nil_append, List.cons_append]
  refine runR_sound (kc := true) (ss := []) (Cs := []) (fun _ _ h => h) trivial (valIY_ok hV) hmValI Ends.fn 900 _ _ ?_
  rw [vI_body]
  cases hlt : decide ((i : Int) < (xs.length : Int)) with
  | false =>
    simp only [decide_eq_false_iff_not] at hlt
    obtain rfl : i = xs.length := by omega
    exact ⟨_, _, fun W F w hr => hr, rfl, rfl, .inl rfl⟩
  | true =>
    simp only [decide_eq_true_eq] at hlt
    have hi' : i < xs.length := by omega
    have t2 : IntKind.wrap .i64 ((i : Int) + 1) = ((i + 1 : Nat) : Int) := IntWalk.i64_in _ (by omega)
    have hk : xs.getD i 0 = xs[i] := by simp [List.getD, hi']
    rw [Int.toNat_natCast, hk]
    refine ⟨⟨rfl, rfl, rfl, by omega, by omega⟩, ⟨rfl, rfl, rfl, hi'⟩, ?_⟩
    repeat' first
      | exact rfl
      | (refine ⟨i, xs[i], List.getElem?_eq_getElem hi', rfl, rfl, ?_, fun R' hst => ?_⟩)
      | (refine GR_back (i + 1) (by omega) (by omega) rfl ⟨rfl, rfl, rfl, rfl, congrArg (Value.int .i64) t2, trivial⟩ (fun w hr => hr))
      | exact ⟨_, _, fun W F w hr => hr, rfl, rfl, .inr ⟨R', hst, rfl⟩⟩
      | apply And.intro
      | fail
end Go.Proofs.YtkcmgcoppecfpaaGreat

/- YtkcmgcoppecfpaaGreatKn -/
/- kern.Kernel: what its methods do. -/
namespace Go.Proofs.YtkcmgcoppecfpaaGreat
open Go Go.RowKit
set_option linter.unusedVariables false
set_option linter.unusedSimpArgs false
set_option linter.unnecessarySimpa false
set_option maxHeartbeats 0
open Go.Maps Go.Sort Go.Shelf
theorem hmK : Tryz.prog.follows .mixedOrders = true := by kernel_rfl
theorem insQ_perm (x : Int) : ∀ l : List Int, (insQ x l).Perm (x :: l)
  | [] => List.Perm.refl _
  | y :: l => by
    unfold insQ
    split
    · exact List.Perm.refl _
    · exact ((insQ_perm x l).cons y).trans (List.Perm.swap x y l)
theorem insQ_asc (x : Int) : ∀ {l : List Int}, l.Pairwise (· ≤ ·) → (insQ x l).Pairwise (· ≤ ·)
  | [], _ => List.pairwise_singleton _ _
  | y :: l, h => by
    have hc := List.pairwise_cons.1 h
    unfold insQ
    split
    · rename_i hd
      simp only [decide_eq_true_eq] at hd
      refine List.pairwise_cons.2 ⟨fun z hz => ?_, h⟩
      rcases List.mem_cons.1 hz with rfl | hz
      · exact hd
      · have := hc.1 z hz; omega
    · rename_i hd
      simp only [decide_eq_false_iff_not] at hd
      refine List.pairwise_cons.2 ⟨fun z hz => ?_, insQ_asc x hc.2⟩
      rcases List.mem_cons.1 ((insQ_perm x l).mem_iff.1 hz) with rfl | hz
      · omega
      · exact hc.1 z hz
theorem sortQ_perm : ∀ l : List Int, (sortQ l).Perm l
  | [] => List.Perm.refl _
  | x :: l => (insQ_perm x _).trans ((sortQ_perm l).cons x)
theorem sortQ_asc : ∀ l : List Int, (sortQ l).Pairwise (· ≤ ·)
  | [] => List.Pairwise.nil
  | x :: l => insQ_asc x (sortQ_asc l)
theorem memQ_eq (s : Grp) (n : ByteArray) : memQ s n = memG s n := by
  unfold memQ memG
  cases mget s.gs (.s n) with
  | none => rfl
  | some x =>
    dsimp only
    unfold sortI
    rw [mergeSort_of_perm_i (sortQ_perm (x.2.map fun e => keyInt e.1)).symm]
    refine (List.mergeSort_of_pairwise ?_).symm
    exact (sortQ_asc _).imp fun {x y} h => by simp [leI]; omega
theorem memQC_eq : membersQC = membersNC := by
  funext args hs N
  unfold membersQC membersNC
  simp only [memQ_eq] <;> rfl
theorem gMbQ_ok : CtrOk Tryz.prog 18 membersQC := by
  rw [memQC_eq]
  exact gMb_ok
theorem gsOk.mem {s : Grp} (h : gsOk s) (n : ByteArray) : memGOk s n := fun x hx => (h.2.2.2 n x hx).1
theorem gsOk.len {s : Grp} (h : gsOk s) : (sortS s.gs).length ≤ 1000000 := by
  unfold sortS
  simp only [List.length_map, List.length_mergeSort]
  exact h.2.1
theorem baQ {a b : ByteArray} (h : a.data.toList = b.data.toList) : a = b := by
  cases a; cases b
  simp only [ByteArray.mk.injEq]
  exact Array.ext' h
theorem gsOk.names {s : Grp} (h : gsOk s) (g : ByteArray) : g ∈ sortS s.gs ↔ (mget s.gs (.s g)).isSome = true := by
  have hp := List.mergeSort_perm (s.gs.map fun e => keyStr e.1) leB
  unfold sortS
  rw [Option.isSome_iff_exists, List.mem_map]
  constructor
  · rintro ⟨k, hk, rfl⟩
    obtain ⟨e, he, rfl⟩ := List.mem_map.1 (hp.mem_iff.1 hk)
    have hkd := h.2.2.1 e he
    obtain ⟨k, v⟩ := e
    cases k with
    | i a c => cases hkd
    | s n =>
      have e1 : ofB (keyStr (.s n)) = n := by
        show ofB n.data.toList = n
        unfold ofB
        exact baQ (by simp)
      dsimp only
      rw [e1]
      exact ⟨v, mget_of_mem h.1.1 he⟩
  · rintro ⟨x, hx⟩
    obtain ⟨k', h2, h3⟩ := mget_mem hx
    have e1 := keyEq_s h3
    subst e1
    refine ⟨keyStr (.s g), hp.mem_iff.2 (List.mem_map.2 ⟨_, h2, rfl⟩), ?_⟩
    show ofB g.data.toList = g
    unfold ofB
    exact baQ (by simp)
theorem sEqK (a b : ByteArray) : sEq a b = true ↔ a = b := by
  constructor
  · intro h
    simp only [sEq, beq_iff_eq] at h
    have e : ∀ x : ByteArray, x.toList = x.data.toList := fun x => ByteArray.toList_eq x
    rw [e, e] at h
    exact baQ h
  · rintro rfl; simp [sEq]
/-! ### Is a group there? -/
def kgI (ns : List ByteArray) (g : ByteArray) (i : Nat) : Type := { _u : Unit // g ∉ ns.take i }
def kgR (b bg : Nat) (c0 c2 c3 c4 c5 : SV) (g : ByteArray) (b3 b4 D l : Nat) (rc : Loop) (ns : List ByteArray) (i : Nat) : List Ent := [exP fun _ : kgI ns g i => [⟨.blk b, .cells [c0, .ptr 0 bg 0, c2, c3, c4, c5] 96⟩, ⟨.blk b3, .cells [.str g] 9⟩, ⟨.blk b4, .cells [.bool false] 4⟩, dent D true, lp l rc .ready none]]
section
variable {b bg : Nat} {c0 c2 c3 c4 c5 : SV} {s : Grp} {g : ByteArray} {b3 b4 D l : Nat} {rc : Loop} {T : List SV}
theorem kg_V (hrt : rc.tmps = (denL T).toArray) (hrp : rc.params = rfP (codeAt (bodyOf Tryz.f52) [1, 0, 1, 0])) (hra : rc.assign = rfA (codeAt (bodyOf Tryz.f52) [1, 0, 1, 0])) (hrb : rc.body = rfB (codeAt (bodyOf Tryz.f52) [1, 0, 1, 0]))
    (hl : ∀ v w, lenN (setMany T [11, 12] [v, w]) = 16 ∧ liveOk (setMany T [11, 12] [v, w]) [(3, .ptr 2 b3 0), (4, .ptr 3 b4 0), (11, v), (12, w)]) :
    OneG (.func (.yield l) #[] #[]) s bg (sortS s.gs) (kgR b bg c0 c2 c3 c4 c5 g b3 b4 D l rc (sortS s.gs)) (fun R' => g ∈ sortS s.gs ∧ R' = [⟨.blk b, .cells [c0, .ptr 0 bg 0, c2, c3, c4, c5] 96⟩, ⟨.blk b3, .cells [.str g] 9⟩, ⟨.blk b4, .cells [.bool true] 4⟩, dent D true, lp l rc .done (some .ret)]) := by
  intro i x hxi ao cap
  obtain ⟨hi, he⟩ := List.getElem?_eq_some_iff.1 hxi
  refine .inr ⟨l, rfl, YSpec.ex (ι := kgI (sortS s.gs) g i) (hs' := fun _ => [pkA bg grpE s, ⟨.blk b, .cells [c0, .ptr 0 bg 0, c2, c3, c4, c5] 96⟩, ⟨.blk b3, .cells [.str g] 9⟩, ⟨.blk b4, .cells [.bool false] 4⟩, dent D true, lp l rc .ready none, ⟨.sl ao cap, .vecL 3 1 encI1 (memG s x) 0⟩]) (fun W F w hr => ?_) ?_⟩
  · have h1 := Rep.unpkAt (p := [_]) (t := [_]) hr
    have h2 := Rep.pick (π := [1, 0, 2]) (by decide) rfl h1
    obtain ⟨j, h3⟩ := Rep.unex (t := [_, _]) h2
    exact ⟨j, Rep.pick (π := [5, 0, 1, 2, 3, 4, 6]) (by decide) rfl h3⟩
  rintro ⟨_, hni⟩
  refine YSpec.up (YSpec.of_GR (p := 5) (T0 := T) (ps := [11, 12]) rfl hrt hrp hra hrb rfl rfl fun W F => ?_)
  refine GR_live 16 [(3, .ptr 2 b3 0), (4, .ptr 3 b4 0), (11, .str x), (12, .vec 6 ao (memG s x).length cap)] [pkA bg grpE s, ⟨.blk b, .cells [c0, .ptr 0 bg 0, c2, c3, c4, c5] 96⟩, ⟨.blk b3, .cells [.str g] 9⟩, ⟨.blk b4, .cells [.bool false] 4⟩, dent D true, lp l rc .ready none, ⟨.sl ao cap, .vecL 3 1 encI1 (memG s x) 0⟩] (hl _ _).1 (hl _ _).2 (fun _ h => h) fun u => ?_
  refine runR_sound (kc := true) (ss := []) (Cs := []) (Y := noY) (K := fun _ _ => False) (fun _ _ h => h.elim) trivial (noY_ok _) hmK Ends.assign 60 _ _ ?_
  rw [kg_asg]
  refine ⟨rfl, ?_⟩
  refine GR_live 16 [(3, .ptr 2 b3 0), (4, .ptr 3 b4 0), (5, .str x)] [pkA bg grpE s, ⟨.blk b, .cells [c0, .ptr 0 bg 0, c2, c3, c4, c5] 96⟩, ⟨.blk b3, .cells [.str g] 9⟩, ⟨.blk b4, .cells [.bool false] 4⟩, dent D true, lp l rc .busy none, ⟨.sl ao cap, .vecL 3 1 encI1 (memG s x) 0⟩] rfl ⟨rfl, rfl, rfl, trivial⟩ (fun w hr => hr) fun u => ?_
  refine runR_sound (kc := true) (ss := []) (Cs := []) (Y := noY) (K := fun _ _ => False) (fun _ _ h => h.elim) trivial (noY_ok _) hmK (Ends.round (p := 5) (rc := rc) (j := none)) 600 _ _ ?_
  rw [kg_body]
  refine ⟨rfl, ?_⟩
  cases hc : sEq x g with
  | true =>
    have hx : x = g := (sEqK _ _).1 hc
    refine ⟨⟨rfl, rfl, rfl, Nat.le_refl _⟩, rfl, [pkA bg grpE s, pk 0 [⟨.blk b, .cells [c0, .ptr 0 bg 0, c2, c3, c4, c5] 96⟩, ⟨.blk b3, .cells [.str g] 9⟩, ⟨.blk b4, .cells [.bool true] 4⟩, dent D true, lp l rc .done (some .ret)], ⟨.sl ao cap, .vecL 3 1 encI1 (memG s x) 0⟩], .bool false, fun W F w hr => ?_, rfl, .inr ⟨_, ⟨?_, rfl⟩, rfl, rfl⟩⟩
    · exact Rep.pkAt 0 (p := [_]) (h := [_, _, _, _, _]) (t := [_]) hr
    · rw [← hx, ← he]; exact List.getElem_mem hi
  | false =>
    have hx : g ≠ x := fun e => by
      rw [(sEqK x g).2 e.symm] at hc; cases hc
    have hni2 : g ∉ (sortS s.gs).take (i + 1) := by
      rw [List.take_succ_eq_append_getElem hi, he, List.mem_append]
      rintro (h | h)
      · exact hni h
      · exact hx (List.mem_singleton.1 h)
    refine ⟨rfl, [pkA bg grpE s, pk 0 (kgR b bg c0 c2 c3 c4 c5 g b3 b4 D l rc (sortS s.gs) (i + 1)), ⟨.sl ao cap, .vecL 3 1 encI1 (memG s x) 0⟩], .bool true, fun W F w hr => ?_, rfl, .inl ⟨rfl, rfl⟩⟩
    have h1 := Rep.pick (π := [1, 2, 3, 4, 5, 0, 6]) (by decide) rfl hr
    have h2 : Rep W F ([exP fun _ : kgI (sortS s.gs) g (i + 1) => [⟨.blk b, .cells [c0, .ptr 0 bg 0, c2, c3, c4, c5] 96⟩, ⟨.blk b3, .cells [.str g] 9⟩, ⟨.blk b4, .cells [.bool false] 4⟩, dent D true, lp l rc .ready none]] ++ [_, _]) w := Rep.ex (f := fun _ : kgI (sortS s.gs) g (i + 1) => [⟨.blk b, .cells [c0, .ptr 0 bg 0, c2, c3, c4, c5] 96⟩, ⟨.blk b3, .cells [.str g] 9⟩, ⟨.blk b4, .cells [.bool false] 4⟩, dent D true, lp l rc .ready none]) ⟨(), hni2⟩ h1
    have h3 := Rep.pick (π := [1, 0, 2]) (by decide) rfl h2
    exact Rep.pkAt 0 (p := [_]) (h := [_]) (t := [_]) h3
end
theorem kg_spec {b bg : Nat} {c0 c2 c3 c4 c5 : SV} {s : Grp} {g : ByteArray} (ho : gsOk s) : Spec Tryz.prog 52 [⟨.blk b, .cells [c0, .ptr 1 bg 0, c2, c3, c4, c5] 96⟩, pkA bg grpE s] [.ptr 0 b 0, .str g] fun h' r => h' = [⟨.blk b, .cells [c0, .ptr 1 bg 0, c2, c3, c4, c5] 96⟩, pkA bg grpE s] ∧ r = .bool (mget s.gs (.s g)).isSome := by
  refine Spec.up ?_
  refine Spec.of_GR 16 Tryz.func52 (c := bodyOf Tryz.f52) (by kernel_rfl) (by kernel_rfl) (Nat.le_of_ble_eq_true rfl) fun W F => ?_
  refine runR_sound (kc := true) (ss := []) (Cs := [(82, inl Tryz.prog [] true Tryz.f82 200)]) (fun _ _ h => h) ⟨inl_ok trivial hmK Tryz.func82 (by kernel_rfl), trivial⟩ (noY_ok _) hmK Ends.fn 300 _ _ ?_
  rw [kg_start]
  refine ⟨rfl, fun b3 b4 => ⟨rfl, rfl, rfl, fun bx => ?_⟩⟩
  refine GR_rangeAt [] (bodyOf Tryz.f52) [1, 0, 1, 0] (f := 95) (first := []) (captured := [.ptr 4 bx 0]) (by kernel_rfl) (by kernel_rfl) (by kernel_rfl) fun D l rc hrt hrp hra hrb =>
    ⟨fun h _ => (g ∉ sortS s.gs ∧ h = [pkA bg grpE s, ⟨.blk b, .cells [c0, .ptr 0 bg 0, c2, c3, c4, c5] 96⟩, ⟨.blk b3, .cells [.str g] 9⟩, ⟨.blk b4, .cells [.bool false] 4⟩, dent D true, lp l rc .ready none, ⟨.blk bx, .cells [.ptr 0 bg 0] 28⟩]) ∨ (g ∈ sortS s.gs ∧ h = [pkA bg grpE s, ⟨.blk b, .cells [c0, .ptr 0 bg 0, c2, c3, c4, c5] 96⟩, ⟨.blk b3, .cells [.str g] 9⟩, ⟨.blk b4, .cells [.bool true] 4⟩, dent D true, lp l rc .done (some .ret), ⟨.blk bx, .cells [.ptr 0 bg 0] 28⟩]), ?_, ?_⟩
  · intro W F w hr
    have hV := kg_V (T := _) (l := l) (s := s) (b := b) (bg := bg) (c0 := c0) (c2 := c2) (c3 := c3) (c4 := c4) (c5 := c5) (g := g) (b3 := b3) (b4 := b4) (D := D) hrt hrp hra hrb fun v w => ⟨rfl, rfl, rfl, rfl, rfl, trivial⟩
    have h1 : Rep W F [pkA bg grpE s, ⟨.blk bx, .cells [.ptr 0 bg 0] 28⟩, pk 0 (kgR b bg c0 c2 c3 c4 c5 g b3 b4 D l rc (sortS s.gs) 0)] w := by
      have q1 := Rep.pick (π := [0, 2, 3, 5, 6, 1, 4]) (by decide) rfl hr
      have q2 := Rep.cellsEq (l := 0) (cs' := [c0, .ptr 0 bg 0, c2, c3, c4, c5]) rfl (by rfl) q1
      have q3 := Rep.cellsEq (l := 6) (cs' := [.ptr 0 bg 0]) rfl (by rfl) q2
      have q4 : Rep W F ([exP fun _ : kgI (sortS s.gs) g 0 => [⟨.blk b, .cells [c0, .ptr 0 bg 0, c2, c3, c4, c5] 96⟩, ⟨.blk b3, .cells [.str g] 9⟩, ⟨.blk b4, .cells [.bool false] 4⟩, dent D true, lp l rc .ready none]] ++ [_, _]) w := Rep.ex (f := fun _ : kgI (sortS s.gs) g 0 => [⟨.blk b, .cells [c0, .ptr 0 bg 0, c2, c3, c4, c5] 96⟩, ⟨.blk b3, .cells [.str g] 9⟩, ⟨.blk b4, .cells [.bool false] 4⟩, dent D true, lp l rc .ready none]) ⟨(), by simp⟩ q3
      have q5 := Rep.pick (π := [1, 2, 0]) (by decide) rfl q4
      exact Rep.pkAt 0 (p := [_, _]) (h := [_]) (t := []) q5
    refine Calls.mono (allG_iter (bx := bx) ⟨_, _, _, rfl⟩ ho.1 ho.len ho.mem hV W F w h1) ?_
    rintro e w' ⟨h', r, ⟨rfl, hc⟩, rfl, hr'⟩
    rcases hc with rfl | ⟨R', ⟨hg, rfl⟩, rfl⟩
    · have h7 := Rep.unpkAt (p := [_, _]) (t := []) hr'
      have h8 := Rep.pick (π := [2, 0, 1]) (by decide) rfl h7
      obtain ⟨⟨_, hn⟩, h9⟩ := Rep.unex (t := [_, _]) h8
      rw [List.take_length] at hn
      exact ⟨_, .tuple [], .inl ⟨hn, rfl⟩, rfl, Rep.pick (π := [5, 0, 1, 2, 3, 4, 6]) (by decide) rfl h9⟩
    · have h7 := Rep.unpkAt (p := [_, _]) (t := []) hr'
      exact ⟨_, .tuple [], .inr ⟨hg, rfl⟩, rfl, Rep.pick (π := [0, 2, 3, 4, 5, 6, 1]) (by decide) rfl h7⟩
  · have back : ∀ (z : Bool) (W : World) (F : List Ch) (w : World) (e : LoopState) (j : Option Code) (o : Bool), Rep W F [pkA bg grpE s, ⟨.blk b, .cells [c0, .ptr 0 bg 0, c2, c3, c4, c5] 96⟩, ⟨.blk b3, .cells [.str g] 9⟩, ⟨.blk b4, .cells [.bool z] 4⟩, dent D o, lp l rc e j] w → Rep W F [⟨.blk b, .cells [c0, .ptr 1 bg 0, c2, c3, c4, c5] 96⟩, pkA bg grpE s] w := fun z W F w e j o hr => by
      have q1 := Rep.pick (π := [1, 0]) (by decide) rfl hr
      exact Rep.cellsEq (l := 0) (cs' := [c0, .ptr 1 bg 0, c2, c3, c4, c5]) rfl (by rfl) q1
    rintro h' v (⟨hn, rfl⟩ | ⟨hg, rfl⟩)
    · have hs : (mget s.gs (.s g)).isSome = false := by
        rw [← Bool.not_eq_true, ← ho.names]; exact hn
      refine ⟨5, .ready, none, by decide, rfl, ?_⟩
      dsimp only
      refine GR_live 16 [(3, .ptr 2 b3 0), (4, .ptr 3 b4 0)] [pkA bg grpE s, ⟨.blk b, .cells [c0, .ptr 0 bg 0, c2, c3, c4, c5] 96⟩, ⟨.blk b3, .cells [.str g] 9⟩, ⟨.blk b4, .cells [.bool false] 4⟩, dent D true, lp l rc .exhausted none] rfl ⟨rfl, rfl, trivial⟩ (fun w hr => Rep.dropR (h := [_, _, _, _, _, _]) (t := [_]) hr) fun u => ?_
      refine runR_sound (Cs := []) (Y := noY) (kc := true) (ss := []) (K := fun _ _ => False) (fun _ _ h => h.elim) trivial (noY_ok _) hmK (Ends.fnM D 4) 900 _ _ ?_
      rw [kg_end]
      exact ⟨⟨rfl, rfl, rfl, Nat.le_refl _⟩, rfl, rfl, _, .bool false, fun W F w hr => back _ _ _ _ _ _ _ hr, rfl, rfl, by rw [hs]⟩
    · have hs : (mget s.gs (.s g)).isSome = true := (ho.names g).1 hg
      refine ⟨5, .done, some .ret, by decide, rfl, ?_⟩
      dsimp only
      refine GR_live 16 [(3, .ptr 2 b3 0), (4, .ptr 3 b4 0)] [pkA bg grpE s, ⟨.blk b, .cells [c0, .ptr 0 bg 0, c2, c3, c4, c5] 96⟩, ⟨.blk b3, .cells [.str g] 9⟩, ⟨.blk b4, .cells [.bool true] 4⟩, dent D true, lp l rc .exhausted (some .ret)] rfl ⟨rfl, rfl, trivial⟩ (fun w hr => Rep.dropR (h := [_, _, _, _, _, _]) (t := [_]) hr) fun u => ?_
      refine runR_sound (Cs := []) (Y := noY) (kc := true) (ss := []) (K := fun _ _ => False) (fun _ _ h => h.elim) trivial (noY_ok _) hmK (Ends.fnM D 4) 900 _ _ ?_
      rw [kg_ret]
      exact ⟨rfl, rfl, _, .bool true, fun W F w hr => back _ _ _ _ _ _ _ hr, rfl, rfl, by rw [hs]⟩
theorem grouped_ok : CtrOk Tryz.prog 52 groupedC := by
  intro args hs N h
  unfold groupedC at h
  split at h
  case h_2 => exact h.elim
  rename_i l b g
  split at h
  case h_2 => exact h.elim
  rename_i b' c0 lg bg c2 c3 c4 c5 T hl
  obtain ⟨⟨rfl, rfl, hne⟩, h⟩ := h
  split at h
  case h_2 => exact h.elim
  rename_i bg' σ' p s hg
  obtain ⟨rfl, rfl, hp, ho, hN⟩ := h
  obtain rfl := eq_of_heq hp
  simp only [cast_eq] at ho hN
  have hne' : l ≠ lg := fun e => by subst e; simp at hne
  have hg' : nth hs lg = some (pkA bg' grpE s) := hg
  refine Spec.at (hp := [⟨.blk b', .cells [c0, .ptr lg bg' 0, c2, c3, c4, c5] 96⟩, pkA bg' grpE s]) (args' := [.ptr 0 b' 0, .str g]) (Post' := fun h' r => h' = [⟨.blk b', .cells [c0, .ptr lg bg' 0, c2, c3, c4, c5] 96⟩, pkA bg' grpE s] ∧ r = .bool (mget s.gs (.s g)).isSome) [l, lg] (by simpa [distinct] using hne') (by simp [pickE, hl, hg']) ?_ rfl ?_
  · refine Spec.up ?_
    intro W F w hr
    have h1 := Rep.cellsEq (l := 0) (cs' := [c0, .ptr 1 bg' 0, c2, c3, c4, c5]) rfl (by rfl) hr
    refine Calls.mono (kg_spec ho W F w h1) ?_
    rintro e w' ⟨h', r, ⟨rfl, rfl⟩, rfl, hr'⟩
    exact ⟨_, _, ⟨_, _, fun W F w hr => Rep.cellsEq (l := 0) (cs' := [c0, .ptr lg bg' 0, c2, c3, c4, c5]) rfl (by rfl) hr, rfl, rfl, rfl⟩, rfl, hr'⟩
  · rintro h' r ⟨rfl, rfl⟩
    refine ⟨Nat.le_refl _, _, rfl, ?_⟩
    simpa [putBack, appE_eq, setN_selfA hl, setN_selfA hg'] using hN
/-! ### A signal to a group -/
theorem kgAll_ok {pt : PT} (h : pOk pt) (sig : Int) : ∀ (ms : List Int) (n : Int), pOk (ms.foldl (kgF sig) (pt, n)).1 := by
  intro ms
  induction ms generalizing pt with
  | nil => intro n; exact h
  | cons p ms ih => intro n; exact ih (h.kill p sig) _
theorem kgAll_n (pt : PT) (sig : Int) : ∀ (ms : List Int) (n : Int), n ≤ (ms.foldl (kgF sig) (pt, n)).2 ∧ (ms.foldl (kgF sig) (pt, n)).2 ≤ n + ms.length := by
  intro ms
  induction ms generalizing pt with
  | nil => intro n; simp
  | cons p ms ih =>
    intro n
    have e : (p :: ms).foldl (kgF sig) (pt, n) = ms.foldl (kgF sig) (kgF sig (pt, n) p) := rfl
    have e2 : kgF sig (pt, n) p = ((pKill pt p sig).1, match (pKill pt p sig).2 == 0 with | true => n + 1 | false => n) := rfl
    rw [e, e2]
    cases (pKill pt p sig).2 == 0 with
    | true => have := ih (pKill pt p sig).1 (n + 1); simp only [List.length_cons]; omega
    | false => have := ih (pKill pt p sig).1 n; simp only [List.length_cons]; omega
def kkR (b bp bg : Nat) (c2 c3 c4 c5 : SV) (pt : PT) (s : Grp) (g : ByteArray) (sig : Int) (b3 b5 b7 D l : Nat) (rc : Loop) (i : Nat) : List Ent := [⟨.blk b, .cells [.ptr 1 bp 0, .ptr 2 bg 0, c2, c3, c4, c5] 96⟩, pkA bp ptE ((((memQ s g).take (i)).foldl (kgF sig) (pt, 0)).1), pkA bg grpE s, ⟨.blk b3, .cells [.ptr 0 b 0] 24⟩, ⟨.blk b5, .cells [.int .i64 sig] 3⟩, ⟨.blk b7, .cells [.int .i64 ((((memQ s g).take (i)).foldl (kgF sig) (pt, 0)).2)] 3⟩, dent D true, lp l rc .ready none]
section
variable {b bp bg : Nat} {c2 c3 c4 c5 : SV} {pt : PT} {s : Grp} {g : ByteArray} {sig : Int} {b3 b5 b7 D l : Nat} {rc : Loop} {T : List SV}
theorem kk_V (ho : pOk pt) (hlen : (memQ s g).length ≤ 1000000) (hrt : rc.tmps = (denL T).toArray) (hrp : rc.params = rfP (codeAt (bodyOf Tryz.f12) [1, 1, 0, 1, 0])) (hra : rc.assign = rfA (codeAt (bodyOf Tryz.f12) [1, 1, 0, 1, 0])) (hrb : rc.body = rfB (codeAt (bodyOf Tryz.f12) [1, 1, 0, 1, 0]))
    (hl : ∀ v, lenN (setMany T [16] [v]) = 25 ∧ liveOk (setMany T [16] [v]) [(3, .ptr 3 b3 0), (5, .ptr 4 b5 0), (7, .ptr 5 b7 0), (16, v)]) :
    OneI (.func (.yield l) #[] #[]) (memQ s g) (kkR b bp bg c2 c3 c4 c5 pt s g sig b3 b5 b7 D l rc) (fun _ => False) := by
  intro i x hxi
  obtain ⟨hi, he⟩ := List.getElem?_eq_some_iff.1 hxi
  have hst := kgAll_ok ho sig ((memQ s g).take i) 0
  have hn := kgAll_n pt sig ((memQ s g).take i) 0
  have hti : ((memQ s g).take i).length ≤ 1000000 := by simp; omega
  have hnx : ((memQ s g).take (i + 1)).foldl (kgF sig) (pt, 0) = kgF sig (((memQ s g).take i).foldl (kgF sig) (pt, 0)) x := by rw [List.take_succ_eq_append_getElem hi, List.foldl_append, he]; rfl
  refine VSpec.conv (hs' := kkR b bp bg c2 c3 c4 c5 pt s g sig b3 b5 b7 D l rc i) (args' := [.int .i64 x]) (Post' := fun h r => h = kkR b bp bg c2 c3 c4 c5 pt s g sig b3 b5 b7 D l rc (i + 1) ∧ r = .bool true) (fun W F w hr => by have := Rep.unpk hr; simpa using this) rfl (.inr ⟨l, rfl, ?_⟩) ?_
  · unfold kkR
    rw [hnx]
    generalize ((memQ s g).take i).foldl (kgF sig) (pt, 0) = st at hst hn ⊢
    refine YSpec.up (YSpec.of_GR (p := 7) (T0 := T) (ps := [16]) rfl hrt hrp hra hrb rfl rfl fun W F => ?_)
    refine GR_live 25 [(3, .ptr 3 b3 0), (5, .ptr 4 b5 0), (7, .ptr 5 b7 0), (16, .int .i64 x)] [⟨.blk b, .cells [.ptr 1 bp 0, .ptr 2 bg 0, c2, c3, c4, c5] 96⟩, pkA bp ptE (st.1), pkA bg grpE s, ⟨.blk b3, .cells [.ptr 0 b 0] 24⟩, ⟨.blk b5, .cells [.int .i64 sig] 3⟩, ⟨.blk b7, .cells [.int .i64 (st.2)] 3⟩, dent D true, lp l rc .ready none] (hl _).1 (hl _).2 (fun _ h => h) fun u => ?_
    refine runR_sound (kc := true) (ss := []) (Cs := []) (Y := noY) (K := fun _ _ => False) (fun _ _ h => h.elim) trivial (noY_ok _) hmK Ends.assign 60 _ _ ?_
    rw [kk_asg (c0 := .bool true) (g := g)]
    refine ⟨rfl, ?_⟩
    refine GR_live 25 [(3, .ptr 3 b3 0), (5, .ptr 4 b5 0), (7, .ptr 5 b7 0), (8, .int .i64 x)] [⟨.blk b, .cells [.ptr 1 bp 0, .ptr 2 bg 0, c2, c3, c4, c5] 96⟩, pkA bp ptE (st.1), pkA bg grpE s, ⟨.blk b3, .cells [.ptr 0 b 0] 24⟩, ⟨.blk b5, .cells [.int .i64 sig] 3⟩, ⟨.blk b7, .cells [.int .i64 (st.2)] 3⟩, dent D true, lp l rc .busy none] rfl ⟨rfl, rfl, rfl, rfl, trivial⟩ (fun w hr => hr) fun u => ?_
    refine runR_sound (kc := true) (ss := []) (Cs := [(25, inl Tryz.prog [(73, adtC ptE killM)] true Tryz.f25 200)]) (Y := noY) (K := fun _ _ => False) (fun _ _ h => h.elim) ⟨inl_ok (Cs := [(73, adtC ptE killM)]) ⟨pKill_ok, trivial⟩ hmK Tryz.func25 (by kernel_rfl), trivial⟩ (noY_ok _) hmK (Ends.round (p := 7) (rc := rc) (j := none)) 600 _ _ ?_
    rw [kk_body (c0 := .bool true) (g := g)]
    refine ⟨rfl, rfl, rfl, rfl, rfl, rfl, rfl, HEq.rfl, hst, ?_⟩
    unfold kgF
    cases hc : (pKill st.1 x sig).2 == 0 with
    | true =>
      have w1 : IntKind.wrap .i64 (st.2 + 1) = st.2 + 1 := IntWalk.i64_in _ (by omega)
      dsimp only
      rw [w1]
      exact ⟨rfl, ⟨rfl, rfl, rfl, Nat.le_refl _⟩, rfl, _, .bool true, fun W F w hr => hr, rfl, rfl, rfl⟩
    | false => exact ⟨rfl, _, .bool true, fun W F w hr => hr, rfl, rfl, rfl⟩
  · rintro h' r ⟨rfl, rfl⟩
    exact ⟨[pk 0 (kkR b bp bg c2 c3 c4 c5 pt s g sig b3 b5 b7 D l rc (i + 1))], .bool true, fun W F w hr => Rep.pk (t := []) 0 (by simpa using hr), rfl, .inl ⟨rfl, rfl⟩⟩
end
theorem kk_spec {b bp bg : Nat} {c2 c3 c4 c5 : SV} {pt : PT} {s : Grp} {g : ByteArray} {sig : Int} (hp : pOk pt) (ho : gsOk s) : Spec Tryz.prog 12 [⟨.blk b, .cells [.ptr 1 bp 0, .ptr 2 bg 0, c2, c3, c4, c5] 96⟩, pkA bp ptE pt, pkA bg grpE s] [.ptr 0 b 0, .str g, .int .i64 sig] fun h' r => h' = [⟨.blk b, .cells [.ptr 1 bp 0, .ptr 2 bg 0, c2, c3, c4, c5] 96⟩, pkA bp ptE (kgAll pt sig (memQ s g)).1, pkA bg grpE s] ∧ r = .int .i64 (kgAll pt sig (memQ s g)).2 := by
  have hlen : (memQ s g).length ≤ 1000000 := by
    unfold memQ
    cases hx : mget s.gs (.s g) with
    | none => exact Nat.zero_le _
    | some x =>
      have := (ho.2.2.2 g x hx).2
      dsimp only
      rw [(sortQ_perm _).length_eq, List.length_map]; exact this
  refine Spec.up ?_
  refine Spec.of_GR 25 Tryz.func12 (c := bodyOf Tryz.f12) (by kernel_rfl) (by kernel_rfl) (Nat.le_of_ble_eq_true rfl) fun W F => ?_
  refine runR_sound (kc := true) (ss := []) (Cs := [(18, membersQC), (58, inl Tryz.prog [] true Tryz.f58 200)]) (fun _ _ h => h) ⟨gMbQ_ok, inl_ok trivial hmK Tryz.func58 (by kernel_rfl), trivial⟩ (noY_ok _) hmK Ends.fn 300 _ _ ?_
  rw [kk_start (c0 := .bool true)]
  refine ⟨rfl, fun b3 => ⟨rfl, fun b5 b7 => ⟨⟨rfl, rfl, rfl, Nat.le_refl _⟩, rfl, rfl, rfl, rfl, rfl, HEq.rfl, ho.mem g, fun ao cap => ⟨rfl, rfl, fun bx => ?_⟩⟩⟩⟩
  refine GR_rangeAt [] (bodyOf Tryz.f12) [1, 1, 0, 1, 0] (f := 87) (first := []) (captured := [.ptr 7 bx 0]) (by kernel_rfl) (by kernel_rfl) (by kernel_rfl) fun D l rc hrt hrp hra hrb =>
    ⟨fun h _ => h = kkR b bp bg c2 c3 c4 c5 pt s g sig b3 b5 b7 D l rc (memQ s g).length ++ [⟨.blk bx, .cells [.vec 1 ao (memQ s g).length cap] 47⟩, ⟨.sl ao cap, .vecL 3 1 encI1 (memQ s g) 0⟩], ?_, ?_⟩
  · intro W F w hr
    have hV := kk_V (T := _) (l := l) (s := s) (b := b) (bp := bp) (bg := bg) (c2 := c2) (c3 := c3) (c4 := c4) (c5 := c5) (g := g) (sig := sig) (b3 := b3) (b5 := b5) (b7 := b7) (D := D) hp hlen hrt hrp hra hrb fun v => ⟨rfl, rfl, rfl, rfl, rfl, trivial⟩
    have h1 : Rep W F [⟨.blk bx, .cells [.vec 1 ao (memQ s g).length cap] 47⟩, ⟨.sl ao cap, .vecL 3 1 encI1 (memQ s g) 0⟩, pk 0 (kkR b bp bg c2 c3 c4 c5 pt s g sig b3 b5 b7 D l rc 0)] w := by
      have q1 := Rep.pick (π := [7, 6, 0, 1, 2, 3, 4, 5, 8, 9]) (by decide) rfl hr
      have q2 := Rep.cellsEq (l := 0) (cs' := [.vec 1 ao (memQ s g).length cap]) rfl (by rfl) q1
      exact Rep.pkAt 0 (p := [_, _]) (h := [_, _, _, _, _, _, _, _]) (t := []) q2
    refine Calls.mono (valI_iter (ao := ao) (cap := cap) (bx := bx) hlen hV W F w h1) ?_
    rintro e w' ⟨h', r, ⟨rfl, hc⟩, rfl, hr'⟩
    rcases hc with rfl | ⟨R', hs, rfl⟩
    · have h7 := Rep.unpkAt (p := [_, _]) (t := []) hr'
      exact ⟨_, .tuple [], rfl, rfl, Rep.pick (π := [2, 3, 4, 5, 6, 7, 8, 9, 0, 1]) (by decide) rfl h7⟩
    · exact hs.elim
  · rintro h' v rfl
    unfold kkR
    rw [List.take_length]
    refine ⟨7, .ready, none, by decide, rfl, ?_⟩
    dsimp only
    refine GR_live 25 [(3, .ptr 3 b3 0), (5, .ptr 4 b5 0), (7, .ptr 5 b7 0)] [⟨.blk b, .cells [.ptr 1 bp 0, .ptr 2 bg 0, c2, c3, c4, c5] 96⟩, pkA bp ptE (((memQ s g).foldl (kgF sig) (pt, 0)).1), pkA bg grpE s, ⟨.blk b3, .cells [.ptr 0 b 0] 24⟩, ⟨.blk b5, .cells [.int .i64 sig] 3⟩, ⟨.blk b7, .cells [.int .i64 (((memQ s g).foldl (kgF sig) (pt, 0)).2)] 3⟩, dent D true, lp l rc .exhausted none] rfl ⟨rfl, rfl, rfl, trivial⟩ (fun w hr => Rep.dropR (h := [_, _, _, _, _, _, _, _]) (t := [_, _]) hr) fun u => ?_
    refine runR_sound (Cs := []) (Y := noY) (kc := true) (ss := []) (K := fun _ _ => False) (fun _ _ h => h.elim) trivial (noY_ok _) hmK (Ends.fnM D 6) 900 _ _ ?_
    rw [kk_end (c0 := .bool true) (g := g)]
    exact ⟨rfl, rfl, _, _, fun W F w hr => Rep.pick (π := [0, 1, 2]) (by decide) rfl hr, rfl, rfl, rfl⟩
theorem killG_ok : CtrOk Tryz.prog 12 killGC := by
  intro args hs N h
  unfold killGC at h
  split at h
  case h_2 => exact h.elim
  rename_i l b g sig
  split at h
  case h_2 => exact h.elim
  rename_i b' lp bp lg bg c2 c3 c4 c5 T hl
  obtain ⟨⟨rfl, rfl, hd⟩, h⟩ := h
  split at h
  case h_2 => exact h.elim
  rename_i bp' σp pp pt hp
  split at h
  case h_2 => exact h.elim
  rename_i bg' σg pg s hg
  obtain ⟨⟨rfl, rfl⟩, rfl, rfl, hpp, hpg, ⟨ho, hgs⟩, hN⟩ := h
  obtain rfl := eq_of_heq hpp
  obtain rfl := eq_of_heq hpg
  simp only [cast_eq] at ho hgs hN
  have hp' : nth hs lp = some (pkA bp' ptE pt) := hp
  have hg' : nth hs lg = some (pkA bg' grpE s) := hg
  refine Spec.at (hp := [⟨.blk b', .cells [.ptr lp bp' 0, .ptr lg bg' 0, c2, c3, c4, c5] 96⟩, pkA bp' ptE pt, pkA bg' grpE s]) (args' := [.ptr 0 b' 0, .str g, .int .i64 sig]) (Post' := fun h' r => h' = [⟨.blk b', .cells [.ptr lp bp' 0, .ptr lg bg' 0, c2, c3, c4, c5] 96⟩, pkA bp' ptE (kgAll pt sig (memQ s g)).1, pkA bg' grpE s] ∧ r = .int .i64 (kgAll pt sig (memQ s g)).2) [l, lp, lg] hd (by simp [pickE, hl, hp', hg']) ?_ rfl ?_
  · refine Spec.up ?_
    intro W F w hr
    have h1 := Rep.cellsEq (l := 0) (cs' := [.ptr 1 bp' 0, .ptr 2 bg' 0, c2, c3, c4, c5]) rfl (by rfl) hr
    refine Calls.mono (kk_spec ho hgs W F w h1) ?_
    rintro e w' ⟨h', r, ⟨rfl, rfl⟩, rfl, hr'⟩
    exact ⟨_, _, ⟨_, _, fun W F w hr => Rep.cellsEq (l := 0) (cs' := [.ptr lp bp' 0, .ptr lg bg' 0, c2, c3, c4, c5]) rfl (by rfl) hr, rfl, rfl, rfl⟩, rfl, hr'⟩
  · rintro h' r ⟨rfl, rfl⟩
    refine ⟨Nat.le_refl _, _, rfl, ?_⟩
    simp only [distinct, Bool.and_eq_true, Bool.not_eq_true', List.contains_eq_any_beq, List.any_cons, List.any_nil, Bool.or_false, Bool.or_eq_false_iff, beq_eq_false_iff_ne, ne_eq, Bool.and_true, List.elem_cons, List.elem_nil] at hd
    have s1 : ∀ (j : Nat) (v w : Ent), j ≠ lp → nth hs j = some v → nth (setN hs lp w) j = some v := fun j v w hj hv => by
      rw [nth_eq, setN_eq, List.getElem?_set, if_neg (fun e => hj e.symm), ← nth_eq]; exact hv
    simp only [putBack, appE_eq, List.append_nil]
    rw [setN_selfA hl, setN_selfA (s1 lg _ _ (by grind) hg')]
    exact hN
theorem newPo_ok : CtrOk Tryz.prog 50 newAnyC := by
  intro args hs N h
  unfold newAnyC at h
  split at h
  · refine Spec.at (hp := []) (args' := []) (Post' := fun h' r => h' = [] ∧ ∃ v, r = .raw (.pointer v)) [] rfl rfl ?_ rfl ?_
    · refine Spec.up ?_
      refine Spec.of_G 4 Tryz.func50 (c := bodyOf Tryz.f50) (by kernel_rfl) (by kernel_rfl) (Nat.le_of_ble_eq_true rfl) fun W F => ?_
      refine G_run (kc := false) (ss := []) (Cs := []) trivial hmK 600 ?_
      rw [pn_run]
      exact fun b => ⟨⟨rfl, rfl⟩, rfl, fun b1 => ⟨[], .raw (.pointer (some ⟨b1, 0, none⟩)), fun W F w hr => Rep.dropR (h := []) hr, rfl, rfl, _, rfl⟩⟩
    · rintro h' r ⟨rfl, v, rfl⟩
      refine ⟨Nat.le_refl _, _, rfl, ?_⟩
      simpa [putBack, appE_eq] using h v
  · exact h.elim
theorem newTr_ok : CtrOk Tryz.prog 51 newAnyC := by
  intro args hs N h
  unfold newAnyC at h
  split at h
  · refine Spec.at (hp := []) (args' := []) (Post' := fun h' r => h' = [] ∧ ∃ v, r = .raw (.pointer v)) [] rfl rfl ?_ rfl ?_
    · refine Spec.up ?_
      refine Spec.of_G 7 Tryz.func51 (c := bodyOf Tryz.f51) (by kernel_rfl) (by kernel_rfl) (Nat.le_of_ble_eq_true rfl) fun W F => ?_
      refine G_run (kc := false) (ss := []) (Cs := []) trivial hmK 600 ?_
      rw [tn_run]
      exact fun b => ⟨⟨rfl, rfl, rfl⟩, fun b1 b2 => ⟨⟨rfl, rfl⟩, rfl, fun b3 => ⟨[], .raw (.pointer (some ⟨b3, 0, none⟩)), fun W F w hr => Rep.dropR (h := []) hr, rfl, rfl, _, rfl⟩⟩⟩
    · rintro h' r ⟨rfl, v, rfl⟩
      refine ⟨Nat.le_refl _, _, rfl, ?_⟩
      simpa [putBack, appE_eq] using h v
  · exact h.elim
theorem add_ok : CtrOk Tryz.prog 77 addC := by
  intro args hs N h
  unfold addC at h
  split at h
  · rename_i a c
    refine Spec.lift (Φ := fun r => r = .int .i64 (addS a c)) ?_ (fun r hr => by rw [hr]; exact h)
    refine Spec.of_G 39 Tryz.func77 (c := bodyOf Tryz.f77) (by kernel_rfl) (by kernel_rfl) (Nat.le_of_ble_eq_true rfl) fun W F => ?_
    refine G_run (kc := false) (ss := []) (Cs := []) trivial hmK 600 ?_
    rw [add_run]
    unfold addS foreverI
    cases h1 : a == 9223372036854775807 with
    | true => exact rfl
    | false =>
      cases h2 : c == 9223372036854775807 with
      | true => exact rfl
      | false =>
        dsimp only [Bool.or_self]
        cases h3 : decide (a > 0) <;> cases h4 : decide (c > 0) <;> cases h5 : decide (IntKind.wrap .i64 (a + c) < 0) <;> cases h6 : decide (a < 0) <;> cases h7 : decide (c < 0) <;> cases h8 : decide (IntKind.wrap .i64 (a + c) ≥ 0) <;> exact rfl
  · exact h.elim
theorem tick_ok : CtrOk Tryz.prog 33 tickC := by
  intro args hs N h
  unfold tickC at h
  split at h
  case h_2 => exact h.elim
  rename_i l b n
  split at h
  case h_2 => exact h.elim
  rename_i b' c0 c1 c2 c3 m w T hl
  obtain ⟨⟨rfl, rfl⟩, h⟩ := h
  refine Spec.at (hp := [⟨.blk b', .cells [c0, c1, c2, c3, .int .i64 m, .int .i64 w] 96⟩]) (args' := [.ptr 0 b' 0, .int .i64 n]) (Post' := fun h' r => match decide (n < 0) with
    | true => h' = [⟨.blk b', .cells [c0, c1, c2, c3, .int .i64 m, .int .i64 w] 96⟩] ∧ r = .int .i64 10
    | false => h' = [⟨.blk b', .cells [c0, c1, c2, c3, .int .i64 (addS m n), .int .i64 (addS w n)] 96⟩] ∧ r = .int .i64 0) [l] (by simp [distinct]) (by simp [pickE, hl]) ?_ rfl ?_
  · refine Spec.of_G 25 Tryz.func33 (c := bodyOf Tryz.f33) (by kernel_rfl) (by kernel_rfl) (Nat.le_of_ble_eq_true rfl) fun W F => ?_
    refine G_run (kc := true) (ss := [200001]) (Cs := [(77, addC)]) ⟨add_ok, trivial⟩ hmK 600 ?_
    rw [tick_run]
    cases hn : decide (n < 0) with
    | true =>
      dsimp only
      exact ⟨rfl, rfl⟩
    | false =>
      dsimp only
      repeat' first
        | exact rfl
        | exact trivial
        | exact Nat.le_refl _
        | apply And.intro
        | (show _ ≤ _; omega)
        | (show _ < _; omega)
        | fail
  · intro h' r hp
    cases hn : decide (n < 0) with
    | true =>
      rw [hn] at hp h
      obtain ⟨rfl, rfl⟩ := hp
      refine ⟨Nat.le_refl _, _, rfl, ?_⟩
      simpa [putBack, appE_eq, setN_selfA hl] using h
    | false =>
      rw [hn] at hp h
      obtain ⟨rfl, rfl⟩ := hp
      refine ⟨Nat.le_refl _, _, rfl, ?_⟩
      simpa [putBack, appE_eq] using h
theorem knA_ok : AllOk Tryz.prog knA := ⟨add_ok, trivial⟩
theorem knJ_ok : AllOk Tryz.prog knJ := ⟨gPut_ok, trivial⟩
theorem knS_ok : AllOk Tryz.prog knS := ⟨grouped_ok, pSpawn_ok, inl_ok knJ_ok hmK Tryz.func54 (by kernel_rfl), trivial⟩
theorem knF_ok : AllOk Tryz.prog knF := ⟨gOf_ok, pFork_ok, inl_ok knJ_ok hmK Tryz.func54 (by kernel_rfl), trivial⟩
theorem knE_ok : AllOk Tryz.prog knE := ⟨pExit_ok, gGone_ok, trivial⟩
theorem knD_ok : AllOk Tryz.prog knD := ⟨pSig_ok, inl_ok knE_ok hmK Tryz.func11 (by kernel_rfl), trivial⟩
theorem knN_ok : AllOk Tryz.prog knN := ⟨pNew_ok, gNew_ok, newPo_ok, newTr_ok, trivial⟩
theorem knT_ok : AllOk Tryz.prog knT := ⟨inl_ok knN_ok hmK Tryz.func6 (by kernel_rfl), inl_ok trivial hmK Tryz.func7 (by kernel_rfl), inl_ok trivial hmK Tryz.func15 (by kernel_rfl), inl_ok trivial hmK Tryz.func38 (by kernel_rfl), inl_ok trivial hmK Tryz.func39 (by kernel_rfl), tick_ok, inl_ok knS_ok hmK Tryz.func9 (by kernel_rfl), inl_ok knF_ok hmK Tryz.func10 (by kernel_rfl), inl_ok knD_ok hmK Tryz.func13 (by kernel_rfl), killG_ok, gMake_ok, gMbQ_ok, gEmptied_ok, pSig_ok, trivial⟩
theorem knTJ_ok : AllOk Tryz.prog knTJ := ⟨inl_ok trivial hmK Tryz.func35 (by kernel_rfl), knT_ok⟩
end Go.Proofs.YtkcmgcoppecfpaaGreat

/- YtkcmgcoppecfpaaGreatKlC -/
/- The kernel's laws: what they call. -/
namespace Go.Proofs.YtkcmgcoppecfpaaGreat
open Go Go.RowKit
set_option linter.unusedVariables false
set_option linter.unusedSimpArgs false
set_option linter.unnecessarySimpa false
set_option maxHeartbeats 0

/-- Its answer is true. -/
def trueKC : Ctr := fun args hs N => match args with
  | [] => N hs (.bool true)
  | _ => False
def klT : Tbl := (5, trueKC) :: knT
def klTJ : Tbl := (5, trueKC) :: knTJ
def encU16 (x : Int) : List SV := [.int .u16 x]
end Go.Proofs.YtkcmgcoppecfpaaGreat

