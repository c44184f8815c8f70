import Derived.Test.YtihajdkipkfiiaaMgTrackPlays6
import Derived.Test.YtihajdkipkfiiaaMgTrackPlays5
import Derived.Shelf.SlIterI.Nil
import Derived.Shelf.SlIter.Nil
import Derived.Shelf.SortM.Plain
import Derived.Shelf.SortM.SortNone
import Derived.Ground.GgzProg
import Derived.Ground.SlgmProg
import Derived.Shelf.SlGeneric
import Derived.Test.YtihajdkipkfiiaaProg
/- YtihajdkipkfiiaaTrk3 -/
/- slices.AppendSeq of a row. -/
namespace Go.Proofs.Ytihajdkipkfiiaa
open Go Go.RowKit
set_option linter.unusedVariables false
set_option linter.unusedSimpArgs false
set_option linter.unnecessarySimpa false
set_option maxHeartbeats 0

/-- slices.AppendSeq onto nothing, of a row's elements. -/
def appSeqC : Ctr := fun args hs N => match args with
  | [.raw (.slice none 0 0), .func (.func g) [] [.ptr lb bx 0]] => g = 99 ∧ ∃ (xs : List Int) (lv : Nat) (ao : Option Addr) (cap : Nat), nth hs lb = some ⟨.blk bx, .cells [.vec lv ao xs.length cap] 32⟩ ∧ nth hs lv = some ⟨.sl ao cap, .vecL 3 1 encI1 xs 0⟩ ∧ (Nat.beq lb lv = false ∧ xs.length ≤ 1000000) ∧
      ∀ ao' cap', N (snoc hs ⟨.sl ao' cap', .vecL 3 1 encI1 xs 0⟩) (.vec (lenN hs) ao' xs.length cap')
  | _ => False
/-- A row's elements, gathered by the law's own function. -/
def valsC : Ctr := fun args hs N => match args with
  | [.func (.func g) [] [.ptr lg c 0], .ptr lb bx 0] => g = 35 ∧ ∃ (xs : List Int) (lv : Nat) (ao : Option Addr) (cap : Nat), nth hs lg = some ⟨.blk c, .cells [.raw (.slice none 0 0)] 32⟩ ∧ nth hs lb = some ⟨.blk bx, .cells [.vec lv ao xs.length cap] 32⟩ ∧ nth hs lv = some ⟨.sl ao cap, .vecL 3 1 encI1 xs 0⟩ ∧ ((Nat.beq lg lb = false ∧ Nat.beq lg lv = false ∧ Nat.beq lb lv = false) ∧ xs.length ≤ 100) ∧
      ∀ ag cg, N (snoc (setN hs lg ⟨.blk c, .cells [.vec (lenN hs) ag xs.length cg] 32⟩) ⟨.sl ag cg, .vecL 3 1 encI1 xs 0⟩) (.tuple [])
  | _ => False
theorem Rep.pkex1 {W w : World} {F : List Ch} {b : Nat} {ι : Type} {f : ι → List Ent} (hr : Rep W F [Go.Proofs.Ytihajdkipkfiiaa.pk b [exP f]] w) : ∃ i, Rep W F (f i) w := by
  have h1 : Rep W F ([exP f] ++ []) w := hr.unpk
  obtain ⟨i, h2⟩ := Rep.unex (t := []) h1
  exact ⟨i, by simpa using h2⟩
theorem Rep.expk1 {W w : World} {F : List Ch} {b : Nat} {ι : Type} {f : ι → List Ent} (i : ι) (hr : Rep W F (f i) w) : Rep W F [Go.Proofs.Ytihajdkipkfiiaa.pk b [exP f]] w := by
  have h2 : Rep W F ([exP f] ++ []) w := Rep.ex i (by simpa using hr)
  exact Rep.pk b h2
def asI (_i : Nat) : Type := Option Addr × Nat
def asR (xs : List Int) (c : Nat) (t : List Ent) (i : Nat) : List Ent := [exP fun ac : asI i => ([⟨.blk c, .cells [.vec 1 ac.1 (xs.take i).length ac.2] 32⟩, ⟨.sl ac.1 ac.2, .vecL 3 1 encI1 (xs.take i) 0⟩] ++ t)]
section
variable {xs : List Int} {bx c D l : Nat} {ao : Option Addr} {cap : Nat} {rc : Loop} {T : List SV}
theorem as_V (hx : xs.length ≤ 1000000) (hrt : rc.tmps = (denL T).toArray) (hrp : rc.params = rfP (codeAt (bodyOf Try.f102) [1, 0, 1, 0])) (hra : rc.assign = rfA (codeAt (bodyOf Try.f102) [1, 0, 1, 0])) (hrb : rc.body = rfB (codeAt (bodyOf Try.f102) [1, 0, 1, 0]))
    (hl : ∀ v, lenN (setMany T [7] [v]) = 13 ∧ liveOk (setMany T [7] [v]) [(2, .ptr 0 c 0), (7, v)]) : OneI (.func (.yield l) #[] #[]) xs (asR xs c [dent D true, lp l rc .ready none]) (fun _ => False) := by
  intro i x hxi
  obtain ⟨hi, he⟩ := List.getElem?_eq_some_iff.1 hxi
  refine .inr ⟨l, rfl, YSpec.ex (ι := asI i) (hs' := fun ac => [⟨.blk c, .cells [.vec 1 ac.1 (xs.take i).length ac.2] 32⟩, ⟨.sl ac.1 ac.2, .vecL 3 1 encI1 (xs.take i) 0⟩, dent D true, lp l rc .ready none]) (fun W F w hr => Rep.pkex1 hr) ?_⟩
  rintro ⟨ag, cg⟩
  have hl2 : (xs.take i).length = i := by simp; omega
  have hl3 : xs.take (i + 1) = xs.take i ++ [x] := by rw [List.take_add_one, hxi]; rfl
  refine YSpec.up (YSpec.of_GR (p := 3) (T0 := T) (ps := [7]) rfl hrt hrp hra hrb rfl rfl fun W F => ?_)
  refine GR_live 13 [(2, .ptr 0 c 0), (7, .int .i64 x)] [⟨.blk c, .cells [.vec 1 ag (xs.take i).length cg] 32⟩, ⟨.sl ag cg, .vecL 3 1 encI1 (xs.take i) 0⟩, dent D true, lp l rc .ready none] (hl _).1 (hl _).2 (fun _ h => h) fun u => ?_
  refine runR_sound (kc := true) (ss := []) (Cs := []) (Y := noY) (K := fun _ _ => False) (fun _ _ h => h.elim) trivial (noY_ok _) hmT Ends.assign 60 _ _ ?_
  rw [as_asg]
  refine ⟨rfl, ?_⟩
  refine GR_live 13 [(2, .ptr 0 c 0), (5, .int .i64 x)] [⟨.blk c, .cells [.vec 1 ag (xs.take i).length cg] 32⟩, ⟨.sl ag cg, .vecL 3 1 encI1 (xs.take i) 0⟩, dent D true, lp l rc .busy none] rfl ⟨rfl, rfl, trivial⟩ (fun w hr => hr) fun u => ?_
  refine runR_sound (kc := true) (ss := []) (Cs := []) (Y := noY) (K := fun _ _ => False) (fun _ _ h => h.elim) trivial (noY_ok _) hmT (Ends.round (p := 3) (rc := rc) (j := none)) 600 _ _ ?_
  rw [as_body]
  have fin : ∀ (ao2 : Option Addr) (cap2 : Nat) (e4 : Ent), ∀ W F w, Rep W F [⟨.blk c, .cells [.vec 1 ao2 ((xs.take i).length + 1) cap2] 32⟩, ⟨.sl ao2 cap2, .vecL 3 1 encI1 (xs.take i ++ [x]) 0⟩, dent D true, lp l rc .ready none, e4] w → Rep W F [pk 0 (asR xs c [dent D true, lp l rc .ready none] (i + 1))] w := fun ao2 cap2 e4 W F w hr => by
    have h1 := Rep.pick (π := [0, 1, 2, 3]) (by decide) rfl hr
    refine Rep.expk1 (f := fun ac : asI (i + 1) => ([⟨.blk c, .cells [.vec 1 ac.1 (xs.take (i + 1)).length ac.2] 32⟩, ⟨.sl ac.1 ac.2, .vecL 3 1 encI1 (xs.take (i + 1)) 0⟩] ++ [dent D true, lp l rc .ready none])) (ao2, cap2) ?_
    have e : (xs.take (i + 1)).length = (xs.take i).length + 1 := by rw [hl3]; simp
    dsimp only
    rw [e, hl3]
    exact h1
  repeat' first
    | exact rfl
    | (refine ⟨[x], rfl, rfl, fun ao2 cap2 _ => ⟨⟨rfl, rfl, rfl, by omega⟩, ?_⟩⟩)
    | exact ⟨rfl, [pk 0 (asR xs c [dent D true, lp l rc .ready none] (i + 1))], .bool true, fin _ _ _, rfl, .inl ⟨rfl, rfl⟩⟩
    | apply And.intro
    | (refine fun b1 => ?_)
    | (show _ ≤ _; omega)
    | (show _ < _; omega)
    | fail
end
theorem as_spec {xs : List Int} {bx c D l : Nat} {ao : Option Addr} {cap : Nat} {rc : Loop} {T : List SV} (hx : xs.length ≤ 1000000) (hrt : rc.tmps = (denL T).toArray) (hrp : rc.params = rfP (codeAt (bodyOf Try.f102) [1, 0, 1, 0])) (hra : rc.assign = rfA (codeAt (bodyOf Try.f102) [1, 0, 1, 0])) (hrb : rc.body = rfB (codeAt (bodyOf Try.f102) [1, 0, 1, 0]))
    (hl : ∀ v, lenN (setMany T [7] [v]) = 13 ∧ liveOk (setMany T [7] [v]) [(2, .ptr 0 c 0), (7, v)]) : Spec Try.prog 99 [⟨.blk bx, .cells [.vec 1 ao xs.length cap] 32⟩, ⟨.sl ao cap, .vecL 3 1 encI1 xs 0⟩, ⟨.blk c, .cells [.raw (.slice none 0 0)] 32⟩, dent D true, lp l rc .ready none] [.func (.yield l) [] [], .ptr 0 bx 0] fun h _ =>
    ∃ ag cg, h = [⟨.blk bx, .cells [.vec 1 ao xs.length cap] 32⟩, ⟨.sl ao cap, .vecL 3 1 encI1 xs 0⟩, ⟨.blk c, .cells [.vec 3 ag xs.length cg] 32⟩, ⟨.sl ag cg, .vecL 3 1 encI1 xs 0⟩, dent D true, lp l rc .ready none] := by
  intro W F w hr
  have h1 : Rep W F [⟨.blk bx, .cells [.vec 1 ao xs.length cap] 32⟩, ⟨.sl ao cap, .vecL 3 1 encI1 xs 0⟩, pk 0 (asR xs c [dent D true, lp l rc .ready none] 0)] w := by
    have h2 := Rep.cellsEq (l := 2) (cs' := [.vec 1 none 0 0]) rfl (by rfl) hr
    have h3 := Rep.nilvec 3 (sz := 1) (enc := encI1) 0 (fun _ => rfl) h2
    refine Rep.pkAt 0 (p := [_, _]) (t := []) ?_
    have h5 := Rep.pick (π := [2, 5, 3, 4, 0, 1]) (by decide) rfl h3
    have h6 : Rep W F ([exP fun ac : asI 0 => ([⟨.blk c, .cells [.vec 1 ac.1 (xs.take 0).length ac.2] 32⟩, ⟨.sl ac.1 ac.2, .vecL 3 1 encI1 (xs.take 0) 0⟩] ++ [dent D true, lp l rc .ready none])] ++ [_, _]) w := Rep.ex (f := fun ac : asI 0 => ([⟨.blk c, .cells [.vec 1 ac.1 (xs.take 0).length ac.2] 32⟩, ⟨.sl ac.1 ac.2, .vecL 3 1 encI1 (xs.take 0) 0⟩] ++ [dent D true, lp l rc .ready none])) (none, 0) h5
    exact Rep.pick (π := [1, 2, 0]) (by decide) rfl h6
  refine Calls.mono (valI_iter (ao := ao) (cap := cap) (bx := bx) hx (as_V hx hrt hrp hra hrb hl) W F w h1) ?_
  rintro e w' ⟨h', r, ⟨rfl, hc⟩, rfl, hr'⟩
  rcases hc with rfl | ⟨R', hs, rfl⟩
  · have h7 := Rep.unpkAt (p := [_, _]) (t := []) hr'
    have h8 := Rep.pick (π := [2, 0, 1]) (by decide) rfl h7
    obtain ⟨⟨ag, cg⟩, h9⟩ := Rep.unex (t := [_, _]) h8
    refine ⟨_, .tuple [], ⟨ag, cg, rfl⟩, rfl, ?_⟩
    have h10 := Rep.pick (π := [4, 5, 0, 1, 2, 3]) (by decide) rfl h9
    dsimp only at h10
    rw [List.take_length] at h10
    exact Rep.cellsEq (l := 2) (cs' := [.vec 3 ag xs.length cg]) rfl (by rfl) h10
  · exact hs.elim
theorem appSeq_ok : CtrOk Try.prog 102 appSeqC := by
  intro args hs N h
  unfold appSeqC at h
  split at h
  case h_2 => exact h.elim
  rename_i g lb bx
  obtain ⟨rfl, xs, lv, ao, cap, h1, h2, ⟨hne, hx⟩, h⟩ := h
  refine Spec.at (hp := [⟨.blk bx, .cells [.vec lv ao xs.length cap] 32⟩, ⟨.sl ao cap, .vecL 3 1 encI1 xs 0⟩]) (args' := [.raw (.slice none 0 0), .func (.func 99) [] [.ptr 0 bx 0]]) (Post' := fun h' r => ∃ ag cg, h' = [⟨.blk bx, .cells [.vec lv ao xs.length cap] 32⟩, ⟨.sl ao cap, .vecL 3 1 encI1 xs 0⟩, ⟨.sl ag cg, .vecL 3 1 encI1 xs 0⟩] ∧ r = .vec 2 ag xs.length cg) [lb, lv] (by
    have : lb ≠ lv := fun e => by
      subst e
      simp at hne
    simpa [distinct] using this) (by simp [pickE, h1, h2]) ?_ rfl ?_
  · refine Spec.up (Spec.pre (hs' := [⟨.blk bx, .cells [.vec 1 ao xs.length cap] 32⟩, ⟨.sl ao cap, .vecL 3 1 encI1 xs 0⟩]) (fun W F w hr => Rep.cellsEq (l := 0) (cs' := [.vec 1 ao xs.length cap]) rfl (by rfl) hr) rfl ?_)
    refine Spec.of_GR 13 Try.func102 (c := bodyOf Try.f102) (by kernel_rfl) (by kernel_rfl) (Nat.le_of_ble_eq_true rfl) fun W F => ?_
    refine runR_sound (kc := true) (ss := []) (Cs := []) (fun _ _ h => h) trivial (noY_ok _) hmT Ends.fn 300 _ _ ?_
    rw [as_start]
    try refine ⟨rfl, ?_⟩
    intro c
    refine GR_rangeAt [] (bodyOf Try.f102) [1, 0, 1, 0] (f := 99) (first := []) (captured := [.ptr 0 bx 0]) (by kernel_rfl) (by kernel_rfl) (by kernel_rfl) fun D l rc hrt hrp hra hrb =>
      ⟨_, as_spec hx hrt hrp hra hrb fun v => ⟨rfl, rfl, rfl, trivial⟩, ?_⟩
    rintro h' v ⟨ag, cg, rfl⟩
    refine ⟨5, .ready, none, by decide, rfl, ?_⟩
    dsimp only
    refine GR_live 13 [(2, .ptr 0 c 0)] [⟨.blk c, .cells [.vec 1 ag xs.length cg] 32⟩, ⟨.sl ag cg, .vecL 3 1 encI1 xs 0⟩, dent D true, lp l rc .exhausted none, ⟨.blk bx, .cells [.vec 1 ao xs.length cap] 32⟩, ⟨.sl ao cap, .vecL 3 1 encI1 xs 0⟩] rfl ⟨rfl, trivial⟩ (fun w hr => ?_) fun u => ?_
    · have g1 := Rep.pick (π := [2, 3, 4, 5, 0, 1]) (by decide) rfl hr
      exact Rep.cellsEq (l := 0) (cs' := [.vec 1 ag xs.length cg]) rfl (by rfl) g1
    refine runR_sound (Cs := []) (Y := noY) (kc := true) (ss := []) (K := fun _ _ => False) (fun _ _ h => h.elim) trivial (noY_ok _) hmT (Ends.fnM D 2) 600 _ _ ?_
    rw [as_end]
    have fin : ∀ (e2 e3 : Ent), up (fun h' r => ∃ ag cg, h' = [⟨.blk bx, .cells [.vec lv ao xs.length cap] 32⟩, ⟨.sl ao cap, .vecL 3 1 encI1 xs 0⟩, ⟨.sl ag cg, .vecL 3 1 encI1 xs 0⟩] ∧ r = .vec 2 ag xs.length cg) [⟨.blk c, .cells [.vec 1 ag xs.length cg] 32⟩, ⟨.sl ag cg, .vecL 3 1 encI1 xs 0⟩, e2, e3, ⟨.blk bx, .cells [.vec 1 ao xs.length cap] 32⟩, ⟨.sl ao cap, .vecL 3 1 encI1 xs 0⟩] (.vec 1 ag xs.length cg) := fun e2 e3 => by
      refine ⟨_, .vec 2 ag xs.length cg, fun W F w hr => ?_, rfl, ag, cg, rfl, rfl⟩
      have g1 := Rep.pick (π := [4, 5, 1]) (by decide) rfl hr
      exact Rep.cellsEq (l := 0) (cs' := [.vec lv ao xs.length cap]) rfl (by rfl) g1
    repeat' first
      | exact rfl
      | exact fin _ _
      | apply And.intro
      | (show _ ≤ _; omega)
      | fail
  · rintro h' r ⟨ag, cg, rfl, rfl⟩
    refine ⟨by simp [lenN], .vec (lenN hs) ag xs.length cg, rfl, ?_⟩
    simpa [putBack, appE_eq, snoc_eq, setN_selfT h1, setN_selfT h2] using h ag cg
theorem tf_V {xs : List Int} {c : Nat} (hx : xs.length ≤ 100) : OneI (.func (.func 35) #[] (denL [.ptr 0 c 0]).toArray) xs (asR xs c []) (fun _ => False) := by
  intro i x hxi
  obtain ⟨hi, he⟩ := List.getElem?_eq_some_iff.1 hxi
  refine VSpec.fn (by kernel_rfl) (Spec.ex (ι := asI i) (hs' := fun ac => [⟨.blk c, .cells [.vec 1 ac.1 (xs.take i).length ac.2] 32⟩, ⟨.sl ac.1 ac.2, .vecL 3 1 encI1 (xs.take i) 0⟩]) (fun W F w hr => by
    obtain ⟨j, hj⟩ := Rep.pkex1 hr
    exact ⟨j, hj⟩) ?_)
  rintro ⟨ag, cg⟩
  have hl2 : (xs.take i).length = i := by simp; omega
  have hl3 : xs.take (i + 1) = xs.take i ++ [x] := by rw [List.take_add_one, hxi]; rfl
  refine Spec.up ?_
  show Spec Try.prog 35 [⟨.blk c, .cells [.vec 1 ag (xs.take i).length cg] 32⟩, ⟨.sl ag cg, .vecL 3 1 encI1 (xs.take i) 0⟩] [.int .i64 x, .ptr 0 c 0] _
  refine Spec.of_G 11 Try.func35 (c := bodyOf Try.f35) (by kernel_rfl) (by kernel_rfl) (Nat.le_of_ble_eq_true rfl) fun W F => ?_
  refine G_run (kc := true) (ss := []) (Cs := []) trivial hmT 600 ?_
  rw [tf1_run]
  have hlt : decide ((((xs.take i).length + 1 : Nat) : Int) < 200) = true := decide_eq_true (by omega)
  have fin : ∀ (ao2 : Option Addr) (cap2 : Nat) (e4 : Ent), up (fun h r => (h = [pk 0 (asR xs c [] (i + 1))] ∧ r = .bool true) ∨ ∃ R' : List Ent, False ∧ h = [pk 0 R'] ∧ r = .bool false) [⟨.blk c, .cells [.vec 1 ao2 ((xs.take i).length + 1) cap2] 32⟩, ⟨.sl ao2 cap2, .vecL 3 1 encI1 (xs.take i ++ [x]) 0⟩, e4] (.bool (decide ((((xs.take i).length + 1 : Nat) : Int) < 200))) := fun ao2 cap2 e4 => by
    rw [hlt]
    refine ⟨[pk 0 (asR xs c [] (i + 1))], .bool true, fun W F w hr => ?_, rfl, .inl ⟨rfl, rfl⟩⟩
    have h1 := Rep.pick (π := [0, 1]) (by decide) rfl hr
    refine Rep.expk1 (f := fun ac : asI (i + 1) => ([⟨.blk c, .cells [.vec 1 ac.1 (xs.take (i + 1)).length ac.2] 32⟩, ⟨.sl ac.1 ac.2, .vecL 3 1 encI1 (xs.take (i + 1)) 0⟩] ++ [])) (ao2, cap2) ?_
    have e : (xs.take (i + 1)).length = (xs.take i).length + 1 := by rw [hl3]; simp
    dsimp only
    rw [e, hl3]
    exact h1
  repeat' first
    | exact rfl
    | (refine ⟨[x], rfl, rfl, fun ao2 cap2 _ => ⟨⟨rfl, rfl, rfl, by omega⟩, ?_⟩⟩)
    | exact fin _ _ _
    | exact ⟨rfl, fin _ _ _⟩
    | apply And.intro
    | (refine fun b1 => ?_)
    | (show _ ≤ _; omega)
    | (show _ < _; omega)
    | fail
theorem vals_ok : CtrOk Try.prog 99 valsC := by
  intro args hs N h
  unfold valsC at h
  split at h
  case h_2 => exact h.elim
  rename_i g lg c lb bx
  obtain ⟨rfl, xs, lv, ao, cap, h0, h1, h2, ⟨⟨n1, n2, n3⟩, hx⟩, h⟩ := h
  have ne : ∀ {a b : Nat}, Nat.beq a b = false → a ≠ b := fun h e => by
    subst e
    simp at h
  refine Spec.at (hp := [⟨.blk c, .cells [.raw (.slice none 0 0)] 32⟩, ⟨.blk bx, .cells [.vec lv ao xs.length cap] 32⟩, ⟨.sl ao cap, .vecL 3 1 encI1 xs 0⟩]) (args' := [.func (.func 35) [] [.ptr 0 c 0], .ptr 1 bx 0]) (Post' := fun h' r => ∃ ag cg, h' = [⟨.blk c, .cells [.vec (lenN hs) ag xs.length cg] 32⟩, ⟨.blk bx, .cells [.vec lv ao xs.length cap] 32⟩, ⟨.sl ao cap, .vecL 3 1 encI1 xs 0⟩, ⟨.sl ag cg, .vecL 3 1 encI1 xs 0⟩] ∧ r = .tuple []) [lg, lb, lv] (by simpa [distinct] using ⟨⟨ne n1, ne n2⟩, ne n3⟩) (by simp [pickE, h0, h1, h2]) ?_ rfl ?_
  · intro W F w hr
    have g1 : Rep W F [⟨.blk bx, .cells [.vec 1 ao xs.length cap] 32⟩, ⟨.sl ao cap, .vecL 3 1 encI1 xs 0⟩, pk 0 (asR xs c [] 0)] w := by
      have g2 := Rep.cellsEq (l := 1) (cs' := [.vec 1 ao xs.length cap]) rfl (by rfl) hr
      have g3 := Rep.cellsEq (l := 0) (cs' := [.vec 1 none 0 0]) rfl (by rfl) g2
      have g4 := Rep.nilvec 3 (sz := 1) (enc := encI1) 0 (fun _ => rfl) g3
      refine Rep.pkAt 0 (p := [_, _]) (t := []) ?_
      have g5 := Rep.pick (π := [0, 3, 1, 2]) (by decide) rfl g4
      have g6 : Rep W F ([exP fun ac : asI 0 => ([⟨.blk c, .cells [.vec 1 ac.1 (xs.take 0).length ac.2] 32⟩, ⟨.sl ac.1 ac.2, .vecL 3 1 encI1 (xs.take 0) 0⟩] ++ [])] ++ [_, _]) w := Rep.ex (f := fun ac : asI 0 => ([⟨.blk c, .cells [.vec 1 ac.1 (xs.take 0).length ac.2] 32⟩, ⟨.sl ac.1 ac.2, .vecL 3 1 encI1 (xs.take 0) 0⟩] ++ [])) (none, 0) g5
      exact Rep.pick (π := [1, 2, 0]) (by decide) rfl g6
    refine Calls.mono (valI_iter (ao := ao) (cap := cap) (bx := bx) (by omega) (tf_V hx) W F w g1) ?_
    rintro e w' ⟨h', r, ⟨rfl, hc⟩, rfl, hr'⟩
    rcases hc with rfl | ⟨R', hs, rfl⟩
    · have h7 := Rep.unpkAt (p := [_, _]) (t := []) hr'
      have h8 := Rep.pick (π := [2, 0, 1]) (by decide) rfl h7
      obtain ⟨⟨ag, cg⟩, h9⟩ := Rep.unex (t := [_, _]) h8
      refine ⟨_, .tuple [], ⟨ag, cg, rfl, rfl⟩, rfl, ?_⟩
      have h10 := Rep.pick (π := [0, 2, 3, 1]) (by decide) rfl h9
      dsimp only at h10
      rw [List.take_length] at h10
      have h11 := Rep.cellsEq (l := 0) (cs' := [.vec (lenN hs) ag xs.length cg]) rfl (by rfl) h10
      exact Rep.cellsEq (l := 1) (cs' := [.vec lv ao xs.length cap]) rfl (by rfl) h11
    · exact hs.elim
  · rintro h' r ⟨ag, cg, rfl, rfl⟩
    refine ⟨by simp [lenN], .tuple [], rfl, ?_⟩
    have e : setN (setN (setN hs lg ⟨.blk c, .cells [.vec (lenN hs) ag xs.length cg] 32⟩) lb ⟨.blk bx, .cells [.vec lv ao xs.length cap] 32⟩) lv ⟨.sl ao cap, .vecL 3 1 encI1 xs 0⟩ = setN hs lg ⟨.blk c, .cells [.vec (lenN hs) ag xs.length cg] 32⟩ := by
      have e1 : nth (setN hs lg ⟨.blk c, .cells [.vec (lenN hs) ag xs.length cg] 32⟩) lb = some ⟨.blk bx, .cells [.vec lv ao xs.length cap] 32⟩ := by
        rw [nth_eq, setN_eq, List.getElem?_set, if_neg (ne n1), ← nth_eq]; exact h1
      have e2 : nth (setN hs lg ⟨.blk c, .cells [.vec (lenN hs) ag xs.length cg] 32⟩) lv = some ⟨.sl ao cap, .vecL 3 1 encI1 xs 0⟩ := by
        rw [nth_eq, setN_eq, List.getElem?_set, if_neg (ne n2), ← nth_eq]; exact h2
      rw [setN_selfT e1, setN_selfT e2]
    simpa [putBack, appE_eq, snoc_eq, e] using h ag cg
end Go.Proofs.Ytihajdkipkfiiaa

/- YtihajdkipkfiiaaIdx -/
/- The first place of a row at which something holds. -/
namespace Go.Proofs.Ytihajdkipkfiiaa
open Go Go.RowKit
set_option linter.unusedVariables false
set_option linter.unusedSimpArgs false

/-- The first place from i on at which p holds, or -1. -/
def fIdx {α : Type} (p : α → Bool) : List α → Nat → Int
  | [], _ => -1
  | x :: l, i => match p x with
    | true => (i : Int)
    | false => fIdx p l (i + 1)
theorem fIdx_drop {α : Type} (p : α → Bool) (d : α) (xs : List α) (i : Nat) (h : i < xs.length) : fIdx p (xs.drop i) i = match p (xs.getD i d) with | true => (i : Int) | false => fIdx p (xs.drop (i + 1)) (i + 1) := by
  have e : xs.drop i = xs.getD i d :: xs.drop (i + 1) := by
    rw [List.drop_eq_getElem_cons h]
    simp [List.getD, h]
  rw [e]
  rfl
theorem fIdx_none {α : Type} (p : α → Bool) : ∀ (xs : List α) (i : Nat), (∀ x ∈ xs, p x = false) → fIdx p xs i = -1
  | [], _, _ => rfl
  | x :: l, i, h => by
    simp only [fIdx, h x List.mem_cons_self]
    exact fIdx_none p l (i + 1) fun y hy => h y (List.mem_cons_of_mem _ hy)
theorem fIdx_split {α : Type} (p : α → Bool) (x : α) (l2 : List α) (hx : p x = true) : ∀ (l1 : List α) (i : Nat), (∀ y ∈ l1, p y = false) → fIdx p (l1 ++ x :: l2) i = ((i + l1.length : Nat) : Int)
  | [], i, _ => by simp [fIdx, hx]
  | y :: l1, i, h => by
    simp only [List.cons_append, fIdx, h y List.mem_cons_self]
    rw [fIdx_split p x l2 hx l1 (i + 1) fun z hz => h z (List.mem_cons_of_mem _ hz)]
    simp only [List.length_cons]
    congr 1
    omega
theorem setN_selfR {α : Type 1} {l : Nat} {v : α} : ∀ {h : List α}, nth h l = some v → setN h l v = h := by
  induction l with
  | zero => intro h hl; cases h <;> simp [nth, setN] at hl ⊢; exact hl.symm
  | succ l ih => intro h hl; cases h <;> simp [nth, setN] at hl ⊢; exact ih hl
theorem getD_mid {α : Type} (l1 : List α) (x : α) (l2 : List α) (d : α) : (l1 ++ x :: l2).getD l1.length d = x := by simp [List.getD]
theorem set_mid {α : Type} (l1 : List α) (x y : α) (l2 : List α) : (l1 ++ x :: l2).set l1.length y = l1 ++ y :: l2 := by simp
theorem drop_mid {α : Type} (l1 : List α) (x : α) (l2 : List α) : (l1 ++ x :: l2).drop (l1.length + 1) = l2 := by
  rw [List.drop_append]
  simp
theorem take_mid {α : Type} (l1 : List α) (x : α) (l2 : List α) : (l1 ++ x :: l2).take l1.length = l1 := by simp
theorem set_sameR {α : Type} {xs : List α} {i : Nat} {d : α} (h : i < xs.length) : xs.set i (xs.getD i d) = xs := by
  refine List.ext_getElem? fun j => ?_
  rw [List.getElem?_set]
  split
  · rename_i e; subst e
    simp [List.getD, h]
  · rfl
end Go.Proofs.Ytihajdkipkfiiaa

/- YtihajdkipkfiiaaTgC -/
/- Targets; slices.Contains. -/
namespace Go.Proofs.Ytihajdkipkfiiaa
open Go Go.RowKit
set_option linter.unusedVariables false
set_option linter.unusedSimpArgs false
set_option linter.unnecessarySimpa false
set_option maxHeartbeats 0

/-- slices.Index at whole numbers. -/
def idxIC : Ctr := fun args hs N => match args with
  | [.vec l ao n cap, .int .i64 v] => ∃ xs : List Int, nth hs l = some ⟨.sl ao cap, .vecL 3 1 encI1 xs 0⟩ ∧ (n = xs.length ∧ xs.length ≤ 1000000) ∧ N hs (.int .i64 (fIdx (fun x : Int => v == x) xs 0))
  | [.raw (.slice none 0 0), .int .i64 v] => N hs (.int .i64 (-1))
  | _ => False
/-- slices.Contains. -/
def contIC : Ctr := fun args hs N => match args with
  | [.vec l ao n cap, .int .i64 v] => ∃ (xs : List Int) (e : Ent), nth hs l = some e ∧ (e = ⟨.sl ao cap, .vecL 3 1 encI1 xs 0⟩ ∨ e = ⟨.sl ao cap, .vecV 3 1 n (xs.map fun x => .int .i64 x)⟩) ∧ (n = xs.length ∧ xs.length ≤ 1000000) ∧ N hs (.bool (xs.contains v))
  | [.raw (.slice none 0 0), .int .i64 v] => N hs (.bool false)
  | _ => False
def mainL (a c : Int) : List Int := match decide (mnI a c ≥ 2) with
  | true => match decide (mxI a c ≥ 2) && !(mnI a c == mxI a c) with
    | true => [mnI a c, mxI a c]
    | false => [mnI a c]
  | false => match decide (mxI a c ≥ 2) with
    | true => [mxI a c]
    | false => []
def targL (s : Trk) (unit : ByteArray) (mode main control : Int) : List Int := match mode == 1 with
  | true => pidsL s unit
  | false => match mode == 2 with
    | true => mainL main control
    | false => []
/-- Targets. -/
def targC : Ctr := fun args hs N => match args with
  | [.ptr l b 0, .str unit, .int .i64 mode, .int .i64 main, .int .i64 control] => match nth hs l with
    | some ⟨.blk b', .adt (σ := σ') p s⟩ => b' = b ∧ ∃ h : σ' = Trk, AdtIs p trkE ∧ (pidsOk (cast h s) unit ∧ (pidsL (cast h s) unit).length ≤ 1000000) ∧
        ∀ ao cap, N (snoc hs ⟨.sl ao cap, .vecL 3 1 encI1 (targL (cast h s) unit mode main control) 0⟩) (.vec (lenN hs) ao (targL (cast h s) unit mode main control).length cap)
    | _ => False
  | _ => False
def cnT : Tbl := [(103, idxIC)]
def tgT : Tbl := [(34, pidsC), (82, inl Try.prog [(102, appSeqC)] true Try.f82 100), (83, contIC)]
end Go.Proofs.Ytihajdkipkfiiaa

/- YtihajdkipkfiiaaTpC -/
/- TrackPlays: the law's own functions. -/
namespace Go.Proofs.Ytihajdkipkfiiaa
open Go Go.RowKit
set_option linter.unusedVariables false
set_option linter.unusedSimpArgs false
set_option linter.unnecessarySimpa false
set_option maxHeartbeats 0

def encPr (x : Int × ByteArray) : List SV := [.int .i64 x.1, .str x.2]
/-- The law's own row: which unit each process is of, rising by the processes. -/
abbrev PRow := List (Int × ByteArray)
def zPr : Int × ByteArray := (0, ⟨#[]⟩)
def atP (m : PRow) (pid : Int) : Int := fIdx (fun x : Int × ByteArray => x.1 == pid) m 0
def putAt (m : PRow) (pid : Int) : Nat := (m.takeWhile fun x => decide (x.1 < pid)).length
def insP (m : PRow) (x : Int × ByteArray) : PRow := m.take (putAt m x.1) ++ x :: m.drop (putAt m x.1)
def outP (m : PRow) (i : Nat) : PRow := m.take i ++ m.drop (i + 1)
def pidsP (m : PRow) (unit : ByteArray) : List Int := (m.filter fun x => sEq x.2 unit).map (·.1)
def vecP (ao : Option Addr) (cap : Nat) (m : PRow) : Ent := ⟨.sl ao cap, .vecL 88 2 encPr m zPr⟩
def atC : Ctr := fun args hs N => match args with
  | [.vec l ao n cap, .int .i64 pid] => ∃ m : PRow, nth hs l = some (vecP ao cap m) ∧ (n = m.length ∧ m.length ≤ 1000000) ∧ N hs (.int .i64 (atP m pid))
  | _ => False
def putC : Ctr := fun args hs N => match args with
  | [.vec l ao n cap, .agg [.int .i64 pid, .str u]] => ∃ m : PRow, nth hs l = some (vecP ao cap m) ∧ (n = m.length ∧ m.length ≤ 1000000) ∧ ∀ ao' cap', N (snoc hs (vecP ao' cap' (insP m (pid, u)))) (.vec (lenN hs) ao' (insP m (pid, u)).length cap')
  | _ => False
def withoutC : Ctr := fun args hs N => match args with
  | [.vec l ao n cap, .int .i64 j] => ∃ (m : PRow) (i : Nat), nth hs l = some (vecP ao cap m) ∧ (n = m.length ∧ m.length ≤ 1000000 ∧ j = (i : Int) ∧ i < m.length) ∧ ∀ ao' cap', N (snoc hs (vecP ao' cap' (outP m i))) (.vec (lenN hs) ao' (outP m i).length cap')
  | _ => False
def pidsPC : Ctr := fun args hs N => match args with
  | [.vec l ao n cap, .str u] => ∃ m : PRow, nth hs l = some (vecP ao cap m) ∧ (n = m.length ∧ m.length ≤ 1000000) ∧ ∀ ao' cap', N (snoc hs ⟨.sl ao' cap', .vecL 3 1 encI1 (pidsP m u) 0⟩) (.vec (lenN hs) ao' (pidsP m u).length cap')
  | _ => False
end Go.Proofs.Ytihajdkipkfiiaa

/- YtihajdkipkfiiaaIntC -/
/- reveillehelp.Ints. -/
namespace Go.Proofs.Ytihajdkipkfiiaa
open Go Go.RowKit
set_option linter.unusedVariables false
set_option linter.unusedSimpArgs false
set_option linter.unnecessarySimpa false
set_option maxHeartbeats 0

/-- reveillehelp.Ints, where both rows are the same. -/
def intsC : Ctr := fun args hs N => match args with
  | [.vec l ao n cap, .vec l' ao' n' cap'] => ∃ xs : List Int, nth hs l = some ⟨.sl ao cap, .vecL 3 1 encI1 xs 0⟩ ∧ nth hs l' = some ⟨.sl ao' cap', .vecL 3 1 encI1 xs 0⟩ ∧ (Nat.beq l l' = false ∧ n = xs.length ∧ n' = xs.length ∧ xs.length ≤ 1000000) ∧ N hs (.bool true)
  | _ => False
end Go.Proofs.Ytihajdkipkfiiaa

/- YtihajdkipkfiiaaTfC -/
/- TrackForks: the functions that it calls. -/
namespace Go.Proofs.Ytihajdkipkfiiaa
open Go Go.RowKit
set_option linter.unusedVariables false
set_option linter.unusedSimpArgs false
set_option linter.unnecessarySimpa false
set_option maxHeartbeats 0

def encU8 (x : Int) : List SV := [.int .u8 x]
/-- A function that needs nothing and says 'true'. -/
def trueC : Ctr := fun args hs N => match args with
  | [] => N hs (.bool true)
  | _ => False
def tkT1 : Tbl := [(34, pidsC), (82, inl Try.prog [(102, appSeqC)] true Try.f82 100)]
def tkT : Tbl := [(30, newTC), (31, adtC trkE taddM), (32, adtC trkE tforkM), (33, adtC trkE tgoneM), (56, adtC trkE tunitM), (34, pidsC)]
def tfT : Tbl := (29, trueC) :: (99, valsC) :: (17, intsC) :: (36, inl Try.prog tkT1 true Try.f36 600) :: tkT
def names2 : ByteArray := ⟨#[97, 98]⟩
end Go.Proofs.Ytihajdkipkfiiaa

/- YtihajdkipkfiiaaTfP -/
/- TrackForks: what its calls do to the track. -/
namespace Go.Proofs.Ytihajdkipkfiiaa
open Go Go.RowKit Go.Maps Go.Sort Go.Shelf
set_option linter.unusedVariables false
set_option linter.unusedSimpArgs false
set_option linter.unnecessarySimpa false

def nmT (w : Nat) : ByteArray := names2.extract (w - 1) w
theorem nmT_ne : nmT 1 ≠ nmT 2 := by decide +kernel
theorem nmT_12 {w v : Nat} (hw : w = 1 ∨ w = 2) (hv : v = 1 ∨ v = 2) : nmT v = nmT w ↔ v = w := by
  have := nmT_ne
  rcases hw with rfl | rfl <;> rcases hv with rfl | rfl
  · simp
  · constructor
    · intro h; exact absurd h.symm this
    · intro h; omega
  · constructor
    · intro h; exact absurd h this
    · intro h; omega
  · simp
theorem nmT_empty {w : Nat} (hw : w = 1 ∨ w = 2) : sEq (nmT w) ⟨#[]⟩ = false := by
  rcases hw with rfl | rfl <;> decide +kernel
theorem keyT_s (a b : ByteArray) : keyEq (.s a) (.s b) = decide (a = b) := by
  rw [Bool.eq_iff_iff, decide_eq_true_iff]
  exact bytes_beq a b
theorem keyT_i (a b : Int) : keyEq (.i .i64 a) (.i .i64 b) = decide (a = b) := by rw [Bool.eq_iff_iff]; simp [keyEq]
theorem mgetT_del {β : Type} {es : List (Key × β)} (h : keysOk es) (a b : Int) : mget (mdel es (.i .i64 a)) (.i .i64 b) = if b = a then none else mget es (.i .i64 b) := by
  by_cases hab : b = a
  · subst hab; rw [if_pos rfl, mget_mdel h]
  · rw [if_neg hab, mget_mdel_ne (by rw [keyT_i]; simp [hab])]
theorem mgetT_set {β : Type} {es : List (Key × β)} (a b : Int) (u : β) : mget (mset es (.i .i64 a) u) (.i .i64 b) = if b = a then some u else mget es (.i .i64 b) := by
  by_cases hab : b = a
  · subst hab; rw [if_pos rfl, mget_mset (keyEq_self _)]
  · rw [if_neg hab, mget_mset_ne (by rw [keyT_i]; simp [hab])]
theorem memT_del {β : Type} {k : Key} {e : Key × β} : ∀ {es : List (Key × β)}, e ∈ mdel es k → e ∈ es
  | [], h => by cases h
  | (k', v') :: es, h => by
    simp only [mdel] at h
    cases hq : keyEq k k' with
    | true => simp only [hq] at h; exact List.mem_cons_of_mem _ h
    | false =>
      simp only [hq] at h
      rcases List.mem_cons.1 h with rfl | h
      · exact List.mem_cons_self
      · exact List.mem_cons_of_mem _ (memT_del h)
theorem memT_set {β : Type} {k : Key} {u : β} {e : Key × β} : ∀ {es : List (Key × β)}, e ∈ mset es k u → e = (k, u) ∨ e ∈ es
  | [], h => .inl (by simpa [mset] using h)
  | (k', v') :: es, h => by
    simp only [mset] at h
    cases hq : keyEq k k' with
    | true =>
      simp only [hq] at h
      rcases List.mem_cons.1 h with rfl | h
      · exact .inl rfl
      · exact .inr (List.mem_cons_of_mem _ h)
    | false =>
      simp only [hq] at h
      rcases List.mem_cons.1 h with rfl | h
      · exact .inr List.mem_cons_self
      · rcases memT_set h with h | h
        · exact .inl h
        · exact .inr (List.mem_cons_of_mem _ h)

def psOf (s : Trk) (n : ByteArray) : List (Key × Unit) := match mget s.ps (.s n) with
  | some x => x.2
  | none => []
theorem tGone_ps {s : Trk} {pid : Int} {n : ByteArray} {x : GSet} (h : mget s.of (.i .i64 pid) = some n) (hx : mget s.ps (.s n) = some x) (hk : keysOk s.ps) :
    (tGone s pid).2 = (n, 0) ∧ (tGone s pid).1.of = mdel s.of (.i .i64 pid) ∧ keysOk (tGone s pid).1.ps ∧ ∀ m, psOf (tGone s pid).1 m = if m = n then mdel x.2 (.i .i64 pid) else psOf s m := by
  unfold tGone
  simp only [h, hx]
  cases hl : (mdel x.2 (.i .i64 pid)).length == 0 with
  | true =>
    refine ⟨rfl, rfl, keysOk_mdel hk, fun m => ?_⟩
    unfold psOf
    dsimp only
    by_cases hm : m = n
    · subst hm
      rw [mget_mdel hk, if_pos rfl]
      exact (List.eq_nil_of_length_eq_zero (by simpa using hl)).symm
    · rw [if_neg hm, mget_mdel_ne (by rw [keyT_s]; simp [hm])]
  | false =>
    refine ⟨rfl, rfl, keysOk_mset hk, fun m => ?_⟩
    unfold psOf
    dsimp only
    by_cases hm : m = n
    · subst hm
      rw [mget_mset (keyEq_self _), if_pos rfl]
    · rw [if_neg hm, mget_mset_ne (by rw [keyT_s]; simp [hm])]
theorem tPut_ps (s : Trk) (n : ByteArray) (pid : Int) (nb : Nat) (hk : keysOk s.ps) : (tPut s n pid nb).of = mset s.of (.i .i64 pid) n ∧ keysOk (tPut s n pid nb).ps ∧ ∀ m, psOf (tPut s n pid nb) m = if m = n then mset (psOf s n) (.i .i64 pid) () else psOf s m := by
  unfold tPut
  cases hx : mget s.ps (.s n) with
  | none =>
    refine ⟨rfl, keysOk_mset hk, fun m => ?_⟩
    unfold psOf
    dsimp only
    by_cases hm : m = n
    · subst hm
      rw [mget_mset (keyEq_self _), if_pos rfl, hx]
      rfl
    · rw [if_neg hm, mget_mset_ne (by rw [keyT_s]; simp [hm])]
  | some x =>
    refine ⟨rfl, keysOk_mset hk, fun m => ?_⟩
    unfold psOf
    dsimp only
    by_cases hm : m = n
    · subst hm
      rw [mget_mset (keyEq_self _), if_pos rfl, hx]
    · rw [if_neg hm, mget_mset_ne (by rw [keyT_s]; simp [hm])]

/-- One unit's processes: those of the row. -/
structure MT (ofl : List Int) (w : Nat) (ms : List (Key × Unit)) : Prop where
  ok : keysOk ms
  key : ∀ e ∈ ms, ∃ p : Nat, (2 ≤ p ∧ p < ofl.length) ∧ e.1 = .i .i64 (p : Int)
  has : ∀ p : Nat, 2 ≤ p → p < ofl.length → mget ms (.i .i64 (p : Int)) = if ofl.getD p 0 = (w : Int) then some () else none
/-- What stands in the track. -/
structure TI9 (s : Trk) (ofl : List Int) : Prop where
  l3 : 3 ≤ ofl.length
  ok : keysOk s.of
  pk : keysOk s.ps
  o : ∀ k : Nat, 2 ≤ k → k < ofl.length → (ofl.getD k 0 = 0 ∧ mget s.of (.i .i64 (k : Int)) = none) ∨ ∃ w : Nat, (w = 1 ∨ w = 2) ∧ ofl.getD k 0 = (w : Int) ∧ mget s.of (.i .i64 (k : Int)) = some (nmT w)
  no : ∀ k : Nat, ofl.length ≤ k → mget s.of (.i .i64 (k : Int)) = none
  p : ∀ w : Nat, w = 1 ∨ w = 2 → MT ofl w (psOf s (nmT w))
theorem TI9.there {s : Trk} {ofl : List Int} (h : TI9 s ofl) {k w : Nat} (h2 : 2 ≤ k) (hk : k < ofl.length) (hw : w = 1 ∨ w = 2) (ho : ofl.getD k 0 = (w : Int)) : ∃ x, mget s.ps (.s (nmT w)) = some x ∧ psOf s (nmT w) = x.2 := by
  have h1 := (h.p w hw).has k h2 hk
  rw [if_pos ho] at h1
  unfold psOf at h1 ⊢
  cases hx : mget s.ps (.s (nmT w)) with
  | none => rw [hx] at h1; cases h1
  | some x => exact ⟨x, rfl, rfl⟩
theorem TI9.tok {s : Trk} {ofl : List Int} (h : TI9 s ofl) {k : Nat} (h2 : 2 ≤ k) (hk : k < ofl.length) : tOk s (k : Int) := by
  intro n hn
  rcases h.o k h2 hk with ⟨_, h1⟩ | ⟨w, hw, ho, h1⟩
  · rw [h1] at hn; cases hn
  · rw [h1] at hn
    cases hn
    obtain ⟨x, hx, _⟩ := h.there h2 hk hw ho
    exact ⟨x, hx⟩
theorem getT_set {ofl : List Int} {p q : Nat} (hp : p < ofl.length) (v : Int) : (ofl.set p v).getD q 0 = if q = p then v else ofl.getD q 0 := by
  rw [List.getD, List.getElem?_set]
  by_cases h : q = p
  · subst h; simp [hp]
  · have : ¬ p = q := fun e => h e.symm
    simp [h, this, List.getD]
theorem getT_app {ofl : List Int} (v : Int) (q : Nat) (hq : q < ofl.length + 1) : (ofl ++ [v]).getD q 0 = if q = ofl.length then v else ofl.getD q 0 := by
  by_cases h : q = ofl.length
  · subst h; simp [List.getD]
  · rw [if_neg h, List.getD, List.getElem?_append_left (by omega), List.getD]
theorem TI9.gone {s : Trk} {ofl : List Int} (h : TI9 s ofl) {k : Nat} (h2 : 2 ≤ k) (hk : k < ofl.length) : ((tGone s (k : Int)).2.2 == 0) = decide (ofl.getD k 0 > 0) ∧ TI9 (tGone s (k : Int)).1 (ofl.set k 0) ∧ (ofl.getD k 0 = 0 ∨ ∃ w : Nat, (w = 1 ∨ w = 2) ∧ ofl.getD k 0 = (w : Int) ∧ (tGone s (k : Int)).2.1 = nmT w) := by
  rcases h.o k h2 hk with ⟨h0, h1⟩ | ⟨w, hw, ho, h1⟩
  · have e : tGone s (k : Int) = (s, ⟨#[]⟩, 190) := by simp only [tGone, h1]
    have hs : ofl.set k 0 = ofl := by
      refine List.ext_getElem? fun i => ?_
      rw [List.getElem?_set]
      split
      · rename_i e; subst e
        rw [← h0, List.getD, List.getElem?_eq_getElem hk]; simp [hk]
      · rfl
    rw [e, h0, hs]
    exact ⟨rfl, h, .inl rfl⟩
  · obtain ⟨x, hx, hxp⟩ := h.there h2 hk hw ho
    obtain ⟨e2, e3, e4, e5⟩ := tGone_ps h1 hx h.pk
    have hd : decide (ofl.getD k 0 > 0) = true := decide_eq_true (by rw [ho]; omega)
    refine ⟨by rw [e2, hd]; rfl, ?_, .inr ⟨w, hw, ho, by rw [e2]⟩⟩
    refine ⟨by simp; exact h.l3, by rw [e3]; exact keysOk_mdel h.ok, e4, fun j hj2 hj => ?_, fun j hj => ?_, fun v hv => ?_⟩
    · have hj : j < ofl.length := by simpa using hj
      rw [e3, mgetT_del h.ok, getT_set hk]
      by_cases hjk : j = k
      · subst hjk; rw [if_pos rfl, if_pos rfl]; exact .inl ⟨rfl, rfl⟩
      · rw [if_neg hjk, if_neg (by omega)]; exact h.o j hj2 hj
    · have hj : ofl.length ≤ j := by simpa using hj
      rw [e3, mgetT_del h.ok, if_neg (by omega)]
      exact h.no j hj
    · rw [e5]
      have hm := h.p v hv
      by_cases hvw : v = w
      · subst hvw
        rw [if_pos rfl]
        rw [hxp] at hm
        refine ⟨keysOk_mdel hm.ok, fun e he => ?_, fun q hq2 hq => ?_⟩
        · obtain ⟨p, hp, e⟩ := hm.key e (memT_del he)
          exact ⟨p, ⟨hp.1, by simpa using hp.2⟩, e⟩
        · have hq : q < ofl.length := by simpa using hq
          rw [mgetT_del hm.ok, getT_set hk, hm.has q hq2 hq]
          by_cases hqk : q = k
          · subst hqk; rw [if_pos rfl, if_pos rfl, if_neg (by omega)]
          · rw [if_neg (by omega), if_neg hqk]
      · rw [if_neg (fun e => hvw ((nmT_12 hw hv).1 e))]
        refine ⟨hm.ok, fun e he => ?_, fun q hq2 hq => ?_⟩
        · obtain ⟨p, hp, e⟩ := hm.key e he
          exact ⟨p, ⟨hp.1, by simpa using hp.2⟩, e⟩
        · have hq : q < ofl.length := by simpa using hq
          rw [getT_set hk, hm.has q hq2 hq]
          by_cases hqk : q = k
          · subst hqk; rw [if_pos rfl, ho, if_neg (by omega), if_neg (by omega)]
          · rw [if_neg hqk]
theorem TI9.fork {s : Trk} {ofl : List Int} (h : TI9 s ofl) {k : Nat} (h2 : 2 ≤ k) (hk : k < ofl.length) (nb : Nat) : ((tFork s (k : Int) (ofl.length : Int) nb).2 == 0) = decide (ofl.getD k 0 > 0) ∧ TI9 (tFork s (k : Int) (ofl.length : Int) nb).1 (ofl ++ [ofl.getD k 0]) := by
  have hno := h.no ofl.length (Nat.le_refl _)
  have h3 := h.l3
  rcases h.o k h2 hk with ⟨h0, h1⟩ | ⟨w, hw, ho, h1⟩
  · have e : tFork s (k : Int) (ofl.length : Int) nb = (s, 190) := by simp only [tFork, h1]
    rw [e, h0]
    refine ⟨rfl, by simp; omega, h.ok, h.pk, fun j hj2 hj => ?_, fun j hj => ?_, fun v hv => ?_⟩
    · have hj : j < ofl.length + 1 := by simpa using hj
      rw [getT_app _ _ hj]
      by_cases hjl : j = ofl.length
      · subst hjl; rw [if_pos rfl]; exact .inl ⟨rfl, hno⟩
      · rw [if_neg hjl]; exact h.o j hj2 (by omega)
    · have hj : ofl.length + 1 ≤ j := by simpa using hj
      exact h.no j (by omega)
    · have hm := h.p v hv
      refine ⟨hm.ok, fun e he => ?_, fun q hq2 hq => ?_⟩
      · obtain ⟨p, hp, e⟩ := hm.key e he
        exact ⟨p, ⟨hp.1, by simp; omega⟩, e⟩
      · have hq : q < ofl.length + 1 := by simpa using hq
        rw [getT_app _ _ hq]
        by_cases hql : q = ofl.length
        · subst hql
          rw [if_pos rfl, if_neg (by omega), mget_none_iff]
          intro e he
          obtain ⟨p, hp, e1⟩ := hm.key e he
          rw [e1, keyT_i]
          simp; omega
        · rw [if_neg hql]; exact hm.has q hq2 (by omega)
  · have e : tFork s (k : Int) (ofl.length : Int) nb = (tPut s (nmT w) (ofl.length : Int) nb, 0) := by
      have hd : decide ((ofl.length : Int) < 2) = false := decide_eq_false (by omega)
      simp only [tFork, h1, tAdd, hno, nmT_empty hw, hd, Option.isSome_none, Bool.or_self]
    obtain ⟨e3, e4, e5⟩ := tPut_ps s (nmT w) (ofl.length : Int) nb h.pk
    have hd : decide (ofl.getD k 0 > 0) = true := decide_eq_true (by rw [ho]; omega)
    rw [e, ho]
    refine ⟨by rw [← ho, hd]; rfl, by simp; omega, by rw [e3]; exact keysOk_mset h.ok, e4, fun j hj2 hj => ?_, fun j hj => ?_, fun v hv => ?_⟩
    · have hj : j < ofl.length + 1 := by simpa using hj
      rw [getT_app _ _ hj, e3, mgetT_set]
      by_cases hjl : j = ofl.length
      · subst hjl; rw [if_pos rfl, if_pos rfl]; exact .inr ⟨w, hw, rfl, rfl⟩
      · rw [if_neg hjl, if_neg (by omega)]; exact h.o j hj2 (by omega)
    · have hj : ofl.length + 1 ≤ j := by simpa using hj
      rw [e3, mgetT_set, if_neg (by omega)]
      exact h.no j (by omega)
    · rw [e5]
      have hm := h.p v hv
      by_cases hvw : v = w
      · subst hvw
        rw [if_pos rfl]
        refine ⟨keysOk_mset hm.ok, fun e he => ?_, fun q hq2 hq => ?_⟩
        · rcases memT_set he with rfl | he
          · exact ⟨ofl.length, ⟨by omega, by simp⟩, rfl⟩
          · obtain ⟨p, hp, e⟩ := hm.key e he
            exact ⟨p, ⟨hp.1, by simp; omega⟩, e⟩
        · have hq : q < ofl.length + 1 := by simpa using hq
          rw [mgetT_set, getT_app _ _ hq]
          by_cases hql : q = ofl.length
          · subst hql; rw [if_pos rfl, if_pos rfl, if_pos rfl]
          · rw [if_neg (by omega), if_neg hql]; exact hm.has q hq2 (by omega)
      · rw [if_neg (fun e => hvw ((nmT_12 hw hv).1 e))]
        refine ⟨hm.ok, fun e he => ?_, fun q hq2 hq => ?_⟩
        · obtain ⟨p, hp, e⟩ := hm.key e he
          exact ⟨p, ⟨hp.1, by simp; omega⟩, e⟩
        · have hq : q < ofl.length + 1 := by simpa using hq
          rw [getT_app _ _ hq]
          by_cases hql : q = ofl.length
          · subst hql
            rw [if_pos rfl, if_neg (by omega), mget_none_iff]
            intro e he
            obtain ⟨p, hp, e1⟩ := hm.key e he
            rw [e1, keyT_i]
            simp; omega
          · rw [if_neg hql]; exact hm.has q hq2 (by omega)

/-- What the row says of a unit. -/
def wantT (ofl : List Int) (w : Nat) : Nat → List Int
  | 0 => []
  | q + 1 => wantT ofl w q ++ if ofl.getD (q + 2) 0 = (w : Int) then [((q + 2 : Nat) : Int)] else []
theorem wantT_len (ofl : List Int) (w : Nat) : ∀ n, (wantT ofl w n).length ≤ n
  | 0 => Nat.le_refl _
  | n + 1 => by
    have := wantT_len ofl w n
    rw [wantT, List.length_append]
    split <;> simp <;> omega
theorem wantT_mem (ofl : List Int) (w : Nat) (x : Int) : ∀ q : Nat, x ∈ wantT ofl w q ↔ ∃ p : Nat, 2 ≤ p ∧ p < q + 2 ∧ x = (p : Int) ∧ ofl.getD p 0 = (w : Int)
  | 0 => by simp [wantT]; intros; omega
  | q + 1 => by
    rw [wantT, List.mem_append, wantT_mem ofl w x q]
    constructor
    · rintro (⟨p, a, b, c, d⟩ | h)
      · exact ⟨p, a, by omega, c, d⟩
      · split at h
        · rename_i hc
          simp only [List.mem_singleton] at h
          exact ⟨q + 2, by omega, by omega, h, hc⟩
        · cases h
    · rintro ⟨p, a, b, c, d⟩
      by_cases hp : p = q + 2
      · subst hp
        right; rw [if_pos d]; simp [c]
      · exact .inl ⟨p, a, by omega, c, d⟩
theorem wantT_asc (ofl : List Int) (w : Nat) : ∀ q : Nat, (wantT ofl w q).Pairwise (· < ·)
  | 0 => List.Pairwise.nil
  | q + 1 => by
    rw [wantT, List.pairwise_append]
    refine ⟨wantT_asc ofl w q, by split <;> simp, fun a ha b hb => ?_⟩
    obtain ⟨p, h1, h2, rfl, _⟩ := (wantT_mem ofl w a q).1 ha
    split at hb
    · simp only [List.mem_singleton] at hb; subst hb; omega
    · cases hb
theorem TI9.pids {s : Trk} {ofl : List Int} (h : TI9 s ofl) (hn : ofl.length ≤ 1000) {w : Nat} (hw : w = 1 ∨ w = 2) : pidsOk s (nmT w) ∧ pidsL s (nmT w) = wantT ofl w (ofl.length - 2) := by
  have hm := h.p w hw
  have h3 := h.l3
  generalize hms : psOf s (nmT w) = ms at hm
  have hnd : (ms.map fun e => keyInt e.1).Nodup := by
    unfold List.Nodup
    rw [List.pairwise_map]
    refine List.Pairwise.imp_of_mem ?_ hm.ok
    intro a b ha hb hab e
    obtain ⟨p, _, e1⟩ := hm.key a ha
    obtain ⟨q, _, e2⟩ := hm.key b hb
    rw [e1, e2] at hab e
    rw [keyT_i] at hab
    simp only [keyInt] at e
    simp at hab
    omega
  have hperm : (ms.map fun e => keyInt e.1).Perm (wantT ofl w (ofl.length - 2)) := by
    refine (List.perm_ext_iff_of_nodup hnd ((wantT_asc ofl w _).imp (by intro a b h; omega))).2 fun x => ?_
    rw [wantT_mem]
    constructor
    · intro hx
      obtain ⟨e, he, rfl⟩ := List.mem_map.1 hx
      obtain ⟨p, ⟨q1, q2⟩, e1⟩ := hm.key e he
      refine ⟨p, q1, by omega, by rw [e1]; rfl, ?_⟩
      have h1 : mget ms e.1 = some e.2 := mget_of_mem hm.ok he
      rw [e1, hm.has p q1 q2] at h1
      split at h1
      · assumption
      · cases h1
    · rintro ⟨p, q1, q2, rfl, q3⟩
      have h1 := hm.has p q1 (by omega)
      rw [if_pos q3] at h1
      obtain ⟨k', h2, h3⟩ := mget_mem h1
      refine List.mem_map.2 ⟨(k', ()), h2, ?_⟩
      obtain ⟨p', _, e1⟩ := hm.key _ h2
      dsimp only at e1
      rw [e1, keyT_i] at h3
      dsimp only
      rw [e1]
      simp only [keyInt]
      have : (p : Int) = p' := by simpa using h3
      omega
  have hsort : sortI ms = wantT ofl w (ofl.length - 2) := by
    unfold sortI
    rw [mergeSort_of_perm_i hperm]
    refine List.mergeSort_of_pairwise ?_
    exact (wantT_asc ofl w _).imp fun {x y} h => by simp [leI]; omega
  have hlen : ms.length ≤ 1000 := by
    have := hperm.length_eq
    have h2 := wantT_len ofl w (ofl.length - 2)
    simp at this
    omega
  have hwf : wfI ms := by
    refine ⟨hm.ok, by omega, fun e he => ?_⟩
    obtain ⟨p, ⟨q1, q2⟩, e1⟩ := hm.key e he
    rw [e1]
    simp only [keyInt, Lit.wf, Bool.and_eq_true, decide_eq_true_eq]
    constructor
    · exact decide_eq_true (show (-9223372036854775808 : Int) ≤ _ by omega)
    · exact decide_eq_true (show _ ≤ (9223372036854775807 : Int) by omega)
  unfold psOf at hms
  unfold pidsOk pidsL
  cases hx : mget s.ps (.s (nmT w)) with
  | none =>
    rw [hx] at hms
    dsimp only at hms
    subst hms
    refine ⟨fun x hx => (by cases hx), ?_⟩
    rw [← hsort]
    simp [sortI]
  | some x =>
    rw [hx] at hms
    dsimp only at hms
    subst hms
    exact ⟨fun y hy => (by cases hy; exact hwf), hsort⟩
def of0 : List Int := [0, 0, 1, 2]
theorem TI9.start (bo bp n0 n1 : Nat) : TI9 ⟨bo, bp, [(.i .i64 2, ⟨#[97]⟩), (.i .i64 3, ⟨#[98]⟩)], [(.s ⟨#[97]⟩, n0, [(.i .i64 2, ())]), (.s ⟨#[98]⟩, n1, [(.i .i64 3, ())])]⟩ of0 := by
  have e1 : nmT 1 = ⟨#[97]⟩ := by decide +kernel
  have e2 : nmT 2 = ⟨#[98]⟩ := by decide +kernel
  refine ⟨by decide, ?_, ?_, fun k h2 hk => ?_, fun k hk => ?_, fun w hw => ?_⟩
  · exact keysOk_mset (k := .i .i64 3) (u := (⟨#[98]⟩ : ByteArray)) (keysOk_mset (k := .i .i64 2) (u := (⟨#[97]⟩ : ByteArray)) (es := []) List.Pairwise.nil)
  · exact keysOk_mset (k := .s ⟨#[98]⟩) (u := ((n1, [(.i .i64 3, ())]) : GSet)) (keysOk_mset (k := .s ⟨#[97]⟩) (u := ((n0, [(.i .i64 2, ())]) : GSet)) (es := []) List.Pairwise.nil)
  · have hk : k < 4 := hk
    match k, h2, hk with
    | 2, _, _ => exact .inr ⟨1, .inl rfl, rfl, by rw [e1]; rfl⟩
    | 3, _, _ => exact .inr ⟨2, .inr rfl, rfl, by rw [e2]; rfl⟩
  · have hk : 4 ≤ k := hk
    rw [mget_none_iff]
    intro e he
    simp only [List.mem_cons, List.not_mem_nil, or_false] at he
    rcases he with rfl | rfl
    · rw [keyT_i]; simp; omega
    · rw [keyT_i]; simp; omega
  · have main : ∀ (q : Nat) (v : Nat), (q = 2 ∧ v = 1) ∨ (q = 3 ∧ v = 2) → MT of0 v [(.i .i64 (q : Int), ())] := fun q v hqv => by
      refine ⟨List.pairwise_singleton _ _, fun e he => ?_, fun p h2 hp => ?_⟩
      · simp only [List.mem_singleton] at he
        subst he
        refine ⟨q, ⟨by omega, ?_⟩, rfl⟩
        show q < 4
        omega
      · have hp : p < 4 := hp
        rcases hqv with ⟨rfl, rfl⟩ | ⟨rfl, rfl⟩
        · match p, h2, hp with
          | 2, _, _ => rfl
          | 3, _, _ => rfl
        · match p, h2, hp with
          | 2, _, _ => rfl
          | 3, _, _ => rfl
    rcases hw with rfl | rfl
    · rw [e1]; exact main 2 1 (.inl ⟨rfl, rfl⟩)
    · rw [e2]; exact main 3 2 (.inr ⟨rfl, rfl⟩)
end Go.Proofs.Ytihajdkipkfiiaa

/- YtihajdkipkfiiaaTpP -/
/- TrackPlays: the law's row; the track that stands for it. -/
namespace Go.Proofs.Ytihajdkipkfiiaa
open Go Go.RowKit Go.Maps Go.Sort Go.Shelf
set_option linter.unusedVariables false
set_option linter.unusedSimpArgs false
set_option linter.unnecessarySimpa false

theorem sEqT (a b : ByteArray) : sEq a b = true ↔ a = b := by
  have : ∀ x : ByteArray, x.toList = x.data.toList := ByteArray.toList_eq
  constructor
  · intro h
    simp only [sEq, beq_iff_eq] at h
    rw [this, this] at h
    cases a; cases b
    simp only [ByteArray.mk.injEq]
    exact Array.ext' h
  · rintro rfl; exact sEq_self a
theorem sEqF (a b : ByteArray) : sEq a b = false ↔ a ≠ b := by
  rw [← Bool.not_eq_true, sEqT]
abbrev Asc (m : PRow) : Prop := m.Pairwise fun a b => a.1 < b.1
def rmP (m : PRow) (pid : Int) : PRow := m.filter fun x => !(x.1 == pid)
theorem mem_rmP {m : PRow} {pid : Int} {x : Int × ByteArray} : x ∈ rmP m pid ↔ x ∈ m ∧ x.1 ≠ pid := by
  unfold rmP
  rw [List.mem_filter]
  simp
theorem rmP_asc {m : PRow} (h : Asc m) (pid : Int) : Asc (rmP m pid) := h.sublist List.filter_sublist
theorem rmP_len (m : PRow) (pid : Int) : (rmP m pid).length ≤ m.length := List.length_filter_le _ _
theorem rmP_none {m : PRow} {pid : Int} (h : ∀ x ∈ m, x.1 ≠ pid) : rmP m pid = m := by
  unfold rmP
  exact List.filter_eq_self.2 fun x hx => by simpa using h x hx
theorem mem_insP {m : PRow} {x y : Int × ByteArray} : y ∈ insP m x ↔ y = x ∨ y ∈ m := by
  unfold insP
  rw [List.mem_append, List.mem_cons]
  constructor
  · rintro (h | h | h)
    · exact .inr (List.mem_of_mem_take h)
    · exact .inl h
    · exact .inr (List.mem_of_mem_drop h)
  · rintro (h | h)
    · exact .inr (.inl h)
    · rw [← List.take_append_drop (putAt m x.1) m] at h
      rcases List.mem_append.1 h with h | h
      · exact .inl h
      · exact .inr (.inr h)
theorem insP_len (m : PRow) (x : Int × ByteArray) : (insP m x).length = m.length + 1 := by
  have := congrArg List.length (List.take_append_drop (putAt m x.1) m)
  unfold insP
  simp only [List.length_append, List.length_cons] at this ⊢
  omega
theorem putAt_take (m : PRow) (pid : Int) : m.take (putAt m pid) = m.takeWhile fun x => decide (x.1 < pid) := by
  unfold putAt
  exact (List.prefix_iff_eq_take.1 (List.takeWhile_prefix _)).symm
theorem drop_while (m : PRow) (pid : Int) : m.drop (putAt m pid) = m.dropWhile fun x => decide (x.1 < pid) := by
  have h1 := List.take_append_drop (putAt m pid) m
  have h2 := List.takeWhile_append_dropWhile (p := fun x : Int × ByteArray => decide (x.1 < pid)) (l := m)
  rw [putAt_take] at h1
  exact List.append_cancel_left (h1.trans h2.symm)
theorem dropWhile_ge : ∀ {m : PRow} {pid : Int}, Asc m → ∀ y ∈ m.dropWhile (fun x => decide (x.1 < pid)), pid ≤ y.1
  | [], _, _, y, hy => by cases hy
  | x :: m, pid, h, y, hy => by
    rw [List.dropWhile_cons] at hy
    split at hy
    · exact dropWhile_ge (List.pairwise_cons.1 h).2 y hy
    · rename_i hc
      have hx : pid ≤ x.1 := by simpa using hc
      rcases List.mem_cons.1 hy with rfl | hy
      · exact hx
      · have := (List.pairwise_cons.1 h).1 y hy
        omega
theorem insP_asc {m : PRow} (h : Asc m) {x : Int × ByteArray} (hx : ∀ y ∈ m, y.1 ≠ x.1) : Asc (insP m x) := by
  unfold insP
  rw [putAt_take, drop_while]
  have hd : ∀ y ∈ m.dropWhile (fun z => decide (z.1 < x.1)), x.1 < y.1 := fun y hy => by
    have h1 := dropWhile_ge h y hy
    have h2 := hx y ((List.dropWhile_suffix _).subset hy)
    omega
  have ht : ∀ y ∈ m.takeWhile (fun z => decide (z.1 < x.1)), y.1 < x.1 := fun y hy => by
    have h1 : (m.takeWhile fun z => decide (z.1 < x.1)).all (fun z => decide (z.1 < x.1)) = true := List.all_takeWhile
    have := List.all_eq_true.1 h1 y hy
    simpa using this
  refine List.pairwise_append.2 ⟨h.sublist (List.takeWhile_sublist _), List.pairwise_cons.2 ⟨hd, h.sublist (List.dropWhile_sublist _)⟩, fun a ha b hb => ?_⟩
  rcases List.mem_cons.1 hb with rfl | hb
  · exact ht a ha
  · have h1 := ht a ha
    have h2 := hd b hb
    omega
theorem asc_inj {m : PRow} (h : Asc m) {p : Int} {a b : ByteArray} (h1 : (p, a) ∈ m) (h2 : (p, b) ∈ m) : a = b := by
  induction m with
  | nil => cases h1
  | cons x m ih =>
    have hc := List.pairwise_cons.1 h
    rcases List.mem_cons.1 h1 with g1 | g1
    · subst g1
      rcases List.mem_cons.1 h2 with e | g2
      · exact (Prod.mk.inj e).2.symm
      · have := hc.1 _ g2; dsimp only at this; omega
    · rcases List.mem_cons.1 h2 with g2 | g2
      · subst g2
        have := hc.1 _ g1; dsimp only at this; omega
      · exact ih hc.2 g1 g2
theorem atP_none {m : PRow} {pid : Int} (h : ∀ x ∈ m, x.1 ≠ pid) : atP m pid = -1 := fIdx_none _ m 0 fun x hx => by simpa using h x hx
/-- Where a process stands in the row. -/
theorem atP_some : ∀ {m : PRow} {pid : Int} {n : ByteArray}, Asc m → (pid, n) ∈ m → ∃ l1 l2, m = l1 ++ (pid, n) :: l2 ∧ atP m pid = (l1.length : Int) ∧ rmP m pid = l1 ++ l2 := by
  intro m pid n h hm
  obtain ⟨l1, l2, rfl⟩ := List.append_of_mem hm
  have h1 := List.pairwise_append.1 h
  have hl1 : ∀ y ∈ l1, y.1 ≠ pid := fun y hy => by
    have := h1.2.2 y hy (pid, n) List.mem_cons_self
    dsimp only at this; omega
  have hl2 : ∀ y ∈ l2, y.1 ≠ pid := fun y hy => by
    have := (List.pairwise_cons.1 h1.2.1).1 y hy
    dsimp only at this; omega
  refine ⟨l1, l2, rfl, ?_, ?_⟩
  · unfold atP
    rw [fIdx_split _ (pid, n) l2 (by simp) l1 0 (fun y hy => by simpa using hl1 y hy)]
    simp
  · have e1 : rmP l1 pid = l1 := rmP_none hl1
    have e2 : rmP l2 pid = l2 := rmP_none hl2
    unfold rmP at e1 e2 ⊢
    rw [List.filter_append, List.filter_cons]
    simp [e1, e2]
theorem outP_at {m : PRow} {pid : Int} {n : ByteArray} (h : Asc m) (hm : (pid, n) ∈ m) : ∃ i : Nat, atP m pid = (i : Int) ∧ i < m.length ∧ (∀ d, m.getD i d = (pid, n)) ∧ outP m i = rmP m pid := by
  obtain ⟨l1, l2, rfl, h1, h2⟩ := atP_some h hm
  refine ⟨l1.length, h1, by simp, fun d => getD_mid l1 _ l2 d, ?_⟩
  rw [h2]
  unfold outP
  rw [take_mid, drop_mid]
/-- Is the process there? -/
theorem atP_cases {m : PRow} (h : Asc m) (pid : Int) : (atP m pid = -1 ∧ (∀ x ∈ m, x.1 ≠ pid) ∧ rmP m pid = m) ∨ ∃ (i : Nat) (n : ByteArray), (pid, n) ∈ m ∧ atP m pid = (i : Int) ∧ i < m.length ∧ (∀ d, m.getD i d = (pid, n)) ∧ outP m i = rmP m pid := by
  by_cases hx : ∃ n, (pid, n) ∈ m
  · obtain ⟨n, hn⟩ := hx
    obtain ⟨i, h1⟩ := outP_at h hn
    exact .inr ⟨i, n, hn, h1⟩
  · have h1 : ∀ x ∈ m, x.1 ≠ pid := fun x hm e => hx ⟨x.2, by rw [← e]; exact hm⟩
    exact .inl ⟨atP_none h1, h1, rmP_none h1⟩
theorem pidsP_mem {m : PRow} {u : ByteArray} {p : Int} : p ∈ pidsP m u ↔ (p, u) ∈ m := by
  unfold pidsP
  rw [List.mem_map]
  constructor
  · rintro ⟨x, hx, rfl⟩
    obtain ⟨h1, h2⟩ := List.mem_filter.1 hx
    rw [← (sEqT _ _).1 h2]
    exact h1
  · intro h
    exact ⟨(p, u), List.mem_filter.2 ⟨h, sEq_self u⟩, rfl⟩
theorem pidsP_leT (m : PRow) (u : ByteArray) : (pidsP m u).length ≤ m.length := by
  unfold pidsP
  rw [List.length_map]
  exact List.length_filter_le _ _
theorem pidsP_asc {m : PRow} (h : Asc m) (u : ByteArray) : (pidsP m u).Pairwise (· < ·) := by
  unfold pidsP
  rw [List.pairwise_map]
  exact h.sublist List.filter_sublist
theorem pidsP_ins (m : PRow) (x : Int × ByteArray) (u : ByteArray) : (pidsP (insP m x) u).length ≤ (pidsP m u).length + 1 := by
  have e : (pidsP m u).length = (pidsP (m.take (putAt m x.1)) u).length + (pidsP (m.drop (putAt m x.1)) u).length := by
    have := congrArg (fun l => (pidsP l u).length) (List.take_append_drop (putAt m x.1) m)
    rw [← this]
    unfold pidsP
    rw [List.filter_append, List.map_append, List.length_append]
  rw [e]
  unfold insP pidsP
  simp only [List.filter_append, List.filter_cons, List.map_append, List.length_append, List.length_map]
  split <;> simp <;> omega
theorem pidsP_rm (m : PRow) (pid : Int) (u : ByteArray) : (pidsP (rmP m pid) u).length ≤ (pidsP m u).length := by
  unfold pidsP rmP
  rw [List.length_map, List.length_map]
  exact (List.filter_sublist.filter _).length_le
theorem nodup_sub : ∀ {l l' : List Int}, l.Nodup → (∀ x ∈ l, x ∈ l') → l.length ≤ l'.length
  | [], _, _, _ => Nat.zero_le _
  | x :: l, l', h, hs => by
    have hc := List.nodup_cons.1 h
    have hx := hs x List.mem_cons_self
    have h1 := nodup_sub (l := l) (l' := l'.erase x) hc.2 fun y hy => by
      have hne : y ≠ x := fun e => hc.1 (e ▸ hy)
      exact (List.mem_erase_of_ne hne).2 (hs y (List.mem_cons_of_mem _ hy))
    have h2 := List.length_erase_of_mem hx
    have h3 := List.length_pos_of_mem hx
    simp only [List.length_cons]
    omega

/-- The track stands for the row. -/
structure TM (s : Trk) (m : PRow) : Prop where
  ok : keysOk s.of
  pk : keysOk s.ps
  asc : Asc m
  wf : ∀ x ∈ m, (Lit.int .i64 x.1).wf = true ∧ 2 ≤ x.1 ∧ x.2 ≠ ⟨#[]⟩ ∧ x.2.size ≤ 100
  ks : ∀ e ∈ s.ps, ∃ n, e.1 = .s n
  o : ∀ (p : Int) (n : ByteArray), mget s.of (.i .i64 p) = some n ↔ (p, n) ∈ m
  set : ∀ (n : ByteArray) (x : GSet), mget s.ps (.s n) = some x → keysOk x.2 ∧ x.2 ≠ [] ∧ ∀ e ∈ x.2, ∃ p : Int, e.1 = .i .i64 p ∧ (p, n) ∈ m
  has : ∀ (p : Int) (n : ByteArray), (p, n) ∈ m → ∃ x, mget s.ps (.s n) = some x ∧ mget x.2 (.i .i64 p) = some ()
theorem TM.zero (bo bp : Nat) : TM ⟨bo, bp, [], []⟩ [] := by
  refine ⟨List.Pairwise.nil, List.Pairwise.nil, List.Pairwise.nil, (fun x hx => by cases hx), (fun x hx => by cases hx), (fun p n => ?_), (fun n x h => by cases h), (fun p n h => by cases h)⟩
  constructor
  · intro h; cases h
  · intro h; cases h
theorem TM.tok {s : Trk} {m : PRow} (h : TM s m) (pid : Int) : tOk s pid := fun n hn => by
  obtain ⟨x, hx, _⟩ := h.has pid n ((h.o pid n).1 hn)
  exact ⟨x, hx⟩
theorem TM.none {s : Trk} {m : PRow} (h : TM s m) {pid : Int} (hn : ∀ x ∈ m, x.1 ≠ pid) : mget s.of (.i .i64 pid) = none := by
  cases hq : mget s.of (.i .i64 pid) with
  | none => rfl
  | some n => exact absurd rfl (hn _ ((h.o pid n).1 hq))
theorem TM.gone {s : Trk} {m : PRow} (h : TM s m) {pid : Int} {n : ByteArray} (hm : (pid, n) ∈ m) : (tGone s pid).2 = (n, 0) ∧ TM (tGone s pid).1 (rmP m pid) := by
  have h1 := (h.o pid n).2 hm
  obtain ⟨x, hx, hxp⟩ := h.has pid n hm
  obtain ⟨hxk, hxn, hxe⟩ := h.set n x hx
  have hof : ∀ (p : Int) (k : ByteArray), mget (mdel s.of (.i .i64 pid)) (.i .i64 p) = some k ↔ (p, k) ∈ rmP m pid := fun p k => by
    rw [mgetT_del h.ok, mem_rmP]
    by_cases hp : p = pid
    · subst hp; simp
    · rw [if_neg hp, h.o p k]
      exact ⟨fun h => ⟨h, hp⟩, fun h => h.1⟩
  have hwf : ∀ x ∈ rmP m pid, (Lit.int .i64 x.1).wf = true ∧ 2 ≤ x.1 ∧ x.2 ≠ ⟨#[]⟩ ∧ x.2.size ≤ 100 := fun x hx => h.wf x (mem_rmP.1 hx).1
  have hoth : ∀ {p : Int} {k : ByteArray}, (p, k) ∈ m → k ≠ n → (p, k) ∈ rmP m pid := fun {p k} hp hk => mem_rmP.2 ⟨hp, fun e => hk (asc_inj h.asc (e ▸ hp) hm)⟩
  unfold tGone
  simp only [h1, hx]
  cases hl : (mdel x.2 (.i .i64 pid)).length == 0 with
  | true =>
    have hnil : mdel x.2 (.i .i64 pid) = [] := List.eq_nil_of_length_eq_zero (by simpa using hl)
    refine ⟨rfl, keysOk_mdel h.ok, keysOk_mdel h.pk, rmP_asc h.asc pid, hwf, fun e he => h.ks e (memT_del he), hof, fun k y hy => ?_, fun p k hp => ?_⟩
    · dsimp only at hy
      by_cases hk : k = n
      · subst hk; rw [mget_mdel h.pk] at hy; cases hy
      · rw [mget_mdel_ne (by rw [keyT_s]; simp [hk])] at hy
        obtain ⟨g1, g2, g3⟩ := h.set k y hy
        refine ⟨g1, g2, fun e he => ?_⟩
        obtain ⟨p, e1, e2⟩ := g3 e he
        exact ⟨p, e1, hoth e2 hk⟩
    · obtain ⟨hp1, hp2⟩ := mem_rmP.1 hp
      obtain ⟨y, y1, y2⟩ := h.has p k hp1
      by_cases hk : k = n
      · subst hk
        rw [hx] at y1; cases y1
        have : mget (mdel x.2 (.i .i64 pid)) (.i .i64 p) = some () := by rw [mgetT_del hxk, if_neg hp2]; exact y2
        rw [hnil] at this; cases this
      · exact ⟨y, by dsimp only; rw [mget_mdel_ne (by rw [keyT_s]; simp [hk])]; exact y1, y2⟩
  | false =>
    refine ⟨rfl, keysOk_mdel h.ok, keysOk_mset h.pk, rmP_asc h.asc pid, hwf, fun e he => ?_, hof, fun k y hy => ?_, fun p k hp => ?_⟩
    · rcases memT_set he with rfl | he
      · exact ⟨n, rfl⟩
      · exact h.ks e he
    · dsimp only at hy
      by_cases hk : k = n
      · subst hk
        rw [mget_mset (keyEq_self _)] at hy
        cases hy
        refine ⟨keysOk_mdel hxk, (fun e => by dsimp only at e; rw [e] at hl; simp at hl), fun e he => ?_⟩
        obtain ⟨p, e1, e2⟩ := hxe e (memT_del he)
        refine ⟨p, e1, mem_rmP.2 ⟨e2, fun e3 => ?_⟩⟩
        have e3 : p = pid := e3
        subst e3
        have : mget (mdel x.2 (.i .i64 p)) e.1 = some e.2 := mget_of_mem (keysOk_mdel hxk) he
        rw [e1, mget_mdel hxk] at this
        cases this
      · rw [mget_mset_ne (by rw [keyT_s]; simp [hk])] at hy
        obtain ⟨g1, g2, g3⟩ := h.set k y hy
        refine ⟨g1, g2, fun e he => ?_⟩
        obtain ⟨p, e1, e2⟩ := g3 e he
        exact ⟨p, e1, hoth e2 hk⟩
    · obtain ⟨hp1, hp2⟩ := mem_rmP.1 hp
      obtain ⟨y, y1, y2⟩ := h.has p k hp1
      by_cases hk : k = n
      · subst hk
        rw [hx] at y1; cases y1
        exact ⟨_, by dsimp only; rw [mget_mset (keyEq_self _)], by dsimp only; rw [mgetT_del hxk, if_neg hp2]; exact y2⟩
      · exact ⟨y, by dsimp only; rw [mget_mset_ne (by rw [keyT_s]; simp [hk])]; exact y1, y2⟩
/-- Gone, whether it is there or not. -/
theorem TM.gone' {s : Trk} {m : PRow} (h : TM s m) (pid : Int) : TM (tGone s pid).1 (rmP m pid) := by
  rcases atP_cases h.asc pid with ⟨_, h1, h2⟩ | ⟨i, n, hm, _⟩
  · have : tGone s pid = (s, ⟨#[]⟩, 190) := by simp only [tGone, h.none h1]
    rw [this, h2]; exact h
  · exact (h.gone hm).2
theorem TM.put {s : Trk} {m : PRow} (h : TM s m) {pid : Int} {n : ByteArray} (hno : ∀ x ∈ m, x.1 ≠ pid) (hw : (Lit.int .i64 pid).wf = true) (h2 : 2 ≤ pid) (hn : n ≠ ⟨#[]⟩) (hs : n.size ≤ 100) (nb : Nat) : TM (tPut s n pid nb) (insP m (pid, n)) := by
  have hof : ∀ (p : Int) (k : ByteArray), mget (mset s.of (.i .i64 pid) n) (.i .i64 p) = some k ↔ (p, k) ∈ insP m (pid, n) := fun p k => by
    rw [mgetT_set, mem_insP]
    by_cases hp : p = pid
    · subst hp
      rw [if_pos rfl]
      constructor
      · intro e; cases e; exact .inl rfl
      · rintro (e | e)
        · cases e; rfl
        · exact absurd rfl (hno _ e)
    · rw [if_neg hp, h.o p k]
      constructor
      · exact .inr
      · rintro (e | e)
        · cases e; exact absurd rfl hp
        · exact e
  have hwf : ∀ x ∈ insP m (pid, n), (Lit.int .i64 x.1).wf = true ∧ 2 ≤ x.1 ∧ x.2 ≠ ⟨#[]⟩ ∧ x.2.size ≤ 100 := fun x hx => by
    rcases mem_insP.1 hx with rfl | hx
    · exact ⟨hw, h2, hn, hs⟩
    · exact h.wf x hx
  have hasc := insP_asc (x := (pid, n)) h.asc hno
  have up : ∀ {p : Int} {k : ByteArray}, (p, k) ∈ m → (p, k) ∈ insP m (pid, n) := fun h => mem_insP.2 (.inr h)
  unfold tPut
  cases hx : mget s.ps (.s n) with
  | none =>
    refine ⟨keysOk_mset h.ok, keysOk_mset h.pk, hasc, hwf, fun e he => ?_, hof, fun k y hy => ?_, fun p k hp => ?_⟩
    · rcases memT_set he with rfl | he
      · exact ⟨n, rfl⟩
      · exact h.ks e he
    · dsimp only at hy
      by_cases hk : k = n
      · subst hk
        rw [mget_mset (keyEq_self _)] at hy
        cases hy
        refine ⟨List.pairwise_singleton _ _, by simp, fun e he => ?_⟩
        simp only [List.mem_singleton] at he
        subst he
        exact ⟨pid, rfl, mem_insP.2 (.inl rfl)⟩
      · rw [mget_mset_ne (by rw [keyT_s]; simp [hk])] at hy
        obtain ⟨g1, g2, g3⟩ := h.set k y hy
        refine ⟨g1, g2, fun e he => ?_⟩
        obtain ⟨p, e1, e2⟩ := g3 e he
        exact ⟨p, e1, up e2⟩
    · rcases mem_insP.1 hp with e | hp
      · cases e
        exact ⟨_, by dsimp only; rw [mget_mset (keyEq_self _)], by simp [mget, keyEq_self]⟩
      · obtain ⟨y, y1, y2⟩ := h.has p k hp
        have hk : k ≠ n := fun e => by rw [e, hx] at y1; cases y1
        exact ⟨y, by dsimp only; rw [mget_mset_ne (by rw [keyT_s]; simp [hk])]; exact y1, y2⟩
  | some x =>
    obtain ⟨hxk, hxn, hxe⟩ := h.set n x hx
    refine ⟨keysOk_mset h.ok, keysOk_mset h.pk, hasc, hwf, fun e he => ?_, hof, fun k y hy => ?_, fun p k hp => ?_⟩
    · rcases memT_set he with rfl | he
      · exact ⟨n, rfl⟩
      · exact h.ks e he
    · dsimp only at hy
      by_cases hk : k = n
      · subst hk
        rw [mget_mset (keyEq_self _)] at hy
        cases hy
        refine ⟨keysOk_mset hxk, ?_, fun e he => ?_⟩
        · intro e
          have : mget (mset x.2 (.i .i64 pid) ()) (.i .i64 pid) = some () := mget_mset (keyEq_self _) _
          dsimp only at e
          rw [e] at this; cases this
        · rcases memT_set he with rfl | he
          · exact ⟨pid, rfl, mem_insP.2 (.inl rfl)⟩
          · obtain ⟨p, e1, e2⟩ := hxe e he
            exact ⟨p, e1, up e2⟩
      · rw [mget_mset_ne (by rw [keyT_s]; simp [hk])] at hy
        obtain ⟨g1, g2, g3⟩ := h.set k y hy
        refine ⟨g1, g2, fun e he => ?_⟩
        obtain ⟨p, e1, e2⟩ := g3 e he
        exact ⟨p, e1, up e2⟩
    · by_cases hk : k = n
      · subst hk
        refine ⟨_, by dsimp only; rw [mget_mset (keyEq_self _)], ?_⟩
        dsimp only
        rw [mgetT_set]
        by_cases hpp : p = pid
        · rw [if_pos hpp]
        · rw [if_neg hpp]
          rcases mem_insP.1 hp with e | hp
          · cases e; exact absurd rfl hpp
          · obtain ⟨y, y1, y2⟩ := h.has p k hp
            rw [hx] at y1; cases y1
            exact y2
      · rcases mem_insP.1 hp with e | hp
        · cases e; exact absurd rfl hk
        · obtain ⟨y, y1, y2⟩ := h.has p k hp
          exact ⟨y, by dsimp only; rw [mget_mset_ne (by rw [keyT_s]; simp [hk])]; exact y1, y2⟩
/-- A process is put to a unit, wherever it was. -/
theorem TM.puts {s : Trk} {m : PRow} (h : TM s m) {pid : Int} {n : ByteArray} (hw : (Lit.int .i64 pid).wf = true) (h2 : 2 ≤ pid) (hn : n ≠ ⟨#[]⟩) (hs : n.size ≤ 100) (nb : Nat) : TM (tPut (tGone s pid).1 n pid nb) (insP (rmP m pid) (pid, n)) :=
  (h.gone' pid).put (fun x hx => (mem_rmP.1 hx).2) hw h2 hn hs nb
/-- Add: what it says, what it does. -/
def addOk (m : PRow) (unit : ByteArray) (pid : Int) : Bool := !sEq unit ⟨#[]⟩ && (decide (pid ≥ 2) && decide (atP m pid < 0))
theorem TM.at {s : Trk} {m : PRow} (h : TM s m) (pid : Int) : (mget s.of (.i .i64 pid)).isSome = decide (atP m pid ≥ 0) := by
  rcases atP_cases h.asc pid with ⟨h0, h1, _⟩ | ⟨i, n, hm, h0, _⟩
  · rw [h.none h1, h0]; rfl
  · rw [(h.o pid n).2 hm, h0]
    exact (decide_eq_true (by omega)).symm
theorem TM.add {s : Trk} {m : PRow} (h : TM s m) (unit : ByteArray) (pid : Int) (hw : (Lit.int .i64 pid).wf = true) (hs : unit.size ≤ 100) (nb : Nat) : ((tAdd s unit pid nb).2 == 0) = addOk m unit pid ∧ TM (tAdd s unit pid nb).1 (match addOk m unit pid with | true => insP m (pid, unit) | false => m) := by
  unfold tAdd addOk
  rw [h.at pid]
  rcases atP_cases h.asc pid with ⟨h0, h1, _⟩ | ⟨i, n, hm, h0, _⟩
  · rw [h0]
    cases hu : sEq unit ⟨#[]⟩ with
    | true => exact ⟨rfl, h⟩
    | false =>
      by_cases hp : pid < 2
      · have e1 : decide (pid < 2) = true := decide_eq_true hp
        have e2 : decide (pid ≥ 2) = false := decide_eq_false (by omega)
        rw [e1, e2]
        exact ⟨rfl, h⟩
      · have e1 : decide (pid < 2) = false := decide_eq_false hp
        have e2 : decide (pid ≥ 2) = true := decide_eq_true (by omega)
        rw [e1, e2]
        exact ⟨rfl, h.put h1 hw (by omega) ((sEqF _ _).1 hu) hs nb⟩
  · have e1 : decide (atP m pid ≥ 0) = true := decide_eq_true (by omega)
    have e2 : decide (atP m pid < 0) = false := decide_eq_false (by omega)
    rw [e1, e2]
    cases sEq unit ⟨#[]⟩ <;> cases decide (pid ≥ 2) <;> exact ⟨rfl, h⟩
/-- Fork: what it says. -/
def forkOk (m : PRow) (a b : Int) : Bool := (decide (atP m a ≥ 0) && decide (b ≥ 2)) && decide (atP m b < 0)
theorem TM.fork {s : Trk} {m : PRow} (h : TM s m) (a b : Int) (hw : (Lit.int .i64 b).wf = true) (nb : Nat) : (atP m a < 0 → forkOk m a b = false ∧ tFork s a b nb = (s, 190)) ∧ ∀ (i : Nat) (n : ByteArray), atP m a = (i : Int) → (∀ d, m.getD i d = (a, n)) → (a, n) ∈ m → forkOk m a b = addOk m n b ∧ tFork s a b nb = tAdd s n b nb := by
  constructor
  · intro h0
    rcases atP_cases h.asc a with ⟨_, h1, _⟩ | ⟨i, n, hm, h2, _⟩
    · refine ⟨?_, by simp only [tFork, h.none h1]⟩
      unfold forkOk
      rw [decide_eq_false (by omega)]; rfl
    · omega
  · intro i n h0 hd hm
    refine ⟨?_, by simp only [tFork, (h.o a n).2 hm]⟩
    have hne := (h.wf _ hm).2.2.1
    unfold forkOk addOk
    rw [decide_eq_true (by omega : atP m a ≥ 0), (sEqF _ _).2 hne]
    rfl
/-- A unit's processes. -/
theorem TM.pids {s : Trk} {m : PRow} (h : TM s m) (hl : m.length ≤ 1000000) (u : ByteArray) : pidsOk s u ∧ pidsL s u = pidsP m u := by
  cases hx : mget s.ps (.s u) with
  | none =>
    refine ⟨(fun x h1 => by rw [hx] at h1; cases h1), ?_⟩
    unfold pidsL
    rw [hx]
    refine (List.eq_nil_iff_forall_not_mem.2 fun p hp => ?_).symm
    obtain ⟨y, y1, _⟩ := h.has p u (pidsP_mem.1 hp)
    rw [hx] at y1; cases y1
  | some x =>
    obtain ⟨hxk, hxn, hxe⟩ := h.set u x hx
    have hnd : (x.2.map fun e => keyInt e.1).Nodup := by
      unfold List.Nodup
      rw [List.pairwise_map]
      refine List.Pairwise.imp_of_mem ?_ hxk
      intro a b ha hb hab e
      obtain ⟨p, e1, _⟩ := hxe a ha
      obtain ⟨q, e2, _⟩ := hxe b hb
      rw [e1, e2] at hab e
      rw [keyT_i] at hab
      simp only [keyInt] at e
      simp at hab
      omega
    have hperm : (x.2.map fun e => keyInt e.1).Perm (pidsP m u) := by
      refine (List.perm_ext_iff_of_nodup hnd ((pidsP_asc h.asc u).imp (by intro a b h; omega))).2 fun p => ?_
      rw [pidsP_mem]
      constructor
      · intro hp
        obtain ⟨e, he, rfl⟩ := List.mem_map.1 hp
        obtain ⟨q, e1, e2⟩ := hxe e he
        rw [e1]; exact e2
      · intro hp
        obtain ⟨y, y1, y2⟩ := h.has p u hp
        rw [hx] at y1; cases y1
        obtain ⟨k', h2, h3⟩ := mget_mem y2
        refine List.mem_map.2 ⟨(k', ()), h2, ?_⟩
        obtain ⟨q, e1, _⟩ := hxe _ h2
        dsimp only at e1
        rw [e1, keyT_i] at h3
        dsimp only
        rw [e1]
        simp only [keyInt]
        have : p = q := by simpa using h3
        exact this.symm
    have hsort : sortI x.2 = pidsP m u := by
      unfold sortI
      rw [mergeSort_of_perm_i hperm]
      refine List.mergeSort_of_pairwise ?_
      exact (pidsP_asc h.asc u).imp fun {x y} h => by simp [leI]; omega
    have hlen : x.2.length ≤ 1000000 := by
      have h1 := hperm.length_eq
      have h2 := pidsP_leT m u
      simp at h1
      omega
    have hwf : wfI x.2 := by
      refine ⟨hxk, by omega, fun e he => ?_⟩
      obtain ⟨p, e1, e2⟩ := hxe e he
      rw [e1]
      exact (h.wf _ e2).1
    refine ⟨(fun y h1 => by rw [hx] at h1; cases h1; exact hwf), ?_⟩
    unfold pidsL
    rw [hx]
    exact hsort

/-! ### Sync -/
def syG (ps : List Int) (a : PRow × Int) (p : Int) : PRow × Int := match ps.contains p with
  | true => a
  | false => (rmP a.1 p, a.2 + 1)
def syGone (ps : List Int) (m : PRow) (ws : List Int) : PRow × Int := ws.foldl (syG ps) (m, 0)
def syN (u : ByteArray) (a : PRow × Int) (p : Int) : PRow × Int := match decide (p < 2) || (decide (atP a.1 p ≥ 0) && sEq (a.1.getD (atP a.1 p).toNat zPr).2 u) with
  | true => a
  | false => (insP (rmP a.1 p) (p, u), a.2 + 1)
def syNew (u : ByteArray) (m : PRow) (ps : List Int) : PRow × Int := ps.foldl (syN u) (m, 0)
theorem take_next {α : Type} {l : List α} {i : Nat} (h : i < l.length) : l.take (i + 1) = l.take i ++ [l[i]] := List.take_succ_eq_append_getElem h
theorem syGone_next (ps : List Int) (m : PRow) (ws : List Int) (i : Nat) (h : i < ws.length) : syGone ps m (ws.take (i + 1)) = syG ps (syGone ps m (ws.take i)) ws[i] := by
  unfold syGone
  rw [take_next h, List.foldl_append]
  rfl
theorem syNew_next (u : ByteArray) (m : PRow) (ps : List Int) (i : Nat) (h : i < ps.length) : syNew u m (ps.take (i + 1)) = syN u (syNew u m (ps.take i)) ps[i] := by
  unfold syNew
  rw [take_next h, List.foldl_append]
  rfl
theorem syG_cnt (ps : List Int) : ∀ (ws : List Int) (a : PRow × Int), a.2 ≤ (ws.foldl (syG ps) a).2 ∧ (ws.foldl (syG ps) a).2 ≤ a.2 + ws.length
  | [], a => by simp
  | p :: ws, a => by
    have h1 := syG_cnt ps ws (syG ps a p)
    have h2 : a.2 ≤ (syG ps a p).2 ∧ (syG ps a p).2 ≤ a.2 + 1 := by
      unfold syG
      split
      · omega
      · dsimp only; omega
    simp only [List.foldl_cons, List.length_cons]
    omega
theorem syGone_cnt (ps : List Int) (m : PRow) (ws : List Int) : 0 ≤ (syGone ps m ws).2 ∧ (syGone ps m ws).2 ≤ ws.length := by
  have := syG_cnt ps ws (m, 0)
  unfold syGone
  omega
theorem syN_cnt (u : ByteArray) : ∀ (ps : List Int) (a : PRow × Int), a.2 ≤ (ps.foldl (syN u) a).2 ∧ (ps.foldl (syN u) a).2 ≤ a.2 + ps.length ∧ (ps.foldl (syN u) a).1.length ≤ a.1.length + ps.length
  | [], a => by simp
  | p :: ps, a => by
    have h1 := syN_cnt u ps (syN u a p)
    have h2 : a.2 ≤ (syN u a p).2 ∧ (syN u a p).2 ≤ a.2 + 1 ∧ (syN u a p).1.length ≤ a.1.length + 1 := by
      unfold syN
      split
      · omega
      · dsimp only
        rw [insP_len]
        have := rmP_len a.1 p
        omega
    simp only [List.foldl_cons, List.length_cons]
    omega
theorem syNew_cnt (u : ByteArray) (m : PRow) (ps : List Int) : 0 ≤ (syNew u m ps).2 ∧ (syNew u m ps).2 ≤ ps.length ∧ (syNew u m ps).1.length ≤ m.length + ps.length := by
  have := syN_cnt u ps (m, 0)
  dsimp only at this
  unfold syNew
  omega
theorem syG_mem (ps : List Int) : ∀ (ws : List Int) (a : PRow × Int) (x : Int × ByteArray), x ∈ (ws.foldl (syG ps) a).1 → x ∈ a.1 ∧ (x.1 ∈ ws → x.1 ∈ ps)
  | [], a, x, h => ⟨h, fun h => by cases h⟩
  | p :: ws, a, x, h => by
    obtain ⟨h1, h2⟩ := syG_mem ps ws (syG ps a p) x h
    unfold syG at h1
    split at h1
    · rename_i hc
      refine ⟨h1, fun hp => ?_⟩
      rcases List.mem_cons.1 hp with e | hp
      · rw [e]; simpa using hc
      · exact h2 hp
    · obtain ⟨g1, g2⟩ := mem_rmP.1 h1
      refine ⟨g1, fun hp => ?_⟩
      rcases List.mem_cons.1 hp with e | hp
      · exact absurd e g2
      · exact h2 hp
theorem syN_mem (u : ByteArray) : ∀ (ps : List Int) (a : PRow × Int) (x : Int × ByteArray), x ∈ (ps.foldl (syN u) a).1 → x ∈ a.1 ∨ (x.2 = u ∧ x.1 ∈ ps)
  | [], a, x, h => .inl h
  | p :: ps, a, x, h => by
    rcases syN_mem u ps (syN u a p) x h with h1 | ⟨h1, h2⟩
    · unfold syN at h1
      split at h1
      · exact .inl h1
      · rcases mem_insP.1 h1 with rfl | h1
        · exact .inr ⟨rfl, List.mem_cons_self⟩
        · exact .inl (mem_rmP.1 h1).1
    · exact .inr ⟨h1, List.mem_cons_of_mem _ h2⟩
/-- Sync: the row behind it; how many are new; how many are gone. -/
def syncF (m : PRow) (u : ByteArray) (ps : List Int) : PRow × Int × Int := match sEq u ⟨#[]⟩ with
  | true => (m, 0, 0)
  | false => ((syNew u (syGone ps m (pidsP m u)).1 ps).1, (syNew u (syGone ps m (pidsP m u)).1 ps).2, (syGone ps m (pidsP m u)).2)
theorem syG_len (ps : List Int) : ∀ (ws : List Int) (a : PRow × Int), (ws.foldl (syG ps) a).1.length ≤ a.1.length
  | [], a => Nat.le_refl _
  | p :: ws, a => by
    have h1 := syG_len ps ws (syG ps a p)
    have h2 : (syG ps a p).1.length ≤ a.1.length := by
      unfold syG
      split
      · exact Nat.le_refl _
      · exact rmP_len _ _
    simp only [List.foldl_cons]
    omega
theorem syncF_mem {m : PRow} {u : ByteArray} {ps : List Int} {x : Int × ByteArray} (h : x ∈ (syncF m u ps).1) : (x ∈ m ∧ (u ≠ ⟨#[]⟩ → x.2 = u → x.1 ∈ ps)) ∨ (x.2 = u ∧ x.1 ∈ ps) := by
  unfold syncF at h
  split at h
  · rename_i hu
    exact .inl ⟨h, fun hn => absurd ((sEqT _ _).1 hu) hn⟩
  · rcases syN_mem u ps _ x h with h | h
    · obtain ⟨h1, h2⟩ := syG_mem ps _ _ x h
      exact .inl ⟨h1, fun _ e => h2 (pidsP_mem.2 (by rw [← e]; exact h1))⟩
    · exact .inr h
theorem syncF_len (m : PRow) (u : ByteArray) (ps : List Int) : (syncF m u ps).1.length ≤ m.length + ps.length := by
  unfold syncF
  split
  · dsimp only; omega
  · have h1 := (syNew_cnt u (syGone ps m (pidsP m u)).1 ps).2.2
    have h2 := syG_len ps (pidsP m u) (m, 0)
    unfold syGone at h1 ⊢
    dsimp only at h2 ⊢
    omega
theorem syncF_cnt (m : PRow) (u : ByteArray) (ps : List Int) (v : ByteArray) (h : Asc (syncF m u ps).1) : (pidsP (syncF m u ps).1 v).length ≤ (pidsP m v).length ∨ (pidsP (syncF m u ps).1 v).length ≤ ps.length := by
  by_cases hu : u = ⟨#[]⟩
  · left
    have e : (syncF m u ps).1 = m := by
      unfold syncF
      rw [(sEqT _ _).2 hu]
    rw [e]
    exact Nat.le_refl _
  · have hn : (pidsP (syncF m u ps).1 v).Nodup := (pidsP_asc h v).imp (by intro a b h; omega)
    by_cases hv : v = u
    · right
      refine nodup_sub hn fun p hp => ?_
      rcases syncF_mem (pidsP_mem.1 hp) with ⟨_, h1⟩ | ⟨_, h1⟩
      · exact h1 hu hv
      · exact h1
    · left
      refine nodup_sub hn fun p hp => ?_
      rcases syncF_mem (pidsP_mem.1 hp) with ⟨h1, _⟩ | ⟨h1, _⟩
      · exact pidsP_mem.2 h1
      · exact absurd h1 hv
theorem TM.syG {s : Trk} {m : PRow} (h : TM s m) (pid : Int) : TM (tGone s pid).1 (rmP m pid) := h.gone' pid
/-- Which unit a process is of, as1 the two tell it. -/
theorem TM.look {s : Trk} {m : PRow} (h : TM s m) (p : Int) {u : ByteArray} (hu : u ≠ ⟨#[]⟩) (d : Int × ByteArray) : sEq ((mget s.of (.i .i64 p)).getD ⟨#[]⟩) u = (decide (atP m p ≥ 0) && sEq (m.getD (atP m p).toNat d).2 u) := by
  rcases atP_cases h.asc p with ⟨h0, h1, _⟩ | ⟨i, n, hm, h0, hi, hd, _⟩
  · rw [h.none h1, h0]
    exact (sEqF _ _).2 fun e => hu e.symm
  · rw [(h.o p n).2 hm, h0, decide_eq_true (by omega : (i : Int) ≥ 0), Int.toNat_natCast, hd]
    rfl
end Go.Proofs.Ytihajdkipkfiiaa

/- YtihajdkipkfiiaaSyC -/
/- Sync. -/
namespace Go.Proofs.Ytihajdkipkfiiaa
open Go Go.RowKit
set_option linter.unusedVariables false
set_option linter.unusedSimpArgs false
set_option linter.unnecessarySimpa false
set_option maxHeartbeats 0

/-- Sync. -/
def syncC : Ctr := fun args hs N => match args with
  | [.ptr l b 0, .str u, .vec lp ao n cap] => match nth hs l with
    | some ⟨.blk b', .adt (σ := σ') p s⟩ => b' = b ∧ ∃ h : σ' = Trk, AdtIs p trkE ∧ ∃ (ps : List Int) (m : PRow), nth hs lp = some ⟨.sl ao cap, .vecL 3 1 encI1 ps 0⟩ ∧ (TM (cast h s) m ∧ Nat.beq l lp = false) ∧ (n = ps.length ∧ ps.length ≤ 1000 ∧ m.length ≤ 100000 ∧ u.size ≤ 100 ∧ ∀ p ∈ ps, (Lit.int .i64 p).wf = true) ∧
        ∀ s', TM s' (syncF m u ps).1 → N (setN hs l (pkA b trkE s')) (.tuple [.int .i64 (syncF m u ps).2.1, .int .i64 (syncF m u ps).2.2])
    | _ => False
  | _ => False
def syT : Tbl := [(83, contIC), (33, adtC trkE tgoneM)]
def syT2 : Tbl := [(78, adtC trkE tputM)]
end Go.Proofs.Ytihajdkipkfiiaa

/- YtihajdkipkfiiaaLayS -/
/- Layings of the kit's contracts for slices.Sorted and maps.Keys at this program, in plain words. -/
namespace Go.Proofs.Ytihajdkipkfiiaa
open Go.Shelf
def keysU_ren : Go.Shelf.Ren := ⟨fun | 7 => 88 | 10 => 107 | n => n, fun | 23 => 138 | 26 => 9 | 3 => 119 | 28 => 95 | 0 => 0 | 27 => 94 | 33 => 97 | 4 => 4 | n => n, fun | n => n⟩
theorem keysU : Go.Proofs.SlLaysZ.n7 Try.prog keysU_ren := {
  mixed := by kernel_rfl
  f7 := ⟨Try.f88.name, by decide, Try.func88.trans (congrArg some (by kernel_rfl))⟩
  f10 := ⟨Try.f107.name, by decide, Try.func107.trans (congrArg some (by kernel_rfl))⟩
  t0 := Try.underlying0
  a0 := Try.isAgg0
  z0 := Try.sizeOf0
  v0 := Try.zeroValue0
  t4 := Try.underlying4
  a4 := Try.isAgg4
  z4 := Try.sizeOf4
  v4 := Try.zeroValue4
  t23 := Try.underlying138
  a23 := Try.isAgg138
  z23 := Try.sizeOf138
  v23 := Try.zeroValue138
  t26 := Try.underlying9
  a26 := Try.isAgg9
  z26 := Try.sizeOf9
  v26 := Try.zeroValue9
  t27 := Try.underlying94
  a27 := Try.isAgg94
  z27 := Try.sizeOf94
  v27 := Try.zeroValue94
  t28 := Try.underlying95
  a28 := Try.isAgg95
  z28 := Try.sizeOf95
  v28 := Try.zeroValue95
  t33 := Try.underlying97
  a33 := Try.isAgg97
  z33 := Try.sizeOf97
  v33 := Try.zeroValue97 }
def sortedS_ren : Go.Shelf.Ren := ⟨fun | 6 => 87 | 8 => 105 | 9 => 106 | 11 => 114 | 13 => 113 | 12 => 115 | 23 => 126 | 24 => 127 | 14 => 128 | 15 => 129 | 16 => 130 | 17 => 131 | 18 => 132 | 19 => 133 | 20 => 134 | 21 => 135 | 22 => 136 | 25 => 143 | 26 => 138 | 27 => 139 | 28 => 144 | 29 => 145 | 30 => 146 | 31 => 148 | n => n, fun | 26 => 9 | 28 => 95 | 24 => 93 | 0 => 0 | 3 => 3 | 37 => 173 | 48 => 185 | 50 => 187 | 4 => 4 | 40 => 178 | 39 => 177 | 45 => 157 | 5 => 5 | 9 => 9 | 51 => 194 | 55 => 198 | 57 => 202 | 58 => 69 | 33 => 97 | n => n, fun | n => n⟩
theorem sortedS : Go.Proofs.SlLaysZ.n6 Try.prog sortedS_ren := {
  mixed := by kernel_rfl
  f6 := ⟨Try.f87.name, by decide, Try.func87.trans (congrArg some (by kernel_rfl))⟩
  f8 := ⟨Try.f105.name, by decide, Try.func105.trans (congrArg some (by kernel_rfl))⟩
  f11 := ⟨Try.f114.name, by decide, Try.func114.trans (congrArg some (by kernel_rfl))⟩
  t0 := Try.underlying0
  a0 := Try.isAgg0
  z0 := Try.sizeOf0
  v0 := Try.zeroValue0
  t24 := Try.underlying93
  a24 := Try.isAgg93
  z24 := Try.sizeOf93
  v24 := Try.zeroValue93
  t26 := Try.underlying9
  a26 := Try.isAgg9
  z26 := Try.sizeOf9
  v26 := Try.zeroValue9
  t28 := Try.underlying95
  a28 := Try.isAgg95
  z28 := Try.sizeOf95
  v28 := Try.zeroValue95
  i26 := by kernel_rfl }
def sortS_lay_ren : Go.Shelf.Ren := ⟨fun | 6 => 106 | 8 => 113 | 9 => 115 | 19 => 126 | 20 => 127 | 21 => 128 | 22 => 129 | 23 => 130 | 24 => 131 | 25 => 132 | 26 => 133 | 27 => 134 | 28 => 135 | 29 => 136 | 36 => 143 | 31 => 138 | 32 => 139 | 37 => 144 | 38 => 145 | 39 => 146 | 41 => 148 | n => n, fun | 27 => 93 | 29 => 9 | 3 => 3 | 32 => 173 | 26 => 93 | 0 => 0 | 44 => 185 | 46 => 187 | 4 => 4 | 36 => 178 | 35 => 177 | 41 => 157 | 5 => 5 | 9 => 9 | 53 => 194 | 57 => 198 | 63 => 202 | 64 => 69 | n => n, fun | n => n⟩
theorem sortS_lay : Go.Proofs.SlLaysM.n6 Try.prog sortS_lay_ren := {
  mixed := by kernel_rfl
  f6 := ⟨Try.f106.name, by decide, Try.func106.trans (congrArg some (by kernel_rfl))⟩
  f8 := Try.func113.trans (congrArg some (by kernel_rfl))
  f9 := ⟨Try.f115.name, by decide, Try.func115.trans (congrArg some (by kernel_rfl))⟩
  f19 := Try.func126.trans (congrArg some (by kernel_rfl))
  f20 := Try.func127.trans (congrArg some (by kernel_rfl))
  f21 := ⟨Try.f128.name, by decide, Try.func128.trans (congrArg some (by kernel_rfl))⟩
  f22 := ⟨Try.f129.name, by decide, Try.func129.trans (congrArg some (by kernel_rfl))⟩
  f23 := ⟨Try.f130.name, by decide, Try.func130.trans (congrArg some (by kernel_rfl))⟩
  f24 := ⟨Try.f131.name, by decide, Try.func131.trans (congrArg some (by kernel_rfl))⟩
  f25 := ⟨Try.f132.name, by decide, Try.func132.trans (congrArg some (by kernel_rfl))⟩
  f26 := ⟨Try.f133.name, by decide, Try.func133.trans (congrArg some (by kernel_rfl))⟩
  f27 := ⟨Try.f134.name, by decide, Try.func134.trans (congrArg some (by kernel_rfl))⟩
  f28 := ⟨Try.f135.name, by decide, Try.func135.trans (congrArg some (by kernel_rfl))⟩
  f29 := ⟨Try.f136.name, by decide, Try.func136.trans (congrArg some (by kernel_rfl))⟩
  f31 := Try.func138.trans (congrArg some (by kernel_rfl))
  f32 := Try.func139.trans (congrArg some (by kernel_rfl))
  f36 := ⟨Try.f143.name, by decide, Try.func143.trans (congrArg some (by kernel_rfl))⟩
  f37 := ⟨Try.f144.name, by decide, Try.func144.trans (congrArg some (by kernel_rfl))⟩
  f38 := ⟨Try.f145.name, by decide, Try.func145.trans (congrArg some (by kernel_rfl))⟩
  f39 := ⟨Try.f146.name, by decide, Try.func146.trans (congrArg some (by kernel_rfl))⟩
  f41 := ⟨Try.f148.name, by decide, Try.func148.trans (congrArg some (by kernel_rfl))⟩
  t0 := Try.underlying0
  a0 := Try.isAgg0
  z0 := Try.sizeOf0
  v0 := Try.zeroValue0
  t3 := Try.underlying3
  a3 := Try.isAgg3
  z3 := Try.sizeOf3
  v3 := Try.zeroValue3
  t4 := Try.underlying4
  a4 := Try.isAgg4
  z4 := Try.sizeOf4
  v4 := Try.zeroValue4
  t5 := Try.underlying5
  a5 := Try.isAgg5
  z5 := Try.sizeOf5
  v5 := Try.zeroValue5
  t9 := Try.underlying9
  a9 := Try.isAgg9
  z9 := Try.sizeOf9
  v9 := Try.zeroValue9
  t26 := Try.underlying93
  a26 := Try.isAgg93
  z26 := Try.sizeOf93
  v26 := Try.zeroValue93
  t27 := Try.underlying93
  a27 := Try.isAgg93
  z27 := Try.sizeOf93
  v27 := Try.zeroValue93
  t29 := Try.underlying9
  a29 := Try.isAgg9
  z29 := Try.sizeOf9
  v29 := Try.zeroValue9
  t32 := Try.underlying173
  a32 := Try.isAgg173
  z32 := Try.sizeOf173
  v32 := Try.zeroValue173
  t35 := Try.underlying177
  a35 := Try.isAgg177
  z35 := Try.sizeOf177
  v35 := Try.zeroValue177
  t36 := Try.underlying178
  a36 := Try.isAgg178
  z36 := Try.sizeOf178
  v36 := Try.zeroValue178
  t41 := Try.underlying157
  a41 := Try.isAgg157
  z41 := Try.sizeOf157
  v41 := Try.zeroValue157
  t44 := Try.underlying185
  a44 := Try.isAgg185
  z44 := Try.sizeOf185
  v44 := Try.zeroValue185
  t46 := Try.underlying187
  a46 := Try.isAgg187
  z46 := Try.sizeOf187
  v46 := Try.zeroValue187
  t53 := Try.underlying194
  a53 := Try.isAgg194
  z53 := Try.sizeOf194
  v53 := Try.zeroValue194
  t57 := Try.underlying198
  a57 := Try.isAgg198
  z57 := Try.sizeOf198
  v57 := Try.zeroValue198
  t63 := Try.underlying202
  a63 := Try.isAgg202
  z63 := Try.sizeOf202
  v63 := Try.zeroValue202
  t64 := Try.underlying69
  a64 := Try.isAgg69
  z64 := Try.sizeOf69
  v64 := Try.zeroValue69 }
end Go.Proofs.Ytihajdkipkfiiaa

/- YtihajdkipkfiiaaSrtS -/
/- slices.Sorted(maps.Keys(m)) at texts: the keys, rising. -/
namespace Go.Proofs.Ytihajdkipkfiiaa
open Go Go.RowKit Go.Maps Go.Sort Go.Shelf
set_option linter.unusedVariables false
set_option linter.unusedSimpArgs false
set_option linter.unnecessarySimpa false

def encS1 (x : ByteArray) : List SV := [.str x]
def keyStr : Key → List UInt8
  | .i _ _ => []
  | .s b => b.data.toList
def ofB (l : List UInt8) : ByteArray := ⟨l.toArray⟩
/-- A map's keys, rising. -/
def sortS {β : Type} (es : List (Key × β)) : List ByteArray := ((es.map fun e => keyStr e.1).mergeSort leB).map ofB
/-- Are they keys of the kind? -/
def wfS {β : Type} (es : List (Key × β)) : Prop := keysOk es ∧ es.length ≤ 1000000000 ∧ ∀ e ∈ es, (keyStr e.1).length ≤ maxLen
/-- slices.Sorted at what maps.Keys handed back. -/
def srtSC (fI T : Nat) : Ctr := fun args hs N => match args with
  | [.func (.func f) [] [.ptr lb b 0]] => f = fI ∧ match nth hs lb with
    | some ⟨.blk b', .cells [.map lm rm] _⟩ => match nth hs lm with
      | some ⟨.blk rm', .mapL (β := β) kd enc es⟩ => (b' = b ∧ rm' = rm ∧ kd = none ∧ wfS es) ∧ ∀ ao cap, N (snoc hs ⟨.sl ao cap, .vecL T 1 encS1 (sortS es) ByteArray.empty⟩) (.vec (lenN hs) ao (sortS es).length cap)
      | _ => False
    | _ => False
  | _ => False

/-- What a map of ours is to the kit. -/
theorem ownsS_of {w : World} {rm : Nat} {ents : List MapEntry} {clock k : Nat} {β : Type} {enc : β → SV} {es : List (Key × β)} (hk : Try.prog.underlying k = some .string) (hh : w.heap[rm]? = some (.map ents.toArray clock)) (hst : Stamped ents clock) (he : ents.map (fun e => (e.key, e.val)) = es.map fun e => (den e.1.sv, den (enc e.2)))
    (hks : ∀ e ∈ es, keyKind e.1 = none) (hw : wfS es) : ∃ D0 : DataW Unit, w.ownsMap Try.prog k (fun _ => some (.lit (.bool true), [])) rm es.length D0 ∧ (strKeys D0).Perm (es.map fun e => keyStr e.1) ∧ Maps.size D0 = es.length := by
  have hlen : ents.length = es.length := by simpa using congrArg List.length he
  have hkey : ∀ e ∈ es, den e.1.sv = .string ⟨(keyStr e.1).toArray⟩ := fun e hm => by
    have := hks e hm
    cases hq : e.1 with
    | i kk n => rw [hq] at this; cases this
    | s b => simp [keyStr, Key.sv, den]
  have hmem : ∀ x ∈ ents, ∃ e ∈ es, x.key = .string ⟨(keyStr e.1).toArray⟩ := fun x hx => by
    have : (x.key, x.val) ∈ es.map fun e => (den e.1.sv, den (enc e.2)) := by rw [← he]; exact List.mem_map.2 ⟨x, hx, rfl⟩
    obtain ⟨e, h1, h2⟩ := List.mem_map.1 this
    simp only [Prod.mk.injEq] at h2
    exact ⟨e, h1, by rw [← h2.1, hkey e h1]⟩
  have hrg : ∀ x ∈ ents, ∃ n : List UInt8, x.key = .string ⟨n.toArray⟩ ∧ WideElems.rd Try.prog k (fun _ => some ((.lit (.bool true) : DataW Unit), [])) x = some (.string n, .lit (.bool true)) := fun x hx => by
    obtain ⟨e, h1, h2⟩ := hmem x hx
    refine ⟨_, h2, ?_⟩
    have hsz : (ByteArray.mk (keyStr e.1).toArray).size ≤ maxLen := by have := hw.2.2 e h1; simpa [ByteArray.size] using this
    have : Go.keyOf Try.prog k (.string ⟨(keyStr e.1).toArray⟩) = some (.string (keyStr e.1)) := by simp [Go.keyOf, hk, Go.mapKey, hsz]
    simp [WideElems.rd, h2, this]
  have hkeys : ents.map (fun x => x.key) = es.map fun e => (Value.string ⟨(keyStr e.1).toArray⟩) := by
    have h1 := congrArg (List.map Prod.fst) he
    simp only [List.map_map, Function.comp_def] at h1
    rw [h1]
    exact List.map_congr_left fun e hm => hkey e hm
  refine ⟨_, ⟨ents.toArray, clock, hh, ⟨?_, ?_, ?_⟩, by simp [hlen], rfl⟩, ?_, ?_⟩
  · have := hw.2.1; simp [hlen, maxLen]; omega
  · refine (MapKept.stamped_iff _ _).2 ⟨by simpa using hst.2, by simpa using hst.1, ?_⟩
    have h1 : (ents.map (fun x => x.key)).Pairwise (· ≠ ·) := by
      rw [hkeys, List.pairwise_map]
      refine hw.1.imp_of_mem fun {a b} ha hb hab e => ?_
      have e : keyStr a.1 = keyStr b.1 := by simpa using e
      have h2 := hks a ha
      have h3 := hks b hb
      cases a with | mk ka va => cases b with | mk kb vb =>
      cases ka with
      | i _ _ => cases h2
      | s x =>
        cases kb with
        | i _ _ => cases h3
        | s y =>
          have : x = y := by
            cases x; cases y
            simp [keyStr] at e
            rw [e]
          subst this
          simp [keyEq_self] at hab
    simpa [List.pairwise_map] using h1
  · intro x hx
    obtain ⟨n, _, h2⟩ := hrg x (by simpa using hx)
    exact ⟨_, h2⟩
  · show (((ents.toArray.toList.map (WideElems.rg Try.prog k _)).foldr DataW.insert []).map fun p => strOf p.1).Perm _
    refine ((Go.WideShapes.sorted_perm _).map _).trans ?_
    simp only [List.map_map]
    have : ents.map ((fun p : Lit × DataW Unit => strOf p.1) ∘ WideElems.rg Try.prog k (fun _ => some (.lit (.bool true), []))) = es.map fun e => keyStr e.1 := by
      have h1 : ents.map ((fun p : Lit × DataW Unit => strOf p.1) ∘ WideElems.rg Try.prog k (fun _ => some (.lit (.bool true), []))) = (ents.map (fun x => x.key)).map fun v => match v with | .string s => s.data.toList | _ => [] := by
        rw [List.map_map]
        refine List.map_congr_left fun x hx => ?_
        obtain ⟨n, h2, h3⟩ := hrg x hx
        simp [WideElems.rg, h3, h2, strOf]
      rw [h1, hkeys, List.map_map]
      refine List.map_congr_left fun e _ => ?_
      simp
    rw [this]
  · show ((ents.toArray.toList.map (WideElems.rg Try.prog k _)).foldr DataW.insert []).length = _
    rw [(Go.WideShapes.sorted_perm _).length_eq]; simp [hlen]

theorem sortsS (m : Nat) : AnyZ.SortsIn Try.prog sortedS_ren Fence.wide m :=
  ⟨fun blk off cap ss W hH hblk hsz => callsIn_wide.2 (AnyM.slices_Sort_string sortS_lay blk off cap ss W hH hblk hsz), fun p cap W => callsIn_wide.2 (AnyM.slices_Sort_string_none sortS_lay p cap W)⟩

theorem flat_strs : ∀ l : List (List UInt8), flatV encS1 (l.map ofB) = l.map encStr
  | [] => rfl
  | x :: l => by
    have := flat_strs l
    unfold flatV at this ⊢
    simp only [List.map_cons, List.flatMap_cons, this]
    rfl
theorem srtS_ok {fI T : Nat} (hT : T = 9) (hg : ∃ fn, Try.prog.funcs[fI]? = some fn ∧ (fn.name == "runtime.NumGoroutine") = false ∧ ∃ c, fn.body = some c)
    (hK : ∀ (w : World) (b rm nn : Nat) (D0 : DataW Unit), b < w.heap.size → w.cell? ⟨b, 0, none⟩ = some (.map (some rm)) → w.ownsMap Try.prog 9 (fun _ => some (.lit (.bool true), [])) rm nn D0 →
      SeqGives Fence.wide 2 Try.prog fI #[.pointer (some ⟨b, 0, none⟩)] encStr (fun ss => ss.Perm (strKeys D0)) (Maps.size D0) w) : CtrOk Try.prog 87 (srtSC fI T) := by
  subst hT
  intro args hs N h
  unfold srtSC at h
  split at h
  case h_2 => exact h.elim
  rename_i f lb b
  obtain ⟨rfl, h⟩ := h
  split at h
  case h_2 => exact h.elim
  rename_i b' lm rm T' hlb
  split at h
  case h_2 => exact h.elim
  rename_i rm' β kd enc es hlm
  obtain ⟨⟨rfl, rfl, rfl, hw⟩, h⟩ := h
  intro W F w hr
  obtain ⟨fn, g1, g2, c, g3⟩ := hg
  have hcell : w.cell? ⟨b', 0, none⟩ = some (.map (some rm')) := by rw [hr.cells hlb]; rfl
  have hb : b' < w.heap.size := World.block_lt_of_cell? _ _ hcell
  obtain ⟨c0, L0, hc0, hH0, _⟩ := hr.get hlm
  obtain ⟨hks, ents, clock, rfl, hst, he⟩ := hc0
  obtain ⟨D0, o1, o2, o3⟩ := ownsS_of (k := 9) Try.underlying9 (hH0.heap .here) hst he hks hw
  have hseq := hK w b' rm' es.length D0 hb hcell o1
  have hlen := hw.2.1
  have cS := AnyZ.sorted_in sortedS Fence.wide 5 trivial trivial trivial trivial rfl (by omega) (sortsS _) (enters_of Try.func106 (by kernel_rfl) rfl) f #[.pointer (some ⟨b', 0, none⟩)] trivial (enters_of g1 g2 g3) _ _ (by rw [o3]; unfold maxLen; omega) (by rw [o3]; omega) _ hseq
  refine Calls.mono ((callsIn_wide (n := 5)).1 cS) ?_
  rintro e w' ⟨v, ss, rfl, hS, hrow, hnil, hbel⟩
  have hsort : sortS es = (ss.mergeSort leB).map ofB := by unfold sortS; rw [mergeSort_of_perm (hS.trans o2)]
  have hls : ss.length = (sortS es).length := by rw [hsort, List.length_map, (List.mergeSort_perm ss leB).length_eq]
  have hflat : flatV encS1 (sortS es) = (ss.mergeSort leB).map encStr := by rw [hsort, flat_strs]
  rcases hrow.2 with ⟨rfl, h0⟩ | ⟨g, cap, cur, rfl, hge, hgb, hle, hcap, hsz, htk⟩
  · have hnl : sortS es = [] := List.eq_nil_of_length_eq_zero (by omega)
    refine ⟨_, _, h none 0, by rw [hnl]; rfl, ?_⟩
    have hr' : Rep W F hs w' := hr.move fun L hL => hL.below hbel
    rw [hnl]
    exact Rep.nilvec _ (sz := 1) (enc := encS1) ByteArray.empty (fun _ => rfl) hr'
  · refine ⟨_, _, h (some ⟨g, 0, none⟩) cap, by rw [hls]; rfl, ?_⟩
    refine hr.new (c := [(g, .cells cur _ (0, 0))]) ⟨⟨by rw [hflat]; simp [hls], by omega, .inr ⟨g, 0, cur, rfl, rfl, by omega, ?_⟩⟩, fun _ => rfl⟩ fun L hL => hL.grow hbel hge hgb
    have e1 : (sortS es).length * 1 = ss.length * 1 := by rw [hls]
    rw [List.drop_zero, hflat, e1, htk]
end Go.Proofs.Ytihajdkipkfiiaa

/- YtihajdkipkfiiaaUnC -/
/- Units; what the law gathers. -/
namespace Go.Proofs.Ytihajdkipkfiiaa
open Go Go.RowKit
set_option linter.unusedVariables false
set_option linter.unusedSimpArgs false
set_option linter.unnecessarySimpa false
set_option maxHeartbeats 0

/-- A row's elements, gathered by the law's own function. -/
def vals5C : Ctr := fun args hs N => match args with
  | [.func (.func g) [] [.ptr lg c 0], .ptr lb bx 0] => g = 55 ∧ ∃ (xs : List Int) (lv : Nat) (ao : Option Addr) (cap : Nat), nth hs lg = some ⟨.blk c, .cells [.raw (.slice none 0 0)] 32⟩ ∧ nth hs lb = some ⟨.blk bx, .cells [.vec lv ao xs.length cap] 32⟩ ∧ nth hs lv = some ⟨.sl ao cap, .vecL 3 1 encI1 xs 0⟩ ∧ ((Nat.beq lg lb = false ∧ Nat.beq lg lv = false ∧ Nat.beq lb lv = false) ∧ xs.length ≤ 400) ∧
      ∀ ag cg, N (snoc (setN hs lg ⟨.blk c, .cells [.vec (lenN hs) ag xs.length cg] 32⟩) ⟨.sl ag cg, .vecL 3 1 encI1 xs 0⟩) (.tuple [])
  | _ => False

/-- A row's elements, gathered by the law's own function. -/
def valsSC : Ctr := fun args hs N => match args with
  | [.func (.func g) [] [.ptr lg c 0], .ptr lb bx 0] => g = 58 ∧ ∃ (xs : List ByteArray) (lv : Nat) (ao : Option Addr) (cap : Nat), nth hs lg = some ⟨.blk c, .cells [.raw (.slice none 0 0)] 93⟩ ∧ nth hs lb = some ⟨.blk bx, .cells [.vec lv ao xs.length cap] 93⟩ ∧ nth hs lv = some ⟨.sl ao cap, .vecL 9 1 encS xs ByteArray.empty⟩ ∧ ((Nat.beq lg lb = false ∧ Nat.beq lg lv = false ∧ Nat.beq lb lv = false) ∧ xs.length ≤ 400) ∧
      ∀ ag cg, N (snoc (setN hs lg ⟨.blk c, .cells [.vec (lenN hs) ag xs.length cg] 93⟩) ⟨.sl ag cg, .vecL 9 1 encS xs ByteArray.empty⟩) (.tuple [])
  | _ => False

/-- Units: a function over a row of its own. -/
def unitsC : Ctr := fun args hs N => match args with
  | [.ptr l b 0] => match nth hs l with
    | some ⟨.blk b', .adt (σ := σ') p s⟩ => b' = b ∧ ∃ h : σ' = Trk, AdtIs p trkE ∧ wfS (cast h s).ps ∧
        ∀ ao cap bx, N (snoc (snoc hs ⟨.sl ao cap, .vecL 9 1 encS (sortS (cast h s).ps) ByteArray.empty⟩) ⟨.blk bx, .cells [.vec (lenN hs) ao (sortS (cast h s).ps).length cap] 93⟩) (.func (.func 104) [] [.ptr (lenN hs + 1) bx 0])
    | _ => False
  | _ => False
def unT : Tbl := [(88, inl Try.prog [] true Try.f88 100), (87, srtSC 107 9), (86, inl Try.prog [] true Try.f86 100)]
end Go.Proofs.Ytihajdkipkfiiaa

/- YtihajdkipkfiiaaTqC -/
/- TrackPlays: its calls. -/
namespace Go.Proofs.Ytihajdkipkfiiaa
open Go Go.RowKit
set_option linter.unusedVariables false
set_option linter.unusedSimpArgs false
set_option linter.unnecessarySimpa false
set_option maxHeartbeats 0

/-- A call of a track. -/
structure StepT where
  (what a b : Int) (unit : ByteArray) (ao : Option Addr) (n cap : Nat) (pids : List Int)
def encStepT (s : StepT) : List SV := [.int .i64 s.what, .int .i64 s.a, .int .i64 s.b, .str s.unit, .raw (.slice s.ao s.n s.cap)]
def StepT.zero : StepT := ⟨0, 0, 0, ⟨#[]⟩, none, 0, 0, []⟩
/-- What the first world holds of a row. -/
def goodT (W : World) (x : StepT) : Prop := has W (.sl x.ao x.cap) (.roL 1 encI1 x.pids 0) [] ∧ x.pids.length = x.n ∧ (Lit.int .i64 x.a).wf = true ∧ (Lit.int .i64 x.b).wf = true ∧ ∀ p ∈ x.pids, (Lit.int .i64 p).wf = true
/-- The same, as1 an entry that owns nothing. -/
def factsT (bs : List StepT) : Ent := ⟨.blk 0, .pred fun W c => c = [] ∧ ∀ x ∈ bs, goodT W x⟩
/-- Whom the document lets be killed. -/
def mainW (a c : Int) : List Int := match decide (a > 1) with
  | true => match decide (c > 1) && decide (c < a) with
    | true => [c, a]
    | false => match decide (c > 1) && decide (c > a) with
      | true => [a, c]
      | false => [a]
  | false => match decide (c > 1) && decide (c > a) with
    | true => [c]
    | false => []
def tqT : Tbl := (29, trueC) :: (99, vals5C) :: (104, valsSC) :: (17, intsC) :: (36, targC) :: (53, syncC) :: (57, unitsC) :: (50, atC) :: (51, putC) :: (52, withoutC) :: (54, pidsPC) :: tkT
end Go.Proofs.Ytihajdkipkfiiaa

