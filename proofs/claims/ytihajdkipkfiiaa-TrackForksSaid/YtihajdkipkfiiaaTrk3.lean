/- slices.AppendSeq of a row. -/
import Derived.Test.YtihajdkipkfiiaaTrk2
import Derived.Test.YtihajdkipkfiiaaValI
import Derived.Test.YtihajdkipkfiiaaTk2Run
import Derived.Test.YtihajdkipkfiiaaTk3Run
namespace Go.Proofs.Ytihajdkipkfiiaa
open Go Go.RowKit
set_option linter.unusedVariables false
set_option linter.unusedSimpArgs false
set_option linter.unnecessarySimpa false
set_option maxHeartbeats 0

/-- slices.AppendSeq onto nothing, of a row's elements. -/
def appSeqC : Ctr := fun args hs N => match args with
  | [.raw (.slice none 0 0), .func (.func g) [] [.ptr lb bx 0]] => g = 99 ∧ ∃ (xs : List Int) (lv : Nat) (ao : Option Addr) (cap : Nat), nth hs lb = some ⟨.blk bx, .cells [.vec lv ao xs.length cap] 32⟩ ∧ nth hs lv = some ⟨.sl ao cap, .vecL 3 1 encI1 xs 0⟩ ∧ (Nat.beq lb lv = false ∧ xs.length ≤ 1000000) ∧
      ∀ ao' cap', N (snoc hs ⟨.sl ao' cap', .vecL 3 1 encI1 xs 0⟩) (.vec (lenN hs) ao' xs.length cap')
  | _ => False
/-- A row's elements, gathered by the law's own function. -/
def valsC : Ctr := fun args hs N => match args with
  | [.func (.func g) [] [.ptr lg c 0], .ptr lb bx 0] => g = 35 ∧ ∃ (xs : List Int) (lv : Nat) (ao : Option Addr) (cap : Nat), nth hs lg = some ⟨.blk c, .cells [.raw (.slice none 0 0)] 32⟩ ∧ nth hs lb = some ⟨.blk bx, .cells [.vec lv ao xs.length cap] 32⟩ ∧ nth hs lv = some ⟨.sl ao cap, .vecL 3 1 encI1 xs 0⟩ ∧ ((Nat.beq lg lb = false ∧ Nat.beq lg lv = false ∧ Nat.beq lb lv = false) ∧ xs.length ≤ 100) ∧
      ∀ ag cg, N (snoc (setN hs lg ⟨.blk c, .cells [.vec (lenN hs) ag xs.length cg] 32⟩) ⟨.sl ag cg, .vecL 3 1 encI1 xs 0⟩) (.tuple [])
  | _ => False
theorem Rep.pkex1 {W w : World} {F : List Ch} {b : Nat} {ι : Type} {f : ι → List Ent} (hr : Rep W F [Go.Proofs.Ytihajdkipkfiiaa.pk b [exP f]] w) : ∃ i, Rep W F (f i) w := by
  have h1 : Rep W F ([exP f] ++ []) w := hr.unpk
  obtain ⟨i, h2⟩ := Rep.unex (t := []) h1
  exact ⟨i, by simpa using h2⟩
theorem Rep.expk1 {W w : World} {F : List Ch} {b : Nat} {ι : Type} {f : ι → List Ent} (i : ι) (hr : Rep W F (f i) w) : Rep W F [Go.Proofs.Ytihajdkipkfiiaa.pk b [exP f]] w := by
  have h2 : Rep W F ([exP f] ++ []) w := Rep.ex i (by simpa using hr)
  exact Rep.pk b h2
def asI (_i : Nat) : Type := Option Addr × Nat
def asR (xs : List Int) (c : Nat) (t : List Ent) (i : Nat) : List Ent := [exP fun ac : asI i => ([⟨.blk c, .cells [.vec 1 ac.1 (xs.take i).length ac.2] 32⟩, ⟨.sl ac.1 ac.2, .vecL 3 1 encI1 (xs.take i) 0⟩] ++ t)]
section
variable {xs : List Int} {bx c D l : Nat} {ao : Option Addr} {cap : Nat} {rc : Loop} {T : List SV}
theorem as_V (hx : xs.length ≤ 1000000) (hrt : rc.tmps = (denL T).toArray) (hrp : rc.params = rfP (codeAt (bodyOf Try.f102) [1, 0, 1, 0])) (hra : rc.assign = rfA (codeAt (bodyOf Try.f102) [1, 0, 1, 0])) (hrb : rc.body = rfB (codeAt (bodyOf Try.f102) [1, 0, 1, 0]))
    (hl : ∀ v, lenN (setMany T [7] [v]) = 13 ∧ liveOk (setMany T [7] [v]) [(2, .ptr 0 c 0), (7, v)]) : OneI (.func (.yield l) #[] #[]) xs (asR xs c [dent D true, lp l rc .ready none]) (fun _ => False) := by
  intro i x hxi
  obtain ⟨hi, he⟩ := List.getElem?_eq_some_iff.1 hxi
  refine .inr ⟨l, rfl, YSpec.ex (ι := asI i) (hs' := fun ac => [⟨.blk c, .cells [.vec 1 ac.1 (xs.take i).length ac.2] 32⟩, ⟨.sl ac.1 ac.2, .vecL 3 1 encI1 (xs.take i) 0⟩, dent D true, lp l rc .ready none]) (fun W F w hr => Rep.pkex1 hr) ?_⟩
  rintro ⟨ag, cg⟩
  have hl2 : (xs.take i).length = i := by simp; omega
  have hl3 : xs.take (i + 1) = xs.take i ++ [x] := by rw [List.take_add_one, hxi]; rfl
  refine YSpec.up (YSpec.of_GR (p := 3) (T0 := T) (ps := [7]) rfl hrt hrp hra hrb rfl rfl fun W F => ?_)
  refine GR_live 13 [(2, .ptr 0 c 0), (7, .int .i64 x)] [⟨.blk c, .cells [.vec 1 ag (xs.take i).length cg] 32⟩, ⟨.sl ag cg, .vecL 3 1 encI1 (xs.take i) 0⟩, dent D true, lp l rc .ready none] (hl _).1 (hl _).2 (fun _ h => h) fun u => ?_
  refine runR_sound (kc := true) (ss := []) (Cs := []) (Y := noY) (K := fun _ _ => False) (fun _ _ h => h.elim) trivial (noY_ok _) hmT Ends.assign 60 _ _ ?_
  rw [as_asg]
  refine ⟨rfl, ?_⟩
  refine GR_live 13 [(2, .ptr 0 c 0), (5, .int .i64 x)] [⟨.blk c, .cells [.vec 1 ag (xs.take i).length cg] 32⟩, ⟨.sl ag cg, .vecL 3 1 encI1 (xs.take i) 0⟩, dent D true, lp l rc .busy none] rfl ⟨rfl, rfl, trivial⟩ (fun w hr => hr) fun u => ?_
  refine runR_sound (kc := true) (ss := []) (Cs := []) (Y := noY) (K := fun _ _ => False) (fun _ _ h => h.elim) trivial (noY_ok _) hmT (Ends.round (p := 3) (rc := rc) (j := none)) 600 _ _ ?_
  rw [as_body]
  have fin : ∀ (ao2 : Option Addr) (cap2 : Nat) (e4 : Ent), ∀ W F w, Rep W F [⟨.blk c, .cells [.vec 1 ao2 ((xs.take i).length + 1) cap2] 32⟩, ⟨.sl ao2 cap2, .vecL 3 1 encI1 (xs.take i ++ [x]) 0⟩, dent D true, lp l rc .ready none, e4] w → Rep W F [pk 0 (asR xs c [dent D true, lp l rc .ready none] (i + 1))] w := fun ao2 cap2 e4 W F w hr => by
    have h1 := Rep.pick (π := [0, 1, 2, 3]) (by decide) rfl hr
    refine Rep.expk1 (f := fun ac : asI (i + 1) => ([⟨.blk c, .cells [.vec 1 ac.1 (xs.take (i + 1)).length ac.2] 32⟩, ⟨.sl ac.1 ac.2, .vecL 3 1 encI1 (xs.take (i + 1)) 0⟩] ++ [dent D true, lp l rc .ready none])) (ao2, cap2) ?_
    have e : (xs.take (i + 1)).length = (xs.take i).length + 1 := by rw [hl3]; simp
    dsimp only
    rw [e, hl3]
    exact h1
  repeat' first
    | exact rfl
    | (refine ⟨[x], rfl, rfl, fun ao2 cap2 _ => ⟨⟨rfl, rfl, rfl, by omega⟩, ?_⟩⟩)
    | exact ⟨rfl, [pk 0 (asR xs c [dent D true, lp l rc .ready none] (i + 1))], .bool true, fin _ _ _, rfl, .inl ⟨rfl, rfl⟩⟩
    | apply And.intro
    | (refine fun b1 => ?_)
    | (show _ ≤ _; omega)
    | (show _ < _; omega)
    | fail
end
theorem as_spec {xs : List Int} {bx c D l : Nat} {ao : Option Addr} {cap : Nat} {rc : Loop} {T : List SV} (hx : xs.length ≤ 1000000) (hrt : rc.tmps = (denL T).toArray) (hrp : rc.params = rfP (codeAt (bodyOf Try.f102) [1, 0, 1, 0])) (hra : rc.assign = rfA (codeAt (bodyOf Try.f102) [1, 0, 1, 0])) (hrb : rc.body = rfB (codeAt (bodyOf Try.f102) [1, 0, 1, 0]))
    (hl : ∀ v, lenN (setMany T [7] [v]) = 13 ∧ liveOk (setMany T [7] [v]) [(2, .ptr 0 c 0), (7, v)]) : Spec Try.prog 99 [⟨.blk bx, .cells [.vec 1 ao xs.length cap] 32⟩, ⟨.sl ao cap, .vecL 3 1 encI1 xs 0⟩, ⟨.blk c, .cells [.raw (.slice none 0 0)] 32⟩, dent D true, lp l rc .ready none] [.func (.yield l) [] [], .ptr 0 bx 0] fun h _ =>
    ∃ ag cg, h = [⟨.blk bx, .cells [.vec 1 ao xs.length cap] 32⟩, ⟨.sl ao cap, .vecL 3 1 encI1 xs 0⟩, ⟨.blk c, .cells [.vec 3 ag xs.length cg] 32⟩, ⟨.sl ag cg, .vecL 3 1 encI1 xs 0⟩, dent D true, lp l rc .ready none] := by
  intro W F w hr
  have h1 : Rep W F [⟨.blk bx, .cells [.vec 1 ao xs.length cap] 32⟩, ⟨.sl ao cap, .vecL 3 1 encI1 xs 0⟩, pk 0 (asR xs c [dent D true, lp l rc .ready none] 0)] w := by
    have h2 := Rep.cellsEq (l := 2) (cs' := [.vec 1 none 0 0]) rfl (by rfl) hr
    have h3 := Rep.nilvec 3 (sz := 1) (enc := encI1) 0 (fun _ => rfl) h2
    refine Rep.pkAt 0 (p := [_, _]) (t := []) ?_
    have h5 := Rep.pick (π := [2, 5, 3, 4, 0, 1]) (by decide) rfl h3
    have h6 : Rep W F ([exP fun ac : asI 0 => ([⟨.blk c, .cells [.vec 1 ac.1 (xs.take 0).length ac.2] 32⟩, ⟨.sl ac.1 ac.2, .vecL 3 1 encI1 (xs.take 0) 0⟩] ++ [dent D true, lp l rc .ready none])] ++ [_, _]) w := Rep.ex (f := fun ac : asI 0 => ([⟨.blk c, .cells [.vec 1 ac.1 (xs.take 0).length ac.2] 32⟩, ⟨.sl ac.1 ac.2, .vecL 3 1 encI1 (xs.take 0) 0⟩] ++ [dent D true, lp l rc .ready none])) (none, 0) h5
    exact Rep.pick (π := [1, 2, 0]) (by decide) rfl h6
  refine Calls.mono (valI_iter (ao := ao) (cap := cap) (bx := bx) hx (as_V hx hrt hrp hra hrb hl) W F w h1) ?_
  rintro e w' ⟨h', r, ⟨rfl, hc⟩, rfl, hr'⟩
  rcases hc with rfl | ⟨R', hs, rfl⟩
  · have h7 := Rep.unpkAt (p := [_, _]) (t := []) hr'
    have h8 := Rep.pick (π := [2, 0, 1]) (by decide) rfl h7
    obtain ⟨⟨ag, cg⟩, h9⟩ := Rep.unex (t := [_, _]) h8
    refine ⟨_, .tuple [], ⟨ag, cg, rfl⟩, rfl, ?_⟩
    have h10 := Rep.pick (π := [4, 5, 0, 1, 2, 3]) (by decide) rfl h9
    dsimp only at h10
    rw [List.take_length] at h10
    exact Rep.cellsEq (l := 2) (cs' := [.vec 3 ag xs.length cg]) rfl (by rfl) h10
  · exact hs.elim
theorem appSeq_ok : CtrOk Try.prog 102 appSeqC := by
  intro args hs N h
  unfold appSeqC at h
  split at h
  case h_2 => exact h.elim
  rename_i g lb bx
  obtain ⟨rfl, xs, lv, ao, cap, h1, h2, ⟨hne, hx⟩, h⟩ := h
  refine Spec.at (hp := [⟨.blk bx, .cells [.vec lv ao xs.length cap] 32⟩, ⟨.sl ao cap, .vecL 3 1 encI1 xs 0⟩]) (args' := [.raw (.slice none 0 0), .func (.func 99) [] [.ptr 0 bx 0]]) (Post' := fun h' r => ∃ ag cg, h' = [⟨.blk bx, .cells [.vec lv ao xs.length cap] 32⟩, ⟨.sl ao cap, .vecL 3 1 encI1 xs 0⟩, ⟨.sl ag cg, .vecL 3 1 encI1 xs 0⟩] ∧ r = .vec 2 ag xs.length cg) [lb, lv] (by
    have : lb ≠ lv := fun e => by
      subst e
      simp at hne
    simpa [distinct] using this) (by simp [pickE, h1, h2]) ?_ rfl ?_
  · refine Spec.up (Spec.pre (hs' := [⟨.blk bx, .cells [.vec 1 ao xs.length cap] 32⟩, ⟨.sl ao cap, .vecL 3 1 encI1 xs 0⟩]) (fun W F w hr => Rep.cellsEq (l := 0) (cs' := [.vec 1 ao xs.length cap]) rfl (by rfl) hr) rfl ?_)
    refine Spec.of_GR 13 Try.func102 (c := bodyOf Try.f102) (by kernel_rfl) (by kernel_rfl) (Nat.le_of_ble_eq_true rfl) fun W F => ?_
    refine runR_sound (kc := true) (ss := []) (Cs := []) (fun _ _ h => h) trivial (noY_ok _) hmT Ends.fn 300 _ _ ?_
    rw [as_start]
    try refine ⟨rfl, ?_⟩
    intro c
    refine GR_rangeAt [] (bodyOf Try.f102) [1, 0, 1, 0] (f := 99) (first := []) (captured := [.ptr 0 bx 0]) (by kernel_rfl) (by kernel_rfl) (by kernel_rfl) fun D l rc hrt hrp hra hrb =>
      ⟨_, as_spec hx hrt hrp hra hrb fun v => ⟨rfl, rfl, rfl, trivial⟩, ?_⟩
    rintro h' v ⟨ag, cg, rfl⟩
    refine ⟨5, .ready, none, by decide, rfl, ?_⟩
    dsimp only
    refine GR_live 13 [(2, .ptr 0 c 0)] [⟨.blk c, .cells [.vec 1 ag xs.length cg] 32⟩, ⟨.sl ag cg, .vecL 3 1 encI1 xs 0⟩, dent D true, lp l rc .exhausted none, ⟨.blk bx, .cells [.vec 1 ao xs.length cap] 32⟩, ⟨.sl ao cap, .vecL 3 1 encI1 xs 0⟩] rfl ⟨rfl, trivial⟩ (fun w hr => ?_) fun u => ?_
    · have g1 := Rep.pick (π := [2, 3, 4, 5, 0, 1]) (by decide) rfl hr
      exact Rep.cellsEq (l := 0) (cs' := [.vec 1 ag xs.length cg]) rfl (by rfl) g1
    refine runR_sound (Cs := []) (Y := noY) (kc := true) (ss := []) (K := fun _ _ => False) (fun _ _ h => h.elim) trivial (noY_ok _) hmT (Ends.fnM D 2) 600 _ _ ?_
    rw [as_end]
    have fin : ∀ (e2 e3 : Ent), up (fun h' r => ∃ ag cg, h' = [⟨.blk bx, .cells [.vec lv ao xs.length cap] 32⟩, ⟨.sl ao cap, .vecL 3 1 encI1 xs 0⟩, ⟨.sl ag cg, .vecL 3 1 encI1 xs 0⟩] ∧ r = .vec 2 ag xs.length cg) [⟨.blk c, .cells [.vec 1 ag xs.length cg] 32⟩, ⟨.sl ag cg, .vecL 3 1 encI1 xs 0⟩, e2, e3, ⟨.blk bx, .cells [.vec 1 ao xs.length cap] 32⟩, ⟨.sl ao cap, .vecL 3 1 encI1 xs 0⟩] (.vec 1 ag xs.length cg) := fun e2 e3 => by
      refine ⟨_, .vec 2 ag xs.length cg, fun W F w hr => ?_, rfl, ag, cg, rfl, rfl⟩
      have g1 := Rep.pick (π := [4, 5, 1]) (by decide) rfl hr
      exact Rep.cellsEq (l := 0) (cs' := [.vec lv ao xs.length cap]) rfl (by rfl) g1
    repeat' first
      | exact rfl
      | exact fin _ _
      | apply And.intro
      | (show _ ≤ _; omega)
      | fail
  · rintro h' r ⟨ag, cg, rfl, rfl⟩
    refine ⟨by simp [lenN], .vec (lenN hs) ag xs.length cg, rfl, ?_⟩
    simpa [putBack, appE_eq, snoc_eq, setN_selfT h1, setN_selfT h2] using h ag cg
theorem tf_V {xs : List Int} {c : Nat} (hx : xs.length ≤ 100) : OneI (.func (.func 35) #[] (denL [.ptr 0 c 0]).toArray) xs (asR xs c []) (fun _ => False) := by
  intro i x hxi
  obtain ⟨hi, he⟩ := List.getElem?_eq_some_iff.1 hxi
  refine VSpec.fn (by kernel_rfl) (Spec.ex (ι := asI i) (hs' := fun ac => [⟨.blk c, .cells [.vec 1 ac.1 (xs.take i).length ac.2] 32⟩, ⟨.sl ac.1 ac.2, .vecL 3 1 encI1 (xs.take i) 0⟩]) (fun W F w hr => by
    obtain ⟨j, hj⟩ := Rep.pkex1 hr
    exact ⟨j, hj⟩) ?_)
  rintro ⟨ag, cg⟩
  have hl2 : (xs.take i).length = i := by simp; omega
  have hl3 : xs.take (i + 1) = xs.take i ++ [x] := by rw [List.take_add_one, hxi]; rfl
  refine Spec.up ?_
  show Spec Try.prog 35 [⟨.blk c, .cells [.vec 1 ag (xs.take i).length cg] 32⟩, ⟨.sl ag cg, .vecL 3 1 encI1 (xs.take i) 0⟩] [.int .i64 x, .ptr 0 c 0] _
  refine Spec.of_G 11 Try.func35 (c := bodyOf Try.f35) (by kernel_rfl) (by kernel_rfl) (Nat.le_of_ble_eq_true rfl) fun W F => ?_
  refine G_run (kc := true) (ss := []) (Cs := []) trivial hmT 600 ?_
  rw [tf1_run]
  have hlt : decide ((((xs.take i).length + 1 : Nat) : Int) < 200) = true := decide_eq_true (by omega)
  have fin : ∀ (ao2 : Option Addr) (cap2 : Nat) (e4 : Ent), up (fun h r => (h = [pk 0 (asR xs c [] (i + 1))] ∧ r = .bool true) ∨ ∃ R' : List Ent, False ∧ h = [pk 0 R'] ∧ r = .bool false) [⟨.blk c, .cells [.vec 1 ao2 ((xs.take i).length + 1) cap2] 32⟩, ⟨.sl ao2 cap2, .vecL 3 1 encI1 (xs.take i ++ [x]) 0⟩, e4] (.bool (decide ((((xs.take i).length + 1 : Nat) : Int) < 200))) := fun ao2 cap2 e4 => by
    rw [hlt]
    refine ⟨[pk 0 (asR xs c [] (i + 1))], .bool true, fun W F w hr => ?_, rfl, .inl ⟨rfl, rfl⟩⟩
    have h1 := Rep.pick (π := [0, 1]) (by decide) rfl hr
    refine Rep.expk1 (f := fun ac : asI (i + 1) => ([⟨.blk c, .cells [.vec 1 ac.1 (xs.take (i + 1)).length ac.2] 32⟩, ⟨.sl ac.1 ac.2, .vecL 3 1 encI1 (xs.take (i + 1)) 0⟩] ++ [])) (ao2, cap2) ?_
    have e : (xs.take (i + 1)).length = (xs.take i).length + 1 := by rw [hl3]; simp
    dsimp only
    rw [e, hl3]
    exact h1
  repeat' first
    | exact rfl
    | (refine ⟨[x], rfl, rfl, fun ao2 cap2 _ => ⟨⟨rfl, rfl, rfl, by omega⟩, ?_⟩⟩)
    | exact fin _ _ _
    | exact ⟨rfl, fin _ _ _⟩
    | apply And.intro
    | (refine fun b1 => ?_)
    | (show _ ≤ _; omega)
    | (show _ < _; omega)
    | fail
theorem vals_ok : CtrOk Try.prog 99 valsC := by
  intro args hs N h
  unfold valsC at h
  split at h
  case h_2 => exact h.elim
  rename_i g lg c lb bx
  obtain ⟨rfl, xs, lv, ao, cap, h0, h1, h2, ⟨⟨n1, n2, n3⟩, hx⟩, h⟩ := h
  have ne : ∀ {a b : Nat}, Nat.beq a b = false → a ≠ b := fun h e => by
    subst e
    simp at h
  refine Spec.at (hp := [⟨.blk c, .cells [.raw (.slice none 0 0)] 32⟩, ⟨.blk bx, .cells [.vec lv ao xs.length cap] 32⟩, ⟨.sl ao cap, .vecL 3 1 encI1 xs 0⟩]) (args' := [.func (.func 35) [] [.ptr 0 c 0], .ptr 1 bx 0]) (Post' := fun h' r => ∃ ag cg, h' = [⟨.blk c, .cells [.vec (lenN hs) ag xs.length cg] 32⟩, ⟨.blk bx, .cells [.vec lv ao xs.length cap] 32⟩, ⟨.sl ao cap, .vecL 3 1 encI1 xs 0⟩, ⟨.sl ag cg, .vecL 3 1 encI1 xs 0⟩] ∧ r = .tuple []) [lg, lb, lv] (by simpa [distinct] using ⟨⟨ne n1, ne n2⟩, ne n3⟩) (by simp [pickE, h0, h1, h2]) ?_ rfl ?_
  · intro W F w hr
    have g1 : Rep W F [⟨.blk bx, .cells [.vec 1 ao xs.length cap] 32⟩, ⟨.sl ao cap, .vecL 3 1 encI1 xs 0⟩, pk 0 (asR xs c [] 0)] w := by
      have g2 := Rep.cellsEq (l := 1) (cs' := [.vec 1 ao xs.length cap]) rfl (by rfl) hr
      have g3 := Rep.cellsEq (l := 0) (cs' := [.vec 1 none 0 0]) rfl (by rfl) g2
      have g4 := Rep.nilvec 3 (sz := 1) (enc := encI1) 0 (fun _ => rfl) g3
      refine Rep.pkAt 0 (p := [_, _]) (t := []) ?_
      have g5 := Rep.pick (π := [0, 3, 1, 2]) (by decide) rfl g4
      have g6 : Rep W F ([exP fun ac : asI 0 => ([⟨.blk c, .cells [.vec 1 ac.1 (xs.take 0).length ac.2] 32⟩, ⟨.sl ac.1 ac.2, .vecL 3 1 encI1 (xs.take 0) 0⟩] ++ [])] ++ [_, _]) w := Rep.ex (f := fun ac : asI 0 => ([⟨.blk c, .cells [.vec 1 ac.1 (xs.take 0).length ac.2] 32⟩, ⟨.sl ac.1 ac.2, .vecL 3 1 encI1 (xs.take 0) 0⟩] ++ [])) (none, 0) g5
      exact Rep.pick (π := [1, 2, 0]) (by decide) rfl g6
    refine Calls.mono (valI_iter (ao := ao) (cap := cap) (bx := bx) (by omega) (tf_V hx) W F w g1) ?_
    rintro e w' ⟨h', r, ⟨rfl, hc⟩, rfl, hr'⟩
    rcases hc with rfl | ⟨R', hs, rfl⟩
    · have h7 := Rep.unpkAt (p := [_, _]) (t := []) hr'
      have h8 := Rep.pick (π := [2, 0, 1]) (by decide) rfl h7
      obtain ⟨⟨ag, cg⟩, h9⟩ := Rep.unex (t := [_, _]) h8
      refine ⟨_, .tuple [], ⟨ag, cg, rfl, rfl⟩, rfl, ?_⟩
      have h10 := Rep.pick (π := [0, 2, 3, 1]) (by decide) rfl h9
      dsimp only at h10
      rw [List.take_length] at h10
      have h11 := Rep.cellsEq (l := 0) (cs' := [.vec (lenN hs) ag xs.length cg]) rfl (by rfl) h10
      exact Rep.cellsEq (l := 1) (cs' := [.vec lv ao xs.length cap]) rfl (by rfl) h11
    · exact hs.elim
  · rintro h' r ⟨ag, cg, rfl, rfl⟩
    refine ⟨by simp [lenN], .tuple [], rfl, ?_⟩
    have e : setN (setN (setN hs lg ⟨.blk c, .cells [.vec (lenN hs) ag xs.length cg] 32⟩) lb ⟨.blk bx, .cells [.vec lv ao xs.length cap] 32⟩) lv ⟨.sl ao cap, .vecL 3 1 encI1 xs 0⟩ = setN hs lg ⟨.blk c, .cells [.vec (lenN hs) ag xs.length cg] 32⟩ := by
      have e1 : nth (setN hs lg ⟨.blk c, .cells [.vec (lenN hs) ag xs.length cg] 32⟩) lb = some ⟨.blk bx, .cells [.vec lv ao xs.length cap] 32⟩ := by
        rw [nth_eq, setN_eq, List.getElem?_set, if_neg (ne n1), ← nth_eq]; exact h1
      have e2 : nth (setN hs lg ⟨.blk c, .cells [.vec (lenN hs) ag xs.length cg] 32⟩) lv = some ⟨.sl ao cap, .vecL 3 1 encI1 xs 0⟩ := by
        rw [nth_eq, setN_eq, List.getElem?_set, if_neg (ne n2), ← nth_eq]; exact h2
      rw [setN_selfT e1, setN_selfT e2]
    simpa [putBack, appE_eq, snoc_eq, e] using h ag cg
end Go.Proofs.Ytihajdkipkfiiaa
