import Derived.Test.YtkcmgcoppecfpaaMgLoopOnce7
import Derived.Test.YtkcmgcoppecfpaaMgLoopOnce5
set_option linter.unusedVariables false
set_option linter.unusedSimpArgs false
set_option linter.unnecessarySimpa false
set_option maxHeartbeats 0
set_option maxRecDepth 100000
/- Several entries as1 one; structures of several blocks, and their methods' contracts. -/
namespace Go.Proofs.Ytkcmgcoppecfpaa
open Go Go.RowKit
universe u

def packs (h : List Ent) (W : World) (c : Ch) : Prop := ∃ cs, HasAll W h cs ∧ cs.flatten.Perm c
def pk (b : Nat) (h : List Ent) : Ent := ⟨.blk b, .pred (packs h)⟩

theorem HasAll.split {W : World} : ∀ {h h' : List Ent} {cs : List Ch}, HasAll W (h ++ h') cs → ∃ c1 c2, cs = c1 ++ c2 ∧ HasAll W h c1 ∧ HasAll W h' c2
  | [], h', cs, ha => ⟨[], cs, rfl, rfl, ha⟩
  | e :: h, h', cs, ha => by
    obtain ⟨c, cs0, rfl, hc, ha⟩ := ha
    obtain ⟨c1, c2, rfl, h1, h2⟩ := ha.split
    exact ⟨c :: c1, c2, rfl, ⟨c, c1, rfl, hc, h1⟩, h2⟩

theorem HasAll.perm {W : World} {h h' : List Ent} (hp : h.Perm h') : ∀ {cs : List Ch}, HasAll W h cs → ∃ cs', HasAll W h' cs' ∧ cs.flatten.Perm cs'.flatten := by
  induction hp with
  | nil => exact fun ha => ⟨_, ha, List.Perm.refl _⟩
  | cons e _ ih =>
    rintro cs ⟨c, cs0, rfl, hc, ha⟩
    obtain ⟨cs', h1, h2⟩ := ih ha
    exact ⟨c :: cs', ⟨c, cs', rfl, hc, h1⟩, by simpa using h2.append_left c⟩
  | swap e e' l =>
    rintro cs ⟨c, cs0, rfl, hc, c', cs1, rfl, hc', ha⟩
    refine ⟨c' :: c :: cs1, ⟨c', _, rfl, hc', c, _, rfl, hc, ha⟩, ?_⟩
    simp only [List.flatten_cons]
    rw [← List.append_assoc, ← List.append_assoc]
    exact List.Perm.append_right _ List.perm_append_comm
  | trans _ _ ih1 ih2 =>
    intro cs ha
    obtain ⟨cs1, h1, h2⟩ := ih1 ha
    obtain ⟨cs2, h3, h4⟩ := ih2 h1
    exact ⟨cs2, h3, h2.trans h4⟩

section
variable {W w : World} {F : List Ch}

theorem Rep.perm {h h' : List Ent} (hp : h.Perm h') (hr : Rep W F h w) : Rep W F h' w := by
  obtain ⟨cs, ha, hH⟩ := hr
  obtain ⟨cs', h1, h2⟩ := ha.perm hp
  exact ⟨cs', h1, hH.perm (by simp only [List.flatten_append]; exact h2.append_right _)⟩

theorem Rep.of_has {h h' : List Ent} (hi : ∀ cs, HasAll W h cs → ∃ cs', HasAll W h' cs' ∧ cs.flatten.Perm cs'.flatten) (hr : Rep W F h w) : Rep W F h' w := by
  obtain ⟨cs, ha, hH⟩ := hr
  obtain ⟨cs', h1, h2⟩ := hi cs ha
  exact ⟨cs', h1, hH.perm (by simp only [List.flatten_append]; exact h2.append_right _)⟩

theorem Rep.unpk {b : Nat} {h t : List Ent} (hr : Rep W F (pk b h :: t) w) : Rep W F (h ++ t) w := by
  refine Rep.of_has ?_ hr
  rintro cs ⟨c, cs0, rfl, hc, ha⟩
  obtain ⟨c1, h1, h2⟩ := hc
  exact ⟨c1 ++ cs0, h1.append ha, by simp only [List.flatten_cons, List.flatten_append]; exact h2.symm.append_right _⟩

theorem Rep.pk (b : Nat) {h t : List Ent} (hr : Rep W F (h ++ t) w) : Rep W F (pk b h :: t) w := by
  refine Rep.of_has ?_ hr
  intro cs ha
  obtain ⟨c1, c2, rfl, h1, h2⟩ := ha.split
  exact ⟨c1.flatten :: c2, ⟨c1.flatten, c2, rfl, ⟨c1, h1, List.Perm.refl _⟩, h2⟩, by simp⟩

theorem Rep.dropR {h t : List Ent} (hr : Rep W F (h ++ t) w) : Rep W F h w := by
  obtain ⟨cs, ha, hH⟩ := hr
  obtain ⟨c1, c2, rfl, h1, h2⟩ := ha.split
  refine ⟨c1, h1, ?_⟩
  have : H W w (c2 ++ (c1 ++ F)) := hH.perm (by
    simp only [List.flatten_append]
    rw [← List.append_assoc]
    exact List.Perm.append_right _ List.perm_append_comm)
  exact this.dropL

theorem packs_perm {h h' : List Ent} (hp : h.Perm h') (c : Ch) (hc : packs h W c) : packs h' W c := by
  obtain ⟨cs, h1, h2⟩ := hc
  obtain ⟨cs', h3, h4⟩ := h1.perm hp
  exact ⟨cs', h3, h4.symm.trans h2⟩

theorem Rep.out {b : Nat} {e : Ent} {x y t : List Ent} (hr : Rep W F (Go.Proofs.Ytkcmgcoppecfpaa.pk b (x ++ e :: y) :: t) w) : Rep W F (e :: Go.Proofs.Ytkcmgcoppecfpaa.pk b (x ++ y) :: t) w := by
  have h1 := hr.unpk
  have h2 : Rep W F ((x ++ y) ++ (e :: t)) w := h1.perm (by
    simp only [List.append_assoc, List.cons_append]
    exact List.Perm.append_left x List.perm_middle.symm)
  have h3 := h2.pk b
  exact h3.perm (List.Perm.swap _ _ _)
theorem Rep.into {b : Nat} {e : Ent} {x y t : List Ent} (hr : Rep W F (e :: Go.Proofs.Ytkcmgcoppecfpaa.pk b (x ++ y) :: t) w) : Rep W F (Go.Proofs.Ytkcmgcoppecfpaa.pk b (x ++ e :: y) :: t) w := by
  have h1 : Rep W F (Go.Proofs.Ytkcmgcoppecfpaa.pk b (x ++ y) :: e :: t) w := hr.perm (List.Perm.swap _ _ _)
  have h2 := h1.unpk
  refine Rep.pk b (h2.perm ?_)
  simp only [List.append_assoc, List.cons_append]
  refine List.Perm.append_left x ?_
  exact List.perm_middle
theorem Rep.intoNew {b : Nat} {e : Ent} {x t : List Ent} (hr : Rep W F (e :: Go.Proofs.Ytkcmgcoppecfpaa.pk b x :: t) w) : Rep W F (Go.Proofs.Ytkcmgcoppecfpaa.pk b (x ++ [e]) :: t) w :=
  Rep.into (y := []) (by simpa using hr)

theorem Rep.know1 {h : List Ent} {l b : Nat} {β : Type} {kd : Option KK} {enc : β → SV} {es : List (Key × β)} (k0 : Key) (r0 : Option SV) (hl : nth h l = some ⟨.blk b, .mapL kd enc es⟩) (hk : keyKind k0 = kd) (hd : (mget es k0).map (fun v => den (enc v)) = r0.map den)
    (hr : Rep W F h w) : Rep W F (setN h l ⟨.blk b, .map1 kd enc es k0 r0⟩) w := by
  obtain ⟨c, L, hc, hH, hput⟩ := hr.get hl
  exact hput ⟨.blk b, .map1 kd enc es k0 r0⟩ c w ⟨⟨hk, hd⟩, hc⟩ hH
theorem Rep.forget1 {h : List Ent} {l b : Nat} {β : Type} {kd : Option KK} {enc : β → SV} {es : List (Key × β)} {k0 : Key} {r0 : Option SV} (hl : nth h l = some ⟨.blk b, .map1 kd enc es k0 r0⟩) (hr : Rep W F h w) : Rep W F (setN h l ⟨.blk b, .mapL kd enc es⟩) w := by
  obtain ⟨c, L, hc, hH, hput⟩ := hr.get hl
  exact hput ⟨.blk b, .mapL kd enc es⟩ c w hc.2 hH
theorem Rep.mapOf {h : List Ent} {l b : Nat} {β : Type} {kd : Option KK} (enc : β → SV) {es : List (Key × SV)} (es' : List (Key × β)) (hl : nth h l = some ⟨.blk b, .mapV kd es⟩) (hd : (es.map fun e => (e.1, den e.2)) = es'.map fun e => (e.1, den (enc e.2)))
    (hr : Rep W F h w) : Rep W F (setN h l ⟨.blk b, .mapL kd enc es'⟩) w := by
  obtain ⟨c, L, hc, hH, hput⟩ := hr.get hl
  obtain ⟨hk, ents, clock, h1, h0, h2⟩ := hc
  refine hput ⟨.blk b, .mapL kd enc es'⟩ c w ⟨?_, ents, clock, h1, h0, ?_⟩ hH
  · intro e he
    have : (e.1, den (enc e.2)) ∈ es.map fun e => (e.1, den e.2) := by rw [hd]; exact List.mem_map.2 ⟨e, he, rfl⟩
    obtain ⟨e0, h3, h4⟩ := List.mem_map.1 this
    simp only [Prod.mk.injEq] at h4
    rw [← h4.1]; exact hk e0 h3
  · rw [h2]
    have := congrArg (List.map fun x : Key × Value => (den x.1.sv, x.2)) hd
    simpa [List.map_map, Function.comp_def] using this
theorem Rep.mapCongr {h : List Ent} {l b : Nat} {β γ : Type} {kd : Option KK} {enc : β → SV} {es : List (Key × β)} (enc' : γ → SV) (es' : List (Key × γ)) (hl : nth h l = some ⟨.blk b, .mapL kd enc es⟩) (hk : ∀ e ∈ es', keyKind e.1 = kd)
    (hd : (es.map fun e => (den e.1.sv, den (enc e.2))) = es'.map fun e => (den e.1.sv, den (enc' e.2))) (hr : Rep W F h w) : Rep W F (setN h l ⟨.blk b, .mapL kd enc' es'⟩) w := by
  obtain ⟨c, L, hc, hH, hput⟩ := hr.get hl
  obtain ⟨_, ents, clock, h1, h0, h2⟩ := hc
  exact hput ⟨.blk b, .mapL kd enc' es'⟩ c w ⟨hk, ents, clock, h1, h0, h2.trans hd⟩ hH
theorem Rep.mapKinds {h : List Ent} {l b : Nat} {β : Type} {kd : Option KK} {enc : β → SV} {es : List (Key × β)} (hl : nth h l = some ⟨.blk b, .mapL kd enc es⟩) (hr : Rep W F h w) : ∀ e ∈ es, keyKind e.1 = kd := by
  obtain ⟨c, L, hc, hH, hput⟩ := hr.get hl
  exact hc.1
theorem Rep.outP {b : Nat} {e : Ent} {p x y t : List Ent} (hr : Rep W F (p ++ Go.Proofs.Ytkcmgcoppecfpaa.pk b (x ++ e :: y) :: t) w) : Rep W F (p ++ e :: Go.Proofs.Ytkcmgcoppecfpaa.pk b (x ++ y) :: t) w := by
  have h1 : Rep W F (Go.Proofs.Ytkcmgcoppecfpaa.pk b (x ++ e :: y) :: (p ++ t)) w := hr.perm List.perm_middle
  refine h1.out.perm ?_
  exact (List.Perm.cons _ List.perm_middle.symm).trans List.perm_middle.symm
theorem Rep.intoP {b : Nat} {e : Ent} {p x y t : List Ent} (hr : Rep W F (p ++ e :: Go.Proofs.Ytkcmgcoppecfpaa.pk b (x ++ y) :: t) w) : Rep W F (p ++ Go.Proofs.Ytkcmgcoppecfpaa.pk b (x ++ e :: y) :: t) w := by
  have h1 : Rep W F (e :: Go.Proofs.Ytkcmgcoppecfpaa.pk b (x ++ y) :: (p ++ t)) w := hr.perm (List.perm_middle.trans (List.Perm.cons _ List.perm_middle))
  exact h1.into.perm List.perm_middle.symm
theorem Rep.intoNewP {b : Nat} {e : Ent} {p x t : List Ent} (hr : Rep W F (p ++ e :: Go.Proofs.Ytkcmgcoppecfpaa.pk b x :: t) w) : Rep W F (p ++ Go.Proofs.Ytkcmgcoppecfpaa.pk b (x ++ [e]) :: t) w :=
  Rep.intoP (y := []) (by simpa using hr)
theorem Rep.unmapS {h : List Ent} {l b clk : Nat} {β : Type} {kd : Option KK} {enc : β → SV} {es : List (Key × (Nat × β))} (hl : nth h l = some ⟨.blk b, .mapS kd enc es clk⟩) (hr : Rep W F h w) : Rep W F (setN h l ⟨.blk b, .mapL kd enc (es.map fun e => (e.1, e.2.2))⟩) w := by
  obtain ⟨c, L, hc, hH, hput⟩ := hr.get hl
  obtain ⟨hk, ents, h1, h0, h2⟩ := hc
  refine hput ⟨.blk b, .mapL kd enc _⟩ c w ⟨?_, ents, clk, h1, h0, ?_⟩ hH
  · intro e he
    obtain ⟨e0, h3, rfl⟩ := List.mem_map.1 he
    exact hk e0 h3
  · have := congrArg (List.map fun x : Value × Nat × Value => (x.1, x.2.2)) h2
    simpa [List.map_map, Function.comp_def] using this
theorem Rep.arrOf {h : List Ent} {l b sz : Nat} {cs : List SV} {T : TypeId} {α : Type} (enc : α → List SV) (xs : List α) (d : α) (hl : nth h l = some ⟨.blk b, .cells cs T⟩) (hd : denL cs = flatV enc xs) (he : ∀ x, (enc x).length = sz)
    (hr : Rep W F h w) : Rep W F (setN h l ⟨.sl (some ⟨b, 0, none⟩) xs.length, .vecL T sz enc xs d⟩) w := by
  obtain ⟨c, L, hc, hH, hput⟩ := hr.get hl
  have hc : c = [(b, .cells (denL cs).toArray T (0, 0))] := hc
  subst hc
  refine hput ⟨.sl _ _, .vecL T sz enc xs d⟩ _ w ⟨⟨length_flatV he xs, Nat.le_refl _, .inr ⟨b, 0, _, rfl, rfl, ?_, ?_⟩⟩, he⟩ hH
  · rw [hd]; simp [length_flatV he xs]
  · rw [hd]; simp only [List.drop_zero]
    rw [← length_flatV he xs, List.take_length]
theorem Rep.vecOf {h : List Ent} {l cap sz n : Nat} {ao : Option Addr} {cs : List SV} {T : TypeId} {α : Type} (enc : α → List SV) (xs : List α) (d : α) (hl : nth h l = some ⟨.sl ao cap, .vecV T sz n cs⟩) (hn : n = xs.length) (hd : denL cs = flatV enc xs) (he : ∀ x, (enc x).length = sz)
    (hr : Rep W F h w) : Rep W F (setN h l ⟨.sl ao cap, .vecL T sz enc xs d⟩) w := by
  obtain ⟨c, L, hc, hH, hput⟩ := hr.get hl
  subst hn
  refine hput ⟨.sl ao cap, .vecL T sz enc xs d⟩ c w ⟨?_, he⟩ hH
  rw [← hd]; exact hc
end

/-! ### Methods -/

def pkA {σ : Type} (b : Nat) (S : σ → Nat → List Ent) (s : σ) : Ent := ⟨.blk b, .adt (fun s b => packs (S s b)) s⟩
section
variable {W w : World} {F : List Ch} {σ : Type} {S : σ → Nat → List Ent} {s : σ}
theorem Rep.unpkA {b : Nat} {t : List Ent} (hr : Rep W F (Go.Proofs.Ytkcmgcoppecfpaa.pkA b S s :: t) w) : Rep W F (S s b ++ t) w := Rep.unpk (b := b) hr
theorem Rep.pkA {b : Nat} {t : List Ent} (hr : Rep W F (S s b ++ t) w) : Rep W F (Go.Proofs.Ytkcmgcoppecfpaa.pkA b S s :: t) w := Rep.pk b hr
theorem Rep.unpkA1 {b : Nat} (hr : Rep W F [Go.Proofs.Ytkcmgcoppecfpaa.pkA b S s] w) : Rep W F (S s b) w := by have := hr.unpkA; simpa using this
theorem Rep.pkA1 {b : Nat} (hr : Rep W F (S s b) w) : Rep W F [Go.Proofs.Ytkcmgcoppecfpaa.pkA b S s] w := Rep.pkA (t := []) (by simpa using hr)
end

def AdtIs {σ' σ : Type} (p : σ' → Nat → World → Ch → Prop) (S : σ → Nat → List Ent) : Prop := HEq p fun s b => packs (S s b)
def adtC {σ : Type} (S : σ → Nat → List Ent) (m : σ → List SV → (σ → SV → Prop) → Prop) : Ctr := fun args hs N => match args with
  | .ptr l b 0 :: rest => match nth hs l with
    | some ⟨.blk b', .adt (σ := σ') p s⟩ => b' = b ∧ ∃ h : σ' = σ, AdtIs p S ∧ m (cast h s) rest fun s' r => N (setN hs l (pkA b S s')) r
    | _ => False
  | _ => False

theorem adt_ok {P : Program} {f : FuncId} {σ : Type} {S : σ → Nat → List Ent} {m : σ → List SV → (σ → SV → Prop) → Prop}
    (h : ∀ b s rest N, m s rest N → Spec P f (S s b) (.ptr 0 b 0 :: rest) fun h' r => ∃ s', (∀ W F w, Rep W F h' w → Rep W F (S s' b) w) ∧ N s' r) : CtrOk P f (adtC S m) := by
  intro args hs N hc
  unfold adtC at hc
  split at hc
  · rename_i l b rest
    split at hc
    · rename_i b' σ' p s hl
      obtain ⟨rfl, rfl, hp, hm⟩ := hc
      cases hp
      simp only [cast_eq] at hm
      refine Spec.at (hp := [pkA b' S s]) (args' := .ptr 0 b' 0 :: rest) (Post' := fun h' r => ∃ s', h' = [pkA b' S s'] ∧ N (setN hs l (pkA b' S s')) r) [l] (by simp [distinct]) (by simp [pickE, hl, pkA]) ?_ rfl ?_
      · intro W F w hr
        refine Calls.mono (h b' s rest _ hm W F w hr.unpkA1) ?_
        rintro e w' ⟨h', r, ⟨s', hi, hn⟩, rfl, hr'⟩
        exact ⟨[pkA b' S s'], r, ⟨s', rfl, hn⟩, rfl, Rep.pkA1 (hi _ _ _ hr')⟩
      · rintro h' r ⟨s', rfl, hn⟩
        refine ⟨Nat.le_refl _, r, rfl, ?_⟩
        simpa [putBack, appE_eq] using hn
    · exact hc.elim
  · exact hc.elim

theorem G_unpk {P : Program} {Q : Exit → Act → World → Prop} {W : World} {F : List Ch} {k : List Frm} {tm : List SV} {b : Nat} {h t : List Ent} (hg : G P Q W F k ⟨tm, h ++ t⟩) : G P Q W F k ⟨tm, pk b h :: t⟩ := fun w hr => hg w (Rep.unpk hr)

theorem G_heap {P : Program} {Q : Exit → Act → World → Prop} {W : World} {F : List Ch} {k : List Frm} {tm : List SV} {h h' : List Ent} (hh : ∀ w, Rep W F h w → Rep W F h' w) (hg : G P Q W F k ⟨tm, h'⟩) : G P Q W F k ⟨tm, h⟩ := fun w hr => hg w (hh w hr)

def exP {ι : Type} (f : ι → List Ent) : Ent := ⟨.blk 0, .pred fun W c => ∃ i, packs (f i) W c⟩
theorem Rep.unex {W w : World} {F : List Ch} {ι : Type} {f : ι → List Ent} {t : List Ent} (hr : Rep W F (exP f :: t) w) : ∃ i, Rep W F (f i ++ t) w := by
  obtain ⟨cs, ⟨c, cs0, rfl, ⟨i, hc⟩, ha⟩, hH⟩ := hr
  exact ⟨i, Rep.unpk (b := 0) ⟨c :: cs0, ⟨c, cs0, rfl, hc, ha⟩, hH⟩⟩
theorem Rep.ex {W w : World} {F : List Ch} {ι : Type} {f : ι → List Ent} {t : List Ent} (i : ι) (hr : Rep W F (f i ++ t) w) : Rep W F (exP f :: t) w := by
  obtain ⟨cs, ⟨c, cs0, rfl, hc, ha⟩, hH⟩ := Rep.pk 0 hr
  exact ⟨c :: cs0, ⟨c, cs0, rfl, ⟨i, hc⟩, ha⟩, hH⟩
theorem Spec.ex {P : Program} {f : FuncId} {hs : List Ent} {args : List SV} {Post : List Ent → SV → Prop} {ι : Type} {hs' : ι → List Ent} (hh : ∀ W F w, Rep W F hs w → ∃ i, Rep W F (hs' i) w) (h : ∀ i, Spec P f (hs' i) args Post) : Spec P f hs args Post := fun W F w hr => by
  obtain ⟨i, hi⟩ := hh W F w hr
  exact h i W F w hi
theorem YSpec.ex {P : Program} {l : Nat} {hs : List Ent} {args : List SV} {Post : List Ent → SV → Prop} {ι : Type} {hs' : ι → List Ent} (hh : ∀ W F w, Rep W F hs w → ∃ i, Rep W F (hs' i) w) (h : ∀ i, YSpec P l (hs' i) args Post) : YSpec P l hs args Post := fun W F w hr => by
  obtain ⟨i, hi⟩ := hh W F w hr
  exact h i W F w hi
theorem Rep.pkex {W w : World} {F : List Ch} {b : Nat} {ι : Type} {f : ι → List Ent} {e : Ent} (hr : Rep W F [e, Go.Proofs.Ytkcmgcoppecfpaa.pk b [exP f]] w) : ∃ i, Rep W F (e :: f i) w := by
  have h1 : Rep W F ([exP f] ++ [e]) w := (hr.perm (List.Perm.swap _ _ _)).unpk
  obtain ⟨i, h2⟩ := Rep.unex (t := [e]) h1
  exact ⟨i, h2.perm List.perm_append_comm⟩
theorem Rep.expk {W w : World} {F : List Ch} {b : Nat} {ι : Type} {f : ι → List Ent} {e : Ent} (i : ι) (hr : Rep W F (e :: f i) w) : Rep W F [e, Go.Proofs.Ytkcmgcoppecfpaa.pk b [exP f]] w := by
  have h1 : Rep W F (f i ++ [e]) w := hr.perm (List.perm_append_comm (l₁ := [e]))
  have h2 : Rep W F ([exP f] ++ [e]) w := Rep.ex i h1
  exact (Rep.pk b h2).perm (List.Perm.swap _ _ _)

/-! ### Function values -/
section
variable {P : Program} {v : Value} {hs hs' hp : List Ent} {args args' : List SV} {Post Post' : List Ent → SV → Prop}
theorem VSpec.conv (hh : ∀ W F w, Rep W F hs w → Rep W F hs' w) (ha : denL args = denL args') (h : VSpec P v hs' args' Post') (hp : ∀ h' r, Post' h' r → ∃ h'' r', (∀ W F w, Rep W F h' w → Rep W F h'' w) ∧ den r = den r' ∧ Post h'' r') : VSpec P v hs args Post := by
  rcases h with ⟨f, first, cap, q1, q2, q3⟩ | ⟨l, q1, q2⟩
  · refine .inl ⟨f, first, cap, q1, q2, fun W F w hr => ?_⟩
    rw [ha]
    refine Calls.mono (q3 W F w (hh W F w hr)) fun e w' hq => ?_
    obtain ⟨h', r, p1, p2, p3⟩ := hq
    obtain ⟨h'', r', g1, g2, g3⟩ := hp h' r p1
    exact ⟨h'', r', g3, by rw [p2, g2], g1 _ _ _ p3⟩
  · refine .inr ⟨l, q1, fun W F w hr => ?_⟩
    rw [ha]
    obtain ⟨fn, tmps, assign, body, y1, y2⟩ := q2 W F w (hh W F w hr)
    refine ⟨fn, tmps, assign, body, y1, RoundIn.mono y2 fun e w' hq => ?_⟩
    obtain ⟨h', r, p1, p2, p3⟩ := hq
    obtain ⟨h'', r', g1, g2, g3⟩ := hp h' r p1
    exact ⟨h'', r', g3, by rw [p2, g2], g1 _ _ _ p3⟩
theorem VSpec.at (π : List Nat) (hnd : distinct π = true) (hpk : pickE hs π = some hp) (h : VSpec P v hp args Post') (hpost : ∀ h' r, Post' h' r → lenN hp ≤ lenN h' ∧ Post (putBack π hs h') r) : VSpec P v hs args Post := by
  rcases h with ⟨f, first, cap, q1, q2, q3⟩ | ⟨l, q1, q2⟩
  · refine .inl ⟨f, first, cap, q1, q2, fun W F w hr => ?_⟩
    obtain ⟨F', hr', hback⟩ := hr.frame (distinct_nodup π hnd) hpk
    refine Calls.mono (q3 W F' w hr') fun e w' hq => ?_
    obtain ⟨h', r, p1, p2, p3⟩ := hq
    obtain ⟨g1, g2⟩ := hpost h' r p1
    rw [lenN_eq, lenN_eq] at g1
    exact ⟨_, r, g2, p2, hback h' w' g1 p3⟩
  · refine .inr ⟨l, q1, fun W F w hr => ?_⟩
    obtain ⟨F', hr', hback⟩ := hr.frame (distinct_nodup π hnd) hpk
    obtain ⟨fn, tmps, assign, body, y1, y2⟩ := q2 W F' w hr'
    refine ⟨fn, tmps, assign, body, y1, RoundIn.mono y2 fun e w' hq => ?_⟩
    obtain ⟨h', r, p1, p2, p3⟩ := hq
    obtain ⟨g1, g2⟩ := hpost h' r p1
    rw [lenN_eq, lenN_eq] at g1
    exact ⟨_, r, g2, p2, hback h' w' g1 p3⟩
theorem VSpec.fn {f : FuncId} {cap : List SV} (hok : callOk P f = true) (h : Spec P f hs (appS args cap) Post) : VSpec P (.func (.func f) #[] (denL cap).toArray) hs args Post := by
  refine .inl ⟨f, #[], (denL cap).toArray, rfl, hok, fun W F w hr => ?_⟩
  have := h W F w hr
  have e : (denL (appS args cap)).toArray = #[] ++ (denL args).toArray ++ (denL cap).toArray := by
    apply Array.ext'; simp [denL_appS]
  rw [e] at this
  exact this
end
theorem Rep.pkAt {W w : World} {F : List Ch} (b : Nat) {p h t : List Ent} (hr : Rep W F (p ++ (h ++ t)) w) : Rep W F (p ++ Go.Proofs.Ytkcmgcoppecfpaa.pk b h :: t) w := by
  have h1 : Rep W F (h ++ (p ++ t)) w := hr.perm (by
    rw [← List.append_assoc, ← List.append_assoc]
    exact List.Perm.append_right _ List.perm_append_comm)
  exact (Rep.pk b h1).perm List.perm_middle.symm
theorem Rep.unpkAt {W w : World} {F : List Ch} {b : Nat} {p h t : List Ent} (hr : Rep W F (p ++ Go.Proofs.Ytkcmgcoppecfpaa.pk b h :: t) w) : Rep W F (p ++ (h ++ t)) w := by
  have h1 : Rep W F (Go.Proofs.Ytkcmgcoppecfpaa.pk b h :: (p ++ t)) w := hr.perm List.perm_middle
  exact h1.unpk.perm (by
    rw [← List.append_assoc, ← List.append_assoc]
    exact List.Perm.append_right _ List.perm_append_comm)

/-! ### Maps as1 lists -/
section
variable {β : Type}
def keysOk (es : List (Key × β)) : Prop := es.Pairwise fun a b => keyEq a.1 b.1 = false
theorem kvEq_comm (a b : KV) : kvEq a b = kvEq b a := by
  cases a <;> cases b <;> simp only [kvEq]
  · rename_i a _ b; exact Bool.eq_iff_iff.2 ⟨fun h => by simpa using (by simpa using h : a = b).symm, fun h => by simpa using (by simpa using h : b = a).symm⟩
  · rename_i a b
    rw [Bool.eq_iff_iff, bytes_beq, bytes_beq]
    exact eq_comm
theorem kvsEq_comm : ∀ a b : List KV, kvsEq a b = kvsEq b a
  | [], [] => rfl
  | [], _ :: _ => rfl
  | _ :: _, [] => rfl
  | x :: a, y :: b => by simp only [kvsEq, kvEq_comm x y, kvsEq_comm a b]
theorem kvEq_trans {a b c : KV} (h : kvEq a b = true) : kvEq a c = kvEq b c := by
  cases a <;> cases b <;> cases c <;> simp only [kvEq, Bool.false_eq_true] at h ⊢
  · rw [beq_iff_eq] at h
    rw [h]
  · rw [(bytes_beq _ _).1 h]
theorem kvsEq_trans : ∀ {a b c : List KV}, kvsEq a b = true → kvsEq a c = kvsEq b c
  | [], [], _, _ => rfl
  | [], _ :: _, _, h => by cases h
  | _ :: _, [], _, h => by cases h
  | x :: a, y :: b, [], h => rfl
  | x :: a, y :: b, z :: c, h => by
    simp only [kvsEq, Bool.and_eq_true] at h ⊢
    rw [kvEq_trans h.1, kvsEq_trans h.2]
theorem keyEq_comm (a b : Key) : keyEq a b = keyEq b a := by
  cases a <;> cases b <;> simp only [keyEq]
  · rename_i a _ b; exact Bool.eq_iff_iff.2 ⟨fun h => by simpa using (by simpa using h : a = b).symm, fun h => by simpa using (by simpa using h : b = a).symm⟩
  · rename_i a b
    rw [Bool.eq_iff_iff, bytes_beq, bytes_beq]
    exact eq_comm
  · exact kvsEq_comm _ _
theorem mget_split {k : Key} {v : β} : ∀ {es : List (Key × β)}, mget es k = some v → ∃ x y k', es = x ++ (k', v) :: y ∧ keyEq k k' = true ∧ mget x k = none ∧ (∀ u, mset es k u = x ++ (k, u) :: y) ∧ mdel es k = x ++ y
  | [], h => by cases h
  | (k', v') :: es, h => by
    simp only [mget] at h
    cases hq : keyEq k k' with
    | true =>
      simp only [hq, Option.some.injEq] at h
      subst h
      exact ⟨[], es, k', rfl, hq, rfl, fun u => by simp [mset, hq], by simp [mdel, hq]⟩
    | false =>
      simp only [hq] at h
      obtain ⟨x, y, k'', rfl, h1, h2, h3, h4⟩ := mget_split h
      exact ⟨(k', v') :: x, y, k'', rfl, h1, by simp [mget, hq, h2], fun u => by simp [mset, hq, h3], by simp [mdel, hq, h4]⟩
theorem keyEq_s {n : ByteArray} {k : Key} (h : keyEq (.s n) k = true) : k = .s n := by
  cases k <;> simp only [keyEq, Bool.false_eq_true] at h
  rw [(bytes_beq _ _).1 h]
theorem mset_none {k : Key} {u : β} : ∀ {es : List (Key × β)}, mget es k = none → mset es k u = es ++ [(k, u)]
  | [], _ => rfl
  | (k', v') :: es, h => by
    simp only [mget] at h
    cases hq : keyEq k k' with
    | true => simp [hq] at h
    | false => simp only [hq] at h; simp [mset, hq, mset_none h]
theorem mdel_none {k : Key} : ∀ {es : List (Key × β)}, mget es k = none → mdel es k = es
  | [], _ => rfl
  | (k', v') :: es, h => by
    simp only [mget] at h
    cases hq : keyEq k k' with
    | true => simp [hq] at h
    | false => simp only [hq] at h; simp [mdel, hq, mdel_none h]
theorem keyEq_trans {a b c : Key} (h : keyEq a b = true) : keyEq a c = keyEq b c := by
  cases a <;> cases b <;> cases c <;> simp only [keyEq, Bool.false_eq_true] at h ⊢
  · rw [beq_iff_eq] at h
    rw [h]
  · rw [(bytes_beq _ _).1 h]
  · exact kvsEq_trans h
theorem mget_eqk {k k' : Key} (h : keyEq k k' = true) : ∀ (es : List (Key × β)), mget es k = mget es k'
  | [] => rfl
  | (k2, v) :: es => by simp only [mget, keyEq_trans (c := k2) h, mget_eqk h es]
theorem mget_mset_ne {k k' : Key} {u : β} (hq : keyEq k' k = false) : ∀ es : List (Key × β), mget (mset es k u) k' = mget es k'
  | [] => by simp [mset, mget, hq]
  | (k2, v) :: es => by
    simp only [mset]
    cases h2 : keyEq k k2 with
    | true =>
      have : keyEq k' k2 = false := by
        rw [keyEq_comm, ← keyEq_trans h2, keyEq_comm]; exact hq
      simp [mget, hq, this]
    | false => simp only [mget, mget_mset_ne hq es]
theorem mget_mdel_ne {k k' : Key} (hq : keyEq k' k = false) : ∀ es : List (Key × β), mget (mdel es k) k' = mget es k'
  | [] => rfl
  | (k2, v) :: es => by
    simp only [mdel]
    cases h2 : keyEq k k2 with
    | true =>
      have : keyEq k' k2 = false := by
        rw [keyEq_comm, ← keyEq_trans h2, keyEq_comm]; exact hq
      simp [mget, this]
    | false => simp only [mget, mget_mdel_ne hq es]
theorem mget_mem {k : Key} {v : β} {es : List (Key × β)} (h : mget es k = some v) : ∃ k', (k', v) ∈ es ∧ keyEq k k' = true := by
  obtain ⟨x, y, k', rfl, h1, _⟩ := mget_split h
  exact ⟨k', by simp, h1⟩
theorem mget_of_mem {k : Key} {v : β} : ∀ {es : List (Key × β)}, keysOk es → (k, v) ∈ es → mget es k = some v
  | (k', v') :: es, hk, h => by
    have hk := List.pairwise_cons.1 hk
    rcases List.mem_cons.1 h with h | h
    · cases h; simp [mget, keyEq_self]
    · have : keyEq k k' = false := by rw [keyEq_comm]; exact hk.1 _ h
      simp only [mget, this]
      exact mget_of_mem hk.2 h
theorem mget_none_iff {k : Key} : ∀ {es : List (Key × β)}, mget es k = none ↔ ∀ e ∈ es, keyEq k e.1 = false
  | [] => by simp [mget]
  | (k', v') :: es => by
    simp only [mget, List.mem_cons, forall_eq_or_imp]
    cases hq : keyEq k k' with
    | true => simp
    | false => simpa using mget_none_iff
theorem keysOk_mset {k : Key} {u : β} {es : List (Key × β)} (h : keysOk es) : keysOk (mset es k u) := by
  cases hg : mget es k with
  | none =>
    rw [mset_none hg]
    refine List.pairwise_append.2 ⟨h, by simp, fun a ha b hb => ?_⟩
    simp only [List.mem_singleton] at hb
    subst hb
    rw [keyEq_comm]
    exact mget_none_iff.1 hg a ha
  | some v =>
    obtain ⟨x, y, k', rfl, h1, _, h3, _⟩ := mget_split hg
    rw [h3]
    simp only [keysOk, List.pairwise_append, List.pairwise_cons] at h ⊢
    refine ⟨h.1, ⟨fun b hb => by rw [keyEq_trans h1]; exact h.2.1.1 b hb, h.2.1.2⟩, fun a ha b hb => ?_⟩
    rcases List.mem_cons.1 hb with rfl | hb
    · rw [keyEq_comm]; rw [keyEq_trans h1, keyEq_comm]
      exact h.2.2 a ha _ List.mem_cons_self
    · exact h.2.2 a ha b (List.mem_cons_of_mem _ hb)
theorem keysOk_mdel {k : Key} {es : List (Key × β)} (h : keysOk es) : keysOk (mdel es k) := by
  cases hg : mget es k with
  | none => rw [mdel_none hg]; exact h
  | some v =>
    obtain ⟨x, y, k', rfl, _, _, _, h4⟩ := mget_split hg
    rw [h4]
    exact List.Pairwise.sublist (by simp) h
theorem mget_mdel {k : Key} {es : List (Key × β)} (h : keysOk es) : mget (mdel es k) k = none := by
  cases hg : mget es k with
  | none => rw [mdel_none hg]; exact hg
  | some v =>
    obtain ⟨x, y, k', rfl, h1, _, _, h4⟩ := mget_split hg
    rw [h4, mget_none_iff]
    intro e he
    simp only [keysOk, List.pairwise_append, List.pairwise_cons] at h
    rw [keyEq_trans h1]
    rcases List.mem_append.1 he with he | he
    · rw [keyEq_comm]; exact h.2.2 e he _ List.mem_cons_self
    · exact h.2.1.1 e he
end
end Go.Proofs.Ytkcmgcoppecfpaa

/- The first of a row of which something holds; what is left of it. -/
namespace Go.Proofs.Ytkcmgcoppecfpaa
open Go Go.RowKit
universe u
def dIx {α : Type} (p : α → Bool) : List α → Int → Int
  | [], _ => -1
  | x :: l, i => match p x with
    | true => i
    | false => dIx p l (i + 1)
theorem getD_ltD {α : Type} (xs : List α) (d : α) (i : Nat) (h : i < xs.length) : xs.getD i d = xs[i] := by simp [List.getD, h]
theorem dIx_drop {α : Type} (p : α → Bool) (d : α) (xs : List α) (i : Nat) (h : i < xs.length) : dIx p (xs.drop i) i = match p (xs.getD i d) with | true => (i : Int) | false => dIx p (xs.drop (i + 1)) ((i + 1 : Nat) : Int) := by
  have e : xs.drop i = xs.getD i d :: xs.drop (i + 1) := by
    rw [List.drop_eq_getElem_cons h, getD_ltD _ _ _ h]
  rw [e]
  simp only [dIx]
  cases p (xs.getD i d) <;> simp
theorem dIx_lt {α : Type} (p : α → Bool) : ∀ (xs : List α) (i : Int), dIx p xs i = -1 ∨ i ≤ dIx p xs i ∧ dIx p xs i < i + xs.length
  | [], i => .inl rfl
  | x :: l, i => by
    simp only [dIx]
    cases p x with
    | true => right; simp only [List.length_cons]; omega
    | false =>
      rcases dIx_lt p l (i + 1) with h | h
      · exact .inl h
      · right; simp only [List.length_cons]; omega
theorem dIx_none {α : Type} (p : α → Bool) : ∀ (xs : List α) (i : Int), 0 ≤ i → (dIx p xs i = -1 ↔ ∀ x ∈ xs, p x = false)
  | [], i, _ => by simp [dIx]
  | x :: l, i, h => by
    simp only [dIx]
    cases hp : p x with
    | true => simp [hp]; omega
    | false => simp [hp, dIx_none p l (i + 1) (by omega)]
theorem dIx_first {α : Type} (p : α → Bool) (d : α) : ∀ (xs : List α) (i : Int) (k : Nat), dIx p xs i = i + k → 0 ≤ i → k < xs.length ∧ p (xs.getD k d) = true ∧ ∀ x ∈ xs.take k, p x = false
  | [], i, k, h, h0 => by simp [dIx] at h; omega
  | x :: l, i, k, h, h0 => by
    simp only [dIx] at h
    cases hp : p x with
    | true =>
      rw [hp] at h
      have : k = 0 := by simp only at h; omega
      subst this; simp [hp]
    | false =>
      rw [hp] at h
      simp only at h
      cases k with
      | zero =>
        rcases dIx_lt p l (i + 1) with h1 | h1 <;> omega
      | succ k =>
        obtain ⟨h1, h2, h3⟩ := dIx_first p d l (i + 1) k (by rw [h]; push_cast; omega) (by omega)
        refine ⟨by simpa using h1, by simpa using h2, fun y hy => ?_⟩
        rw [List.take_succ_cons, List.mem_cons] at hy
        rcases hy with rfl | hy
        · exact hp
        · exact h3 y hy


theorem filter_takeD {α : Type} (q : α → Bool) (d : α) (xs : List α) (j : Nat) (h : j < xs.length) : (xs.take (j + 1)).filter q = (xs.take j).filter q ++ if q (xs.getD j d) then [xs.getD j d] else [] := by
  rw [List.take_succ_eq_append_getElem h, List.filter_append, getD_ltD _ _ _ h]
  congr 1
  simp [List.filter_cons]


theorem setN_selfD {α : Type u} {l : Nat} {v : α} : ∀ {h : List α}, nth h l = some v → setN h l v = h := by
  induction l with
  | zero => intro h hl; cases h <;> simp [nth, setN] at hl ⊢; exact hl.symm
  | succ l ih => intro h hl; cases h <;> simp [nth, setN] at hl ⊢; exact ih hl
theorem ne_of_beqD {a b : Nat} (h : Nat.beq a b = false) : a ≠ b := fun e => by subst e; simp at h
end Go.Proofs.Ytkcmgcoppecfpaa

/- queue.Queue[reveille/api.Event]: what is dropped. -/
namespace Go.Proofs.Ytkcmgcoppecfpaa
open Go Go.RowKit

def qEpred (un : ByteArray) : EV → Bool := fun x : EV => sEq x.unit un
def qDE0 : Tbl := [(117, inl Try.prog [(86, inl Try.prog [] true Try.f86 100)] true Try.f117 200)]
abbrev onDel (hs : List Ent) (l lm bm : Nat) (ao : Option Addr) (n cap : Nat) (Φ : List (EV × Int) → Nat → Nat → ByteArray → Prop) : Prop :=
  ∃ (xs : List (EV × Int)) (lr br : Nat) (un : ByteArray), nth hs l = some ⟨.sl ao cap, .vecL 214 6 encItE xs ((⟨0, 0, 0, ByteArray.empty, ByteArray.empty⟩ : EV), (0 : Int))⟩ ∧ nth hs lm = some ⟨.blk bm, .cells [.func (.func 86) [] [.ptr lr br 0]] 160⟩ ∧ nth hs lr = some ⟨.blk br, .cells [.str un] 9⟩ ∧ (distinct [l, lm, lr] = true ∧ n = xs.length ∧ xs.length ≤ 1000000000) ∧ Φ xs lr br un
def ixfEC : Ctr := fun args hs N => match args with
  | [.vec l ao n cap, .func (.func g) [] [.ptr lm bm 0]] => g = 117 ∧ onDel hs l lm bm ao n cap fun xs lr br un => N hs (.int .i64 (dIx (fun x => qEpred un x.1) xs 0))
  | _ => False
def dlfEC : Ctr := fun args hs N => match args with
  | [.vec l ao n cap, .func (.func g) [] [.ptr lm bm 0]] => g = 117 ∧ onDel hs l lm bm ao n cap fun xs lr br un => N (setN hs l ⟨.sl ao cap, .vecL 214 6 encItE (xs.filter fun x => !qEpred un x.1) ((⟨0, 0, 0, ByteArray.empty, ByteArray.empty⟩ : EV), (0 : Int))⟩) (.vec l ao (xs.filter fun x => !qEpred un x.1).length cap)
  | _ => False
def qDE1 : Tbl := (141, ixfEC) :: qDE0
end Go.Proofs.Ytkcmgcoppecfpaa

/- queue.Queue[reveille/api.Event]: as1 rows in order. -/
namespace Go.Proofs.Ytkcmgcoppecfpaa
open Go Go.RowKit

structure QUE where
  (l : List EV) (n : Nat)
abbrev quFE (q : Nat) (ao : Option Addr) (cap : Nat) (xs : List (EV × Int)) (n : Nat) : List Ent := [⟨.blk q, .cells [.vec 1 ao xs.length cap, .func (.func 79) [] [], .int .i64 (n : Int)] 209⟩, ⟨.sl ao cap, .vecL 214 6 encItE xs ((⟨0, 0, 0, ByteArray.empty, ByteArray.empty⟩ : EV), (0 : Int))⟩]
def quIE (s : QUE) : Type := { i : (Option Addr × Nat) × List (EV × Int) // QRep (fun a b : EV => decide (a.kind < b.kind)) ((⟨0, 0, 0, ByteArray.empty, ByteArray.empty⟩ : EV), (0 : Int)) i.2 s.l s.n }
def quEE (s : QUE) (q : Nat) : List Ent := [exP fun i : quIE s => quFE q i.1.1.1 i.1.1.2 i.1.2 s.n]
structure qOkE (s : QUE) : Prop where
  n : s.n ≤ 1000000
  l : s.l.length ≤ 1000000
def qnewEC : Ctr := fun args hs N => match args with
  | [.func (.func g) [] []] => g = 79 ∧ ∀ q, N (snoc hs (pkA q quEE ⟨[], 0⟩)) (.ptr (lenN hs) q 0)
  | _ => False
def qpushEM (s : QUE) (args : List SV) (N : QUE → SV → Prop) : Prop := match args with
  | [.agg cs] => qOkE s ∧ ∃ v, encEV v = cs ∧ N ⟨insB (fun a b : EV => decide (a.kind < b.kind)) v s.l, s.n + 1⟩ (.tuple [])
  | _ => False
def qpopEM (s : QUE) (args : List SV) (N : QUE → SV → Prop) : Prop := match args with
  | [] => qOkE s ∧ N ⟨s.l.tail, s.n⟩ (.tuple [.agg (encEV (s.l.headD EV.zero)), .int .i64 (match s.l with | [] => 130 | _ :: _ => 0)])
  | _ => False
def qpeekEM (s : QUE) (args : List SV) (N : QUE → SV → Prop) : Prop := match args with
  | [] => qOkE s ∧ N s (.tuple [.agg (encEV (s.l.headD EV.zero)), .bool (match s.l with | [] => false | _ :: _ => true)])
  | _ => False
def qlenEM (s : QUE) (args : List SV) (N : QUE → SV → Prop) : Prop := match args with
  | [] => qOkE s ∧ N s (.int .i64 (s.l.length : Int))
  | _ => False
def qdropEC : Ctr := fun args hs N => match args with
  | [.ptr l b 0, .func (.func g) [] [.ptr lr br 0]] => g = 86 ∧ match nth hs l with
    | some ⟨.blk b', .adt (σ := σ') p s⟩ => b' = b ∧ ∃ h : σ' = QUE, AdtIs p quEE ∧ ∃ (un : ByteArray), nth hs lr = some ⟨.blk br, .cells [.str un] 9⟩ ∧ Nat.beq l lr = false ∧ qOkE (cast h s) ∧
        N (setN hs l (pkA b quEE ⟨(cast h s).l.filter (fun x => !qEpred un x), (cast h s).n⟩)) (.int .i64 (((cast h s).l.length : Int) - (((cast h s).l.filter (fun x => !qEpred un x)).length : Int)))
    | _ => False
  | _ => False
def qTE3 : Tbl := [(114, hpushC 214 6 encItE ((⟨0, 0, 0, ByteArray.empty, ByteArray.empty⟩ : EV), (0 : Int)) 212 64 RE), (115, hpopC 214 6 encItE ((⟨0, 0, 0, ByteArray.empty, ByteArray.empty⟩ : EV), (0 : Int)) 212 RE), (84, inl Try.prog [] true Try.f84 300)]
def qTE4 : Tbl := [(84, inl Try.prog [] true Try.f84 300), (116, dlfEC), (118, hinitC 214 6 encItE ((⟨0, 0, 0, ByteArray.empty, ByteArray.empty⟩ : EV), (0 : Int)) 212 RE)]
def qTE5 : Tbl := [(78, qnewEC), (82, adtC quEE qpushEM), (83, adtC quEE qpopEM), (84, adtC quEE qlenEM), (85, qdropEC)]
end Go.Proofs.Ytkcmgcoppecfpaa

namespace Go.Proofs.Ytkcmgcoppecfpaa
open Go Go.RowKit

theorem qEix_start (K : List Frm → Sy → Prop) (N : List Ent → SV → Prop) (ao : Option Addr) (cap : Nat) (xs : List (EV × Int)) (bm br : Nat) (un : ByteArray) : (run Try.prog qDE0 false [] K (retP Try.prog Try.f141.results.toList N) 300 [.code (bodyOf Try.f141)] ⟨padTo 19 [.vec 0 ao xs.length cap, .func (.func 117) [] [.ptr 1 bm 0]], [⟨.sl ao cap, .vecL 214 6 encItE xs ((⟨0, 0, 0, ByteArray.empty, ByteArray.empty⟩ : EV), (0 : Int))⟩, ⟨.blk bm, .cells [.func (.func 86) [] [.ptr 2 br 0]] 160⟩, ⟨.blk br, .cells [.str un] 9⟩]⟩) = (
K (frm [] (bodyOf Try.f141) [1, 0, 1, 0] [])
 (Sy.mk (SV.vec 0 ao (List.length xs) cap :: (SV.func (Fn.func (117 : FuncId)) [] [SV.ptr 1 bm 0] :: (SV.raw (Value.tuple #[]) :: (SV.raw (Value.tuple #[]) :: (SV.int IntKind.i64 (0 : Int) :: (SV.raw (Value.tuple #[]) :: (SV.vec 0 ao (List.length xs) cap :: (SV.int IntKind.i64 (↑(List.length xs) : Int) :: (SV.int IntKind.i64 (0 : Int) :: (rawE [] 10))))))))))
  [Ent.mk (Loc.sl ao cap) (SObj.vecL (214 : TypeId) 6 encItE xs (EV.mk (0 : Int) (0 : Int) (0 : Int) ByteArray.empty ByteArray.empty, (0 : Int))),
   Ent.mk (Loc.blk bm) (SObj.cells [SV.func (Fn.func (86 : FuncId)) [] [SV.ptr 2 br 0]] (160 : TypeId)), Ent.mk (Loc.blk br) (SObj.cells [SV.str un] (9 : TypeId))])) := by kernel_rfl


theorem qEix_body (K : List Frm → Sy → Prop) (N : List Ent → SV → Prop) (J : Act → World → Prop) (ao : Option Addr) (cap : Nat) (xs : List (EV × Int)) (bm br : Nat) (un : ByteArray) (i : Nat) (u : Nat → Value) : (run Try.prog qDE0 false [] K (retP Try.prog Try.f141.results.toList N) 900 (frm [J] (bodyOf Try.f141) [1, 0, 1, 0, 0] []) ⟨mkT u 19 0 [(0, .vec 0 ao xs.length cap), (1, .func (.func 117) [] [.ptr 1 bm 0]), (7, .int .i64 (xs.length : Int)), (8, .int .i64 (i : Int))], [⟨.sl ao cap, .vecL 214 6 encItE xs ((⟨0, 0, 0, ByteArray.empty, ByteArray.empty⟩ : EV), (0 : Int))⟩, ⟨.blk bm, .cells [.func (.func 86) [] [.ptr 2 br 0]] 160⟩, ⟨.blk br, .cells [.str un] 9⟩]⟩) = (
match decide ((↑i : Int) < (↑(List.length xs) : Int)) with
| true =>
 (ao = ao ∧ cap = cap ∧ List.length xs = List.length xs ∧ (0 : Int) ≤ (↑i : Int) ∧ (↑i : Int) < (↑(List.length xs) : Int)) ∧
  (Addr.blkD ao = Addr.blkD ao ∧ Addr.offD ao = Addr.offD ao ∧ 6 = 6 ∧ Int.toNat (↑i : Int) < List.length xs ∧ 6 = 6) ∧
   true = true ∧
    true = true ∧
     ∀ (b : Nat),
      bm = bm ∧
       (b = b ∧ 5 = 5) ∧
        true = true ∧
         true = true ∧
          ∀ (b_1 : Nat),
           b_1 = b_1 ∧
            br = br ∧
             match sEq (List.getD xs (Int.toNat (↑i : Int)) (EV.mk (0 : Int) (0 : Int) (0 : Int) ByteArray.empty ByteArray.empty, (0 : Int))).1.4 un with
             | true =>
              N
               [Ent.mk (Loc.sl ao cap) (SObj.vecL (214 : TypeId) 6 encItE xs (EV.mk (0 : Int) (0 : Int) (0 : Int) ByteArray.empty ByteArray.empty, (0 : Int))),
                Ent.mk (Loc.blk bm) (SObj.cells [SV.func (Fn.func (86 : FuncId)) [] [SV.ptr 2 br 0]] (160 : TypeId)),
                Ent.mk (Loc.blk br) (SObj.cells [SV.str un] (9 : TypeId)),
                Ent.mk (Loc.blk b)
                 (SObj.cells
                  [SV.int IntKind.i64 (List.getD xs (Int.toNat (↑i : Int)) (EV.mk (0 : Int) (0 : Int) (0 : Int) ByteArray.empty ByteArray.empty, (0 : Int))).1.1,
                   SV.int IntKind.i64 (List.getD xs (Int.toNat (↑i : Int)) (EV.mk (0 : Int) (0 : Int) (0 : Int) ByteArray.empty ByteArray.empty, (0 : Int))).1.2,
                   SV.int IntKind.i64 (List.getD xs (Int.toNat (↑i : Int)) (EV.mk (0 : Int) (0 : Int) (0 : Int) ByteArray.empty ByteArray.empty, (0 : Int))).1.3,
                   SV.str (List.getD xs (Int.toNat (↑i : Int)) (EV.mk (0 : Int) (0 : Int) (0 : Int) ByteArray.empty ByteArray.empty, (0 : Int))).1.4,
                   SV.str (List.getD xs (Int.toNat (↑i : Int)) (EV.mk (0 : Int) (0 : Int) (0 : Int) ByteArray.empty ByteArray.empty, (0 : Int))).1.5,
                   SV.int IntKind.i64 (List.getD xs (Int.toNat (↑i : Int)) (EV.mk (0 : Int) (0 : Int) (0 : Int) ByteArray.empty ByteArray.empty, (0 : Int))).2]
                  214),
                Ent.mk (Loc.blk b_1)
                 (SObj.cells
                  [SV.int IntKind.i64 (List.getD xs (Int.toNat (↑i : Int)) (EV.mk (0 : Int) (0 : Int) (0 : Int) ByteArray.empty ByteArray.empty, (0 : Int))).1.1,
                   SV.int IntKind.i64 (List.getD xs (Int.toNat (↑i : Int)) (EV.mk (0 : Int) (0 : Int) (0 : Int) ByteArray.empty ByteArray.empty, (0 : Int))).1.2,
                   SV.int IntKind.i64 (List.getD xs (Int.toNat (↑i : Int)) (EV.mk (0 : Int) (0 : Int) (0 : Int) ByteArray.empty ByteArray.empty, (0 : Int))).1.3,
                   SV.str (List.getD xs (Int.toNat (↑i : Int)) (EV.mk (0 : Int) (0 : Int) (0 : Int) ByteArray.empty ByteArray.empty, (0 : Int))).1.4,
                   SV.str (List.getD xs (Int.toNat (↑i : Int)) (EV.mk (0 : Int) (0 : Int) (0 : Int) ByteArray.empty ByteArray.empty, (0 : Int))).1.5]
                  79)]
               (SV.int IntKind.i64 (↑i : Int))
             | false =>
              K (Frm.loop J :: Frm.blk 0 :: frm [] (bodyOf Try.f141) [1, 1] [])
               (Sy.mk (SV.vec 0 ao (List.length xs) cap :: (SV.func (Fn.func (117 : FuncId)) [] [SV.ptr 1 bm 0] :: (rawR u 2 (SV.int IntKind.i64 (↑i : Int) :: (SV.raw (u 6) :: (SV.int IntKind.i64 (↑(List.length xs) : Int) :: (SV.int IntKind.i64 (IntKind.wrap IntKind.i64 ((↑i : Int) + (1 : Int))) :: (SV.bool true :: (SV.int IntKind.i64 (↑i : Int) :: (SV.func (Fn.func (117 : FuncId)) [] [SV.ptr 1 bm 0] :: (SV.vec 0 ao (List.length xs) cap :: (SV.int IntKind.i64 (↑i : Int) :: (SV.eptr 0 (Addr.blkD ao) (Addr.offD ao) 6 (Int.toNat (↑i : Int)) 0 :: (SV.agg [SV.int IntKind.i64 (List.getD xs (Int.toNat (↑i : Int)) (EV.mk (0 : Int) (0 : Int) (0 : Int) ByteArray.empty ByteArray.empty, (0 : Int))).1.1, SV.int IntKind.i64 (List.getD xs (Int.toNat (↑i : Int)) (EV.mk (0 : Int) (0 : Int) (0 : Int) ByteArray.empty ByteArray.empty, (0 : Int))).1.2, SV.int IntKind.i64 (List.getD xs (Int.toNat (↑i : Int)) (EV.mk (0 : Int) (0 : Int) (0 : Int) ByteArray.empty ByteArray.empty, (0 : Int))).1.3, SV.str (List.getD xs (Int.toNat (↑i : Int)) (EV.mk (0 : Int) (0 : Int) (0 : Int) ByteArray.empty ByteArray.empty, (0 : Int))).1.4, SV.str (List.getD xs (Int.toNat (↑i : Int)) (EV.mk (0 : Int) (0 : Int) (0 : Int) ByteArray.empty ByteArray.empty, (0 : Int))).1.5, SV.int IntKind.i64 (List.getD xs (Int.toNat (↑i : Int)) (EV.mk (0 : Int) (0 : Int) (0 : Int) ByteArray.empty ByteArray.empty, (0 : Int))).2] :: (SV.bool false :: (SV.raw (u 17) :: (SV.int IntKind.i64 (IntKind.wrap IntKind.i64 ((↑i : Int) + (1 : Int))) :: [])))))))))))))) 3)))
                [Ent.mk (Loc.sl ao cap) (SObj.vecL (214 : TypeId) 6 encItE xs (EV.mk (0 : Int) (0 : Int) (0 : Int) ByteArray.empty ByteArray.empty, (0 : Int))),
                 Ent.mk (Loc.blk bm) (SObj.cells [SV.func (Fn.func (86 : FuncId)) [] [SV.ptr 2 br 0]] (160 : TypeId)),
                 Ent.mk (Loc.blk br) (SObj.cells [SV.str un] (9 : TypeId)),
                 Ent.mk (Loc.blk b)
                  (SObj.cells
                   [SV.int IntKind.i64 (List.getD xs (Int.toNat (↑i : Int)) (EV.mk (0 : Int) (0 : Int) (0 : Int) ByteArray.empty ByteArray.empty, (0 : Int))).1.1,
                    SV.int IntKind.i64 (List.getD xs (Int.toNat (↑i : Int)) (EV.mk (0 : Int) (0 : Int) (0 : Int) ByteArray.empty ByteArray.empty, (0 : Int))).1.2,
                    SV.int IntKind.i64 (List.getD xs (Int.toNat (↑i : Int)) (EV.mk (0 : Int) (0 : Int) (0 : Int) ByteArray.empty ByteArray.empty, (0 : Int))).1.3,
                    SV.str (List.getD xs (Int.toNat (↑i : Int)) (EV.mk (0 : Int) (0 : Int) (0 : Int) ByteArray.empty ByteArray.empty, (0 : Int))).1.4,
                    SV.str (List.getD xs (Int.toNat (↑i : Int)) (EV.mk (0 : Int) (0 : Int) (0 : Int) ByteArray.empty ByteArray.empty, (0 : Int))).1.5,
                    SV.int IntKind.i64 (List.getD xs (Int.toNat (↑i : Int)) (EV.mk (0 : Int) (0 : Int) (0 : Int) ByteArray.empty ByteArray.empty, (0 : Int))).2]
                   214),
                 Ent.mk (Loc.blk b_1)
                  (SObj.cells
                   [SV.int IntKind.i64 (List.getD xs (Int.toNat (↑i : Int)) (EV.mk (0 : Int) (0 : Int) (0 : Int) ByteArray.empty ByteArray.empty, (0 : Int))).1.1,
                    SV.int IntKind.i64 (List.getD xs (Int.toNat (↑i : Int)) (EV.mk (0 : Int) (0 : Int) (0 : Int) ByteArray.empty ByteArray.empty, (0 : Int))).1.2,
                    SV.int IntKind.i64 (List.getD xs (Int.toNat (↑i : Int)) (EV.mk (0 : Int) (0 : Int) (0 : Int) ByteArray.empty ByteArray.empty, (0 : Int))).1.3,
                    SV.str (List.getD xs (Int.toNat (↑i : Int)) (EV.mk (0 : Int) (0 : Int) (0 : Int) ByteArray.empty ByteArray.empty, (0 : Int))).1.4,
                    SV.str (List.getD xs (Int.toNat (↑i : Int)) (EV.mk (0 : Int) (0 : Int) (0 : Int) ByteArray.empty ByteArray.empty, (0 : Int))).1.5]
                   79)])
| false =>
 N
  [Ent.mk (Loc.sl ao cap) (SObj.vecL (214 : TypeId) 6 encItE xs (EV.mk (0 : Int) (0 : Int) (0 : Int) ByteArray.empty ByteArray.empty, (0 : Int))),
   Ent.mk (Loc.blk bm) (SObj.cells [SV.func (Fn.func (86 : FuncId)) [] [SV.ptr 2 br 0]] (160 : TypeId)), Ent.mk (Loc.blk br) (SObj.cells [SV.str un] (9 : TypeId))]
  (SV.int IntKind.i64 (-1 : Int))) := by kernel_rfl


theorem qEde_start (K : List Frm → Sy → Prop) (N : List Ent → SV → Prop) (ao : Option Addr) (cap : Nat) (xs : List (EV × Int)) (bm br : Nat) (un : ByteArray) : (run Try.prog qDE1 false [] K (retP Try.prog Try.f116.results.toList N) 600 [.code (bodyOf Try.f116)] ⟨padTo 42 [.vec 0 ao xs.length cap, .func (.func 117) [] [.ptr 1 bm 0]], [⟨.sl ao cap, .vecL 214 6 encItE xs ((⟨0, 0, 0, ByteArray.empty, ByteArray.empty⟩ : EV), (0 : Int))⟩, ⟨.blk bm, .cells [.func (.func 86) [] [.ptr 2 br 0]] 160⟩, ⟨.blk br, .cells [.str un] 9⟩]⟩) = (
true = true ∧
 (117 : FuncId) = (117 : FuncId) ∧
  ∃ (xs_1 : List (EV × Int)),
   ∃ (lr : Nat),
    ∃ (br_1 : Nat),
     ∃ (un_1 : ByteArray),
      some (Ent.mk (Loc.sl ao cap) (SObj.vecL (214 : TypeId) 6 encItE xs (EV.mk (0 : Int) (0 : Int) (0 : Int) ByteArray.empty ByteArray.empty, (0 : Int)))) =
       some (Ent.mk (Loc.sl ao cap) (SObj.vecL (214 : TypeId) 6 encItE xs_1 (EV.mk (0 : Int) (0 : Int) (0 : Int) ByteArray.empty ByteArray.empty, (0 : Int)))) ∧
       some (Ent.mk (Loc.blk bm) (SObj.cells [SV.func (Fn.func (86 : FuncId)) [] [SV.ptr 2 br 0]] (160 : TypeId))) =
        some (Ent.mk (Loc.blk bm) (SObj.cells [SV.func (Fn.func (86 : FuncId)) [] [SV.ptr lr br_1 0]] (160 : TypeId))) ∧
        nth
         [Ent.mk (Loc.sl ao cap) (SObj.vecL (214 : TypeId) 6 encItE xs (EV.mk (0 : Int) (0 : Int) (0 : Int) ByteArray.empty ByteArray.empty, (0 : Int))),
          Ent.mk (Loc.blk bm) (SObj.cells [SV.func (Fn.func (86 : FuncId)) [] [SV.ptr 2 br 0]] (160 : TypeId)), Ent.mk (Loc.blk br) (SObj.cells [SV.str un] (9 : TypeId))]
         lr =
         some (Ent.mk (Loc.blk br_1) (SObj.cells [SV.str un_1] (9 : TypeId))) ∧
         (distinct [0, 1, lr] = true ∧ List.length xs = List.length xs_1 ∧ List.length xs_1 ≤ 1000000000) ∧
          match dIx (fun (x : EV × Int) ↦ qEpred un_1 x.fst) xs_1 (0 : Int) == (-1 : Int) with
          | true =>
           N
            [Ent.mk (Loc.sl ao cap) (SObj.vecL (214 : TypeId) 6 encItE xs (EV.mk (0 : Int) (0 : Int) (0 : Int) ByteArray.empty ByteArray.empty, (0 : Int))),
             Ent.mk (Loc.blk bm) (SObj.cells [SV.func (Fn.func (86 : FuncId)) [] [SV.ptr 2 br 0]] (160 : TypeId)),
             Ent.mk (Loc.blk br) (SObj.cells [SV.str un] (9 : TypeId))]
            (SV.vec 0 ao (List.length xs) cap)
          | false =>
           K (frm [] (bodyOf Try.f116) [1, 1, 1, 0, 1, 0] [])
            (Sy.mk (SV.vec 0 ao (List.length xs) cap :: (SV.func (Fn.func (117 : FuncId)) [] [SV.ptr 1 bm 0] :: (SV.raw (Value.tuple #[]) :: (SV.raw (Value.tuple #[]) :: (SV.raw (Value.slice (@none Addr) 0 0) :: ((SV.int IntKind.i64 (dIx (fun (x : EV × Int) ↦ qEpred un_1 x.fst) xs_1 (0 : Int))) :: ((SV.int IntKind.i64 (IntKind.wrap IntKind.i64 (dIx (fun (x : EV × Int) ↦ qEpred un_1 x.fst) xs_1 (0 : Int) + (1 : Int)))) :: (SV.raw (Value.tuple #[]) :: (SV.vec 0 ao (List.length xs) cap :: (SV.func (Fn.func (117 : FuncId)) [] [SV.ptr 1 bm 0] :: ((SV.int IntKind.i64 (dIx (fun (x : EV × Int) ↦ qEpred un_1 x.fst) xs_1 (0 : Int))) :: ((SV.int IntKind.i64 (dIx (fun (x : EV × Int) ↦ qEpred un_1 x.fst) xs_1 (0 : Int))) :: (SV.bool false :: (SV.raw (Value.tuple #[]) :: ((SV.int IntKind.i64 (dIx (fun (x : EV × Int) ↦ qEpred un_1 x.fst) xs_1 (0 : Int))) :: ((SV.int IntKind.i64 (IntKind.wrap IntKind.i64 (dIx (fun (x : EV × Int) ↦ qEpred un_1 x.fst) xs_1 (0 : Int) + (1 : Int)))) :: (rawE [] 26)))))))))))))))))
             [Ent.mk (Loc.sl ao cap) (SObj.vecL (214 : TypeId) 6 encItE xs (EV.mk (0 : Int) (0 : Int) (0 : Int) ByteArray.empty ByteArray.empty, (0 : Int))),
              Ent.mk (Loc.blk bm) (SObj.cells [SV.func (Fn.func (86 : FuncId)) [] [SV.ptr 2 br 0]] (160 : TypeId)),
              Ent.mk (Loc.blk br) (SObj.cells [SV.str un] (9 : TypeId))])) := by kernel_rfl


theorem qEde_body (K : List Frm → Sy → Prop) (N : List Ent → SV → Prop) (J : Act → World → Prop) (ao : Option Addr) (cap : Nat) (xs : List (EV × Int)) (bm br : Nat) (un : ByteArray) (i j : Nat) (u : Nat → Value) : (run Try.prog qDE1 false [] K (retP Try.prog Try.f116.results.toList N) 900 (frm [J] (bodyOf Try.f116) [1, 1, 1, 0, 1, 0, 0] []) ⟨mkT u 42 0 [(0, .vec 0 ao xs.length cap), (1, .func (.func 117) [] [.ptr 1 bm 0]), (5, .int .i64 (i : Int)), (6, .int .i64 (j : Int))], [⟨.sl ao cap, .vecL 214 6 encItE xs ((⟨0, 0, 0, ByteArray.empty, ByteArray.empty⟩ : EV), (0 : Int))⟩, ⟨.blk bm, .cells [.func (.func 86) [] [.ptr 2 br 0]] 160⟩, ⟨.blk br, .cells [.str un] 9⟩]⟩) = (
match decide ((↑j : Int) < (↑(List.length xs) : Int)) with
| true =>
 (ao = ao ∧ cap = cap ∧ List.length xs = List.length xs ∧ (0 : Int) ≤ (↑j : Int) ∧ (↑j : Int) < (↑(List.length xs) : Int)) ∧
  (Addr.blkD ao = Addr.blkD ao ∧ Addr.offD ao = Addr.offD ao ∧ 6 = 6 ∧ Int.toNat (↑j : Int) < List.length xs ∧ 6 = 6) ∧
   ∀ (b : Nat),
    (b = b ∧ true = true ∧ 6 = 6 ∧ 6 ≤ 6) ∧
     (b = b ∧ 6 = 6) ∧
      true = true ∧
       true = true ∧
        ∀ (b_1 : Nat),
         bm = bm ∧
          (b_1 = b_1 ∧ 5 = 5) ∧
           true = true ∧
            true = true ∧
             ∀ (b_2 : Nat),
              b_2 = b_2 ∧
               br = br ∧
                match !sEq (List.getD xs (Int.toNat (↑j : Int)) (EV.mk (0 : Int) (0 : Int) (0 : Int) ByteArray.empty ByteArray.empty, (0 : Int))).1.4 un with
                | true =>
                 (b = b ∧ 6 = 6) ∧
                  (ao = ao ∧ cap = cap ∧ List.length xs = List.length xs ∧ (0 : Int) ≤ (↑i : Int) ∧ (↑i : Int) < (↑(List.length xs) : Int)) ∧
                   (Addr.blkD ao = Addr.blkD ao ∧
                    Addr.offD ao = Addr.offD ao ∧ 6 = 6 ∧ Int.toNat (↑i : Int) < List.length xs ∧ true = true ∧ 6 = 6 ∧ 6 ≤ 6) ∧
                    ∃ (e : EV × Int),
                     denL [SV.int IntKind.i64 e.1.1, SV.int IntKind.i64 e.1.2, SV.int IntKind.i64 e.1.3, SV.str e.1.4, SV.str e.1.5, SV.int IntKind.i64 e.2] =
                      denL
                       [SV.int IntKind.i64 (List.getD xs (Int.toNat (↑j : Int)) (EV.mk (0 : Int) (0 : Int) (0 : Int) ByteArray.empty ByteArray.empty, (0 : Int))).1.1,
                        SV.int IntKind.i64 (List.getD xs (Int.toNat (↑j : Int)) (EV.mk (0 : Int) (0 : Int) (0 : Int) ByteArray.empty ByteArray.empty, (0 : Int))).1.2,
                        SV.int IntKind.i64 (List.getD xs (Int.toNat (↑j : Int)) (EV.mk (0 : Int) (0 : Int) (0 : Int) ByteArray.empty ByteArray.empty, (0 : Int))).1.3,
                        SV.str (List.getD xs (Int.toNat (↑j : Int)) (EV.mk (0 : Int) (0 : Int) (0 : Int) ByteArray.empty ByteArray.empty, (0 : Int))).1.4,
                        SV.str (List.getD xs (Int.toNat (↑j : Int)) (EV.mk (0 : Int) (0 : Int) (0 : Int) ByteArray.empty ByteArray.empty, (0 : Int))).1.5,
                        SV.int IntKind.i64 (List.getD xs (Int.toNat (↑j : Int)) (EV.mk (0 : Int) (0 : Int) (0 : Int) ByteArray.empty ByteArray.empty, (0 : Int))).2] ∧
                      K (Frm.loop J :: Frm.blk 0 :: frm [] (bodyOf Try.f116) [1, 1, 1, 1] [])
                       (Sy.mk (SV.vec 0 ao (List.length xs) cap :: (SV.func (Fn.func (117 : FuncId)) [] [SV.ptr 1 bm 0] :: (rawR u 2 (SV.int IntKind.i64 (IntKind.wrap IntKind.i64 ((↑i : Int) + (1 : Int))) :: (SV.int IntKind.i64 (IntKind.wrap IntKind.i64 ((↑j : Int) + (1 : Int))) :: (SV.ptr 3 b 0 :: (rawR u 8 (SV.int IntKind.i64 (↑j : Int) :: (SV.vec 0 ao (List.length xs) cap :: (SV.int IntKind.i64 (↑(List.length xs) : Int) :: (SV.bool true :: (SV.int IntKind.i64 (↑j : Int) :: (SV.int IntKind.i64 (IntKind.wrap IntKind.i64 ((↑j : Int) + (1 : Int))) :: (SV.vec 0 ao (List.length xs) cap :: (SV.int IntKind.i64 (↑j : Int) :: (SV.eptr 0 (Addr.blkD ao) (Addr.offD ao) 6 (Int.toNat (↑j : Int)) 0 :: (SV.agg [SV.int IntKind.i64 (List.getD xs (Int.toNat (↑j : Int)) (EV.mk (0 : Int) (0 : Int) (0 : Int) ByteArray.empty ByteArray.empty, (0 : Int))).1.1, SV.int IntKind.i64 (List.getD xs (Int.toNat (↑j : Int)) (EV.mk (0 : Int) (0 : Int) (0 : Int) ByteArray.empty ByteArray.empty, (0 : Int))).1.2, SV.int IntKind.i64 (List.getD xs (Int.toNat (↑j : Int)) (EV.mk (0 : Int) (0 : Int) (0 : Int) ByteArray.empty ByteArray.empty, (0 : Int))).1.3, SV.str (List.getD xs (Int.toNat (↑j : Int)) (EV.mk (0 : Int) (0 : Int) (0 : Int) ByteArray.empty ByteArray.empty, (0 : Int))).1.4, SV.str (List.getD xs (Int.toNat (↑j : Int)) (EV.mk (0 : Int) (0 : Int) (0 : Int) ByteArray.empty ByteArray.empty, (0 : Int))).1.5, SV.int IntKind.i64 (List.getD xs (Int.toNat (↑j : Int)) (EV.mk (0 : Int) (0 : Int) (0 : Int) ByteArray.empty ByteArray.empty, (0 : Int))).2] :: (SV.func (Fn.func (117 : FuncId)) [] [SV.ptr 1 bm 0] :: (SV.agg [SV.int IntKind.i64 (List.getD xs (Int.toNat (↑j : Int)) (EV.mk (0 : Int) (0 : Int) (0 : Int) ByteArray.empty ByteArray.empty, (0 : Int))).1.1, SV.int IntKind.i64 (List.getD xs (Int.toNat (↑j : Int)) (EV.mk (0 : Int) (0 : Int) (0 : Int) ByteArray.empty ByteArray.empty, (0 : Int))).1.2, SV.int IntKind.i64 (List.getD xs (Int.toNat (↑j : Int)) (EV.mk (0 : Int) (0 : Int) (0 : Int) ByteArray.empty ByteArray.empty, (0 : Int))).1.3, SV.str (List.getD xs (Int.toNat (↑j : Int)) (EV.mk (0 : Int) (0 : Int) (0 : Int) ByteArray.empty ByteArray.empty, (0 : Int))).1.4, SV.str (List.getD xs (Int.toNat (↑j : Int)) (EV.mk (0 : Int) (0 : Int) (0 : Int) ByteArray.empty ByteArray.empty, (0 : Int))).1.5, SV.int IntKind.i64 (List.getD xs (Int.toNat (↑j : Int)) (EV.mk (0 : Int) (0 : Int) (0 : Int) ByteArray.empty ByteArray.empty, (0 : Int))).2] :: (SV.bool (sEq (List.getD xs (Int.toNat (↑j : Int)) (EV.mk (0 : Int) (0 : Int) (0 : Int) ByteArray.empty ByteArray.empty, (0 : Int))).1.4 un) :: (SV.bool true :: (SV.vec 0 ao (List.length xs) cap :: (SV.int IntKind.i64 (↑i : Int) :: (SV.agg [SV.int IntKind.i64 (List.getD xs (Int.toNat (↑j : Int)) (EV.mk (0 : Int) (0 : Int) (0 : Int) ByteArray.empty ByteArray.empty, (0 : Int))).1.1, SV.int IntKind.i64 (List.getD xs (Int.toNat (↑j : Int)) (EV.mk (0 : Int) (0 : Int) (0 : Int) ByteArray.empty ByteArray.empty, (0 : Int))).1.2, SV.int IntKind.i64 (List.getD xs (Int.toNat (↑j : Int)) (EV.mk (0 : Int) (0 : Int) (0 : Int) ByteArray.empty ByteArray.empty, (0 : Int))).1.3, SV.str (List.getD xs (Int.toNat (↑j : Int)) (EV.mk (0 : Int) (0 : Int) (0 : Int) ByteArray.empty ByteArray.empty, (0 : Int))).1.4, SV.str (List.getD xs (Int.toNat (↑j : Int)) (EV.mk (0 : Int) (0 : Int) (0 : Int) ByteArray.empty ByteArray.empty, (0 : Int))).1.5, SV.int IntKind.i64 (List.getD xs (Int.toNat (↑j : Int)) (EV.mk (0 : Int) (0 : Int) (0 : Int) ByteArray.empty ByteArray.empty, (0 : Int))).2] :: (SV.eptr 0 (Addr.blkD ao) (Addr.offD ao) 6 (Int.toNat (↑i : Int)) 0 :: (SV.int IntKind.i64 (↑i : Int) :: (SV.int IntKind.i64 (IntKind.wrap IntKind.i64 ((↑i : Int) + (1 : Int))) :: (rawR u 36 [] 6))))))))))))))))))))) 8)))) 3)))
                        [Ent.mk (Loc.sl ao cap)
                         (SObj.vecL (214 : TypeId) 6 encItE (List.set xs (Int.toNat (↑i : Int)) e)
                          (EV.mk (0 : Int) (0 : Int) (0 : Int) ByteArray.empty ByteArray.empty, (0 : Int))),
                         Ent.mk (Loc.blk bm) (SObj.cells [SV.func (Fn.func (86 : FuncId)) [] [SV.ptr 2 br 0]] (160 : TypeId)),
                         Ent.mk (Loc.blk br) (SObj.cells [SV.str un] (9 : TypeId)),
                         Ent.mk (Loc.blk b)
                          (SObj.cells
                           [SV.int IntKind.i64 (List.getD xs (Int.toNat (↑j : Int)) (EV.mk (0 : Int) (0 : Int) (0 : Int) ByteArray.empty ByteArray.empty, (0 : Int))).1.1,
                            SV.int IntKind.i64 (List.getD xs (Int.toNat (↑j : Int)) (EV.mk (0 : Int) (0 : Int) (0 : Int) ByteArray.empty ByteArray.empty, (0 : Int))).1.2,
                            SV.int IntKind.i64 (List.getD xs (Int.toNat (↑j : Int)) (EV.mk (0 : Int) (0 : Int) (0 : Int) ByteArray.empty ByteArray.empty, (0 : Int))).1.3,
                            SV.str (List.getD xs (Int.toNat (↑j : Int)) (EV.mk (0 : Int) (0 : Int) (0 : Int) ByteArray.empty ByteArray.empty, (0 : Int))).1.4,
                            SV.str (List.getD xs (Int.toNat (↑j : Int)) (EV.mk (0 : Int) (0 : Int) (0 : Int) ByteArray.empty ByteArray.empty, (0 : Int))).1.5,
                            SV.int IntKind.i64 (List.getD xs (Int.toNat (↑j : Int)) (EV.mk (0 : Int) (0 : Int) (0 : Int) ByteArray.empty ByteArray.empty, (0 : Int))).2]
                           214),
                         Ent.mk (Loc.blk b_1)
                          (SObj.cells
                           [SV.int IntKind.i64 (List.getD xs (Int.toNat (↑j : Int)) (EV.mk (0 : Int) (0 : Int) (0 : Int) ByteArray.empty ByteArray.empty, (0 : Int))).1.1,
                            SV.int IntKind.i64 (List.getD xs (Int.toNat (↑j : Int)) (EV.mk (0 : Int) (0 : Int) (0 : Int) ByteArray.empty ByteArray.empty, (0 : Int))).1.2,
                            SV.int IntKind.i64 (List.getD xs (Int.toNat (↑j : Int)) (EV.mk (0 : Int) (0 : Int) (0 : Int) ByteArray.empty ByteArray.empty, (0 : Int))).1.3,
                            SV.str (List.getD xs (Int.toNat (↑j : Int)) (EV.mk (0 : Int) (0 : Int) (0 : Int) ByteArray.empty ByteArray.empty, (0 : Int))).1.4,
                            SV.str (List.getD xs (Int.toNat (↑j : Int)) (EV.mk (0 : Int) (0 : Int) (0 : Int) ByteArray.empty ByteArray.empty, (0 : Int))).1.5,
                            SV.int IntKind.i64 (List.getD xs (Int.toNat (↑j : Int)) (EV.mk (0 : Int) (0 : Int) (0 : Int) ByteArray.empty ByteArray.empty, (0 : Int))).2]
                           214),
                         Ent.mk (Loc.blk b_2)
                          (SObj.cells
                           [SV.int IntKind.i64 (List.getD xs (Int.toNat (↑j : Int)) (EV.mk (0 : Int) (0 : Int) (0 : Int) ByteArray.empty ByteArray.empty, (0 : Int))).1.1,
                            SV.int IntKind.i64 (List.getD xs (Int.toNat (↑j : Int)) (EV.mk (0 : Int) (0 : Int) (0 : Int) ByteArray.empty ByteArray.empty, (0 : Int))).1.2,
                            SV.int IntKind.i64 (List.getD xs (Int.toNat (↑j : Int)) (EV.mk (0 : Int) (0 : Int) (0 : Int) ByteArray.empty ByteArray.empty, (0 : Int))).1.3,
                            SV.str (List.getD xs (Int.toNat (↑j : Int)) (EV.mk (0 : Int) (0 : Int) (0 : Int) ByteArray.empty ByteArray.empty, (0 : Int))).1.4,
                            SV.str (List.getD xs (Int.toNat (↑j : Int)) (EV.mk (0 : Int) (0 : Int) (0 : Int) ByteArray.empty ByteArray.empty, (0 : Int))).1.5]
                           79)])
                | false =>
                 K (Frm.loop J :: Frm.blk 0 :: frm [] (bodyOf Try.f116) [1, 1, 1, 1] [])
                  (Sy.mk (SV.vec 0 ao (List.length xs) cap :: (SV.func (Fn.func (117 : FuncId)) [] [SV.ptr 1 bm 0] :: (rawR u 2 (SV.int IntKind.i64 (↑i : Int) :: (SV.int IntKind.i64 (IntKind.wrap IntKind.i64 ((↑j : Int) + (1 : Int))) :: (SV.ptr 3 b 0 :: (rawR u 8 (SV.int IntKind.i64 (↑j : Int) :: (SV.vec 0 ao (List.length xs) cap :: (SV.int IntKind.i64 (↑(List.length xs) : Int) :: (SV.bool true :: (SV.int IntKind.i64 (↑j : Int) :: (SV.int IntKind.i64 (IntKind.wrap IntKind.i64 ((↑j : Int) + (1 : Int))) :: (SV.vec 0 ao (List.length xs) cap :: (SV.int IntKind.i64 (↑j : Int) :: (SV.eptr 0 (Addr.blkD ao) (Addr.offD ao) 6 (Int.toNat (↑j : Int)) 0 :: (SV.agg [SV.int IntKind.i64 (List.getD xs (Int.toNat (↑j : Int)) (EV.mk (0 : Int) (0 : Int) (0 : Int) ByteArray.empty ByteArray.empty, (0 : Int))).1.1, SV.int IntKind.i64 (List.getD xs (Int.toNat (↑j : Int)) (EV.mk (0 : Int) (0 : Int) (0 : Int) ByteArray.empty ByteArray.empty, (0 : Int))).1.2, SV.int IntKind.i64 (List.getD xs (Int.toNat (↑j : Int)) (EV.mk (0 : Int) (0 : Int) (0 : Int) ByteArray.empty ByteArray.empty, (0 : Int))).1.3, SV.str (List.getD xs (Int.toNat (↑j : Int)) (EV.mk (0 : Int) (0 : Int) (0 : Int) ByteArray.empty ByteArray.empty, (0 : Int))).1.4, SV.str (List.getD xs (Int.toNat (↑j : Int)) (EV.mk (0 : Int) (0 : Int) (0 : Int) ByteArray.empty ByteArray.empty, (0 : Int))).1.5, SV.int IntKind.i64 (List.getD xs (Int.toNat (↑j : Int)) (EV.mk (0 : Int) (0 : Int) (0 : Int) ByteArray.empty ByteArray.empty, (0 : Int))).2] :: (SV.func (Fn.func (117 : FuncId)) [] [SV.ptr 1 bm 0] :: (SV.agg [SV.int IntKind.i64 (List.getD xs (Int.toNat (↑j : Int)) (EV.mk (0 : Int) (0 : Int) (0 : Int) ByteArray.empty ByteArray.empty, (0 : Int))).1.1, SV.int IntKind.i64 (List.getD xs (Int.toNat (↑j : Int)) (EV.mk (0 : Int) (0 : Int) (0 : Int) ByteArray.empty ByteArray.empty, (0 : Int))).1.2, SV.int IntKind.i64 (List.getD xs (Int.toNat (↑j : Int)) (EV.mk (0 : Int) (0 : Int) (0 : Int) ByteArray.empty ByteArray.empty, (0 : Int))).1.3, SV.str (List.getD xs (Int.toNat (↑j : Int)) (EV.mk (0 : Int) (0 : Int) (0 : Int) ByteArray.empty ByteArray.empty, (0 : Int))).1.4, SV.str (List.getD xs (Int.toNat (↑j : Int)) (EV.mk (0 : Int) (0 : Int) (0 : Int) ByteArray.empty ByteArray.empty, (0 : Int))).1.5, SV.int IntKind.i64 (List.getD xs (Int.toNat (↑j : Int)) (EV.mk (0 : Int) (0 : Int) (0 : Int) ByteArray.empty ByteArray.empty, (0 : Int))).2] :: (SV.bool (sEq (List.getD xs (Int.toNat (↑j : Int)) (EV.mk (0 : Int) (0 : Int) (0 : Int) ByteArray.empty ByteArray.empty, (0 : Int))).1.4 un) :: (SV.bool false :: (rawR u 30 [] 12))))))))))))))) 8)))) 3)))
                   [Ent.mk (Loc.sl ao cap) (SObj.vecL (214 : TypeId) 6 encItE xs (EV.mk (0 : Int) (0 : Int) (0 : Int) ByteArray.empty ByteArray.empty, (0 : Int))),
                    Ent.mk (Loc.blk bm) (SObj.cells [SV.func (Fn.func (86 : FuncId)) [] [SV.ptr 2 br 0]] (160 : TypeId)),
                    Ent.mk (Loc.blk br) (SObj.cells [SV.str un] (9 : TypeId)),
                    Ent.mk (Loc.blk b)
                     (SObj.cells
                      [SV.int IntKind.i64 (List.getD xs (Int.toNat (↑j : Int)) (EV.mk (0 : Int) (0 : Int) (0 : Int) ByteArray.empty ByteArray.empty, (0 : Int))).1.1,
                       SV.int IntKind.i64 (List.getD xs (Int.toNat (↑j : Int)) (EV.mk (0 : Int) (0 : Int) (0 : Int) ByteArray.empty ByteArray.empty, (0 : Int))).1.2,
                       SV.int IntKind.i64 (List.getD xs (Int.toNat (↑j : Int)) (EV.mk (0 : Int) (0 : Int) (0 : Int) ByteArray.empty ByteArray.empty, (0 : Int))).1.3,
                       SV.str (List.getD xs (Int.toNat (↑j : Int)) (EV.mk (0 : Int) (0 : Int) (0 : Int) ByteArray.empty ByteArray.empty, (0 : Int))).1.4,
                       SV.str (List.getD xs (Int.toNat (↑j : Int)) (EV.mk (0 : Int) (0 : Int) (0 : Int) ByteArray.empty ByteArray.empty, (0 : Int))).1.5,
                       SV.int IntKind.i64 (List.getD xs (Int.toNat (↑j : Int)) (EV.mk (0 : Int) (0 : Int) (0 : Int) ByteArray.empty ByteArray.empty, (0 : Int))).2]
                      214),
                    Ent.mk (Loc.blk b_1)
                     (SObj.cells
                      [SV.int IntKind.i64 (List.getD xs (Int.toNat (↑j : Int)) (EV.mk (0 : Int) (0 : Int) (0 : Int) ByteArray.empty ByteArray.empty, (0 : Int))).1.1,
                       SV.int IntKind.i64 (List.getD xs (Int.toNat (↑j : Int)) (EV.mk (0 : Int) (0 : Int) (0 : Int) ByteArray.empty ByteArray.empty, (0 : Int))).1.2,
                       SV.int IntKind.i64 (List.getD xs (Int.toNat (↑j : Int)) (EV.mk (0 : Int) (0 : Int) (0 : Int) ByteArray.empty ByteArray.empty, (0 : Int))).1.3,
                       SV.str (List.getD xs (Int.toNat (↑j : Int)) (EV.mk (0 : Int) (0 : Int) (0 : Int) ByteArray.empty ByteArray.empty, (0 : Int))).1.4,
                       SV.str (List.getD xs (Int.toNat (↑j : Int)) (EV.mk (0 : Int) (0 : Int) (0 : Int) ByteArray.empty ByteArray.empty, (0 : Int))).1.5,
                       SV.int IntKind.i64 (List.getD xs (Int.toNat (↑j : Int)) (EV.mk (0 : Int) (0 : Int) (0 : Int) ByteArray.empty ByteArray.empty, (0 : Int))).2]
                      214),
                    Ent.mk (Loc.blk b_2)
                     (SObj.cells
                      [SV.int IntKind.i64 (List.getD xs (Int.toNat (↑j : Int)) (EV.mk (0 : Int) (0 : Int) (0 : Int) ByteArray.empty ByteArray.empty, (0 : Int))).1.1,
                       SV.int IntKind.i64 (List.getD xs (Int.toNat (↑j : Int)) (EV.mk (0 : Int) (0 : Int) (0 : Int) ByteArray.empty ByteArray.empty, (0 : Int))).1.2,
                       SV.int IntKind.i64 (List.getD xs (Int.toNat (↑j : Int)) (EV.mk (0 : Int) (0 : Int) (0 : Int) ByteArray.empty ByteArray.empty, (0 : Int))).1.3,
                       SV.str (List.getD xs (Int.toNat (↑j : Int)) (EV.mk (0 : Int) (0 : Int) (0 : Int) ByteArray.empty ByteArray.empty, (0 : Int))).1.4,
                       SV.str (List.getD xs (Int.toNat (↑j : Int)) (EV.mk (0 : Int) (0 : Int) (0 : Int) ByteArray.empty ByteArray.empty, (0 : Int))).1.5]
                      79)])
| false =>
 ((0 : Int) ≤ (↑i : Int) ∧ (↑i : Int) ≤ (↑(List.length xs) : Int) ∧ List.length xs ≤ cap) ∧
  (ao = ao ∧ cap = cap ∧ 6 = 6 ∧ 6 = 6 ∧ true = true ∧ Int.toNat (↑i : Int) ≤ List.length xs ∧ List.length xs ≤ List.length xs) ∧
   ((0 : Int) ≤ (↑i : Int) ∧ (↑i : Int) ≤ (↑cap : Int)) ∧
    N
     [Ent.mk (Loc.sl ao cap) (SObj.vecL (214 : TypeId) 6 encItE (List.take (Int.toNat (↑i : Int)) xs) (EV.mk (0 : Int) (0 : Int) (0 : Int) ByteArray.empty ByteArray.empty, (0 : Int))),
      Ent.mk (Loc.blk bm) (SObj.cells [SV.func (Fn.func (86 : FuncId)) [] [SV.ptr 2 br 0]] (160 : TypeId)), Ent.mk (Loc.blk br) (SObj.cells [SV.str un] (9 : TypeId))]
     (SV.sub 0 ao cap 6 0 (Int.toNat (↑i : Int)))) := by kernel_rfl
end Go.Proofs.Ytkcmgcoppecfpaa

