/- Several entries as one; structures of several blocks, and their methods' contracts. -/
import Derived.Test.YtihajdkipkfiiaaRng
namespace Go.Proofs.Ytihajdkipkfiiaa
open Go Go.RowKit
set_option linter.unusedVariables false
set_option linter.unusedSimpArgs false
set_option linter.unnecessarySimpa false
universe u

/-- Several entries as one. -/
def packs (h : List Ent) (W : World) (c : Ch) : Prop := ∃ cs, HasAll W h cs ∧ cs.flatten.Perm c
def pk (b : Nat) (h : List Ent) : Ent := ⟨.blk b, .pred (packs h)⟩

theorem HasAll.split {W : World} : ∀ {h h' : List Ent} {cs : List Ch}, HasAll W (h ++ h') cs → ∃ c1 c2, cs = c1 ++ c2 ∧ HasAll W h c1 ∧ HasAll W h' c2
  | [], h', cs, ha => ⟨[], cs, rfl, rfl, ha⟩
  | e :: h, h', cs, ha => by
    obtain ⟨c, cs0, rfl, hc, ha⟩ := ha
    obtain ⟨c1, c2, rfl, h1, h2⟩ := ha.split
    exact ⟨c :: c1, c2, rfl, ⟨c, c1, rfl, hc, h1⟩, h2⟩

theorem HasAll.perm {W : World} {h h' : List Ent} (hp : h.Perm h') : ∀ {cs : List Ch}, HasAll W h cs → ∃ cs', HasAll W h' cs' ∧ cs.flatten.Perm cs'.flatten := by
  induction hp with
  | nil => exact fun ha => ⟨_, ha, List.Perm.refl _⟩
  | cons e _ ih =>
    rintro cs ⟨c, cs0, rfl, hc, ha⟩
    obtain ⟨cs', h1, h2⟩ := ih ha
    exact ⟨c :: cs', ⟨c, cs', rfl, hc, h1⟩, by simpa using h2.append_left c⟩
  | swap e e' l =>
    rintro cs ⟨c, cs0, rfl, hc, c', cs1, rfl, hc', ha⟩
    refine ⟨c' :: c :: cs1, ⟨c', _, rfl, hc', c, _, rfl, hc, ha⟩, ?_⟩
    simp only [List.flatten_cons]
    rw [← List.append_assoc, ← List.append_assoc]
    exact List.Perm.append_right _ List.perm_append_comm
  | trans _ _ ih1 ih2 =>
    intro cs ha
    obtain ⟨cs1, h1, h2⟩ := ih1 ha
    obtain ⟨cs2, h3, h4⟩ := ih2 h1
    exact ⟨cs2, h3, h2.trans h4⟩

section
variable {W w : World} {F : List Ch}

theorem Rep.perm {h h' : List Ent} (hp : h.Perm h') (hr : Rep W F h w) : Rep W F h' w := by
  obtain ⟨cs, ha, hH⟩ := hr
  obtain ⟨cs', h1, h2⟩ := ha.perm hp
  exact ⟨cs', h1, hH.perm (by simp only [List.flatten_append]; exact h2.append_right _)⟩

theorem Rep.of_has {h h' : List Ent} (hi : ∀ cs, HasAll W h cs → ∃ cs', HasAll W h' cs' ∧ cs.flatten.Perm cs'.flatten) (hr : Rep W F h w) : Rep W F h' w := by
  obtain ⟨cs, ha, hH⟩ := hr
  obtain ⟨cs', h1, h2⟩ := hi cs ha
  exact ⟨cs', h1, hH.perm (by simp only [List.flatten_append]; exact h2.append_right _)⟩

theorem Rep.unpk {b : Nat} {h t : List Ent} (hr : Rep W F (pk b h :: t) w) : Rep W F (h ++ t) w := by
  refine Rep.of_has ?_ hr
  rintro cs ⟨c, cs0, rfl, hc, ha⟩
  obtain ⟨c1, h1, h2⟩ := hc
  exact ⟨c1 ++ cs0, h1.append ha, by simp only [List.flatten_cons, List.flatten_append]; exact h2.symm.append_right _⟩

theorem Rep.pk (b : Nat) {h t : List Ent} (hr : Rep W F (h ++ t) w) : Rep W F (pk b h :: t) w := by
  refine Rep.of_has ?_ hr
  intro cs ha
  obtain ⟨c1, c2, rfl, h1, h2⟩ := ha.split
  exact ⟨c1.flatten :: c2, ⟨c1.flatten, c2, rfl, ⟨c1, h1, List.Perm.refl _⟩, h2⟩, by simp⟩

/-- Entries that aren't used are let go. -/
theorem Rep.dropR {h t : List Ent} (hr : Rep W F (h ++ t) w) : Rep W F h w := by
  obtain ⟨cs, ha, hH⟩ := hr
  obtain ⟨c1, c2, rfl, h1, h2⟩ := ha.split
  refine ⟨c1, h1, ?_⟩
  have : H W w (c2 ++ (c1 ++ F)) := hH.perm (by
    simp only [List.flatten_append]
    rw [← List.append_assoc]
    exact List.Perm.append_right _ List.perm_append_comm)
  exact this.dropL

theorem packs_perm {h h' : List Ent} (hp : h.Perm h') (c : Ch) (hc : packs h W c) : packs h' W c := by
  obtain ⟨cs, h1, h2⟩ := hc
  obtain ⟨cs', h3, h4⟩ := h1.perm hp
  exact ⟨cs', h3, h4.symm.trans h2⟩

/-- One of many is taken out. -/
theorem Rep.out {b : Nat} {e : Ent} {x y t : List Ent} (hr : Rep W F (Go.Proofs.Ytihajdkipkfiiaa.pk b (x ++ e :: y) :: t) w) : Rep W F (e :: Go.Proofs.Ytihajdkipkfiiaa.pk b (x ++ y) :: t) w := by
  have h1 := hr.unpk
  have h2 : Rep W F ((x ++ y) ++ (e :: t)) w := h1.perm (by
    simp only [List.append_assoc, List.cons_append]
    exact List.Perm.append_left x List.perm_middle.symm)
  have h3 := h2.pk b
  exact h3.perm (List.Perm.swap _ _ _)
/-- .. and put back. -/
theorem Rep.into {b : Nat} {e : Ent} {x y t : List Ent} (hr : Rep W F (e :: Go.Proofs.Ytihajdkipkfiiaa.pk b (x ++ y) :: t) w) : Rep W F (Go.Proofs.Ytihajdkipkfiiaa.pk b (x ++ e :: y) :: t) w := by
  have h1 : Rep W F (Go.Proofs.Ytihajdkipkfiiaa.pk b (x ++ y) :: e :: t) w := hr.perm (List.Perm.swap _ _ _)
  have h2 := h1.unpk
  refine Rep.pk b (h2.perm ?_)
  simp only [List.append_assoc, List.cons_append]
  refine List.Perm.append_left x ?_
  exact List.perm_middle
/-- A new one is put in. -/
theorem Rep.intoNew {b : Nat} {e : Ent} {x t : List Ent} (hr : Rep W F (e :: Go.Proofs.Ytihajdkipkfiiaa.pk b x :: t) w) : Rep W F (Go.Proofs.Ytihajdkipkfiiaa.pk b (x ++ [e]) :: t) w :=
  Rep.into (y := []) (by simpa using hr)

/-- A map's entry, with what is known of one key. -/
theorem Rep.know1 {h : List Ent} {l b : Nat} {β : Type} {kd : Option IntKind} {enc : β → SV} {es : List (Key × β)} (k0 : Key) (r0 : Option SV) (hl : nth h l = some ⟨.blk b, .mapL kd enc es⟩) (hk : keyKind k0 = kd) (hd : (mget es k0).map (fun v => den (enc v)) = r0.map den)
    (hr : Rep W F h w) : Rep W F (setN h l ⟨.blk b, .map1 kd enc es k0 r0⟩) w := by
  obtain ⟨c, L, hc, hH, hput⟩ := hr.get hl
  exact hput ⟨.blk b, .map1 kd enc es k0 r0⟩ c w ⟨⟨hk, hd⟩, hc⟩ hH
theorem Rep.forget1 {h : List Ent} {l b : Nat} {β : Type} {kd : Option IntKind} {enc : β → SV} {es : List (Key × β)} {k0 : Key} {r0 : Option SV} (hl : nth h l = some ⟨.blk b, .map1 kd enc es k0 r0⟩) (hr : Rep W F h w) : Rep W F (setN h l ⟨.blk b, .mapL kd enc es⟩) w := by
  obtain ⟨c, L, hc, hH, hput⟩ := hr.get hl
  exact hput ⟨.blk b, .mapL kd enc es⟩ c w hc.2 hH
/-- A map made by the code, with entries of a type of one's own. -/
theorem Rep.mapOf {h : List Ent} {l b : Nat} {β : Type} {kd : Option IntKind} (enc : β → SV) {es : List (Key × SV)} (es' : List (Key × β)) (hl : nth h l = some ⟨.blk b, .mapV kd es⟩) (hd : (es.map fun e => (e.1, den e.2)) = es'.map fun e => (e.1, den (enc e.2)))
    (hr : Rep W F h w) : Rep W F (setN h l ⟨.blk b, .mapL kd enc es'⟩) w := by
  obtain ⟨c, L, hc, hH, hput⟩ := hr.get hl
  obtain ⟨hk, ents, clock, h1, h0, h2⟩ := hc
  refine hput ⟨.blk b, .mapL kd enc es'⟩ c w ⟨?_, ents, clock, h1, h0, ?_⟩ hH
  · intro e he
    have : (e.1, den (enc e.2)) ∈ es.map fun e => (e.1, den e.2) := by rw [hd]; exact List.mem_map.2 ⟨e, he, rfl⟩
    obtain ⟨e0, h3, h4⟩ := List.mem_map.1 this
    simp only [Prod.mk.injEq] at h4
    rw [← h4.1]; exact hk e0 h3
  · rw [h2]
    have := congrArg (List.map fun x : Key × Value => (den x.1.sv, x.2)) hd
    simpa [List.map_map, Function.comp_def] using this
/-- A map's entries may be said otherwise. -/
theorem Rep.mapCongr {h : List Ent} {l b : Nat} {β γ : Type} {kd : Option IntKind} {enc : β → SV} {es : List (Key × β)} (enc' : γ → SV) (es' : List (Key × γ)) (hl : nth h l = some ⟨.blk b, .mapL kd enc es⟩) (hk : ∀ e ∈ es', keyKind e.1 = kd)
    (hd : (es.map fun e => (den e.1.sv, den (enc e.2))) = es'.map fun e => (den e.1.sv, den (enc' e.2))) (hr : Rep W F h w) : Rep W F (setN h l ⟨.blk b, .mapL kd enc' es'⟩) w := by
  obtain ⟨c, L, hc, hH, hput⟩ := hr.get hl
  obtain ⟨_, ents, clock, h1, h0, h2⟩ := hc
  exact hput ⟨.blk b, .mapL kd enc' es'⟩ c w ⟨hk, ents, clock, h1, h0, h2.trans hd⟩ hH
theorem Rep.mapKinds {h : List Ent} {l b : Nat} {β : Type} {kd : Option IntKind} {enc : β → SV} {es : List (Key × β)} (hl : nth h l = some ⟨.blk b, .mapL kd enc es⟩) (hr : Rep W F h w) : ∀ e ∈ es, keyKind e.1 = kd := by
  obtain ⟨c, L, hc, hH, hput⟩ := hr.get hl
  exact hc.1
/-- One of many is taken out, behind some others. -/
theorem Rep.outP {b : Nat} {e : Ent} {p x y t : List Ent} (hr : Rep W F (p ++ Go.Proofs.Ytihajdkipkfiiaa.pk b (x ++ e :: y) :: t) w) : Rep W F (p ++ e :: Go.Proofs.Ytihajdkipkfiiaa.pk b (x ++ y) :: t) w := by
  have h1 : Rep W F (Go.Proofs.Ytihajdkipkfiiaa.pk b (x ++ e :: y) :: (p ++ t)) w := hr.perm List.perm_middle
  refine h1.out.perm ?_
  exact (List.Perm.cons _ List.perm_middle.symm).trans List.perm_middle.symm
theorem Rep.intoP {b : Nat} {e : Ent} {p x y t : List Ent} (hr : Rep W F (p ++ e :: Go.Proofs.Ytihajdkipkfiiaa.pk b (x ++ y) :: t) w) : Rep W F (p ++ Go.Proofs.Ytihajdkipkfiiaa.pk b (x ++ e :: y) :: t) w := by
  have h1 : Rep W F (e :: Go.Proofs.Ytihajdkipkfiiaa.pk b (x ++ y) :: (p ++ t)) w := hr.perm (List.perm_middle.trans (List.Perm.cons _ List.perm_middle))
  exact h1.into.perm List.perm_middle.symm
theorem Rep.intoNewP {b : Nat} {e : Ent} {p x t : List Ent} (hr : Rep W F (p ++ e :: Go.Proofs.Ytihajdkipkfiiaa.pk b x :: t) w) : Rep W F (p ++ Go.Proofs.Ytihajdkipkfiiaa.pk b (x ++ [e]) :: t) w :=
  Rep.intoP (y := []) (by simpa using hr)
/-- Behind a round through a map. -/
theorem Rep.unmapS {h : List Ent} {l b clk : Nat} {β : Type} {kd : Option IntKind} {enc : β → SV} {es : List (Key × (Nat × β))} (hl : nth h l = some ⟨.blk b, .mapS kd enc es clk⟩) (hr : Rep W F h w) : Rep W F (setN h l ⟨.blk b, .mapL kd enc (es.map fun e => (e.1, e.2.2))⟩) w := by
  obtain ⟨c, L, hc, hH, hput⟩ := hr.get hl
  obtain ⟨hk, ents, h1, h0, h2⟩ := hc
  refine hput ⟨.blk b, .mapL kd enc _⟩ c w ⟨?_, ents, clk, h1, h0, ?_⟩ hH
  · intro e he
    obtain ⟨e0, h3, rfl⟩ := List.mem_map.1 he
    exact hk e0 h3
  · have := congrArg (List.map fun x : Value × Nat × Value => (x.1, x.2.2)) h2
    simpa [List.map_map, Function.comp_def] using this
/-- An array's block, as a row of elements. -/
theorem Rep.arrOf {h : List Ent} {l b sz : Nat} {cs : List SV} {T : TypeId} {α : Type} (enc : α → List SV) (xs : List α) (d : α) (hl : nth h l = some ⟨.blk b, .cells cs T⟩) (hd : denL cs = flatV enc xs) (he : ∀ x, (enc x).length = sz)
    (hr : Rep W F h w) : Rep W F (setN h l ⟨.sl (some ⟨b, 0, none⟩) xs.length, .vecL T sz enc xs d⟩) w := by
  obtain ⟨c, L, hc, hH, hput⟩ := hr.get hl
  have hc : c = [(b, .cells (denL cs).toArray T (0, 0))] := hc
  subst hc
  refine hput ⟨.sl _ _, .vecL T sz enc xs d⟩ _ w ⟨⟨length_flatV he xs, Nat.le_refl _, .inr ⟨b, 0, _, rfl, rfl, ?_, ?_⟩⟩, he⟩ hH
  · rw [hd]; simp [length_flatV he xs]
  · rw [hd]; simp only [List.drop_zero]
    rw [← length_flatV he xs, List.take_length]
/-- A slice made by the code, with elements of a type of one's own. -/
theorem Rep.vecOf {h : List Ent} {l cap sz n : Nat} {ao : Option Addr} {cs : List SV} {T : TypeId} {α : Type} (enc : α → List SV) (xs : List α) (d : α) (hl : nth h l = some ⟨.sl ao cap, .vecV T sz n cs⟩) (hn : n = xs.length) (hd : denL cs = flatV enc xs) (he : ∀ x, (enc x).length = sz)
    (hr : Rep W F h w) : Rep W F (setN h l ⟨.sl ao cap, .vecL T sz enc xs d⟩) w := by
  obtain ⟨c, L, hc, hH, hput⟩ := hr.get hl
  subst hn
  refine hput ⟨.sl ao cap, .vecL T sz enc xs d⟩ c w ⟨?_, he⟩ hH
  rw [← hd]; exact hc
end

/-! ### Methods -/

/-- A structure of several blocks as one entry: S: its blocks; s: what it holds. -/
def pkA {σ : Type} (b : Nat) (S : σ → Nat → List Ent) (s : σ) : Ent := ⟨.blk b, .adt (fun s b => packs (S s b)) s⟩
section
variable {W w : World} {F : List Ch} {σ : Type} {S : σ → Nat → List Ent} {s : σ}
theorem Rep.unpkA {b : Nat} {t : List Ent} (hr : Rep W F (Go.Proofs.Ytihajdkipkfiiaa.pkA b S s :: t) w) : Rep W F (S s b ++ t) w := Rep.unpk (b := b) hr
theorem Rep.pkA {b : Nat} {t : List Ent} (hr : Rep W F (S s b ++ t) w) : Rep W F (Go.Proofs.Ytihajdkipkfiiaa.pkA b S s :: t) w := Rep.pk b hr
theorem Rep.unpkA1 {b : Nat} (hr : Rep W F [Go.Proofs.Ytihajdkipkfiiaa.pkA b S s] w) : Rep W F (S s b) w := by have := hr.unpkA; simpa using this
theorem Rep.pkA1 {b : Nat} (hr : Rep W F (S s b) w) : Rep W F [Go.Proofs.Ytihajdkipkfiiaa.pkA b S s] w := Rep.pkA (t := []) (by simpa using hr)
end

/-- Is it such a structure? -/
def AdtIs {σ' σ : Type} (p : σ' → Nat → World → Ch → Prop) (S : σ → Nat → List Ent) : Prop := HEq p fun s b => packs (S s b)
/-- The contract of a method of a structure that lies at the first argument: s: what is there; m: what must hold of it and the other arguments. -/
def adtC {σ : Type} (S : σ → Nat → List Ent) (m : σ → List SV → (σ → SV → Prop) → Prop) : Ctr := fun args hs N => match args with
  | .ptr l b 0 :: rest => match nth hs l with
    | some ⟨.blk b', .adt (σ := σ') p s⟩ => b' = b ∧ ∃ h : σ' = σ, AdtIs p S ∧ m (cast h s) rest fun s' r => N (setN hs l (pkA b S s')) r
    | _ => False
  | _ => False

theorem adt_ok {P : Program} {f : FuncId} {σ : Type} {S : σ → Nat → List Ent} {m : σ → List SV → (σ → SV → Prop) → Prop}
    (h : ∀ b s rest N, m s rest N → Spec P f (S s b) (.ptr 0 b 0 :: rest) fun h' r => ∃ s', (∀ W F w, Rep W F h' w → Rep W F (S s' b) w) ∧ N s' r) : CtrOk P f (adtC S m) := by
  intro args hs N hc
  unfold adtC at hc
  split at hc
  · rename_i l b rest
    split at hc
    · rename_i b' σ' p s hl
      obtain ⟨rfl, rfl, hp, hm⟩ := hc
      cases hp
      simp only [cast_eq] at hm
      refine Spec.at (hp := [pkA b' S s]) (args' := .ptr 0 b' 0 :: rest) (Post' := fun h' r => ∃ s', h' = [pkA b' S s'] ∧ N (setN hs l (pkA b' S s')) r) [l] (by simp [distinct]) (by simp [pickE, hl, pkA]) ?_ rfl ?_
      · intro W F w hr
        refine Calls.mono (h b' s rest _ hm W F w hr.unpkA1) ?_
        rintro e w' ⟨h', r, ⟨s', hi, hn⟩, rfl, hr'⟩
        exact ⟨[pkA b' S s'], r, ⟨s', rfl, hn⟩, rfl, Rep.pkA1 (hi _ _ _ hr')⟩
      · rintro h' r ⟨s', rfl, hn⟩
        refine ⟨Nat.le_refl _, r, rfl, ?_⟩
        simpa [putBack, appE_eq] using hn
    · exact hc.elim
  · exact hc.elim

theorem G_unpk {P : Program} {Q : Exit → Act → World → Prop} {W : World} {F : List Ch} {k : List Frm} {tm : List SV} {b : Nat} {h t : List Ent} (hg : G P Q W F k ⟨tm, h ++ t⟩) : G P Q W F k ⟨tm, pk b h :: t⟩ := fun w hr => hg w (Rep.unpk hr)

/-- The entries may be said otherwise. -/
theorem G_heap {P : Program} {Q : Exit → Act → World → Prop} {W : World} {F : List Ch} {k : List Frm} {tm : List SV} {h h' : List Ent} (hh : ∀ w, Rep W F h w → Rep W F h' w) (hg : G P Q W F k ⟨tm, h'⟩) : G P Q W F k ⟨tm, h⟩ := fun w hr => hg w (hh w hr)

/-- Some entries, of which not all is said. -/
def exP {ι : Type} (f : ι → List Ent) : Ent := ⟨.blk 0, .pred fun W c => ∃ i, packs (f i) W c⟩
theorem Rep.unex {W w : World} {F : List Ch} {ι : Type} {f : ι → List Ent} {t : List Ent} (hr : Rep W F (exP f :: t) w) : ∃ i, Rep W F (f i ++ t) w := by
  obtain ⟨cs, ⟨c, cs0, rfl, ⟨i, hc⟩, ha⟩, hH⟩ := hr
  exact ⟨i, Rep.unpk (b := 0) ⟨c :: cs0, ⟨c, cs0, rfl, hc, ha⟩, hH⟩⟩
theorem Rep.ex {W w : World} {F : List Ch} {ι : Type} {f : ι → List Ent} {t : List Ent} (i : ι) (hr : Rep W F (f i ++ t) w) : Rep W F (exP f :: t) w := by
  obtain ⟨cs, ⟨c, cs0, rfl, hc, ha⟩, hH⟩ := Rep.pk 0 hr
  exact ⟨c :: cs0, ⟨c, cs0, rfl, ⟨i, hc⟩, ha⟩, hH⟩
theorem Spec.ex {P : Program} {f : FuncId} {hs : List Ent} {args : List SV} {Post : List Ent → SV → Prop} {ι : Type} {hs' : ι → List Ent} (hh : ∀ W F w, Rep W F hs w → ∃ i, Rep W F (hs' i) w) (h : ∀ i, Spec P f (hs' i) args Post) : Spec P f hs args Post := fun W F w hr => by
  obtain ⟨i, hi⟩ := hh W F w hr
  exact h i W F w hi
theorem YSpec.ex {P : Program} {l : Nat} {hs : List Ent} {args : List SV} {Post : List Ent → SV → Prop} {ι : Type} {hs' : ι → List Ent} (hh : ∀ W F w, Rep W F hs w → ∃ i, Rep W F (hs' i) w) (h : ∀ i, YSpec P l (hs' i) args Post) : YSpec P l hs args Post := fun W F w hr => by
  obtain ⟨i, hi⟩ := hh W F w hr
  exact h i W F w hi
/-- A list of entries that is one. -/
theorem Rep.pkex {W w : World} {F : List Ch} {b : Nat} {ι : Type} {f : ι → List Ent} {e : Ent} (hr : Rep W F [e, Go.Proofs.Ytihajdkipkfiiaa.pk b [exP f]] w) : ∃ i, Rep W F (e :: f i) w := by
  have h1 : Rep W F ([exP f] ++ [e]) w := (hr.perm (List.Perm.swap _ _ _)).unpk
  obtain ⟨i, h2⟩ := Rep.unex (t := [e]) h1
  exact ⟨i, h2.perm List.perm_append_comm⟩
theorem Rep.expk {W w : World} {F : List Ch} {b : Nat} {ι : Type} {f : ι → List Ent} {e : Ent} (i : ι) (hr : Rep W F (e :: f i) w) : Rep W F [e, Go.Proofs.Ytihajdkipkfiiaa.pk b [exP f]] w := by
  have h1 : Rep W F (f i ++ [e]) w := hr.perm (List.perm_append_comm (l₁ := [e]))
  have h2 : Rep W F ([exP f] ++ [e]) w := Rep.ex i h1
  exact (Rep.pk b h2).perm (List.Perm.swap _ _ _)

/-! ### Function values -/
section
variable {P : Program} {v : Value} {hs hs' hp : List Ent} {args args' : List SV} {Post Post' : List Ent → SV → Prop}
theorem VSpec.conv (hh : ∀ W F w, Rep W F hs w → Rep W F hs' w) (ha : denL args = denL args') (h : VSpec P v hs' args' Post') (hp : ∀ h' r, Post' h' r → ∃ h'' r', (∀ W F w, Rep W F h' w → Rep W F h'' w) ∧ den r = den r' ∧ Post h'' r') : VSpec P v hs args Post := by
  rcases h with ⟨f, first, cap, q1, q2, q3⟩ | ⟨l, q1, q2⟩
  · refine .inl ⟨f, first, cap, q1, q2, fun W F w hr => ?_⟩
    rw [ha]
    refine Calls.mono (q3 W F w (hh W F w hr)) fun e w' hq => ?_
    obtain ⟨h', r, p1, p2, p3⟩ := hq
    obtain ⟨h'', r', g1, g2, g3⟩ := hp h' r p1
    exact ⟨h'', r', g3, by rw [p2, g2], g1 _ _ _ p3⟩
  · refine .inr ⟨l, q1, fun W F w hr => ?_⟩
    rw [ha]
    obtain ⟨fn, tmps, assign, body, y1, y2⟩ := q2 W F w (hh W F w hr)
    refine ⟨fn, tmps, assign, body, y1, RoundIn.mono y2 fun e w' hq => ?_⟩
    obtain ⟨h', r, p1, p2, p3⟩ := hq
    obtain ⟨h'', r', g1, g2, g3⟩ := hp h' r p1
    exact ⟨h'', r', g3, by rw [p2, g2], g1 _ _ _ p3⟩
/-- .. over some entries alone. -/
theorem VSpec.at (π : List Nat) (hnd : distinct π = true) (hpk : pickE hs π = some hp) (h : VSpec P v hp args Post') (hpost : ∀ h' r, Post' h' r → lenN hp ≤ lenN h' ∧ Post (putBack π hs h') r) : VSpec P v hs args Post := by
  rcases h with ⟨f, first, cap, q1, q2, q3⟩ | ⟨l, q1, q2⟩
  · refine .inl ⟨f, first, cap, q1, q2, fun W F w hr => ?_⟩
    obtain ⟨F', hr', hback⟩ := hr.frame (distinct_nodup π hnd) hpk
    refine Calls.mono (q3 W F' w hr') fun e w' hq => ?_
    obtain ⟨h', r, p1, p2, p3⟩ := hq
    obtain ⟨g1, g2⟩ := hpost h' r p1
    rw [lenN_eq, lenN_eq] at g1
    exact ⟨_, r, g2, p2, hback h' w' g1 p3⟩
  · refine .inr ⟨l, q1, fun W F w hr => ?_⟩
    obtain ⟨F', hr', hback⟩ := hr.frame (distinct_nodup π hnd) hpk
    obtain ⟨fn, tmps, assign, body, y1, y2⟩ := q2 W F' w hr'
    refine ⟨fn, tmps, assign, body, y1, RoundIn.mono y2 fun e w' hq => ?_⟩
    obtain ⟨h', r, p1, p2, p3⟩ := hq
    obtain ⟨g1, g2⟩ := hpost h' r p1
    rw [lenN_eq, lenN_eq] at g1
    exact ⟨_, r, g2, p2, hback h' w' g1 p3⟩
/-- A function of the code as a value. -/
theorem VSpec.fn {f : FuncId} {cap : List SV} (hok : callOk P f = true) (h : Spec P f hs (appS args cap) Post) : VSpec P (.func (.func f) #[] (denL cap).toArray) hs args Post := by
  refine .inl ⟨f, #[], (denL cap).toArray, rfl, hok, fun W F w hr => ?_⟩
  have := h W F w hr
  have e : (denL (appS args cap)).toArray = #[] ++ (denL args).toArray ++ (denL cap).toArray := by
    apply Array.ext'; simp [denL_appS]
  rw [e] at this
  exact this
end
theorem Rep.pkAt {W w : World} {F : List Ch} (b : Nat) {p h t : List Ent} (hr : Rep W F (p ++ (h ++ t)) w) : Rep W F (p ++ Go.Proofs.Ytihajdkipkfiiaa.pk b h :: t) w := by
  have h1 : Rep W F (h ++ (p ++ t)) w := hr.perm (by
    rw [← List.append_assoc, ← List.append_assoc]
    exact List.Perm.append_right _ List.perm_append_comm)
  exact (Rep.pk b h1).perm List.perm_middle.symm
theorem Rep.unpkAt {W w : World} {F : List Ch} {b : Nat} {p h t : List Ent} (hr : Rep W F (p ++ Go.Proofs.Ytihajdkipkfiiaa.pk b h :: t) w) : Rep W F (p ++ (h ++ t)) w := by
  have h1 : Rep W F (Go.Proofs.Ytihajdkipkfiiaa.pk b h :: (p ++ t)) w := hr.perm List.perm_middle
  exact h1.unpk.perm (by
    rw [← List.append_assoc, ← List.append_assoc]
    exact List.Perm.append_right _ List.perm_append_comm)

/-! ### Maps as lists -/
section
variable {β : Type}
def keysOk (es : List (Key × β)) : Prop := es.Pairwise fun a b => keyEq a.1 b.1 = false
theorem keyEq_comm (a b : Key) : keyEq a b = keyEq b a := by
  cases a <;> cases b <;> simp only [keyEq]
  · rename_i a _ b; exact Bool.eq_iff_iff.2 ⟨fun h => by simpa using (by simpa using h : a = b).symm, fun h => by simpa using (by simpa using h : b = a).symm⟩
  · rename_i a b
    rw [Bool.eq_iff_iff, bytes_beq, bytes_beq]
    exact eq_comm
theorem mget_split {k : Key} {v : β} : ∀ {es : List (Key × β)}, mget es k = some v → ∃ x y k', es = x ++ (k', v) :: y ∧ keyEq k k' = true ∧ mget x k = none ∧ (∀ u, mset es k u = x ++ (k, u) :: y) ∧ mdel es k = x ++ y
  | [], h => by cases h
  | (k', v') :: es, h => by
    simp only [mget] at h
    cases hq : keyEq k k' with
    | true =>
      simp only [hq, Option.some.injEq] at h
      subst h
      exact ⟨[], es, k', rfl, hq, rfl, fun u => by simp [mset, hq], by simp [mdel, hq]⟩
    | false =>
      simp only [hq] at h
      obtain ⟨x, y, k'', rfl, h1, h2, h3, h4⟩ := mget_split h
      exact ⟨(k', v') :: x, y, k'', rfl, h1, by simp [mget, hq, h2], fun u => by simp [mset, hq, h3], by simp [mdel, hq, h4]⟩
theorem keyEq_s {n : ByteArray} {k : Key} (h : keyEq (.s n) k = true) : k = .s n := by
  cases k <;> simp only [keyEq, Bool.false_eq_true] at h
  rw [(bytes_beq _ _).1 h]
theorem mset_none {k : Key} {u : β} : ∀ {es : List (Key × β)}, mget es k = none → mset es k u = es ++ [(k, u)]
  | [], _ => rfl
  | (k', v') :: es, h => by
    simp only [mget] at h
    cases hq : keyEq k k' with
    | true => simp [hq] at h
    | false => simp only [hq] at h; simp [mset, hq, mset_none h]
theorem mdel_none {k : Key} : ∀ {es : List (Key × β)}, mget es k = none → mdel es k = es
  | [], _ => rfl
  | (k', v') :: es, h => by
    simp only [mget] at h
    cases hq : keyEq k k' with
    | true => simp [hq] at h
    | false => simp only [hq] at h; simp [mdel, hq, mdel_none h]
theorem keyEq_trans {a b c : Key} (h : keyEq a b = true) : keyEq a c = keyEq b c := by
  cases a <;> cases b <;> cases c <;> simp only [keyEq, Bool.false_eq_true] at h ⊢
  · rw [beq_iff_eq] at h
    rw [h]
  · rw [(bytes_beq _ _).1 h]
theorem mget_eqk {k k' : Key} (h : keyEq k k' = true) : ∀ (es : List (Key × β)), mget es k = mget es k'
  | [] => rfl
  | (k2, v) :: es => by simp only [mget, keyEq_trans (c := k2) h, mget_eqk h es]
theorem mget_mset_ne {k k' : Key} {u : β} (hq : keyEq k' k = false) : ∀ es : List (Key × β), mget (mset es k u) k' = mget es k'
  | [] => by simp [mset, mget, hq]
  | (k2, v) :: es => by
    simp only [mset]
    cases h2 : keyEq k k2 with
    | true =>
      have : keyEq k' k2 = false := by
        rw [keyEq_comm, ← keyEq_trans h2, keyEq_comm]; exact hq
      simp [mget, hq, this]
    | false => simp only [mget, mget_mset_ne hq es]
theorem mget_mdel_ne {k k' : Key} (hq : keyEq k' k = false) : ∀ es : List (Key × β), mget (mdel es k) k' = mget es k'
  | [] => rfl
  | (k2, v) :: es => by
    simp only [mdel]
    cases h2 : keyEq k k2 with
    | true =>
      have : keyEq k' k2 = false := by
        rw [keyEq_comm, ← keyEq_trans h2, keyEq_comm]; exact hq
      simp [mget, this]
    | false => simp only [mget, mget_mdel_ne hq es]
theorem mget_mem {k : Key} {v : β} {es : List (Key × β)} (h : mget es k = some v) : ∃ k', (k', v) ∈ es ∧ keyEq k k' = true := by
  obtain ⟨x, y, k', rfl, h1, _⟩ := mget_split h
  exact ⟨k', by simp, h1⟩
theorem mget_of_mem {k : Key} {v : β} : ∀ {es : List (Key × β)}, keysOk es → (k, v) ∈ es → mget es k = some v
  | (k', v') :: es, hk, h => by
    have hk := List.pairwise_cons.1 hk
    rcases List.mem_cons.1 h with h | h
    · cases h; simp [mget, keyEq_self]
    · have : keyEq k k' = false := by rw [keyEq_comm]; exact hk.1 _ h
      simp only [mget, this]
      exact mget_of_mem hk.2 h
theorem mget_none_iff {k : Key} : ∀ {es : List (Key × β)}, mget es k = none ↔ ∀ e ∈ es, keyEq k e.1 = false
  | [] => by simp [mget]
  | (k', v') :: es => by
    simp only [mget, List.mem_cons, forall_eq_or_imp]
    cases hq : keyEq k k' with
    | true => simp
    | false => simpa using mget_none_iff
theorem keysOk_mset {k : Key} {u : β} {es : List (Key × β)} (h : keysOk es) : keysOk (mset es k u) := by
  cases hg : mget es k with
  | none =>
    rw [mset_none hg]
    refine List.pairwise_append.2 ⟨h, by simp, fun a ha b hb => ?_⟩
    simp only [List.mem_singleton] at hb
    subst hb
    rw [keyEq_comm]
    exact mget_none_iff.1 hg a ha
  | some v =>
    obtain ⟨x, y, k', rfl, h1, _, h3, _⟩ := mget_split hg
    rw [h3]
    simp only [keysOk, List.pairwise_append, List.pairwise_cons] at h ⊢
    refine ⟨h.1, ⟨fun b hb => by rw [keyEq_trans h1]; exact h.2.1.1 b hb, h.2.1.2⟩, fun a ha b hb => ?_⟩
    rcases List.mem_cons.1 hb with rfl | hb
    · rw [keyEq_comm]; rw [keyEq_trans h1, keyEq_comm]
      exact h.2.2 a ha _ List.mem_cons_self
    · exact h.2.2 a ha b (List.mem_cons_of_mem _ hb)
theorem keysOk_mdel {k : Key} {es : List (Key × β)} (h : keysOk es) : keysOk (mdel es k) := by
  cases hg : mget es k with
  | none => rw [mdel_none hg]; exact h
  | some v =>
    obtain ⟨x, y, k', rfl, _, _, _, h4⟩ := mget_split hg
    rw [h4]
    exact List.Pairwise.sublist (by simp) h
theorem mget_mdel {k : Key} {es : List (Key × β)} (h : keysOk es) : mget (mdel es k) k = none := by
  cases hg : mget es k with
  | none => rw [mdel_none hg]; exact hg
  | some v =>
    obtain ⟨x, y, k', rfl, h1, _, _, h4⟩ := mget_split hg
    rw [h4, mget_none_iff]
    intro e he
    simp only [keysOk, List.pairwise_append, List.pairwise_cons] at h
    rw [keyEq_trans h1]
    rcases List.mem_append.1 he with he | he
    · rw [keyEq_comm]; exact h.2.2 e he _ List.mem_cons_self
    · exact h.2.1.1 e he
end
end Go.Proofs.Ytihajdkipkfiiaa
