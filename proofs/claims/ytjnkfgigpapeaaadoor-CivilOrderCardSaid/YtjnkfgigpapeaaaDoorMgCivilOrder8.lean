import Derived.Test.YtjnkfgigpapeaaaDoorMgCivilOrder7
import Derived.Shelf.Strconv.Itoa3
import Derived.Lib.AppendIntMem
import Derived.Lib.ItoaLen
import Derived.Test.YtjnkfgigpapeaaaDoorMgCivilOrder5
import Derived.Test.YtjnkfgigpapeaaaDoorMgCivilOrder6
import Derived.Test.YtjnkfgigpapeaaaDoorMgCivilOrder4
import Derived.ChangeSlices
import Derived.OpenShut
import Derived.Carry
import Derived.ProofKit
import Derived.Deep.Grids
import Derived.Deep.Strs
import Derived.Deep.Slices
set_option linter.unusedVariables false
set_option linter.unusedSimpArgs false
set_option linter.unnecessarySimpa false
set_option maxHeartbeats 0
set_option maxRecDepth 100000
/- Several entries as1 one; structures of several blocks, and their methods' contracts. -/
namespace Go.Proofs.YtjnkfgigpapeaaaDoor
open Go Go.RowKit
universe u

def packs (h : List Ent) (W : World) (c : Ch) : Prop := ∃ cs, HasAll W h cs ∧ cs.flatten.Perm c
def pk (b : Nat) (h : List Ent) : Ent := ⟨.blk b, .pred (packs h)⟩

theorem HasAll.split {W : World} : ∀ {h h' : List Ent} {cs : List Ch}, HasAll W (h ++ h') cs → ∃ c1 c2, cs = c1 ++ c2 ∧ HasAll W h c1 ∧ HasAll W h' c2
  | [], h', cs, ha => ⟨[], cs, rfl, rfl, ha⟩
  | e :: h, h', cs, ha => by
    obtain ⟨c, cs0, rfl, hc, ha⟩ := ha
    obtain ⟨c1, c2, rfl, h1, h2⟩ := ha.split
    exact ⟨c :: c1, c2, rfl, ⟨c, c1, rfl, hc, h1⟩, h2⟩

theorem HasAll.perm {W : World} {h h' : List Ent} (hp : h.Perm h') : ∀ {cs : List Ch}, HasAll W h cs → ∃ cs', HasAll W h' cs' ∧ cs.flatten.Perm cs'.flatten := by
  induction hp with
  | nil => exact fun ha => ⟨_, ha, List.Perm.refl _⟩
  | cons e _ ih =>
    rintro cs ⟨c, cs0, rfl, hc, ha⟩
    obtain ⟨cs', h1, h2⟩ := ih ha
    exact ⟨c :: cs', ⟨c, cs', rfl, hc, h1⟩, by simpa using h2.append_left c⟩
  | swap e e' l =>
    rintro cs ⟨c, cs0, rfl, hc, c', cs1, rfl, hc', ha⟩
    refine ⟨c' :: c :: cs1, ⟨c', _, rfl, hc', c, _, rfl, hc, ha⟩, ?_⟩
    simp only [List.flatten_cons]
    rw [← List.append_assoc, ← List.append_assoc]
    exact List.Perm.append_right _ List.perm_append_comm
  | trans _ _ ih1 ih2 =>
    intro cs ha
    obtain ⟨cs1, h1, h2⟩ := ih1 ha
    obtain ⟨cs2, h3, h4⟩ := ih2 h1
    exact ⟨cs2, h3, h2.trans h4⟩

section
variable {W w : World} {F : List Ch}

theorem Rep.perm {h h' : List Ent} (hp : h.Perm h') (hr : Rep W F h w) : Rep W F h' w := by
  obtain ⟨cs, ha, hH⟩ := hr
  obtain ⟨cs', h1, h2⟩ := ha.perm hp
  exact ⟨cs', h1, hH.perm (by simp only [List.flatten_append]; exact h2.append_right _)⟩

theorem Rep.of_has {h h' : List Ent} (hi : ∀ cs, HasAll W h cs → ∃ cs', HasAll W h' cs' ∧ cs.flatten.Perm cs'.flatten) (hr : Rep W F h w) : Rep W F h' w := by
  obtain ⟨cs, ha, hH⟩ := hr
  obtain ⟨cs', h1, h2⟩ := hi cs ha
  exact ⟨cs', h1, hH.perm (by simp only [List.flatten_append]; exact h2.append_right _)⟩

theorem Rep.unpk {b : Nat} {h t : List Ent} (hr : Rep W F (pk b h :: t) w) : Rep W F (h ++ t) w := by
  refine Rep.of_has ?_ hr
  rintro cs ⟨c, cs0, rfl, hc, ha⟩
  obtain ⟨c1, h1, h2⟩ := hc
  exact ⟨c1 ++ cs0, h1.append ha, by simp only [List.flatten_cons, List.flatten_append]; exact h2.symm.append_right _⟩

theorem Rep.pk (b : Nat) {h t : List Ent} (hr : Rep W F (h ++ t) w) : Rep W F (pk b h :: t) w := by
  refine Rep.of_has ?_ hr
  intro cs ha
  obtain ⟨c1, c2, rfl, h1, h2⟩ := ha.split
  exact ⟨c1.flatten :: c2, ⟨c1.flatten, c2, rfl, ⟨c1, h1, List.Perm.refl _⟩, h2⟩, by simp⟩

theorem Rep.dropR {h t : List Ent} (hr : Rep W F (h ++ t) w) : Rep W F h w := by
  obtain ⟨cs, ha, hH⟩ := hr
  obtain ⟨c1, c2, rfl, h1, h2⟩ := ha.split
  refine ⟨c1, h1, ?_⟩
  have : H W w (c2 ++ (c1 ++ F)) := hH.perm (by
    simp only [List.flatten_append]
    rw [← List.append_assoc]
    exact List.Perm.append_right _ List.perm_append_comm)
  exact this.dropL

theorem packs_perm {h h' : List Ent} (hp : h.Perm h') (c : Ch) (hc : packs h W c) : packs h' W c := by
  obtain ⟨cs, h1, h2⟩ := hc
  obtain ⟨cs', h3, h4⟩ := h1.perm hp
  exact ⟨cs', h3, h4.symm.trans h2⟩

theorem Rep.out {b : Nat} {e : Ent} {x y t : List Ent} (hr : Rep W F (Go.Proofs.YtjnkfgigpapeaaaDoor.pk b (x ++ e :: y) :: t) w) : Rep W F (e :: Go.Proofs.YtjnkfgigpapeaaaDoor.pk b (x ++ y) :: t) w := by
  have h1 := hr.unpk
  have h2 : Rep W F ((x ++ y) ++ (e :: t)) w := h1.perm (by
    simp only [List.append_assoc, List.cons_append]
    exact List.Perm.append_left x List.perm_middle.symm)
  have h3 := h2.pk b
  exact h3.perm (List.Perm.swap _ _ _)
theorem Rep.into {b : Nat} {e : Ent} {x y t : List Ent} (hr : Rep W F (e :: Go.Proofs.YtjnkfgigpapeaaaDoor.pk b (x ++ y) :: t) w) : Rep W F (Go.Proofs.YtjnkfgigpapeaaaDoor.pk b (x ++ e :: y) :: t) w := by
  have h1 : Rep W F (Go.Proofs.YtjnkfgigpapeaaaDoor.pk b (x ++ y) :: e :: t) w := hr.perm (List.Perm.swap _ _ _)
  have h2 := h1.unpk
  refine Rep.pk b (h2.perm ?_)
  simp only [List.append_assoc, List.cons_append]
  refine List.Perm.append_left x ?_
  exact List.perm_middle
theorem Rep.intoNew {b : Nat} {e : Ent} {x t : List Ent} (hr : Rep W F (e :: Go.Proofs.YtjnkfgigpapeaaaDoor.pk b x :: t) w) : Rep W F (Go.Proofs.YtjnkfgigpapeaaaDoor.pk b (x ++ [e]) :: t) w :=
  Rep.into (y := []) (by simpa using hr)

theorem Rep.know1 {h : List Ent} {l b : Nat} {β : Type} {kd : Option IntKind} {enc : β → SV} {es : List (Key × β)} (k0 : Key) (r0 : Option SV) (hl : nth h l = some ⟨.blk b, .mapL kd enc es⟩) (hk : keyKind k0 = kd) (hd : (mget es k0).map (fun v => den (enc v)) = r0.map den)
    (hr : Rep W F h w) : Rep W F (setN h l ⟨.blk b, .map1 kd enc es k0 r0⟩) w := by
  obtain ⟨c, L, hc, hH, hput⟩ := hr.get hl
  exact hput ⟨.blk b, .map1 kd enc es k0 r0⟩ c w ⟨⟨hk, hd⟩, hc⟩ hH
theorem Rep.forget1 {h : List Ent} {l b : Nat} {β : Type} {kd : Option IntKind} {enc : β → SV} {es : List (Key × β)} {k0 : Key} {r0 : Option SV} (hl : nth h l = some ⟨.blk b, .map1 kd enc es k0 r0⟩) (hr : Rep W F h w) : Rep W F (setN h l ⟨.blk b, .mapL kd enc es⟩) w := by
  obtain ⟨c, L, hc, hH, hput⟩ := hr.get hl
  exact hput ⟨.blk b, .mapL kd enc es⟩ c w hc.2 hH
theorem Rep.mapOf {h : List Ent} {l b : Nat} {β : Type} {kd : Option IntKind} (enc : β → SV) {es : List (Key × SV)} (es' : List (Key × β)) (hl : nth h l = some ⟨.blk b, .mapV kd es⟩) (hd : (es.map fun e => (e.1, den e.2)) = es'.map fun e => (e.1, den (enc e.2)))
    (hr : Rep W F h w) : Rep W F (setN h l ⟨.blk b, .mapL kd enc es'⟩) w := by
  obtain ⟨c, L, hc, hH, hput⟩ := hr.get hl
  obtain ⟨hk, ents, clock, h1, h0, h2⟩ := hc
  refine hput ⟨.blk b, .mapL kd enc es'⟩ c w ⟨?_, ents, clock, h1, h0, ?_⟩ hH
  · intro e he
    have : (e.1, den (enc e.2)) ∈ es.map fun e => (e.1, den e.2) := by rw [hd]; exact List.mem_map.2 ⟨e, he, rfl⟩
    obtain ⟨e0, h3, h4⟩ := List.mem_map.1 this
    simp only [Prod.mk.injEq] at h4
    rw [← h4.1]; exact hk e0 h3
  · rw [h2]
    have := congrArg (List.map fun x : Key × Value => (den x.1.sv, x.2)) hd
    simpa [List.map_map, Function.comp_def] using this
theorem Rep.mapCongr {h : List Ent} {l b : Nat} {β γ : Type} {kd : Option IntKind} {enc : β → SV} {es : List (Key × β)} (enc' : γ → SV) (es' : List (Key × γ)) (hl : nth h l = some ⟨.blk b, .mapL kd enc es⟩) (hk : ∀ e ∈ es', keyKind e.1 = kd)
    (hd : (es.map fun e => (den e.1.sv, den (enc e.2))) = es'.map fun e => (den e.1.sv, den (enc' e.2))) (hr : Rep W F h w) : Rep W F (setN h l ⟨.blk b, .mapL kd enc' es'⟩) w := by
  obtain ⟨c, L, hc, hH, hput⟩ := hr.get hl
  obtain ⟨_, ents, clock, h1, h0, h2⟩ := hc
  exact hput ⟨.blk b, .mapL kd enc' es'⟩ c w ⟨hk, ents, clock, h1, h0, h2.trans hd⟩ hH
theorem Rep.mapKinds {h : List Ent} {l b : Nat} {β : Type} {kd : Option IntKind} {enc : β → SV} {es : List (Key × β)} (hl : nth h l = some ⟨.blk b, .mapL kd enc es⟩) (hr : Rep W F h w) : ∀ e ∈ es, keyKind e.1 = kd := by
  obtain ⟨c, L, hc, hH, hput⟩ := hr.get hl
  exact hc.1
theorem Rep.outP {b : Nat} {e : Ent} {p x y t : List Ent} (hr : Rep W F (p ++ Go.Proofs.YtjnkfgigpapeaaaDoor.pk b (x ++ e :: y) :: t) w) : Rep W F (p ++ e :: Go.Proofs.YtjnkfgigpapeaaaDoor.pk b (x ++ y) :: t) w := by
  have h1 : Rep W F (Go.Proofs.YtjnkfgigpapeaaaDoor.pk b (x ++ e :: y) :: (p ++ t)) w := hr.perm List.perm_middle
  refine h1.out.perm ?_
  exact (List.Perm.cons _ List.perm_middle.symm).trans List.perm_middle.symm
theorem Rep.intoP {b : Nat} {e : Ent} {p x y t : List Ent} (hr : Rep W F (p ++ e :: Go.Proofs.YtjnkfgigpapeaaaDoor.pk b (x ++ y) :: t) w) : Rep W F (p ++ Go.Proofs.YtjnkfgigpapeaaaDoor.pk b (x ++ e :: y) :: t) w := by
  have h1 : Rep W F (e :: Go.Proofs.YtjnkfgigpapeaaaDoor.pk b (x ++ y) :: (p ++ t)) w := hr.perm (List.perm_middle.trans (List.Perm.cons _ List.perm_middle))
  exact h1.into.perm List.perm_middle.symm
theorem Rep.intoNewP {b : Nat} {e : Ent} {p x t : List Ent} (hr : Rep W F (p ++ e :: Go.Proofs.YtjnkfgigpapeaaaDoor.pk b x :: t) w) : Rep W F (p ++ Go.Proofs.YtjnkfgigpapeaaaDoor.pk b (x ++ [e]) :: t) w :=
  Rep.intoP (y := []) (by simpa using hr)
theorem Rep.unmapS {h : List Ent} {l b clk : Nat} {β : Type} {kd : Option IntKind} {enc : β → SV} {es : List (Key × (Nat × β))} (hl : nth h l = some ⟨.blk b, .mapS kd enc es clk⟩) (hr : Rep W F h w) : Rep W F (setN h l ⟨.blk b, .mapL kd enc (es.map fun e => (e.1, e.2.2))⟩) w := by
  obtain ⟨c, L, hc, hH, hput⟩ := hr.get hl
  obtain ⟨hk, ents, h1, h0, h2⟩ := hc
  refine hput ⟨.blk b, .mapL kd enc _⟩ c w ⟨?_, ents, clk, h1, h0, ?_⟩ hH
  · intro e he
    obtain ⟨e0, h3, rfl⟩ := List.mem_map.1 he
    exact hk e0 h3
  · have := congrArg (List.map fun x : Value × Nat × Value => (x.1, x.2.2)) h2
    simpa [List.map_map, Function.comp_def] using this
theorem Rep.arrOf {h : List Ent} {l b sz : Nat} {cs : List SV} {T : TypeId} {α : Type} (enc : α → List SV) (xs : List α) (d : α) (hl : nth h l = some ⟨.blk b, .cells cs T⟩) (hd : denL cs = flatV enc xs) (he : ∀ x, (enc x).length = sz)
    (hr : Rep W F h w) : Rep W F (setN h l ⟨.sl (some ⟨b, 0, none⟩) xs.length, .vecL T sz enc xs d⟩) w := by
  obtain ⟨c, L, hc, hH, hput⟩ := hr.get hl
  have hc : c = [(b, .cells (denL cs).toArray T (0, 0))] := hc
  subst hc
  refine hput ⟨.sl _ _, .vecL T sz enc xs d⟩ _ w ⟨⟨length_flatV he xs, Nat.le_refl _, .inr ⟨b, 0, _, rfl, rfl, ?_, ?_⟩⟩, he⟩ hH
  · rw [hd]; simp [length_flatV he xs]
  · rw [hd]; simp only [List.drop_zero]
    rw [← length_flatV he xs, List.take_length]
theorem Rep.vecOf {h : List Ent} {l cap sz n : Nat} {ao : Option Addr} {cs : List SV} {T : TypeId} {α : Type} (enc : α → List SV) (xs : List α) (d : α) (hl : nth h l = some ⟨.sl ao cap, .vecV T sz n cs⟩) (hn : n = xs.length) (hd : denL cs = flatV enc xs) (he : ∀ x, (enc x).length = sz)
    (hr : Rep W F h w) : Rep W F (setN h l ⟨.sl ao cap, .vecL T sz enc xs d⟩) w := by
  obtain ⟨c, L, hc, hH, hput⟩ := hr.get hl
  subst hn
  refine hput ⟨.sl ao cap, .vecL T sz enc xs d⟩ c w ⟨?_, he⟩ hH
  rw [← hd]; exact hc
end

/-! ### Methods -/

def pkA {σ : Type} (b : Nat) (S : σ → Nat → List Ent) (s : σ) : Ent := ⟨.blk b, .adt (fun s b => packs (S s b)) s⟩
section
variable {W w : World} {F : List Ch} {σ : Type} {S : σ → Nat → List Ent} {s : σ}
theorem Rep.unpkA {b : Nat} {t : List Ent} (hr : Rep W F (Go.Proofs.YtjnkfgigpapeaaaDoor.pkA b S s :: t) w) : Rep W F (S s b ++ t) w := Rep.unpk (b := b) hr
theorem Rep.pkA {b : Nat} {t : List Ent} (hr : Rep W F (S s b ++ t) w) : Rep W F (Go.Proofs.YtjnkfgigpapeaaaDoor.pkA b S s :: t) w := Rep.pk b hr
theorem Rep.unpkA1 {b : Nat} (hr : Rep W F [Go.Proofs.YtjnkfgigpapeaaaDoor.pkA b S s] w) : Rep W F (S s b) w := by have := hr.unpkA; simpa using this
theorem Rep.pkA1 {b : Nat} (hr : Rep W F (S s b) w) : Rep W F [Go.Proofs.YtjnkfgigpapeaaaDoor.pkA b S s] w := Rep.pkA (t := []) (by simpa using hr)
end

def AdtIs {σ' σ : Type} (p : σ' → Nat → World → Ch → Prop) (S : σ → Nat → List Ent) : Prop := HEq p fun s b => packs (S s b)
def adtC {σ : Type} (S : σ → Nat → List Ent) (m : σ → List SV → (σ → SV → Prop) → Prop) : Ctr := fun args hs N => match args with
  | .ptr l b 0 :: rest => match nth hs l with
    | some ⟨.blk b', .adt (σ := σ') p s⟩ => b' = b ∧ ∃ h : σ' = σ, AdtIs p S ∧ m (cast h s) rest fun s' r => N (setN hs l (pkA b S s')) r
    | _ => False
  | _ => False

theorem adt_ok {P : Program} {f : FuncId} {σ : Type} {S : σ → Nat → List Ent} {m : σ → List SV → (σ → SV → Prop) → Prop}
    (h : ∀ b s rest N, m s rest N → Spec P f (S s b) (.ptr 0 b 0 :: rest) fun h' r => ∃ s', (∀ W F w, Rep W F h' w → Rep W F (S s' b) w) ∧ N s' r) : CtrOk P f (adtC S m) := by
  intro args hs N hc
  unfold adtC at hc
  split at hc
  · rename_i l b rest
    split at hc
    · rename_i b' σ' p s hl
      obtain ⟨rfl, rfl, hp, hm⟩ := hc
      cases hp
      simp only [cast_eq] at hm
      refine Spec.at (hp := [pkA b' S s]) (args' := .ptr 0 b' 0 :: rest) (Post' := fun h' r => ∃ s', h' = [pkA b' S s'] ∧ N (setN hs l (pkA b' S s')) r) [l] (by simp [distinct]) (by simp [pickE, hl, pkA]) ?_ rfl ?_
      · intro W F w hr
        refine Calls.mono (h b' s rest _ hm W F w hr.unpkA1) ?_
        rintro e w' ⟨h', r, ⟨s', hi, hn⟩, rfl, hr'⟩
        exact ⟨[pkA b' S s'], r, ⟨s', rfl, hn⟩, rfl, Rep.pkA1 (hi _ _ _ hr')⟩
      · rintro h' r ⟨s', rfl, hn⟩
        refine ⟨Nat.le_refl _, r, rfl, ?_⟩
        simpa [putBack, appE_eq] using hn
    · exact hc.elim
  · exact hc.elim

theorem G_unpk {P : Program} {Q : Exit → Act → World → Prop} {W : World} {F : List Ch} {k : List Frm} {tm : List SV} {b : Nat} {h t : List Ent} (hg : G P Q W F k ⟨tm, h ++ t⟩) : G P Q W F k ⟨tm, pk b h :: t⟩ := fun w hr => hg w (Rep.unpk hr)

theorem G_heap {P : Program} {Q : Exit → Act → World → Prop} {W : World} {F : List Ch} {k : List Frm} {tm : List SV} {h h' : List Ent} (hh : ∀ w, Rep W F h w → Rep W F h' w) (hg : G P Q W F k ⟨tm, h'⟩) : G P Q W F k ⟨tm, h⟩ := fun w hr => hg w (hh w hr)

def exP {ι : Type} (f : ι → List Ent) : Ent := ⟨.blk 0, .pred fun W c => ∃ i, packs (f i) W c⟩
theorem Rep.unex {W w : World} {F : List Ch} {ι : Type} {f : ι → List Ent} {t : List Ent} (hr : Rep W F (exP f :: t) w) : ∃ i, Rep W F (f i ++ t) w := by
  obtain ⟨cs, ⟨c, cs0, rfl, ⟨i, hc⟩, ha⟩, hH⟩ := hr
  exact ⟨i, Rep.unpk (b := 0) ⟨c :: cs0, ⟨c, cs0, rfl, hc, ha⟩, hH⟩⟩
theorem Rep.ex {W w : World} {F : List Ch} {ι : Type} {f : ι → List Ent} {t : List Ent} (i : ι) (hr : Rep W F (f i ++ t) w) : Rep W F (exP f :: t) w := by
  obtain ⟨cs, ⟨c, cs0, rfl, hc, ha⟩, hH⟩ := Rep.pk 0 hr
  exact ⟨c :: cs0, ⟨c, cs0, rfl, ⟨i, hc⟩, ha⟩, hH⟩
theorem Spec.ex {P : Program} {f : FuncId} {hs : List Ent} {args : List SV} {Post : List Ent → SV → Prop} {ι : Type} {hs' : ι → List Ent} (hh : ∀ W F w, Rep W F hs w → ∃ i, Rep W F (hs' i) w) (h : ∀ i, Spec P f (hs' i) args Post) : Spec P f hs args Post := fun W F w hr => by
  obtain ⟨i, hi⟩ := hh W F w hr
  exact h i W F w hi
theorem YSpec.ex {P : Program} {l : Nat} {hs : List Ent} {args : List SV} {Post : List Ent → SV → Prop} {ι : Type} {hs' : ι → List Ent} (hh : ∀ W F w, Rep W F hs w → ∃ i, Rep W F (hs' i) w) (h : ∀ i, YSpec P l (hs' i) args Post) : YSpec P l hs args Post := fun W F w hr => by
  obtain ⟨i, hi⟩ := hh W F w hr
  exact h i W F w hi
theorem Rep.pkex {W w : World} {F : List Ch} {b : Nat} {ι : Type} {f : ι → List Ent} {e : Ent} (hr : Rep W F [e, Go.Proofs.YtjnkfgigpapeaaaDoor.pk b [exP f]] w) : ∃ i, Rep W F (e :: f i) w := by
  have h1 : Rep W F ([exP f] ++ [e]) w := (hr.perm (List.Perm.swap _ _ _)).unpk
  obtain ⟨i, h2⟩ := Rep.unex (t := [e]) h1
  exact ⟨i, h2.perm List.perm_append_comm⟩
theorem Rep.expk {W w : World} {F : List Ch} {b : Nat} {ι : Type} {f : ι → List Ent} {e : Ent} (i : ι) (hr : Rep W F (e :: f i) w) : Rep W F [e, Go.Proofs.YtjnkfgigpapeaaaDoor.pk b [exP f]] w := by
  have h1 : Rep W F (f i ++ [e]) w := hr.perm (List.perm_append_comm (l₁ := [e]))
  have h2 : Rep W F ([exP f] ++ [e]) w := Rep.ex i h1
  exact (Rep.pk b h2).perm (List.Perm.swap _ _ _)

/-! ### Function values -/
section
variable {P : Program} {v : Value} {hs hs' hp : List Ent} {args args' : List SV} {Post Post' : List Ent → SV → Prop}
theorem VSpec.conv (hh : ∀ W F w, Rep W F hs w → Rep W F hs' w) (ha : denL args = denL args') (h : VSpec P v hs' args' Post') (hp : ∀ h' r, Post' h' r → ∃ h'' r', (∀ W F w, Rep W F h' w → Rep W F h'' w) ∧ den r = den r' ∧ Post h'' r') : VSpec P v hs args Post := by
  rcases h with ⟨f, first, cap, q1, q2, q3⟩ | ⟨l, q1, q2⟩
  · refine .inl ⟨f, first, cap, q1, q2, fun W F w hr => ?_⟩
    rw [ha]
    refine Calls.mono (q3 W F w (hh W F w hr)) fun e w' hq => ?_
    obtain ⟨h', r, p1, p2, p3⟩ := hq
    obtain ⟨h'', r', g1, g2, g3⟩ := hp h' r p1
    exact ⟨h'', r', g3, by rw [p2, g2], g1 _ _ _ p3⟩
  · refine .inr ⟨l, q1, fun W F w hr => ?_⟩
    rw [ha]
    obtain ⟨fn, tmps, assign, body, y1, y2⟩ := q2 W F w (hh W F w hr)
    refine ⟨fn, tmps, assign, body, y1, RoundIn.mono y2 fun e w' hq => ?_⟩
    obtain ⟨h', r, p1, p2, p3⟩ := hq
    obtain ⟨h'', r', g1, g2, g3⟩ := hp h' r p1
    exact ⟨h'', r', g3, by rw [p2, g2], g1 _ _ _ p3⟩
theorem VSpec.at (π : List Nat) (hnd : distinct π = true) (hpk : pickE hs π = some hp) (h : VSpec P v hp args Post') (hpost : ∀ h' r, Post' h' r → lenN hp ≤ lenN h' ∧ Post (putBack π hs h') r) : VSpec P v hs args Post := by
  rcases h with ⟨f, first, cap, q1, q2, q3⟩ | ⟨l, q1, q2⟩
  · refine .inl ⟨f, first, cap, q1, q2, fun W F w hr => ?_⟩
    obtain ⟨F', hr', hback⟩ := hr.frame (distinct_nodup π hnd) hpk
    refine Calls.mono (q3 W F' w hr') fun e w' hq => ?_
    obtain ⟨h', r, p1, p2, p3⟩ := hq
    obtain ⟨g1, g2⟩ := hpost h' r p1
    rw [lenN_eq, lenN_eq] at g1
    exact ⟨_, r, g2, p2, hback h' w' g1 p3⟩
  · refine .inr ⟨l, q1, fun W F w hr => ?_⟩
    obtain ⟨F', hr', hback⟩ := hr.frame (distinct_nodup π hnd) hpk
    obtain ⟨fn, tmps, assign, body, y1, y2⟩ := q2 W F' w hr'
    refine ⟨fn, tmps, assign, body, y1, RoundIn.mono y2 fun e w' hq => ?_⟩
    obtain ⟨h', r, p1, p2, p3⟩ := hq
    obtain ⟨g1, g2⟩ := hpost h' r p1
    rw [lenN_eq, lenN_eq] at g1
    exact ⟨_, r, g2, p2, hback h' w' g1 p3⟩
theorem VSpec.fn {f : FuncId} {cap : List SV} (hok : callOk P f = true) (h : Spec P f hs (appS args cap) Post) : VSpec P (.func (.func f) #[] (denL cap).toArray) hs args Post := by
  refine .inl ⟨f, #[], (denL cap).toArray, rfl, hok, fun W F w hr => ?_⟩
  have := h W F w hr
  have e : (denL (appS args cap)).toArray = #[] ++ (denL args).toArray ++ (denL cap).toArray := by
    apply Array.ext'; simp [denL_appS]
  rw [e] at this
  exact this
end
theorem Rep.pkAt {W w : World} {F : List Ch} (b : Nat) {p h t : List Ent} (hr : Rep W F (p ++ (h ++ t)) w) : Rep W F (p ++ Go.Proofs.YtjnkfgigpapeaaaDoor.pk b h :: t) w := by
  have h1 : Rep W F (h ++ (p ++ t)) w := hr.perm (by
    rw [← List.append_assoc, ← List.append_assoc]
    exact List.Perm.append_right _ List.perm_append_comm)
  exact (Rep.pk b h1).perm List.perm_middle.symm
theorem Rep.unpkAt {W w : World} {F : List Ch} {b : Nat} {p h t : List Ent} (hr : Rep W F (p ++ Go.Proofs.YtjnkfgigpapeaaaDoor.pk b h :: t) w) : Rep W F (p ++ (h ++ t)) w := by
  have h1 : Rep W F (Go.Proofs.YtjnkfgigpapeaaaDoor.pk b h :: (p ++ t)) w := hr.perm List.perm_middle
  exact h1.unpk.perm (by
    rw [← List.append_assoc, ← List.append_assoc]
    exact List.Perm.append_right _ List.perm_append_comm)

/-! ### Maps as1 lists -/
section
variable {β : Type}
def keysOk (es : List (Key × β)) : Prop := es.Pairwise fun a b => keyEq a.1 b.1 = false
theorem keyEq_comm (a b : Key) : keyEq a b = keyEq b a := by
  cases a <;> cases b <;> simp only [keyEq]
  · rename_i a _ b; exact Bool.eq_iff_iff.2 ⟨fun h => by simpa using (by simpa using h : a = b).symm, fun h => by simpa using (by simpa using h : b = a).symm⟩
  · rename_i a b
    rw [Bool.eq_iff_iff, bytes_beq, bytes_beq]
    exact eq_comm
theorem mget_split {k : Key} {v : β} : ∀ {es : List (Key × β)}, mget es k = some v → ∃ x y k', es = x ++ (k', v) :: y ∧ keyEq k k' = true ∧ mget x k = none ∧ (∀ u, mset es k u = x ++ (k, u) :: y) ∧ mdel es k = x ++ y
  | [], h => by cases h
  | (k', v') :: es, h => by
    simp only [mget] at h
    cases hq : keyEq k k' with
    | true =>
      simp only [hq, Option.some.injEq] at h
      subst h
      exact ⟨[], es, k', rfl, hq, rfl, fun u => by simp [mset, hq], by simp [mdel, hq]⟩
    | false =>
      simp only [hq] at h
      obtain ⟨x, y, k'', rfl, h1, h2, h3, h4⟩ := mget_split h
      exact ⟨(k', v') :: x, y, k'', rfl, h1, by simp [mget, hq, h2], fun u => by simp [mset, hq, h3], by simp [mdel, hq, h4]⟩
theorem keyEq_s {n : ByteArray} {k : Key} (h : keyEq (.s n) k = true) : k = .s n := by
  cases k <;> simp only [keyEq, Bool.false_eq_true] at h
  rw [(bytes_beq _ _).1 h]
theorem mset_none {k : Key} {u : β} : ∀ {es : List (Key × β)}, mget es k = none → mset es k u = es ++ [(k, u)]
  | [], _ => rfl
  | (k', v') :: es, h => by
    simp only [mget] at h
    cases hq : keyEq k k' with
    | true => simp [hq] at h
    | false => simp only [hq] at h; simp [mset, hq, mset_none h]
theorem mdel_none {k : Key} : ∀ {es : List (Key × β)}, mget es k = none → mdel es k = es
  | [], _ => rfl
  | (k', v') :: es, h => by
    simp only [mget] at h
    cases hq : keyEq k k' with
    | true => simp [hq] at h
    | false => simp only [hq] at h; simp [mdel, hq, mdel_none h]
theorem keyEq_trans {a b c : Key} (h : keyEq a b = true) : keyEq a c = keyEq b c := by
  cases a <;> cases b <;> cases c <;> simp only [keyEq, Bool.false_eq_true] at h ⊢
  · rw [beq_iff_eq] at h
    rw [h]
  · rw [(bytes_beq _ _).1 h]
theorem mget_eqk {k k' : Key} (h : keyEq k k' = true) : ∀ (es : List (Key × β)), mget es k = mget es k'
  | [] => rfl
  | (k2, v) :: es => by simp only [mget, keyEq_trans (c := k2) h, mget_eqk h es]
theorem mget_mset_ne {k k' : Key} {u : β} (hq : keyEq k' k = false) : ∀ es : List (Key × β), mget (mset es k u) k' = mget es k'
  | [] => by simp [mset, mget, hq]
  | (k2, v) :: es => by
    simp only [mset]
    cases h2 : keyEq k k2 with
    | true =>
      have : keyEq k' k2 = false := by
        rw [keyEq_comm, ← keyEq_trans h2, keyEq_comm]; exact hq
      simp [mget, hq, this]
    | false => simp only [mget, mget_mset_ne hq es]
theorem mget_mdel_ne {k k' : Key} (hq : keyEq k' k = false) : ∀ es : List (Key × β), mget (mdel es k) k' = mget es k'
  | [] => rfl
  | (k2, v) :: es => by
    simp only [mdel]
    cases h2 : keyEq k k2 with
    | true =>
      have : keyEq k' k2 = false := by
        rw [keyEq_comm, ← keyEq_trans h2, keyEq_comm]; exact hq
      simp [mget, this]
    | false => simp only [mget, mget_mdel_ne hq es]
theorem mget_mem {k : Key} {v : β} {es : List (Key × β)} (h : mget es k = some v) : ∃ k', (k', v) ∈ es ∧ keyEq k k' = true := by
  obtain ⟨x, y, k', rfl, h1, _⟩ := mget_split h
  exact ⟨k', by simp, h1⟩
theorem mget_of_mem {k : Key} {v : β} : ∀ {es : List (Key × β)}, keysOk es → (k, v) ∈ es → mget es k = some v
  | (k', v') :: es, hk, h => by
    have hk := List.pairwise_cons.1 hk
    rcases List.mem_cons.1 h with h | h
    · cases h; simp [mget, keyEq_self]
    · have : keyEq k k' = false := by rw [keyEq_comm]; exact hk.1 _ h
      simp only [mget, this]
      exact mget_of_mem hk.2 h
theorem mget_none_iff {k : Key} : ∀ {es : List (Key × β)}, mget es k = none ↔ ∀ e ∈ es, keyEq k e.1 = false
  | [] => by simp [mget]
  | (k', v') :: es => by
    simp only [mget, List.mem_cons, forall_eq_or_imp]
    cases hq : keyEq k k' with
    | true => simp
    | false => simpa using mget_none_iff
theorem keysOk_mset {k : Key} {u : β} {es : List (Key × β)} (h : keysOk es) : keysOk (mset es k u) := by
  cases hg : mget es k with
  | none =>
    rw [mset_none hg]
    refine List.pairwise_append.2 ⟨h, by simp, fun a ha b hb => ?_⟩
    simp only [List.mem_singleton] at hb
    subst hb
    rw [keyEq_comm]
    exact mget_none_iff.1 hg a ha
  | some v =>
    obtain ⟨x, y, k', rfl, h1, _, h3, _⟩ := mget_split hg
    rw [h3]
    simp only [keysOk, List.pairwise_append, List.pairwise_cons] at h ⊢
    refine ⟨h.1, ⟨fun b hb => by rw [keyEq_trans h1]; exact h.2.1.1 b hb, h.2.1.2⟩, fun a ha b hb => ?_⟩
    rcases List.mem_cons.1 hb with rfl | hb
    · rw [keyEq_comm]; rw [keyEq_trans h1, keyEq_comm]
      exact h.2.2 a ha _ List.mem_cons_self
    · exact h.2.2 a ha b (List.mem_cons_of_mem _ hb)
theorem keysOk_mdel {k : Key} {es : List (Key × β)} (h : keysOk es) : keysOk (mdel es k) := by
  cases hg : mget es k with
  | none => rw [mdel_none hg]; exact h
  | some v =>
    obtain ⟨x, y, k', rfl, _, _, _, h4⟩ := mget_split hg
    rw [h4]
    exact List.Pairwise.sublist (by simp) h
theorem mget_mdel {k : Key} {es : List (Key × β)} (h : keysOk es) : mget (mdel es k) k = none := by
  cases hg : mget es k with
  | none => rw [mdel_none hg]; exact hg
  | some v =>
    obtain ⟨x, y, k', rfl, h1, _, _, h4⟩ := mget_split hg
    rw [h4, mget_none_iff]
    intro e he
    simp only [keysOk, List.pairwise_append, List.pairwise_cons] at h
    rw [keyEq_trans h1]
    rcases List.mem_append.1 he with he | he
    · rw [keyEq_comm]; exact h.2.2 e he _ List.mem_cons_self
    · exact h.2.1.1 e he
end
end Go.Proofs.YtjnkfgigpapeaaaDoor

/- Dates: texts, moments. -/
namespace Go.Proofs.YtjnkfgigpapeaaaDoor
open Go Go.RowKit
open Go.Lib Go.Shelf
theorem setN_selfD {α : Type 1} {l : Nat} {v : α} : ∀ {h : List α}, nth h l = some v → setN h l v = h := by
  induction l with
  | zero => intro h hl; cases h <;> simp [nth, setN] at hl ⊢; exact hl.symm
  | succ l ih => intro h hl; cases h <;> simp [nth, setN] at hl ⊢; exact ih hl
theorem H.belowD {W w w' : World} {L : List Ch} (h : H W w L) (hb : Below w.heap.size w w') : H W w' L :=
  ⟨h.st.trans ⟨hb.os, hb.tape, hb.output, hb.size⟩, h.nd, fun b o hm => by rw [hb.block b (by have := h.get b o hm; exact (Array.getElem?_eq_some_iff.1 this).1)]; exact h.get b o hm, h.fresh, fun b hm => by rw [hb.block b (Nat.lt_of_lt_of_le hm h.st.size)]; exact h.old b hm⟩
theorem itoa_ok : CtrOk Tryd.prog 34 itoaC := by
  intro args hs N h
  unfold itoaC at h
  split at h
  case h_2 => exact h.elim
  rename_i n
  obtain ⟨⟨h0, h1⟩, he, h⟩ := h
  intro W F w hr
  obtain ⟨c, L, hc, hH, _⟩ := hr.get he
  have ht : TabIs Tryd.prog w "internal/strconv.uint64pow10" .u64 pow10Tab := tabBelow_of_tabIs hc.2 w (Below.of_H hH)
  refine Calls.mono (Any.strconv_Itoa laysItoa n (by omega) h1 w ht) ?_
  rintro e w' ⟨rfl, k, os, rfl⟩
  have hd : Value.string ⟨(itoa n).toArray⟩ = den (.str (dgB n)) := by
    unfold itoa
    rw [if_neg (by omega)]; rfl
  refine ⟨hs, .str (dgB n), h, by rw [hd], hr.move fun L hL => hL.belowD (below_grow _ w (Nat.le_refl _) k os)⟩
theorem Spec.with0 {P : Program} {f : FuncId} {hs : List Ent} {args : List SV} {N : List Ent → SV → Prop} {e : Ent} {v : SV} (he : nth hs 0 = some e) (h : Spec P f [e] args fun h' r => h' = [e] ∧ r = v) (hN : N hs v) : Spec P f hs args N := by
  refine Spec.at (hp := [e]) (args' := args) (Post' := fun h' r => h' = [e] ∧ r = v) [0] rfl (by simp [pickE, he]) h rfl ?_
  rintro h' r ⟨rfl, rfl⟩
  refine ⟨Nat.le_refl _, _, rfl, ?_⟩
  simpa [putBack, setN_selfD he, appE_eq] using hN
theorem two_ok : CtrOk Tryd.prog 35 twoC := by
  intro args hs N h
  unfold twoC at h
  split at h
  case h_2 => exact h.elim
  rename_i n
  obtain ⟨⟨h0, h1⟩, he, h⟩ := h
  refine Spec.with0 he ?_ h
  refine Spec.up ?_
  refine Spec.of_G 10 Tryd.func35 (c := bodyOf Tryd.f35) (by kernel_rfl) (by kernel_rfl) (Nat.le_of_ble_eq_true rfl) fun W F => ?_
  refine G_run (Cs := [(34, itoaC)]) (kc := true) (ss := []) ⟨itoa_ok, trivial⟩ hm 600 ?_
  rw [two_run]
  have hz : (dgB n).size ≤ 100 := by unfold dgB; rw [ba_size]; have := dec_len (u := n.toNat) (by omega); omega
  have fin : ∀ (v : ByteArray) (t : List Ent), v = twoB n → up (fun h' r => h' = [itoaE] ∧ r = .str (twoB n)) (itoaE :: t) (.str v) := fun v t hv => ⟨[itoaE], _, fun W F w hr => Rep.dropR (h := [itoaE]) hr, rfl, rfl, by rw [hv]⟩
  unfold twoB at fin
  cases hd : decide (n < 10) with
  | true => exact ⟨rfl, ⟨h0, by omega⟩, rfl, by omega, fin _ _ (by rw [hd])⟩
  | false => exact ⟨rfl, ⟨h0, by omega⟩, rfl, fin _ _ (by rw [hd])⟩
theorem twoB_size {n : Int} (h0 : 0 ≤ n) (h1 : n < 100) : (twoB n).size ≤ 2 := by rw [twoB_eq h0 h1, ba_size]; simp [two8]
theorem prT_ok : AllOk Tryd.prog prT := ⟨itoa_ok, two_ok, unix_ok, trivial⟩
theorem print_ok : CtrOk Tryd.prog 10 printC := by
  intro args hs N h
  unfold printC at h
  split at h
  case h_2 => exact h.elim
  rename_i y m d hh mi s
  obtain ⟨he, h⟩ := h
  cases hv : isMomB y m d hh mi s with
  | false =>
    rw [hv] at h
    refine Spec.with0 he ?_ h
    refine Spec.up ?_
    refine Spec.of_G 43 Tryd.func10 (c := bodyOf Tryd.f10) (by kernel_rfl) (by kernel_rfl) (Nat.le_of_ble_eq_true rfl) fun W F => ?_
    refine G_run (Cs := prT) (kc := true) (ss := []) prT_ok hm 900 ?_
    rw [pr_run]
    have hv' : (isB y m d && (inB hh 24 && (inB mi 60 && inB s 60))) = false := hv
    rw [hv']
    exact ⟨rfl, fun b => ⟨⟨rfl, rfl⟩, rfl, ⟨[itoaE], _, fun W F w hr => Rep.dropR (h := [itoaE]) hr, rfl, rfl, rfl⟩⟩⟩
  | true =>
    rw [hv] at h
    refine Spec.with0 he ?_ h
    refine Spec.up ?_
    refine Spec.of_G 43 Tryd.func10 (c := bodyOf Tryd.f10) (by kernel_rfl) (by kernel_rfl) (Nat.le_of_ble_eq_true rfl) fun W F => ?_
    refine G_run (Cs := prT) (kc := true) (ss := []) prT_ok hm 900 ?_
    rw [pr_run]
    have hv' : (isB y m d && (inB hh 24 && (inB mi 60 && inB s 60))) = true := hv
    rw [hv']
    obtain ⟨⟨a1, a2, a3, a4, a5, a6⟩, ⟨b1, b2⟩, ⟨c1, c2⟩, d1, d2⟩ := isMomB_iff.1 hv
    have hl := (lenI_le y m).2
    have z1 : (dgB y).size ≤ 4 := by unfold dgB; rw [ba_size]; exact dec_len (by omega)
    have z2 := twoB_size (n := m) (by omega) (by omega)
    have z3 := twoB_size (n := d) (by omega) (by omega)
    have z4 := twoB_size (n := hh) (by omega) (by omega)
    have z5 := twoB_size (n := mi) (by omega) (by omega)
    have z6 := twoB_size (n := s) (by omega) (by omega)
    have zs : ∀ a b : ByteArray, (a ++ b).size = a.size + b.size := fun a b => ByteArray.size_append
    have z0 : ∀ c : UInt8, (⟨#[c]⟩ : ByteArray).size = 1 := fun c => rfl
    have fin : ∀ (v : ByteArray) (t : List Ent), v = printB y m d hh mi s → up (fun h' r => h' = [itoaE] ∧ r = .str (printB y m d hh mi s)) (itoaE :: t) (.str v) := fun v t hv => ⟨[itoaE], _, fun W F w hr => Rep.dropR (h := [itoaE]) hr, rfl, rfl, by rw [hv]⟩
    repeat' first
      | exact rfl
      | exact trivial
      | exact fin _ _ rfl
      | (show ByteArray.size _ + _ ≤ 9223372036854775807; simp only [zs, z0]; omega)
      | apply And.intro
      | (refine fun _ => ?_)
      | (show _ ≤ _; omega)
      | (show _ < _; omega)
      | fail
theorem dg_ok : CtrOk Tryd.prog 53 digitsC := by
  intro args hs N h
  unfold digitsC at h
  split at h
  case h_2 => exact h.elim
  rename_i n
  obtain ⟨⟨h0, h1⟩, h⟩ := h
  refine Spec.pureG 28 Tryd.func53 (by kernel_rfl) (by kernel_rfl) rfl h fun W F => ?_
  refine G_run (Cs := []) (kc := false) (ss := []) trivial hm 600 ?_
  rw [dg_start]
  have hd0 : decide (n < 0) = false := by simp; omega
  have w0 : IntKind.u64.wrap n = ((n.toNat : Nat) : Int) := by rw [IntWalk.u64_in _ (by omega)]; omega
  rw [hd0, w0]
  refine G_loopAt (ι := Nat × List UInt8) [] (bodyOf Tryd.f53) [1, 1, 1, 1, 0, 0] 28 (fun x => [(0, .int .i64 n), (2, .str ⟨#[]⟩), (3, .int .u64 (x.1 : Int)), (4, .str ⟨x.2.toArray⟩)]) (fun _ => []) (fun x => decDigits n.toNat = decDigits x.1 ++ x.2 ∧ x.1 ≤ n.toNat) (fun x => x.1) (n.toNat, []) (by kernel_rfl) (fun J => by kernel_rfl) ⟨by simp, Nat.le_refl _⟩ rfl ⟨rfl, rfl, rfl, rfl, trivial⟩ (fun _ h => h) ?_
  rintro ⟨u, s⟩ ⟨hu, hle⟩ uu
  dsimp only at hu hle
  try dsimp only
  simp only [List.nil_append, List.cons_append]
  refine G_run (Cs := []) (kc := true) (ss := []) trivial hm 600 ?_
  rw [dg_l, hd0]
  have hlen : s.length ≤ 21 := by
    have h2 := itoa_length_le n (by omega) h1
    unfold itoa at h2
    rw [if_neg (by omega), hu, List.length_append] at h2
    omega
  have e1 : (u : Int).tmod 10 = ((u % 10 : Nat) : Int) := by rw [Int.tmod_eq_emod_of_nonneg (by omega)]; omega
  have e2 : IntKind.u64.wrap (48 + ((u % 10 : Nat) : Int)) = ((48 + u % 10 : Nat) : Int) := by rw [IntWalk.u64_in _ (by omega)]; omega
  have e3 : IntKind.u8.wrap ((48 + u % 10 : Nat) : Int) = ((48 + u % 10 : Nat) : Int) := IntWalk.u8_in _ (by omega)
  have e4 : IntKind.u64.wrap ((u : Int).tdiv 10) = ((u / 10 : Nat) : Int) := by rw [Int.tdiv_eq_ediv_of_nonneg (by omega), IntWalk.u64_in _ (by omega)]; omega
  rw [e1, e2, e3, e4]
  have hb : denL [SV.int .u8 ((48 + u % 10 : Nat) : Int)] = [UInt8.ofNat (48 + u % 10)].map (fun c => Value.int .u8 (c.toNat : Int)) := by
    have : (UInt8.ofNat (48 + u % 10)).toNat = 48 + u % 10 := by rw [UInt8.toNat_ofNat']; omega
    simp [denL, den, this]
    omega
  refine ⟨by decide, ⟨rfl, rfl, Nat.zero_lt_one, by decide⟩, fun b => ⟨⟨rfl, rfl⟩, [UInt8.ofNat (48 + u % 10)], hb, by rw [ba_size, ba_size]; simp; omega, by decide, ?_⟩⟩
  rw [ba_app]
  cases hz : (((u / 10 : Nat) : Int) == 0) with
  | true =>
    have hz' : u / 10 = 0 := by simp at hz; omega
    have hs : decDigits n.toNat = UInt8.ofNat (48 + u % 10) :: s := by
      rw [hu, dec_small (by omega), show u % 10 = u by omega]; rfl
    show SV.str _ = SV.str _
    unfold dgB
    rw [hs]; rfl
  | false =>
    have hz' : u / 10 ≠ 0 := by simp at hz; omega
    refine G_back (u / 10, UInt8.ofNat (48 + u % 10) :: s) ⟨?_, by dsimp only; omega⟩ (by dsimp only; omega) rfl ⟨rfl, rfl, rfl, rfl, trivial⟩ (fun w hr => Rep.dropR (h := []) hr)
    dsimp only
    rw [hu, dec_big (by omega), List.append_assoc]; rfl
theorem pad_ok : CtrOk Tryd.prog 41 padC := by
  intro args hs N h
  unfold padC at h
  split at h
  case h_2 => exact h.elim
  rename_i n w
  obtain ⟨⟨h0, h1, h2, h3⟩, h⟩ := h
  refine Spec.pureG 15 Tryd.func41 (by kernel_rfl) (by kernel_rfl) rfl h fun W F => ?_
  refine G_run (Cs := [(53, digitsC)]) (kc := true) (ss := []) ⟨dg_ok, trivial⟩ hm 600 ?_
  rw [pad_start]
  refine ⟨rfl, ⟨h0, by omega⟩, ?_⟩
  have hlen := dec_len (u := n.toNat) (by omega)
  refine G_loopAt (ι := Nat) [] (bodyOf Tryd.f41) [1, 1, 0, 0] 15 (fun k => [(1, .int .i64 w), (5, .str ⟨(List.replicate k (48 : UInt8) ++ decDigits n.toNat).toArray⟩)]) (fun _ => []) (fun k => k ≤ w.toNat - (decDigits n.toNat).length) (fun k => 10 - k) 0 (by kernel_rfl) (fun J => by kernel_rfl) (Nat.zero_le _) rfl ⟨rfl, rfl, trivial⟩ (fun _ h => h) ?_
  intro k hk u
  try dsimp only
  simp only [List.nil_append, List.cons_append]
  refine G_run (Cs := [(53, digitsC)]) (kc := true) (ss := []) ⟨dg_ok, trivial⟩ hm 900 ?_
  rw [pad_l, ba_size]
  have hl : (List.replicate k (48 : UInt8) ++ decDigits n.toNat).length = k + (decDigits n.toNat).length := by simp
  rw [hl]
  cases hlt : decide (((k + (decDigits n.toNat).length : Nat) : Int) < w) with
  | true =>
    simp only [decide_eq_true_eq] at hlt
    refine ⟨by omega, G_back (k + 1) (by omega) (by omega) rfl ⟨rfl, ?_, trivial⟩ (fun _ h => h)⟩
    show Value.string _ = Value.string _
    congr 1
  | false =>
    simp only [decide_eq_false_iff_not] at hlt
    have hk2 : k = w.toNat - (decDigits n.toNat).length := by omega
    show SV.str _ = SV.str _
    unfold padB
    rw [hk2]
theorem padB_size {n w : Int} (h0 : 0 ≤ n) (h1 : n < 10000) (h2 : w ≤ 4) : (padB n w).size ≤ 8 := by
  unfold padB
  rw [ba_size]
  have := dec_len (u := n.toNat) (by omega)
  simp; omega
theorem pr2T_ok : AllOk Tryd.prog pr2T := ⟨dg_ok, pad_ok, im_ok, trivial⟩
theorem print2_ok : CtrOk Tryd.prog 17 print2C := by
  intro args hs N h
  unfold print2C at h
  split at h
  case h_2 => exact h.elim
  rename_i y m d hh mi s
  cases hv : isMomB y m d hh mi s with
  | false =>
    rw [hv] at h
    refine Spec.pure (Cs := pr2T) (kc := true) (ss := []) 900 37 pr2T_ok hm Tryd.func17 (by kernel_rfl) (by kernel_rfl) rfl h fun K => ?_
    rw [pr2_run, hv]
    exact ⟨rfl, fun b => ⟨⟨rfl, rfl⟩, rfl, rfl⟩⟩
  | true =>
    rw [hv] at h
    refine Spec.pure (Cs := pr2T) (kc := true) (ss := []) 900 37 pr2T_ok hm Tryd.func17 (by kernel_rfl) (by kernel_rfl) rfl h fun K => ?_
    rw [pr2_run, hv]
    obtain ⟨⟨a1, a2, a3, a4, a5, a6⟩, ⟨b1, b2⟩, ⟨c1, c2⟩, d1, d2⟩ := isMomB_iff.1 hv
    have hl := (lenI_le y m).2
    have z1 := padB_size (n := y) (w := 4) (by omega) (by omega) (by omega)
    have z2 := padB_size (n := m) (w := 2) (by omega) (by omega) (by omega)
    have z3 := padB_size (n := d) (w := 2) (by omega) (by omega) (by omega)
    have z4 := padB_size (n := hh) (w := 2) (by omega) (by omega) (by omega)
    have z5 := padB_size (n := mi) (w := 2) (by omega) (by omega) (by omega)
    have z6 := padB_size (n := s) (w := 2) (by omega) (by omega) (by omega)
    have zs : ∀ a b : ByteArray, (a ++ b).size = a.size + b.size := fun a b => ByteArray.size_append
    have z0 : ∀ c : UInt8, (⟨#[c]⟩ : ByteArray).size = 1 := fun c => rfl
    rw [Bool.not_true]
    clear h
    repeat' first
      | exact rfl
      | exact trivial
      | (show ByteArray.size _ + _ ≤ 9223372036854775807; simp only [zs, z0]; omega)
      | apply And.intro
      | (refine fun _ => ?_)
      | (show _ ≤ _; omega)
      | (show _ < _; omega)
      | fail
theorem r2T3_ok : AllOk Tryd.prog r2T3 := ⟨days2_ok, date2_ok, im_ok, r2T2_ok⟩
theorem unix2_ok : CtrOk Tryd.prog 20 unixC := by
  intro args hs N h
  unfold unixC at h
  split at h
  case h_2 => exact h.elim
  rename_i y m d hh mi s
  cases hr : isMomB y m d hh mi s with
  | false =>
    have hr' : (isB y m d && (inB hh 24 && (inB mi 60 && inB s 60))) = false := hr
    rw [hr'] at h
    refine Spec.pure (Cs := r2T3) (kc := true) (ss := []) 900 28 r2T3_ok hm Tryd.func20 (by kernel_rfl) (by kernel_rfl) rfl h fun K => ?_
    rw [unix2_run, hr]
    exact ⟨rfl, fun b => ⟨⟨rfl, rfl⟩, rfl, rfl⟩⟩
  | true =>
    have hr' : (isB y m d && (inB hh 24 && (inB mi 60 && inB s 60))) = true := hr
    rw [hr'] at h
    refine Spec.pure (Cs := r2T3) (kc := true) (ss := []) 900 28 r2T3_ok hm Tryd.func20 (by kernel_rfl) (by kernel_rfl) rfl h fun K => ?_
    simp only [Bool.and_eq_true] at hr'
    obtain ⟨h1, h2, h3, h4⟩ := hr'
    have hd := daysI_le h1
    have g2 := inB_iff.1 h2
    have g3 := inB_iff.1 h3
    have g4 := inB_iff.1 h4
    rw [unix2_run, hr, h1]
    refine ⟨rfl, fun b => ⟨⟨rfl, rfl⟩, rfl, ⟨rfl, rfl⟩, rfl, rfl, rfl, rfl, ?_⟩⟩
    simp (disch := omega) only [IntWalk.i64_in]
    have e : daysI y m d * 86400 + (hh * 3600 + mi * 60 + s) = daysI y m d * 86400 + ((hh * 60 + mi) * 60 + s) := by omega
    rw [e]
theorem moment2_ok : CtrOk Tryd.prog 22 momentC := by
  intro args hs N h
  unfold momentC at h
  split at h
  case h_2 => exact h.elim
  rename_i t
  obtain ⟨ht, h⟩ := h
  cases hr : decide (0 ≤ t) && decide (t < 7289654400) with
  | false =>
    rw [hr] at h
    refine Spec.pure (Cs := r2T3) (kc := true) (ss := []) 900 36 r2T3_ok hm Tryd.func22 (by kernel_rfl) (by kernel_rfl) rfl h fun K => ?_
    rw [mom2_run]
    intro b
    simp only [Bool.and_eq_false_iff, decide_eq_false_iff_not] at hr
    cases h0 : decide (t < 0) with
    | true => exact ⟨⟨rfl, rfl⟩, ⟨rfl, rfl, rfl, Nat.le_refl _⟩, ⟨rfl, rfl⟩, rfl⟩
    | false =>
      simp only [decide_eq_false_iff_not] at h0
      have e1 : IntKind.i64.wrap (t.tdiv 86400) = t / 86400 := by rw [Int.tdiv_eq_ediv_of_nonneg (by omega)]; exact IntWalk.i64_in _ (by omega)
      rw [e1]
      refine ⟨by decide, ?_⟩
      cases h2 : decide (t / 86400 > 200000) with
      | true => exact ⟨⟨rfl, rfl⟩, ⟨rfl, rfl, rfl, Nat.le_refl _⟩, ⟨rfl, rfl⟩, rfl⟩
      | false =>
        have h3 : (decide (0 ≤ t / 86400) && decide (t / 86400 < 84371)) = false := by simp; omega
        rw [h3]
        exact ⟨by decide, rfl, by omega, fun b1 => ⟨⟨rfl, rfl, rfl, Nat.le_refl _⟩, ⟨rfl, rfl⟩, ⟨rfl, rfl, rfl, Nat.le_refl _⟩, ⟨rfl, rfl⟩, rfl⟩⟩
  | true =>
    rw [hr] at h
    simp only [Bool.and_eq_true, decide_eq_true_eq] at hr
    obtain ⟨hr0, hr1⟩ := hr
    refine Spec.lift (Φ := fun r => ∃ y m d, dateP (t / 86400) y m d ∧ r = .tuple [.agg [.int .i64 y, .int .i64 m, .int .i64 d, .int .i64 (t % 86400 / 3600), .int .i64 (t % 86400 / 60 % 60), .int .i64 (t % 86400 % 60)], .int .i64 0]) ?_ (by rintro _ ⟨y, m, d, hd, rfl⟩; exact h y m d hd)
    refine Spec.of_G 36 Tryd.func22 (c := bodyOf Tryd.f22) (by kernel_rfl) (by kernel_rfl) (by simp [lenN]) fun W F => ?_
    refine G_run (Cs := r2T3) (kc := true) (ss := []) r2T3_ok hm 900 ?_
    rw [mom2_run]
    intro b
    have h0 : decide (t < 0) = false := by simp; omega
    have e1 : IntKind.i64.wrap (t.tdiv 86400) = t / 86400 := by rw [Int.tdiv_eq_ediv_of_nonneg hr0]; exact IntWalk.i64_in _ (by omega)
    have e2 : t.tmod 86400 = t % 86400 := Int.tmod_eq_emod_of_nonneg hr0
    have hq : 0 ≤ t % 86400 ∧ t % 86400 < 86400 := by omega
    have e3 : IntKind.i64.wrap ((t % 86400).tdiv 3600) = t % 86400 / 3600 := by rw [Int.tdiv_eq_ediv_of_nonneg hq.1]; exact IntWalk.i64_in _ (by omega)
    have e4 : IntKind.i64.wrap ((t % 86400).tdiv 60) = t % 86400 / 60 := by rw [Int.tdiv_eq_ediv_of_nonneg hq.1]; exact IntWalk.i64_in _ (by omega)
    have e5 : (t % 86400 / 60).tmod 60 = t % 86400 / 60 % 60 := Int.tmod_eq_emod_of_nonneg (by omega)
    have e6 : (t % 86400).tmod 60 = t % 86400 % 60 := Int.tmod_eq_emod_of_nonneg hq.1
    have h1 : decide (t / 86400 > 200000) = false := by simp; omega
    have h2 : (decide (0 ≤ t / 86400) && decide (t / 86400 < 84371)) = true := by simp; omega
    rw [e1, e2, e3, e4, e5, e6, h0, h1, h2]
    refine ⟨by decide, by decide, rfl, by omega, fun y m d hd b1 => ?_⟩
    exact ⟨⟨rfl, rfl, rfl, Nat.le_refl _⟩, by decide, ⟨rfl, rfl⟩, by decide, by decide, by decide, by decide, ⟨rfl, rfl⟩, ⟨rfl, rfl, rfl, Nat.le_refl _⟩, ⟨rfl, rfl⟩, y, m, d, hd, rfl⟩
theorem kn2_ok : CtrOk Tryd.prog 8 known2D := by
  intro args hs N h
  unfold known2D at h
  split at h
  case h_2 => exact h.elim
  refine Spec.pure (Cs := [(11, daysC), (15, wdC)]) (kc := true) (ss := []) 600 30 ⟨days_ok, wd_ok, trivial⟩ hm Tryd.func8 (by kernel_rfl) (by kernel_rfl) rfl h fun K => ?_
  rw [kn2_run]
  repeat' first | exact rfl | apply And.intro | (show _ ≤ _; decide) | fail
theorem tellsT_ok : AllOk Tryd.prog tellsT := ⟨kn2_ok, days_ok, days2_ok, is_ok, is2_ok, wd_ok, wd2_ok, print_ok, print2_ok, date_ok, date2_ok, unix_ok, unix2_ok, moment_ok, moment2_ok, trivial⟩
end Go.Proofs.YtjnkfgigpapeaaaDoor

/- CivilOrder: later moments (plain law). -/
namespace Go.Proofs.YtjnkfgigpapeaaaDoor
open Go Go.RowKit
open Go.Lib
theorem toListG (x : ByteArray) : x.toList = x.data.toList := ByteArray.toList_eq x
theorem baExt {a b : ByteArray} (h : a.data.toList = b.data.toList) : a = b := by
  cases a; cases b
  simp only [ByteArray.mk.injEq]
  exact Array.ext' h
theorem sEqG (a b : ByteArray) : sEq a b = true ↔ a = b := by
  constructor
  · intro h
    simp only [sEq, beq_iff_eq] at h
    rw [toListG, toListG] at h
    exact baExt h
  · rintro rfl; simp [sEq]
theorem sEqGF (a b : ByteArray) : sEq a b = false ↔ a ≠ b := by rw [← Bool.not_eq_true, sEqG]
theorem bLess : ∀ (x y : List UInt8), Op.bytesLess x y = decide (x < y)
  | [], [] => by simp [Op.bytesLess]
  | _ :: _, [] => by simp [Op.bytesLess]
  | [], _ :: _ => by simp [Op.bytesLess]
  | a :: x, b :: y => by
    rw [Op.bytesLess, bLess x y, Bool.eq_iff_iff]
    simp [List.cons_lt_cons_iff]
theorem sLtG (a b : ByteArray) : sLt a b = decide (a.data.toList < b.data.toList) := by rw [sLt, bLess, toListG, toListG]
theorem sLt_irr (a : ByteArray) : sLt a a = false := by rw [sLtG]; simp [List.lt_irrefl]
theorem sLt_trans {a b c : ByteArray} (h1 : sLt a b = true) (h2 : sLt b c = true) : sLt a c = true := by
  rw [sLtG, decide_eq_true_eq] at *
  exact List.lt_trans h1 h2
theorem sLt_asymm {a b : ByteArray} (h1 : sLt a b = true) : sLt b a = false := by
  cases h : sLt b a with
  | false => rfl
  | true => have := sLt_trans h1 h; rw [sLt_irr] at this; cases this
theorem sLt_tri {a b : ByteArray} (h1 : sLt a b = false) (h2 : sLt b a = false) : a = b := by
  rw [sLtG, decide_eq_false_iff_not] at *
  exact baExt (List.le_antisymm (List.not_lt.1 h2) (List.not_lt.1 h1))

/-! ### Later moments, by their parts -/
theorem d8 {a b : Nat} (ha : a < 10) (hb : b < 10) : (UInt8.ofNat (48 + a) < UInt8.ofNat (48 + b) ↔ a < b) ∧ (UInt8.ofNat (48 + a) = UInt8.ofNat (48 + b) ↔ a = b) := by
  have e1 : (UInt8.ofNat (48 + a)).toNat = 48 + a := by rw [UInt8.toNat_ofNat']; omega
  have e2 : (UInt8.ofNat (48 + b)).toNat = 48 + b := by rw [UInt8.toNat_ofNat']; omega
  constructor
  · rw [UInt8.lt_iff_toNat_lt, e1, e2]; omega
  · rw [← UInt8.toNat_inj, e1, e2]; omega
theorem two_lt {n n' : Nat} (h : n < 100) (h' : n' < 100) (r r' : List UInt8) : two8 n ++ r < two8 n' ++ r' ↔ n < n' ∨ n = n' ∧ r < r' := by
  unfold two8
  simp only [List.cons_append, List.nil_append, List.cons_lt_cons_iff]
  obtain ⟨a1, a2⟩ := d8 (a := n / 10) (b := n' / 10) (by omega) (by omega)
  obtain ⟨b1, b2⟩ := d8 (a := n % 10) (b := n' % 10) (by omega) (by omega)
  rw [a1, a2, b1, b2]
  by_cases hr : r < r'
  · simp only [hr, and_true]; omega
  · simp only [hr, and_false, or_false]; omega
theorem four_lt {n n' : Nat} (h : n < 10000) (h' : n' < 10000) (r r' : List UInt8) : four8 n ++ r < four8 n' ++ r' ↔ n < n' ∨ n = n' ∧ r < r' := by
  unfold four8
  simp only [List.cons_append, List.nil_append, List.cons_lt_cons_iff]
  obtain ⟨a1, a2⟩ := d8 (a := n / 1000) (b := n' / 1000) (by omega) (by omega)
  obtain ⟨b1, b2⟩ := d8 (a := n / 100 % 10) (b := n' / 100 % 10) (by omega) (by omega)
  obtain ⟨c1, c2⟩ := d8 (a := n / 10 % 10) (b := n' / 10 % 10) (by omega) (by omega)
  obtain ⟨e1, e2⟩ := d8 (a := n % 10) (b := n' % 10) (by omega) (by omega)
  rw [a1, a2, b1, b2, c1, c2, e1, e2]
  by_cases hr : r < r'
  · simp only [hr, and_true]; omega
  · simp only [hr, and_false, or_false]; omega
theorem sep_lt (c : UInt8) (r r' : List UInt8) : c :: r < c :: r' ↔ r < r' := by simp [List.cons_lt_cons_iff]
def pL (y m d h mi s : Int) : List UInt8 := four8 y.toNat ++ 45 :: (two8 m.toNat ++ 45 :: (two8 d.toNat ++ 32 :: (two8 h.toNat ++ 58 :: (two8 mi.toNat ++ 58 :: (two8 s.toNat ++ [])))))
def LtM (y m d h mi s y' m' d' h' mi' s' : Int) : Prop := y < y' ∨ y = y' ∧ (m < m' ∨ m = m' ∧ (d < d' ∨ d = d' ∧ (h < h' ∨ h = h' ∧ (mi < mi' ∨ mi = mi' ∧ s < s'))))
section
variable {y m d h mi s y' m' d' h' mi' s' : Int}
theorem print_pL (hv : isMomB y m d h mi s = true) : printB y m d h mi s = ⟨(pL y m d h mi s).toArray⟩ := by
  obtain ⟨⟨a1, a2, a3, a4, a5, a6⟩, ⟨b1, b2⟩, ⟨c1, c2⟩, d1, d2⟩ := isMomB_iff.1 hv
  have hl := (lenI_le y m).2
  unfold printB pL
  rw [dgB_four (by omega) (by omega), twoB_eq (n := m) (by omega) (by omega), twoB_eq (n := d) (by omega) (by omega), twoB_eq (n := h) (by omega) (by omega), twoB_eq (n := mi) (by omega) (by omega), twoB_eq (n := s) (by omega) (by omega)]
  have e1 : (⟨#[45]⟩ : ByteArray) = ⟨[45].toArray⟩ := rfl
  have e2 : (⟨#[32]⟩ : ByteArray) = ⟨[32].toArray⟩ := rfl
  have e3 : (⟨#[58]⟩ : ByteArray) = ⟨[58].toArray⟩ := rfl
  rw [e1, e2, e3]
  simp only [ba_app]
  congr 2
theorem pL_lt (hv : isMomB y m d h mi s = true) (hv' : isMomB y' m' d' h' mi' s' = true) : pL y m d h mi s < pL y' m' d' h' mi' s' ↔ LtM y m d h mi s y' m' d' h' mi' s' := by
  obtain ⟨⟨a1, a2, a3, a4, a5, a6⟩, ⟨b1, b2⟩, ⟨c1, c2⟩, d1, d2⟩ := isMomB_iff.1 hv
  obtain ⟨⟨a1', a2', a3', a4', a5', a6'⟩, ⟨b1', b2'⟩, ⟨c1', c2'⟩, d1', d2'⟩ := isMomB_iff.1 hv'
  have hl := (lenI_le y m).2
  have hl' := (lenI_le y' m').2
  have q : ∀ {a b : Int}, 0 ≤ a → 0 ≤ b → (a.toNat < b.toNat ↔ a < b) ∧ (a.toNat = b.toNat ↔ a = b) := fun h1 h2 => by omega
  unfold pL LtM
  rw [four_lt (by omega) (by omega), sep_lt, two_lt (by omega) (by omega), sep_lt, two_lt (by omega) (by omega), sep_lt, two_lt (by omega) (by omega), sep_lt, two_lt (by omega) (by omega), sep_lt, two_lt (by omega) (by omega)]
  rw [(q (a := y) (b := y') (by omega) (by omega)).1, (q (a := y) (b := y') (by omega) (by omega)).2, (q (a := m) (b := m') (by omega) (by omega)).1, (q (a := m) (b := m') (by omega) (by omega)).2, (q (a := d) (b := d') (by omega) (by omega)).1, (q (a := d) (b := d') (by omega) (by omega)).2,
    (q (a := h) (b := h') (by omega) (by omega)).1, (q (a := h) (b := h') (by omega) (by omega)).2, (q (a := mi) (b := mi') (by omega) (by omega)).1, (q (a := mi) (b := mi') (by omega) (by omega)).2, (q (a := s) (b := s') (by omega) (by omega)).1]
  have hnil : ¬ ([] : List UInt8) < [] := by simp
  simp only [hnil, and_false, or_false]
theorem print_lt (hv : isMomB y m d h mi s = true) (hv' : isMomB y' m' d' h' mi' s' = true) : sLt (printB y m d h mi s) (printB y' m' d' h' mi' s') = true ↔ LtM y m d h mi s y' m' d' h' mi' s' := by
  rw [sLtG, decide_eq_true_eq, print_pL hv, print_pL hv']
  show (pL y m d h mi s) < (pL y' m' d' h' mi' s') ↔ _
  exact pL_lt hv hv'
theorem days_bound (h1 : 1970 ≤ y) (h2 : y ≤ 2200) (h3 : 1 ≤ m) (h4 : m ≤ 12) (h5 : 1 ≤ d) (h6 : d ≤ lenI y m) : beginsI y ≤ daysI y m d ∧ daysI y m d < beginsI (y + 1) ∧ (∀ m', m < m' → m' ≤ 12 → daysI y m d < beginsI y + cumI y (m' - 1).toNat) ∧ beginsI y + cumI y (m - 1).toNat ≤ daysI y m d := by
  obtain ⟨k, hk⟩ : ∃ k : Nat, m = (k : Int) + 1 := ⟨(m - 1).toNat, by omega⟩
  subst hk
  have e : ((k : Int) + 1 - 1).toNat = k := by omega
  have hc := cumI_le y k
  have hs : cumI y (k + 1) = cumI y k + lenI y ((k : Int) + 1) := rfl
  have hmono : ∀ j : Nat, k + 1 ≤ j → cumI y (k + 1) ≤ cumI y j := fun j hj => by
    have := cumI_mono y (k + 1) (j - (k + 1))
    rwa [show k + 1 + (j - (k + 1)) = j by omega] at this
  have hb := begins_next h1 h2
  have h12 := hmono 12 (by omega)
  unfold daysI
  rw [e]
  refine ⟨by omega, by omega, fun m' hm hm2 => ?_, by omega⟩
  have := hmono (m' - 1).toNat (by omega)
  omega
theorem days_lt (hv : isMomB y m d h mi s = true) (hv' : isMomB y' m' d' h' mi' s' = true) (hl : y < y' ∨ y = y' ∧ (m < m' ∨ m = m' ∧ d < d')) : daysI y m d < daysI y' m' d' := by
  obtain ⟨⟨a1, a2, a3, a4, a5, a6⟩, _⟩ := isMomB_iff.1 hv
  obtain ⟨⟨a1', a2', a3', a4', a5', a6'⟩, _⟩ := isMomB_iff.1 hv'
  obtain ⟨p1, p2, p3, p4⟩ := days_bound a1 a2 a3 a4 a5 a6
  obtain ⟨q1, q2, q3, q4⟩ := days_bound a1' a2' a3' a4' a5' a6'
  rcases hl with hl | ⟨rfl, hl | ⟨rfl, hl⟩⟩
  · have := begins_mono (y := y) (y' := y') a1 (by omega) (by omega)
    omega
  · have := p3 m' hl a4'
    omega
  · unfold daysI; omega
def secI (y m d h mi s : Int) : Int := daysI y m d * 86400 + ((h * 60 + mi) * 60 + s)
theorem sec_lt (hv : isMomB y m d h mi s = true) (hv' : isMomB y' m' d' h' mi' s' = true) (hl : LtM y m d h mi s y' m' d' h' mi' s') : secI y m d h mi s < secI y' m' d' h' mi' s' := by
  obtain ⟨_, ⟨b1, b2⟩, ⟨c1, c2⟩, d1, d2⟩ := isMomB_iff.1 hv
  obtain ⟨_, ⟨b1', b2'⟩, ⟨c1', c2'⟩, d1', d2'⟩ := isMomB_iff.1 hv'
  unfold secI
  by_cases hd : y < y' ∨ y = y' ∧ (m < m' ∨ m = m' ∧ d < d')
  · have := days_lt hv hv' hd
    omega
  · have : y = y' ∧ m = m' ∧ d = d' ∧ (h < h' ∨ h = h' ∧ (mi < mi' ∨ mi = mi' ∧ s < s')) := by unfold LtM at hl; omega
    obtain ⟨rfl, rfl, rfl, hh⟩ := this
    omega
def cmpI (y m d h mi s y' m' d' h' mi' s' : Int) : Int := if y - y' = 0 then if m - m' = 0 then if d - d' = 0 then if h - h' = 0 then if mi - mi' = 0 then s - s' else mi - mi' else h - h' else d - d' else m - m' else y - y'
theorem cmp_cases (y m d h mi s y' m' d' h' mi' s' : Int) : (cmpI y m d h mi s y' m' d' h' mi' s' < 0 ∧ LtM y m d h mi s y' m' d' h' mi' s') ∨ (cmpI y m d h mi s y' m' d' h' mi' s' > 0 ∧ LtM y' m' d' h' mi' s' y m d h mi s) ∨ (cmpI y m d h mi s y' m' d' h' mi' s' = 0 ∧ y = y' ∧ m = m' ∧ d = d' ∧ h = h' ∧ mi = mi' ∧ s = s') := by
  unfold cmpI LtM
  repeat' split
  all_goals omega
theorem order_all (hv : isMomB y m d h mi s = true) (hv' : isMomB y' m' d' h' mi' s' = true) {c : Int} (hc : c = cmpI y m d h mi s y' m' d' h' mi' s') :
    (decide (secI y m d h mi s < secI y' m' d' h' mi' s') == decide (c < 0)) = true ∧ ((secI y m d h mi s == secI y' m' d' h' mi' s') == (c == 0)) = true ∧ (sLt (printB y m d h mi s) (printB y' m' d' h' mi' s') == decide (c < 0)) = true := by
  subst hc
  rcases cmp_cases y m d h mi s y' m' d' h' mi' s' with ⟨h1, h2⟩ | ⟨h1, h2⟩ | ⟨h1, rfl, rfl, rfl, rfl, rfl, rfl⟩
  · have q1 := sec_lt hv hv' h2
    have q2 := (print_lt hv hv').2 h2
    have e1 : (secI y m d h mi s == secI y' m' d' h' mi' s') = false := by simp; omega
    have e2 : (cmpI y m d h mi s y' m' d' h' mi' s' == 0) = false := by simp; omega
    rw [decide_eq_true q1, decide_eq_true h1, e1, e2, q2]
    exact ⟨rfl, rfl, rfl⟩
  · have q1 := sec_lt hv' hv h2
    have q2 := sLt_asymm ((print_lt hv' hv).2 h2)
    have e0 : decide (secI y m d h mi s < secI y' m' d' h' mi' s') = false := by simp; omega
    have e3 : decide (cmpI y m d h mi s y' m' d' h' mi' s' < 0) = false := by simp; omega
    have e1 : (secI y m d h mi s == secI y' m' d' h' mi' s') = false := by simp; omega
    have e2 : (cmpI y m d h mi s y' m' d' h' mi' s' == 0) = false := by simp; omega
    rw [e0, e3, e1, e2, q2]
    exact ⟨rfl, rfl, rfl⟩
  · have e0 : decide (secI y m d h mi s < secI y m d h mi s) = false := by simp
    rw [e0, h1, sLt_irr]
    simp
end
end Go.Proofs.YtjnkfgigpapeaaaDoor

/- CivilOrder. -/
namespace Go.Proofs.YtjnkfgigpapeaaaDoor
open Go Go.RowKit
section
variable {W : World} {F : List Ch} {b0 b1 : Nat} {y m d h mi s y' m' d' h' mi' s' : Int} {st : Sy}
theorem co14 (hv : isMomB y m d h mi s = true) (hv' : isMomB y' m' d' h' mi' s' = true) (c : Int) (hc : c = cmpI y m d h mi s y' m' d' h' mi' s') (h1 : lenN st.tmps = 102) (h2 : liveOk st.tmps [(2, .ptr 1 b0 0), (3, .ptr 2 b1 0), (5, .int .i64 (secI y m d h mi s)), (7, .int .i64 (secI y' m' d' h' mi' s')), (11, .int .i64 c)]) (hh : ∀ w, Rep W F st.heap w → Rep W F [itoaE, ⟨.blk b0, .cells [.int .i64 y, .int .i64 m, .int .i64 d, .int .i64 h, .int .i64 mi, .int .i64 s] 25⟩, ⟨.blk b1, .cells [.int .i64 y', .int .i64 m', .int .i64 d', .int .i64 h', .int .i64 mi', .int .i64 s'] 25⟩] w) : G Tryd.prog (endQ Tryd.prog Tryd.f3 W F fun _ r => r = .bool true) W F (frmR [] (bodyOf Tryd.f3) 14) st := by
  refine G_live 102 [(2, .ptr 1 b0 0), (3, .ptr 2 b1 0), (5, .int .i64 (secI y m d h mi s)), (7, .int .i64 (secI y' m' d' h' mi' s')), (11, .int .i64 c)] [itoaE, ⟨.blk b0, .cells [.int .i64 y, .int .i64 m, .int .i64 d, .int .i64 h, .int .i64 mi, .int .i64 s] 25⟩, ⟨.blk b1, .cells [.int .i64 y', .int .i64 m', .int .i64 d', .int .i64 h', .int .i64 mi', .int .i64 s'] 25⟩] h1 h2 hh fun u => ?_
  refine G_run (Cs := tellsT) (kc := true) (ss := []) tellsT_ok hm 3000 ?_
  obtain ⟨q1, q2, q3⟩ := order_all hv hv' hc
  rw [co_14, q1, q2, hv, hv', q3]
  repeat' first
    | exact rfl
    | exact trivial
    | apply And.intro
    | fail
theorem co7 (hv : isMomB y m d h mi s = true) (hv' : isMomB y' m' d' h' mi' s' = true) (h1 : lenN st.tmps = 102) (h2 : liveOk st.tmps [(2, .ptr 1 b0 0), (3, .ptr 2 b1 0), (5, .int .i64 (secI y m d h mi s)), (7, .int .i64 (secI y' m' d' h' mi' s'))]) (hh : ∀ w, Rep W F st.heap w → Rep W F [itoaE, ⟨.blk b0, .cells [.int .i64 y, .int .i64 m, .int .i64 d, .int .i64 h, .int .i64 mi, .int .i64 s] 25⟩, ⟨.blk b1, .cells [.int .i64 y', .int .i64 m', .int .i64 d', .int .i64 h', .int .i64 mi', .int .i64 s'] 25⟩] w) : G Tryd.prog (endQ Tryd.prog Tryd.f3 W F fun _ r => r = .bool true) W F (frmR [] (bodyOf Tryd.f3) 7) st := by
  refine G_live 102 [(2, .ptr 1 b0 0), (3, .ptr 2 b1 0), (5, .int .i64 (secI y m d h mi s)), (7, .int .i64 (secI y' m' d' h' mi' s'))] [itoaE, ⟨.blk b0, .cells [.int .i64 y, .int .i64 m, .int .i64 d, .int .i64 h, .int .i64 mi, .int .i64 s] 25⟩, ⟨.blk b1, .cells [.int .i64 y', .int .i64 m', .int .i64 d', .int .i64 h', .int .i64 mi', .int .i64 s'] 25⟩] h1 h2 hh fun u => ?_
  refine G_run (Cs := tellsT) (kc := true) (ss := [100011, 14]) tellsT_ok hm 3000 ?_
  rw [co_7]
  obtain ⟨⟨a1, a2, a3, a4, a5, a6⟩, ⟨b1_, b2⟩, ⟨c1, c2⟩, d1, d2⟩ := isMomB_iff.1 hv
  obtain ⟨⟨a1', a2', a3', a4', a5', a6'⟩, ⟨b1', b2'⟩, ⟨c1', c2'⟩, d1', d2'⟩ := isMomB_iff.1 hv'
  have hl := (lenI_le y m).2
  have hl' := (lenI_le y' m').2
  rw [IntWalk.i64_in (y - y') (by omega), IntWalk.i64_in (m - m') (by omega), IntWalk.i64_in (d - d') (by omega), IntWalk.i64_in (h - h') (by omega), IntWalk.i64_in (mi - mi') (by omega), IntWalk.i64_in (s - s') (by omega)]
  have fin : ∀ (c : Int), c = cmpI y m d h mi s y' m' d' h' mi' s' → ∀ (tm : List SV) (x1 x2 : Ent), lenN tm = 102 → liveOk tm [(2, .ptr 1 b0 0), (3, .ptr 2 b1 0), (5, .int .i64 (secI y m d h mi s)), (7, .int .i64 (secI y' m' d' h' mi' s')), (11, .int .i64 c)] → G Tryd.prog (endQ Tryd.prog Tryd.f3 W F fun _ r => r = .bool true) W F (frmR [] (bodyOf Tryd.f3) 14) ⟨tm, [itoaE, ⟨.blk b0, .cells [.int .i64 y, .int .i64 m, .int .i64 d, .int .i64 h, .int .i64 mi, .int .i64 s] 25⟩, ⟨.blk b1, .cells [.int .i64 y', .int .i64 m', .int .i64 d', .int .i64 h', .int .i64 mi', .int .i64 s'] 25⟩, x1, x2]⟩ := fun c hc tm x1 x2 g1 g2 => co14 hv hv' c hc g1 g2 (fun w hr => Rep.dropR (h := [_, _, _]) hr)
  unfold cmpI at fin
  cases e1 : (y - y' == 0) with
  | false =>
    have e1' : ¬ y - y' = 0 := by simpa using e1
    rw [if_neg e1'] at fin
    (repeat' first | exact rfl | exact trivial | exact fin _ rfl _ _ _ rfl ⟨rfl, rfl, rfl, rfl, rfl, trivial⟩ | apply And.intro | (refine fun _ => ?_) | (show _ ≤ _; decide) | (show _ < _; decide) | fail)
  | true =>
    have e1' : y - y' = 0 := by simpa using e1
    rw [if_pos e1'] at fin
    cases e2 : (m - m' == 0) with
    | false =>
      have e2' : ¬ m - m' = 0 := by simpa using e2
      rw [if_neg e2'] at fin
      (repeat' first | exact rfl | exact trivial | exact fin _ rfl _ _ _ rfl ⟨rfl, rfl, rfl, rfl, rfl, trivial⟩ | apply And.intro | (refine fun _ => ?_) | (show _ ≤ _; decide) | (show _ < _; decide) | fail)
    | true =>
      have e2' : m - m' = 0 := by simpa using e2
      rw [if_pos e2'] at fin
      cases e3 : (d - d' == 0) with
      | false =>
        have e3' : ¬ d - d' = 0 := by simpa using e3
        rw [if_neg e3'] at fin
        (repeat' first | exact rfl | exact trivial | exact fin _ rfl _ _ _ rfl ⟨rfl, rfl, rfl, rfl, rfl, trivial⟩ | apply And.intro | (refine fun _ => ?_) | (show _ ≤ _; decide) | (show _ < _; decide) | fail)
      | true =>
        have e3' : d - d' = 0 := by simpa using e3
        rw [if_pos e3'] at fin
        cases e4 : (h - h' == 0) with
        | false =>
          have e4' : ¬ h - h' = 0 := by simpa using e4
          rw [if_neg e4'] at fin
          (repeat' first | exact rfl | exact trivial | exact fin _ rfl _ _ _ rfl ⟨rfl, rfl, rfl, rfl, rfl, trivial⟩ | apply And.intro | (refine fun _ => ?_) | (show _ ≤ _; decide) | (show _ < _; decide) | fail)
        | true =>
          have e4' : h - h' = 0 := by simpa using e4
          rw [if_pos e4'] at fin
          cases e5 : (mi - mi' == 0) with
          | false =>
            have e5' : ¬ mi - mi' = 0 := by simpa using e5
            rw [if_neg e5'] at fin
            (repeat' first | exact rfl | exact trivial | exact fin _ rfl _ _ _ rfl ⟨rfl, rfl, rfl, rfl, rfl, trivial⟩ | apply And.intro | (refine fun _ => ?_) | (show _ ≤ _; decide) | (show _ < _; decide) | fail)
          | true =>
            have e5' : mi - mi' = 0 := by simpa using e5
            rw [if_pos e5'] at fin
            (repeat' first | exact rfl | exact trivial | exact fin _ rfl _ _ _ rfl ⟨rfl, rfl, rfl, rfl, rfl, trivial⟩ | apply And.intro | (refine fun _ => ?_) | (show _ ≤ _; decide) | (show _ < _; decide) | fail)
end
theorem order_ok (y m d h mi s y' m' d' h' mi' s' : Int) : Spec Tryd.prog 3 [itoaE] [.agg [.int .i64 y, .int .i64 m, .int .i64 d, .int .i64 h, .int .i64 mi, .int .i64 s], .agg [.int .i64 y', .int .i64 m', .int .i64 d', .int .i64 h', .int .i64 mi', .int .i64 s']] fun _ r => r = .bool true := by
  refine Spec.of_G 102 Tryd.func3 (c := bodyOf Tryd.f3) (by kernel_rfl) (by kernel_rfl) (Nat.le_of_ble_eq_true rfl) fun W F => ?_
  refine G_run (Cs := tellsT) (kc := true) (ss := [7]) tellsT_ok hm 3000 ?_
  rw [co_start]
  cases hv : isB y m d && (inB h 24 && (inB mi 60 && inB s 60)) with
  | true =>
    cases hv' : isB y' m' d' && (inB h' 24 && (inB mi' 60 && inB s' 60)) with
    | true =>
      repeat' first
        | exact rfl
        | exact trivial
        | exact co7 hv hv' rfl ⟨rfl, rfl, rfl, rfl, trivial⟩ (fun _ h => h)
        | apply And.intro
        | (refine fun _ => ?_)
        | fail
    | false =>
      repeat' first
        | exact rfl
        | exact trivial
        | apply And.intro
        | (refine fun _ => ?_)
        | fail
  | false =>
    cases hv' : isB y' m' d' && (inB h' 24 && (inB mi' 60 && inB s' 60)) with
    | true =>
      repeat' first
        | exact rfl
        | exact trivial
        | apply And.intro
        | (refine fun _ => ?_)
        | fail
    | false =>
      repeat' first
        | exact rfl
        | exact trivial
        | apply And.intro
        | (refine fun _ => ?_)
        | fail
end Go.Proofs.YtjnkfgigpapeaaaDoor

/- A law's call with a slice of numbers as1 its argument. -/
namespace Go.Proofs.YtjnkfgigpapeaaaDoor
open Go Go.RowKit Go.ChangeShapes

theorem ro_ints {W : World} {k : IntKind} {a : Addr} {len cap : Nat} {zs : List Int} {enc : Int → List SV} (henc : ∀ x, enc x = [.int k x]) (hl : len ≤ cap) (hz : zs.length = cap) (hcell : ∀ i, i < zs.length → W.cell? (a.add i) = some (.int k (zs.getD i 0))) :
    has W (.sl (some a) cap) (.roL 1 enc (zs.take len) 0) [] := by
  by_cases h0 : len = 0
  · subst h0
    exact ⟨rfl, (fun x => by rw [henc]; rfl), by simp, .inl (by simp)⟩
  · obtain ⟨b, off, rfl, hc⟩ := ints_at hcell (by omega)
    have hc0 := hc 0 (by omega)
    have hc1 : ∃ cur T fr, W.heap[b]? = some (.cells cur T fr) := by
      simp only [World.cell?] at hc0
      split at hc0
      · rename_i cur T fr hh; exact ⟨_, _, _, hh⟩
      · cases hc0
    obtain ⟨cur, T, fr, hb⟩ := hc1
    refine ⟨rfl, (fun x => by rw [henc]; rfl), by simp; omega, .inr ⟨b, off, cur, T, fr, rfl, hb, ?_⟩⟩
    · have hfl : ∀ l : List Int, flatV enc l = l.map fun x => Value.int k x := by
        intro l
        induction l with
        | nil => rfl
        | cons x l ih =>
          have : flatV enc (x :: l) = denL (enc x) ++ flatV enc l := by simp [flatV]
          rw [this, ih, henc]; rfl
      rw [hfl, List.map_take]
      have hlt : (zs.take len).length = len := by simp; omega
      rw [hlt, Nat.mul_one]
      apply List.ext_getElem?
      intro j
      simp only [List.getElem?_take, List.getElem?_drop, List.getElem?_map]
      split
      · rename_i hj
        have h1 := hc j (by omega)
        simp only [World.cell?, hb] at h1
        have h2 : cur.toList[off + j]? = cur[off + j]? := by simp
        simp at h1
        rw [h2, h1]
        have : j < zs.length := by omega
        simp [this]
      · rfl

theorem arg_ints {P : Program} {H : Type} {enc : TypeId × Value → H} {t e : TypeId} {k : IntKind} {fuel : Nat} {W : World} {a0 : Option Addr} {len cap : Nat} {x : DataW H × List MemPlace} {enc' : Int → List SV}
    (henc : ∀ x, enc' x = [.int k x]) (ht : P.underlying t = some (.slice e)) (he : P.underlying e = some (.int k)) (hc : P.cellsOf e = 1)
    (hf : DataW.trod enc P W 0 (fun _ => true) true fuel t [.slice a0 len cap] = some x) :
    ∃ bs : List Int, bs.length = len ∧ (∀ z ∈ bs, (Lit.int k z).wf = true) ∧ has W (.sl a0 cap) (.roL 1 enc' bs 0) [] := by
  rcases open_ints ht he hc hf with ⟨hcs, _⟩ | ⟨a, len', cap', zs, hcs, _, hl, hm, hz, _, hcell, hwz⟩
  · simp only [List.cons.injEq, Value.slice.injEq, and_true] at hcs
    obtain ⟨rfl, rfl, rfl⟩ := hcs
    exact ⟨[], rfl, (fun z hz => by cases hz), rfl, fun x => by rw [henc]; rfl, by simp, .inl rfl⟩
  · simp at hcs
    obtain ⟨rfl, rfl, rfl⟩ := hcs
    simp only [if_true] at hz
    exact ⟨zs.take len, by simp; omega, fun z hz => hwz z (List.mem_of_mem_take hz), ro_ints (k := k) (len := len) henc hl hz hcell⟩

theorem ro_gen {W : World} {α : Type} {a : Addr} {len cap : Nat} {zs : List α} {enc : α → List SV} {sv : α → SV} {d : α} (henc : ∀ x, enc x = [sv x]) (hl : len ≤ cap) (hz : zs.length = cap) (hcell : ∀ i, i < zs.length → W.cell? (a.add i) = some (den (sv (zs.getD i d)))) :
    has W (.sl (some a) cap) (.roL 1 enc (zs.take len) d) [] := by
  by_cases h0 : len = 0
  · subst h0
    exact ⟨rfl, (fun x => by rw [henc]; rfl), by simp, .inl (by simp)⟩
  · obtain ⟨b, off, spot⟩ := a
    have hspot : spot = none := by simpa [Addr.add] using World.cell?_spot (hcell 0 (by omega))
    subst hspot
    have hc : ∀ j, j < zs.length → W.cell? ⟨b, off + j, none⟩ = some (den (sv (zs.getD j d))) := fun j hj => by rw [← Go.WideShapes.add_plain]; exact hcell j hj
    have hc0 := hc 0 (by omega)
    have hc1 : ∃ cur T fr, W.heap[b]? = some (.cells cur T fr) := by
      simp only [World.cell?] at hc0
      split at hc0
      · rename_i cur T fr hh; exact ⟨_, _, _, hh⟩
      · cases hc0
    obtain ⟨cur, T, fr, hb⟩ := hc1
    refine ⟨rfl, (fun x => by rw [henc]; rfl), by simp; omega, .inr ⟨b, off, cur, T, fr, rfl, hb, ?_⟩⟩
    have hfl : ∀ l : List α, flatV enc l = l.map fun x => den (sv x) := by
      intro l
      induction l with
      | nil => rfl
      | cons x l ih =>
        have : flatV enc (x :: l) = denL (enc x) ++ flatV enc l := by simp [flatV]
        rw [this, ih, henc]; rfl
    rw [hfl, List.map_take]
    have hlt : (zs.take len).length = len := by simp; omega
    rw [hlt, Nat.mul_one]
    apply List.ext_getElem?
    intro j
    simp only [List.getElem?_take, List.getElem?_drop, List.getElem?_map]
    split
    · rename_i hj
      have h1 := hc j (by omega)
      simp only [World.cell?, hb] at h1
      have h2 : cur.toList[off + j]? = cur[off + j]? := by simp
      simp at h1
      rw [h2, h1]
      have : j < zs.length := by omega
      simp [this]
    · rfl

theorem arg_bools {P : Program} {H : Type} {enc : TypeId × Value → H} {t e : TypeId} {fuel : Nat} {W : World} {a0 : Option Addr} {len cap : Nat} {x : DataW H × List MemPlace} {enc' : Bool → List SV}
    (henc : ∀ x, enc' x = [.bool x]) (ht : P.underlying t = some (.slice e)) (he : P.underlying e = some .bool) (hc : P.cellsOf e = 1)
    (hf : DataW.trod enc P W 0 (fun _ => true) true fuel t [.slice a0 len cap] = some x) :
    ∃ bs : List Bool, bs.length = len ∧ has W (.sl a0 cap) (.roL 1 enc' bs false) [] := by
  rcases Go.Deep.open_bools ht he hc hf with ⟨hcs, _⟩ | ⟨a, len', cap', B, hcs, _, hl, hm, _, hcell⟩
  · simp only [List.cons.injEq, Value.slice.injEq, and_true] at hcs
    obtain ⟨rfl, rfl, rfl⟩ := hcs
    exact ⟨[], rfl, rfl, fun x => by rw [henc]; rfl, by simp, .inl rfl⟩
  · simp at hcs
    obtain ⟨rfl, rfl, rfl⟩ := hcs
    have hlen : ((List.range cap).map B).length = cap := by simp
    refine ⟨((List.range cap).map B).take len, by simp; omega, ro_gen (sv := SV.bool) henc hl hlen fun i hi => ?_⟩
    rw [hlen] at hi
    rw [hcell i hi]
    simp [List.getD, hi, den]

theorem arg_strs {P : Program} {H : Type} {enc : TypeId × Value → H} {t e : TypeId} {fuel : Nat} {W : World} {a0 : Option Addr} {len cap : Nat} {x : DataW H × List MemPlace} {enc' : ByteArray → List SV}
    (henc : ∀ x, enc' x = [.str x]) (ht : P.underlying t = some (.slice e)) (he : P.underlying e = some .string) (hc : P.cellsOf e = 1)
    (hf : DataW.trod enc P W 0 (fun _ => true) true fuel t [.slice a0 len cap] = some x) :
    ∃ bs : List ByteArray, bs.length = len ∧ (∀ s ∈ bs, s.size ≤ maxLen) ∧ has W (.sl a0 cap) (.roL 1 enc' bs .empty) [] := by
  rcases Go.Deep.open_strs ht he hc hf with ⟨hcs, _⟩ | ⟨a, len', cap', m, S, hcs, _, hl, hm, hmm, _, hcell⟩
  · simp only [List.cons.injEq, Value.slice.injEq, and_true] at hcs
    obtain ⟨rfl, rfl, rfl⟩ := hcs
    exact ⟨[], rfl, (fun s hs => by cases hs), rfl, fun x => by rw [henc]; rfl, by simp, .inl rfl⟩
  · simp at hcs
    obtain ⟨rfl, rfl, rfl⟩ := hcs
    simp only [if_true] at hmm
    subst hmm
    have hlen : ((List.range m).map S).length = m := by simp
    refine ⟨((List.range m).map S).take len, by simp; omega, fun s hs => ?_, ro_gen (sv := SV.str) henc hl hlen fun i hi => ?_⟩
    · obtain ⟨i, hi, rfl⟩ := List.mem_map.1 (List.mem_of_mem_take hs)
      exact (hcell i (List.mem_range.1 hi)).2
    · rw [hlen] at hi
      rw [(hcell i hi).1]
      simp [List.getD, hi, den]

theorem calls_ints {P : Program} {H : Type} {enc : TypeId × Value → H} {f : FuncId} {t e : TypeId} {k : IntKind} {fuel : Nat} {W : World} {a0 : Option Addr} {len cap : Nat} {x : DataW H × List MemPlace} {v : SV} {enc' : Int → List SV}
    (henc : ∀ x, enc' x = [.int k x]) (ht : P.underlying t = some (.slice e)) (he : P.underlying e = some (.int k)) (hc : P.cellsOf e = 1)
    (hf : DataW.trod enc P W 0 (fun _ => true) true fuel t [.slice a0 len cap] = some x)
    (h : ∀ (ao : Option Addr) (bs : List Int) (cap : Nat), (∀ z ∈ bs, (Lit.int k z).wf = true) → Spec P f [⟨.sl ao cap, .roL 1 enc' bs 0⟩] [.vec 0 ao bs.length cap] fun _ r => r = v) :
    Calls P f #[.slice a0 len cap] W fun e W' => e = .returned (den v) ∧ Below W.heap.size W W' := by
  obtain ⟨bs, rfl, hw, hh⟩ := arg_ints henc ht he hc hf
  have h4 := Spec.rowR (W := W) (hs := [⟨.sl a0 cap, .roL 1 enc' bs 0⟩]) (fun e he => by rcases List.mem_singleton.1 he with rfl; exact hh) (h a0 bs cap hw)
  exact h4
end Go.Proofs.YtjnkfgigpapeaaaDoor

/- A law's call with a slice of rows (structs of plain fields) as1 its argument. -/
namespace Go.Proofs.YtjnkfgigpapeaaaDoor
open Go Go.RowKit Go.ChangeShapes

theorem arg_rows {P : Program} {H : Type} {enc : TypeId × Value → H} {t e : TypeId} {fuel : Nat} {W : World} {a0 : Option Addr} {len cap : Nat} {x : DataW H × List MemPlace} {α : Type} {enc' : α → List SV} {sz : Nat} {good : α → Prop} (d : α)
    (henc : ∀ x, (enc' x).length = sz) (ht : P.underlying t = some (.slice e)) (hc : P.cellsOf e = sz) (hpos : 0 < sz)
    (hel : ∀ n cs y, cs.length = sz → DataW.trod enc P W 0 (fun _ => true) true n e cs = some y → ∃ a, cs = denL (enc' a) ∧ good a)
    (hf : DataW.trod enc P W 0 (fun _ => true) true fuel t [.slice a0 len cap] = some x) :
    ∃ bs : List α, bs.length = len ∧ (∀ z ∈ bs, good z) ∧ has W (.sl a0 cap) (.roL sz enc' bs d) [] := by
  rcases Go.Deep.open_slice ht hf with ⟨hcs, _⟩ | ⟨a, len', cap', m, n, D, Pl, hcs, _, hl, hm, hmm, _, hx⟩
  · simp only [List.cons.injEq, Value.slice.injEq, and_true] at hcs
    obtain ⟨rfl, rfl, rfl⟩ := hcs
    exact ⟨[], rfl, (fun z hz => by cases hz), rfl, henc, by simp, .inl rfl⟩
  · simp only [List.cons.injEq, Value.slice.injEq, and_true] at hcs
    obtain ⟨rfl, rfl, rfl⟩ := hcs
    simp only [if_true] at hmm
    subst hmm
    have : Inhabited α := ⟨d⟩
    obtain ⟨A, hA⟩ := Go.Deep.choose_lt (α := α) (p := fun i a' => good a' ∧ ∀ j, j < sz → W.cell? (a.add (i * sz + j)) = (denL (enc' a'))[j]?) (fun i hi => by
      obtain ⟨cs', h1, h2⟩ := hx i hi
      rw [hc] at h1
      obtain ⟨_, hlen, hcell⟩ := World.cells?_some h1
      obtain ⟨a', rfl, hg⟩ := hel _ _ _ hlen h2
      refine ⟨a', hg, fun j hj => ?_⟩
      rw [← Go.Deep.add_add]
      exact hcell j hj)
    refine ⟨(List.range len).map A, by simp, fun z hz => ?_, rfl, henc, by simpa using hl, ?_⟩
    · obtain ⟨i, hi, rfl⟩ := List.mem_map.1 hz
      exact (hA i (by have := List.mem_range.1 hi; omega)).1
    · by_cases h0 : len = 0
      · subst h0; exact .inl rfl
      refine .inr ?_
      obtain ⟨b, off, spot⟩ := a
      have hc0 := (hA 0 (by omega)).2 0 hpos
      have hlt : 0 < (denL (enc' (A 0))).length := by rw [length_denL, henc]; exact hpos
      rw [List.getElem?_eq_getElem hlt] at hc0
      have hspot : spot = none := by simpa [Addr.add] using World.cell?_spot hc0
      subst hspot
      have hcc : ∀ i, i < m → ∀ j, j < sz → W.cell? ⟨b, off + (i * sz + j), none⟩ = (denL (enc' (A i)))[j]? := fun i hi j hj => by rw [← Go.WideShapes.add_plain]; exact (hA i hi).2 j hj
      have hc1 : ∃ cur T fr, W.heap[b]? = some (.cells cur T fr) := by
        have hc0 := hcc 0 (by omega) 0 hpos
        rw [List.getElem?_eq_getElem hlt] at hc0
        simp only [World.cell?] at hc0
        split at hc0
        · rename_i cur T fr hh; exact ⟨_, _, _, hh⟩
        · cases hc0
      obtain ⟨cur, T, fr, hb⟩ := hc1
      refine ⟨b, off, cur, T, fr, rfl, hb, ?_⟩
      have hfl : (flatV enc' ((List.range len).map A)).length = len * sz := by rw [length_flatV henc]; simp
      apply List.ext_getElem?
      intro q
      rw [List.getElem?_take, List.getElem?_drop]
      split
      · rename_i hq
        have hq : q < len * sz := by simpa using hq
        have hi : q / sz < len := (Nat.div_lt_iff_lt_mul hpos).2 hq
        have hj : q % sz < sz := Nat.mod_lt _ hpos
        have hqe : q = q / sz * sz + q % sz := by rw [Nat.mul_comm]; exact (Nat.div_add_mod q sz).symm
        have h1 := hcc (q / sz) (by omega) (q % sz) hj
        rw [hqe, flatV_get henc d _ _ _ (by simpa using hi) hj, ← hqe]
        simp only [List.getD, List.getElem?_map, List.getElem?_range hi, Option.map_some, Option.getD_some]
        rw [← h1, ← hqe]
        simp [World.cell?, hb]
      · rename_i hq
        have hq : ¬ q < len * sz := by simpa using hq
        rw [List.getElem?_eq_none (by omega)]

theorem fld_int {P : Program} {H : Type} {enc : TypeId × Value → H} {W : World} {n : Nat} {t : TypeId} {cs : List Value} {y : DataW H × List MemPlace} {k : IntKind} (ht : P.underlying t = some (.int k)) (h : DataW.trod enc P W 0 (fun _ => true) true n t cs = some y) : ∃ z, cs = [.int k z] ∧ (Lit.int k z).wf = true := by
  obtain ⟨z, h1, _, h2⟩ := DataW.trod_int ht h
  exact ⟨z, h1, h2⟩
theorem fld_str {P : Program} {H : Type} {enc : TypeId × Value → H} {W : World} {n : Nat} {t : TypeId} {cs : List Value} {y : DataW H × List MemPlace} (ht : P.underlying t = some .string) (h : DataW.trod enc P W 0 (fun _ => true) true n t cs = some y) : ∃ s : ByteArray, cs = [.string s] ∧ s.size ≤ maxLen := by
  obtain ⟨z, h1, _, h2⟩ := DataW.trod_string ht h
  exact ⟨z, h1, h2⟩
theorem fld_bool {P : Program} {H : Type} {enc : TypeId × Value → H} {W : World} {n : Nat} {t : TypeId} {cs : List Value} {y : DataW H × List MemPlace} (ht : P.underlying t = some .bool) (h : DataW.trod enc P W 0 (fun _ => true) true n t cs = some y) : ∃ s : Bool, cs = [.bool s] := by
  obtain ⟨z, h1, _⟩ := DataW.trod_bool ht h
  exact ⟨z, h1⟩
theorem cut_cells : ∀ (cs : List Value) (i : Nat) (v : Value), (cs.drop i).take 1 = [v] → cs[i]? = some v
  | [], i, v, h => by simp at h
  | c :: cs, 0, v, h => by simp at h; simp [h]
  | c :: cs, i + 1, v, h => by simpa using cut_cells cs i v (by simpa using h)
end Go.Proofs.YtjnkfgigpapeaaaDoor

/- Dates and moments as1 arguments. -/
namespace Go.Proofs.YtjnkfgigpapeaaaDoor
open Go Go.RowKit
open Go.ChangeShapes
structure Dt where
  (y m d : Int)
def encDt (a : Dt) : List SV := [.int .i64 a.y, .int .i64 a.m, .int .i64 a.d]
structure Mt where
  (y m d h mi s : Int)
def encMt (a : Mt) : List SV := [.int .i64 a.y, .int .i64 a.m, .int .i64 a.d, .int .i64 a.h, .int .i64 a.mi, .int .i64 a.s]
theorem date_row0 {H : Type} {enc : TypeId × Value → H} {W : World} (n : Nat) (cs : List Value) (y : DataW H × List MemPlace) (hcs : cs.length = 3) (h : DataW.trod enc Tryd.prog W 0 (fun _ => true) true n 23 cs = some y) : ∃ a, cs = denL (encDt a) ∧ True := by
  obtain ⟨xs, m, _, _, hl, hlen, hf⟩ := DataW.trod_struct Tryd.underlying23 h
  have hlen : xs.length = 3 := hlen
  match xs, hlen with
  | [y0, y1, y2], _ =>
  have c3 : Tryd.prog.cellsOf 3 = 1 := by kernel_rfl
  have c9 : True := trivial
  have c4 : True := trivial
  have q0 := hf 0 _ rfl
  obtain ⟨a0, e0, w0⟩ := fld_int Tryd.underlying3 q0
  have q1 := hf 1 _ rfl
  obtain ⟨a1, e1, w1⟩ := fld_int Tryd.underlying3 q1
  have q2 := hf 2 _ rfl
  obtain ⟨a2, e2, w2⟩ := fld_int Tryd.underlying3 q2
  clear hf
  obtain ⟨v0, cs0, rfl⟩ := List.exists_cons_of_length_eq_add_one hcs
  have hc0 : cs0.length = 2 := by simpa using hcs
  obtain ⟨v1, cs1, rfl⟩ := List.exists_cons_of_length_eq_add_one hc0
  have hc1 : cs1.length = 1 := by simpa using hc0
  obtain ⟨v2, cs2, rfl⟩ := List.exists_cons_of_length_eq_add_one hc1
  have hc2 : cs2.length = 0 := by simpa using hc1
  obtain rfl := List.eq_nil_of_length_eq_zero hc2
  have g0 : (([v0, v1, v2] : List Value).drop 0).take (Tryd.prog.cellsOf 3) = [.int .i64 a0] := e0
  rw [c3] at g0
  have k0 := cut_cells _ _ _ g0
  have j0 : v0 = .int .i64 a0 := Option.some.inj k0
  have g1 : (([v0, v1, v2] : List Value).drop 1).take (Tryd.prog.cellsOf 3) = [.int .i64 a1] := e1
  rw [c3] at g1
  have k1 := cut_cells _ _ _ g1
  have j1 : v1 = .int .i64 a1 := Option.some.inj k1
  have g2 : (([v0, v1, v2] : List Value).drop 2).take (Tryd.prog.cellsOf 3) = [.int .i64 a2] := e2
  rw [c3] at g2
  have k2 := cut_cells _ _ _ g2
  have j2 : v2 = .int .i64 a2 := Option.some.inj k2
  subst j0 j1 j2
  exact ⟨⟨a0, a1, a2⟩, rfl, trivial⟩
theorem date_row {H : Type} {enc : TypeId × Value → H} {W : World} (n : Nat) (cs : List Value) (y : DataW H × List MemPlace) (hcs : cs.length = 3) (h : DataW.trod enc Tryd.prog W 0 (fun _ => true) true n 23 cs = some y) : ∃ a, cs = denL (encDt a) := by
  obtain ⟨a, h1, _⟩ := date_row0 n cs y hcs h
  exact ⟨a, h1⟩
theorem mom_row {H : Type} {enc : TypeId × Value → H} {W : World} (n : Nat) (cs : List Value) (y : DataW H × List MemPlace) (hcs : cs.length = 6) (h : DataW.trod enc Tryd.prog W 0 (fun _ => true) true n 25 cs = some y) : ∃ a, cs = denL (encMt a) := by
  obtain ⟨xs, m, _, _, hl, hlen, hf⟩ := DataW.trod_struct Tryd.underlying25 h
  have hlen : xs.length = 4 := hlen
  match xs, hlen with
  | [y0, y1, y2, y3], _ =>
  have cD : Tryd.prog.cellsOf 23 = 3 := by kernel_rfl
  have c3 : Tryd.prog.cellsOf 3 = 1 := by kernel_rfl
  have q0 := hf 0 _ rfl
  have q1 := hf 1 _ rfl
  have q2 := hf 2 _ rfl
  have q3 := hf 3 _ rfl
  clear hf
  have g0 : ((cs.drop 0).take (Tryd.prog.cellsOf 23)).length = 3 := by rw [cD]; simp [hcs]
  obtain ⟨a, e0⟩ := date_row m _ _ g0 q0
  obtain ⟨a1, e1, w1⟩ := fld_int Tryd.underlying3 q1
  obtain ⟨a2, e2, w2⟩ := fld_int Tryd.underlying3 q2
  obtain ⟨a3, e3, w3⟩ := fld_int Tryd.underlying3 q3
  have f0 : (cs.drop 0).take 3 = denL (encDt a) := by rw [← cD]; exact e0
  have f1 : (cs.drop 3).take 1 = [.int .i64 a1] := by rw [← c3]; exact e1
  have f2 : (cs.drop 4).take 1 = [.int .i64 a2] := by rw [← c3]; exact e2
  have f3 : (cs.drop 5).take 1 = [.int .i64 a3] := by rw [← c3]; exact e3
  obtain ⟨v0, cs0, rfl⟩ := List.exists_cons_of_length_eq_add_one hcs
  have hc0 : cs0.length = 5 := by simpa using hcs
  obtain ⟨v1, cs1, rfl⟩ := List.exists_cons_of_length_eq_add_one hc0
  have hc1 : cs1.length = 4 := by simpa using hc0
  obtain ⟨v2, cs2, rfl⟩ := List.exists_cons_of_length_eq_add_one hc1
  have hc2 : cs2.length = 3 := by simpa using hc1
  obtain ⟨v3, cs3, rfl⟩ := List.exists_cons_of_length_eq_add_one hc2
  have hc3 : cs3.length = 2 := by simpa using hc2
  obtain ⟨v4, cs4, rfl⟩ := List.exists_cons_of_length_eq_add_one hc3
  have hc4 : cs4.length = 1 := by simpa using hc3
  obtain ⟨v5, cs5, rfl⟩ := List.exists_cons_of_length_eq_add_one hc4
  have hc5 : cs5.length = 0 := by simpa using hc4
  obtain rfl := List.eq_nil_of_length_eq_zero hc5
  obtain ⟨yy, mm, dd⟩ := a
  simp [denL, encDt, den] at f0 f1 f2 f3
  obtain ⟨rfl, rfl, rfl⟩ := f0
  subst f1; subst f2; subst f3
  exact ⟨⟨yy, mm, dd, a1, a2, a3⟩, rfl⟩
end Go.Proofs.YtjnkfgigpapeaaaDoor

