/- From a contract to the row; a state said by its live slots alone. -/
import Derived.Test.YtihajdkipkfiiaaRun
namespace Go.Proofs.Ytihajdkipkfiiaa
open Go Go.RowKit
set_option linter.unusedVariables false
set_option linter.unusedSimpArgs false
set_option linter.unnecessarySimpa false

theorem H.none (W : World) : H W W [] := ⟨St.refl W, List.nodup_nil, fun b o hb => by simp at hb, fun b o hb => by simp at hb, fun _ _ => rfl⟩

theorem Below.of_H {W w : World} {L : List Ch} (h : H W w L) : Below W.heap.size W w := ⟨h.st.os, h.st.tape, h.st.output, h.st.size, h.old⟩

/-- A law's function, from the world of its call. -/
theorem Spec.row {P : Program} {f : FuncId} {args : List SV} {v : SV} (h : Spec P f [] args fun _ r => r = v) (W : World) :
    Calls P f (denL args).toArray W fun e W' => e = .returned (den v) ∧ Below W.heap.size W W' := by
  refine Calls.mono (h W [] W ⟨[], rfl, H.none W⟩) ?_
  rintro e W' ⟨h', r, rfl, rfl, cs, _, hH⟩
  exact ⟨rfl, Below.of_H hH⟩

/-- A law's function with arguments that it only reads: entries that own nothing. -/
theorem Spec.rowR {P : Program} {f : FuncId} {args : List SV} {v : SV} {hs : List Ent} {W : World} (he : ∀ e ∈ hs, has W e.loc e.obj []) (h : Spec P f hs args fun _ r => r = v) :
    Calls P f (denL args).toArray W fun e W' => e = .returned (den v) ∧ Below W.heap.size W W' := by
  have ha : ∀ (hs : List Ent), (∀ e ∈ hs, has W e.loc e.obj []) → ∃ cs, HasAll W hs cs ∧ cs.flatten = [] := by
    intro hs
    induction hs with
    | nil => intro _; exact ⟨[], rfl, rfl⟩
    | cons e hs ih =>
      intro he
      obtain ⟨cs, h1, h2⟩ := ih fun e' he' => he e' (List.mem_cons_of_mem _ he')
      exact ⟨[] :: cs, ⟨[], cs, rfl, he e List.mem_cons_self, h1⟩, by simpa using h2⟩
  obtain ⟨cs, h1, h2⟩ := ha hs he
  refine Calls.mono (h W [] W ⟨cs, h1, (H.none W).perm (by simp [h2])⟩) ?_
  rintro e W' ⟨h', r, rfl, rfl, cs', _, hH⟩
  exact ⟨rfl, Below.of_H hH⟩

theorem sEq_self (a : ByteArray) : sEq a a = true := by simp [sEq]

theorem i64_range {n : Int} (h : (Lit.int .i64 n).wf = true) : -9223372036854775808 ≤ n ∧ n ≤ 9223372036854775807 := by
  simp only [Lit.wf, Bool.and_eq_true, decide_eq_true_eq] at h
  exact h

/-- The state may be said by its live slots, and with fewer entries. -/
theorem G_live {P : Program} {Q : Exit → Act → World → Prop} {W : World} {F : List Ch} {k : List Frm} {st : Sy} (n : Nat) (live : List (Nat × SV)) (hp : List Ent) (hlen : lenN st.tmps = n) (hlive : liveOk st.tmps live)
    (hheap : ∀ w, Rep W F st.heap w → Rep W F hp w) (h : ∀ u, G P Q W F k ⟨mkT u n 0 live, hp⟩) : G P Q W F k st := by
  refine G_eqv (h fun t => den ((nth st.tmps t).getD (.raw undef))) ?_ hheap
  rw [lenN_eq] at hlen
  rw [mkT_eq _ st.tmps (fun _ => rfl) n 0 live (by omega) hlive]
  rfl

/-- Where a slice begins that is cut at its begin. -/
def cutA (ao : Option Addr) (cap sz k : Nat) : Option Addr := if cap = k then ao else ao.map (·.add (k * sz))
theorem den_cut (l : Nat) (ao : Option Addr) (cap sz k n : Nat) : den (.sub l ao cap sz k n) = den (.vec l (cutA ao cap sz k) (n - k) (cap - k)) := rfl

theorem flatV_drop {α : Type} {enc : α → List SV} {sz : Nat} (h : ∀ x, (enc x).length = sz) : ∀ (xs : List α) (k : Nat), flatV enc (xs.drop k) = (flatV enc xs).drop (k * sz)
  | xs, 0 => by simp
  | [], k + 1 => by simp [flatV]
  | x :: xs, k + 1 => by
    have ih := flatV_drop h xs k
    simp only [List.drop_succ_cons, ih]
    have e : flatV enc (x :: xs) = denL (enc x) ++ flatV enc xs := by simp [flatV]
    have hl : (denL (enc x)).length = sz := by rw [length_denL, h]
    have e2 : (denL (enc x) ++ flatV enc xs).drop sz = flatV enc xs := by
      have := List.drop_left (l₁ := denL (enc x)) (l₂ := flatV enc xs)
      rwa [hl] at this
    rw [e, Nat.succ_mul, Nat.add_comm (k * sz) sz, ← List.drop_drop, e2]

section
variable {W w : World} {F : List Ch}
/-- A slice's first k elements are let go. -/
theorem Rep.cut {h : List Ent} {l cap sz k : Nat} {ao : Option Addr} {α : Type} {enc : α → List SV} {xs : List α} {d : α} {T : TypeId} (hl : nth h l = some ⟨.sl ao cap, .vecL T sz enc xs d⟩) (hk : k ≤ xs.length) (hr : Rep W F h w) :
    Rep W F (setN h l ⟨.sl (cutA ao cap sz k) (cap - k), .vecL T sz enc (xs.drop k) d⟩) w := by
  obtain ⟨c, L, ⟨⟨h1, h2, h3⟩, hel⟩, hH, hput⟩ := hr.get hl
  have hfl := flatV_drop hel xs k
  refine hput _ c w ⟨⟨?_, ?_, ?_⟩, hel⟩ hH
  · rw [length_flatV hel]
  · simp only [List.length_drop]; omega
  · rcases h3 with ⟨rfl, rfl, rfl⟩ | ⟨g, off, cur, rfl, rfl, hs, ht⟩
    · have : k = 0 := by omega
      subst this
      exact .inl ⟨by simp [cutA], by simp, rfl⟩
    · by_cases hck : cap = k
      · have hx : xs.drop k = [] := List.drop_eq_nil_of_le (by omega)
        refine .inr ⟨g, off, cur, by simp [cutA, hck], rfl, ?_, ?_⟩
        · rw [hck, Nat.sub_self, Nat.zero_mul]
          have : 0 ≤ cap * sz := Nat.zero_le _
          omega
        · rw [hx]; simp [flatV]
      · refine .inr ⟨g, off + k * sz, cur, by simp [cutA, hck, Addr.add_mid'], rfl, ?_, ?_⟩
        · have : (cap - k) * sz + k * sz = cap * sz := by rw [← Nat.add_mul]; congr 1; omega
          omega
        · rw [hfl, ← ht, List.length_drop, ← List.drop_drop, List.drop_take, Nat.sub_mul]

theorem Rep.front {h h' : List Ent} (hr : Rep W F h' w) (hp : PreE h h') : Rep W F h w := hr.pre hp

/-- A block's cells may be said otherwise. -/
theorem Rep.cellsEq {h : List Ent} {l b : Nat} {cs cs' : List SV} {T : TypeId} (hl : nth h l = some ⟨.blk b, .cells cs T⟩) (hd : denL cs = denL cs') (hr : Rep W F h w) : Rep W F (setN h l ⟨.blk b, .cells cs' T⟩) w := by
  obtain ⟨c, L, hc, hH, hput⟩ := hr.get hl
  refine hput ⟨.blk b, .cells cs' T⟩ c w ?_ hH
  have hc' : c = [(b, .cells (denL cs).toArray T (0, 0))] := hc
  subst hc'
  show _ = _
  rw [hd]

/-- A map's entries may be said otherwise. -/
theorem Rep.mapEq {h : List Ent} {l b : Nat} {kd : Option IntKind} {es es' : List (Key × SV)} (hl : nth h l = some ⟨.blk b, .mapV kd es⟩) (hk : ∀ e ∈ es', keyKind e.1 = kd) (hd : (es.map fun e => (den e.1.sv, den e.2)) = es'.map fun e => (den e.1.sv, den e.2)) (hr : Rep W F h w) : Rep W F (setN h l ⟨.blk b, .mapV kd es'⟩) w := by
  obtain ⟨c, L, hc, hH, hput⟩ := hr.get hl
  refine hput ⟨.blk b, .mapV kd es'⟩ c w ?_ hH
  obtain ⟨_, ents, clock, h1, h0, h2⟩ := hc
  exact ⟨hk, ents, clock, h1, h0, h2.trans hd⟩

/-- What a slice's entry tells. -/
theorem G_vec {P : Program} {Q : Exit → Act → World → Prop} {W : World} {F : List Ch} {k : List Frm} {st : Sy} {cap sz : Nat} {ao : Option Addr} {α : Type} {enc : α → List SV} {xs : List α} {d : α} {T : TypeId} (l : Nat) (hl : nth st.heap l = some ⟨.sl ao cap, .vecL T sz enc xs d⟩)
    (h : xs.length ≤ cap → (0 < xs.length → ao.isNone = false) → G P Q W F k st) : G P Q W F k st := fun w hr => by
  obtain ⟨_, h1, h2, _⟩ := hr.vec hl
  exact h h1 (fun h0 => by rw [h2 h0]; rfl) w hr

/-- An empty slice may be owned at any time. -/
theorem Rep.nilvec {h : List Ent} (T : TypeId) {sz : Nat} {α : Type} {enc : α → List SV} (d : α) (he : ∀ x, (enc x).length = sz) (hr : Rep W F h w) : Rep W F (snoc h ⟨.sl none 0, .vecL T sz enc [] d⟩) w :=
  hr.new (c := []) ⟨by simpa [flatV] using Own.nil T sz, he⟩ fun L hL => hL.perm (by simp)
end

/-- What the entries tell ahead of a call. -/
theorem Spec.know {P : Program} {f : FuncId} {hs : List Ent} {args : List SV} {Post : List Ent → SV → Prop} {p : Prop} (hp : ∀ W F w, Rep W F hs w → p) (h : p → Spec P f hs args Post) : Spec P f hs args Post :=
  fun W F w hr => h (hp W F w hr) W F w hr

/-- The end may be said otherwise. -/
theorem Spec.weaken {P : Program} {f : FuncId} {hs : List Ent} {args : List SV} {Post Post' : List Ent → SV → Prop} (h : Spec P f hs args Post) (hw : ∀ h' r, Post h' r → ∃ h'' r', (∀ W F w, Rep W F h' w → Rep W F h'' w) ∧ den r = den r' ∧ Post' h'' r') : Spec P f hs args Post' := by
  intro W F w hr
  refine Calls.mono (h W F w hr) ?_
  rintro e w' ⟨h', r, hp, rfl, hr'⟩
  obtain ⟨h'', r', h1, h2, h3⟩ := hw h' r hp
  exact ⟨h'', r', h3, by rw [h2], h1 _ _ _ hr'⟩

/-- slices.Clone: a slice of its own with the same elements. -/
def cloneC (T : TypeId) (sz bytes : Nat) : Ctr := fun args hs N => match args with
  | [.vec l ao n cap] => match nth hs l with
    | some ⟨.sl ao' cap', .vecL T' sz' enc xs d⟩ => (ao' = ao ∧ cap' = cap ∧ n = xs.length ∧ T' = T ∧ sz' = sz ∧ xs.length * bytes ≤ 140737488355328 ∧ xs.length ≤ 9223372036854775807) ∧
        ∀ ao2 cap2, xs.length ≤ cap2 → N (snoc hs ⟨.sl ao2 cap2, .vecL T' sz' enc xs d⟩) (.vec (lenN hs) ao2 xs.length cap2)
    | _ => False
  | _ => False

theorem clone_ok {P : Program} {f : FuncId} {T : TypeId} {sz bytes : Nat}
    (h1 : ∀ (α : Type) (enc : α → List SV) (xs : List α) (d : α) (ao : Option Addr) (cap : Nat), xs.length * bytes ≤ 140737488355328 → xs.length ≤ 9223372036854775807 → Spec P f [⟨.sl ao cap, .vecL T sz enc xs d⟩] [.vec 0 ao xs.length cap] fun h' r => (ao.isNone = true ∧ h' = [⟨.sl ao cap, .vecL T sz enc xs d⟩] ∧ r = .raw (.slice none 0 0)) ∨ ∃ ao2 cap2, xs.length ≤ cap2 ∧ h' = [⟨.sl ao cap, .vecL T sz enc xs d⟩, ⟨.sl ao2 cap2, .vecL T sz enc xs d⟩] ∧ r = .vec 1 ao2 xs.length cap2) :
    CtrOk P f (cloneC T sz bytes) := by
  intro args hs N h
  unfold cloneC at h
  split at h
  · rename_i l ao n cap
    split at h
    · rename_i ao' cap' α T' sz' enc xs d hl
      obtain ⟨⟨rfl, rfl, rfl, rfl, rfl, g1, g2⟩, h⟩ := h
      have hset : setN hs l ⟨.sl ao' cap', .vecL T' sz' enc xs d⟩ = hs := by
        rw [nth_eq] at hl
        rw [setN_eq]
        exact List.ext_getElem? fun i => by
          rw [List.getElem?_set]
          split
          · rename_i e; subst e
            split
            · exact hl.symm
            · rename_i hlt
              have := (List.getElem?_eq_some_iff.1 hl).1
              exact absurd this hlt
          · rfl
      refine Spec.know (p := 0 < xs.length → ao'.isNone = false) (fun W F w hr h0 => by rw [(hr.vec hl).2.2.1 h0]; rfl) fun hn => ?_
      refine Spec.at [l] (by simp [distinct]) (hp := [⟨.sl ao' cap', .vecL T' sz' enc xs d⟩]) (by simp [pickE, hl]) ((h1 α enc xs d ao' cap' g1 g2).weaken (Post' := fun h' r => ∃ ao2 cap2, xs.length ≤ cap2 ∧ h' = [⟨.sl ao' cap', .vecL T' sz' enc xs d⟩, ⟨.sl ao2 cap2, .vecL T' sz' enc xs d⟩] ∧ r = .vec 1 ao2 xs.length cap2) ?_) rfl ?_
      · rintro h' r (⟨h2, rfl, rfl⟩ | ⟨ao2, cap2, h2, rfl, rfl⟩)
        · have hx : xs = [] := by
            cases xs with
            | nil => rfl
            | cons x xs => exact absurd (hn (by simp)) (by simp [h2])
          subst hx
          refine ⟨[⟨.sl ao' cap', .vecL T' sz' enc [] d⟩, ⟨.sl none 0, .vecL T' sz' enc [] d⟩], .vec 1 none 0 0, fun W F w hr => ?_, rfl, none, 0, Nat.le_refl _, rfl, rfl⟩
          have he := (hr.vec (l := 0) rfl).1
          exact Rep.nilvec T' (sz := sz') (enc := enc) d he hr
        · exact ⟨_, _, fun W F w hr => hr, rfl, ao2, cap2, h2, rfl, rfl⟩
      · rintro h' r ⟨ao2, cap2, h2, rfl, rfl⟩
        refine ⟨Nat.le_succ _, .vec (lenN hs) ao2 xs.length cap2, rfl, ?_⟩
        have := h ao2 cap2 h2
        have e : putBack [l] hs [⟨.sl ao' cap', .vecL T' sz' enc xs d⟩, ⟨.sl ao2 cap2, .vecL T' sz' enc xs d⟩] = snoc hs ⟨.sl ao2 cap2, .vecL T' sz' enc xs d⟩ := by
          simp only [putBack, hset, appE_eq, snoc_eq]
        rw [e]; exact this
    · exact h.elim
  · exact h.elim
end Go.Proofs.Ytihajdkipkfiiaa
