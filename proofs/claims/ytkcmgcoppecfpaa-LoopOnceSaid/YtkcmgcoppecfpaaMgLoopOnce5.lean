import Derived.Test.YtkcmgcoppecfpaaMgLoopOnce4
import Derived.Test.YtkcmgcoppecfpaaProg
set_option linter.unusedVariables false
set_option linter.unusedSimpArgs false
set_option linter.unnecessarySimpa false
set_option maxHeartbeats 0
set_option maxRecDepth 100000
/- Queues: what is alike for all elements: a pile's two entries, and the contracts over them. -/
namespace Go.Proofs.Ytkcmgcoppecfpaa
open Go Go.RowKit
universe u

theorem setN_nth {α : Type u} {l : List α} {i : Nat} {x : α} (h : nth l i = some x) : setN l i x = l := by
  rw [nth_eq] at h
  rw [setN_eq]
  exact List.ext_getElem? fun k => by
    rw [List.getElem?_set]
    split
    · rename_i e; subst e
      split
      · exact h.symm
      · rename_i hlt; exact absurd (List.getElem?_eq_some_iff.1 h).1 hlt
    · rfl

def lessI {α : Type} (bef : α → α → Bool) (a b : α × Int) : Bool := bef a.1 b.1 || (!bef b.1 a.1 && decide (a.2 < b.2))

section
variable {α : Type} (TI : TypeId) (sz : Nat) (enc : α × Int → List SV) (d : α × Int)

abbrev qhG (b : Nat) (ao : Option Addr) (cap : Nat) (f : FuncId) (rest : List SV) (T : TypeId) (xs : List (α × Int)) : List Ent := [⟨.blk b, .cells (.vec 1 ao xs.length cap :: .func (.func f) [] [] :: rest) T⟩, ⟨.sl ao cap, .vecL TI sz enc xs d⟩]

abbrev onPile (hs : List Ent) (l b : Nat) (Φ : (l2 : Nat) → (ao : Option Addr) → (cap : Nat) → (f : FuncId) → (rest : List SV) → (T : TypeId) → (xs : List (α × Int)) → Prop) : Prop :=
  match nth hs l with
  | some ⟨.blk b', .cells (.vec l2 ao n cap :: .func (.func f) [] [] :: rest) T⟩ => match nth hs l2 with
    | some e => ∃ xs : List (α × Int), (e = ⟨.sl ao cap, .vecL TI sz enc xs d⟩ ∧ b' = b ∧ n = xs.length ∧ Nat.beq l l2 = false) ∧ Φ l2 ao cap f rest T xs
    | none => False
  | _ => False

abbrev setPile (hs : List Ent) (l l2 b : Nat) (ao : Option Addr) (cap : Nat) (f : FuncId) (rest : List SV) (T : TypeId) (xs : List (α × Int)) : List Ent :=
  setN (setN hs l ⟨.blk b, .cells (.vec l2 ao xs.length cap :: .func (.func f) [] [] :: rest) T⟩) l2 ⟨.sl ao cap, .vecL TI sz enc xs d⟩

theorem setPile_same {hs : List Ent} {l l2 b : Nat} {ao : Option Addr} {cap : Nat} {f : FuncId} {rest : List SV} {T : TypeId} {xs : List (α × Int)}
    (h1 : nth hs l = some ⟨.blk b, .cells (.vec l2 ao xs.length cap :: .func (.func f) [] [] :: rest) T⟩) (h2 : nth hs l2 = some ⟨.sl ao cap, .vecL TI sz enc xs d⟩) : setPile TI sz enc d hs l l2 b ao cap f rest T xs = hs := by
  unfold setPile
  rw [setN_nth h1, setN_nth h2]

theorem Spec.pile {P : Program} {fid : FuncId} {hs : List Ent} {args args' : List SV} {Post Post' : List Ent → SV → Prop} {l l2 b : Nat} {ao : Option Addr} {cap : Nat} {f : FuncId} {rest : List SV} {T : TypeId} {xs : List (α × Int)}
    (h1 : nth hs l = some ⟨.blk b, .cells (.vec l2 ao xs.length cap :: .func (.func f) [] [] :: rest) T⟩) (h2 : nth hs l2 = some ⟨.sl ao cap, .vecL TI sz enc xs d⟩) (hne : Nat.beq l l2 = false) (ha : denL args = denL args')
    (h : (xs.length ≤ cap → (0 < xs.length → ao = some ⟨Addr.blkD ao, Addr.offD ao, none⟩) → Spec P fid (qhG TI sz enc d b ao cap f rest T xs) args' Post'))
    (hpost : ∀ h' r, Post' h' r → ∃ xs' ao' cap' rest' r', (∀ W F w, Rep W F h' w → Rep W F (qhG TI sz enc d b ao' cap' f rest' T xs') w) ∧ den r = den r' ∧ Post (setPile TI sz enc d hs l l2 b ao' cap' f rest' T xs') r') : Spec P fid hs args Post := by
  have hne' : l ≠ l2 := by intro e; subst e; simp at hne
  have hpk : pickE hs [l, l2] = some [⟨.blk b, .cells (.vec l2 ao xs.length cap :: .func (.func f) [] [] :: rest) T⟩, ⟨.sl ao cap, .vecL TI sz enc xs d⟩] := by simp [pickE, h1, h2]
  refine Spec.know (p := xs.length ≤ cap ∧ (0 < xs.length → ao = some ⟨Addr.blkD ao, Addr.offD ao, none⟩)) (fun W F w hr => ⟨(hr.vec h2).2.1, (hr.vec h2).2.2.1⟩) fun hk => ?_
  have hin : ∀ W F w, Rep W F [⟨.blk b, .cells (.vec l2 ao xs.length cap :: .func (.func f) [] [] :: rest) T⟩, ⟨.sl ao cap, .vecL TI sz enc xs d⟩] w → Rep W F (qhG TI sz enc d b ao cap f rest T xs) w := fun W F w hr =>
    Rep.cellsEq (l := 0) (cs' := .vec 1 ao xs.length cap :: .func (.func f) [] [] :: rest) rfl (by rfl) hr
  have h0 : Spec P fid [⟨.blk b, .cells (.vec l2 ao xs.length cap :: .func (.func f) [] [] :: rest) T⟩, ⟨.sl ao cap, .vecL TI sz enc xs d⟩] args' Post' := fun W F w hr => h hk.1 hk.2 W F w (hin W F w hr)
  refine Spec.at [l, l2] (by simp [distinct, hne']) hpk (h0.weaken (Post' := fun h' r => ∃ xs' ao' cap' rest', h' = [⟨.blk b, .cells (.vec l2 ao' xs'.length cap' :: .func (.func f) [] [] :: rest') T⟩, ⟨.sl ao' cap', .vecL TI sz enc xs' d⟩] ∧ Post (setPile TI sz enc d hs l l2 b ao' cap' f rest' T xs') r) ?_) ha ?_
  · intro h' r hp
    obtain ⟨xs', ao', cap', rest', r', g1, g2, g3⟩ := hpost h' r hp
    refine ⟨_, r', fun W F w hr => ?_, g2, xs', ao', cap', rest', rfl, g3⟩
    exact Rep.cellsEq (l := 0) (cs' := .vec l2 ao' xs'.length cap' :: .func (.func f) [] [] :: rest') rfl (by rfl) (g1 W F w hr)
  · rintro h' r ⟨xs', ao', cap', rest', rfl, g3⟩
    refine ⟨Nat.le_refl _, r, rfl, ?_⟩
    have e : putBack [l, l2] hs [⟨.blk b, .cells (.vec l2 ao' xs'.length cap' :: .func (.func f) [] [] :: rest') T⟩, ⟨.sl ao' cap', .vecL TI sz enc xs' d⟩] = setPile TI sz enc d hs l l2 b ao' cap' f rest' T xs' := by
      simp [putBack, appE_eq]
    rw [e]; exact g3

def lessC (R : FuncId → (α → α → Bool) → Prop) : Ctr := fun args hs N => match args with
  | [.ptr l b 0, .int k i, .int k' j] => onPile TI sz enc d hs l b fun l2 ao cap f rest T xs => (k = .i64 ∧ k' = .i64 ∧ 0 ≤ i ∧ i < xs.length ∧ 0 ≤ j ∧ j < xs.length) ∧ ∃ bef, R f bef ∧ N hs (.bool (lessI bef (xs.getD i.toNat d) (xs.getD j.toNat d)))
  | _ => False
def swapC : Ctr := fun args hs N => match args with
  | [.ptr l b 0, .int k i, .int k' j] => onPile TI sz enc d hs l b fun l2 ao cap f rest T xs => (k = .i64 ∧ k' = .i64 ∧ 0 ≤ i ∧ i < xs.length ∧ 0 ≤ j ∧ j < xs.length) ∧ N (setPile TI sz enc d hs l l2 b ao cap f rest T (swapL d xs i.toNat j.toNat)) (.tuple [])
  | _ => False
def ppushC (bytes : Nat) : Ctr := fun args hs N => match args with
  | [.ptr l b 0, .iface t (.agg cs)] => onPile TI sz enc d hs l b fun l2 ao cap f rest T xs => ∃ x, (t = TI ∧ enc x = cs ∧ (xs.length + 1) * bytes ≤ 140737488355328 ∧ xs.length + 1 ≤ 9223372036854775807) ∧ ∀ ao2 cap2, N (setPile TI sz enc d hs l l2 b ao2 cap2 f rest T (xs ++ [x])) (.tuple [])
  | _ => False
def ppopC : Ctr := fun args hs N => match args with
  | [.ptr l b 0] => onPile TI sz enc d hs l b fun l2 ao cap f rest T xs => (0 < xs.length ∧ xs.length ≤ 9223372036854775807) ∧ N (setPile TI sz enc d hs l l2 b ao cap f rest T (xs.take (xs.length - 1))) (.iface TI (.agg (enc (xs.getD (xs.length - 1) d))))
  | _ => False
def upC (TP : TypeId) (R : FuncId → (α → α → Bool) → Prop) : Ctr := fun args hs N => match args with
  | [.iface t (.ptr l b 0), .int k j] => onPile TI sz enc d hs l b fun l2 ao cap f rest T xs => (t = TP ∧ k = .i64 ∧ 0 ≤ j ∧ j < xs.length ∧ xs.length ≤ 2305843009213693952) ∧ ∃ bef, R f bef ∧ N (setPile TI sz enc d hs l l2 b ao cap f rest T (upL (lessI bef) d j.toNat xs j.toNat)) (.tuple [])
  | _ => False
def downC (TP : TypeId) (R : FuncId → (α → α → Bool) → Prop) : Ctr := fun args hs N => match args with
  | [.iface t (.ptr l b 0), .int k i, .int k' n] => onPile TI sz enc d hs l b fun l2 ao cap f rest T xs => (t = TP ∧ k = .i64 ∧ k' = .i64 ∧ i = 0 ∧ 0 ≤ n ∧ n ≤ xs.length ∧ xs.length ≤ 2305843009213693952) ∧ ∃ bef, R f bef ∧ ∀ bb, N (setPile TI sz enc d hs l l2 b ao cap f rest T (downL (lessI bef) d xs.length xs 0 n.toNat)) (.bool bb)
  | _ => False
def hpushC (TP : TypeId) (bytes : Nat) (R : FuncId → (α → α → Bool) → Prop) : Ctr := fun args hs N => match args with
  | [.iface t (.ptr l b 0), .iface t' (.agg cs)] => onPile TI sz enc d hs l b fun l2 ao cap f rest T xs => ∃ x, (t = TP ∧ t' = TI ∧ enc x = cs ∧ (xs.length + 1) * bytes ≤ 140737488355328 ∧ xs.length < 2305843009213693952) ∧ ∃ bef, R f bef ∧ ∀ ao2 cap2, N (setPile TI sz enc d hs l l2 b ao2 cap2 f rest T (pushL (lessI bef) d xs x)) (.tuple [])
  | _ => False
def hpopC (TP : TypeId) (R : FuncId → (α → α → Bool) → Prop) : Ctr := fun args hs N => match args with
  | [.iface t (.ptr l b 0)] => onPile TI sz enc d hs l b fun l2 ao cap f rest T xs => (t = TP ∧ 0 < xs.length ∧ xs.length ≤ 2305843009213693952) ∧ ∃ bef, R f bef ∧ N (setPile TI sz enc d hs l l2 b ao cap f rest T (popL (lessI bef) d xs)) (.iface TI (.agg (enc (xs.getD 0 d))))
  | _ => False
end

section
variable {W w : World} {F : List Ch}
theorem Rep.trim {h : List Ent} {l cap sz k : Nat} {ao : Option Addr} {α : Type} {enc : α → List SV} {xs : List α} {d : α} {T : TypeId} (hl : nth h l = some ⟨.sl ao cap, .vecL T sz enc xs d⟩) (hk : k ≤ xs.length) (hr : Rep W F h w) :
    Rep W F (setN h l ⟨.sl ao cap, .vecL T sz enc (xs.take k) d⟩) w := by
  obtain ⟨c, L, ⟨⟨h1, h2, h3⟩, hel⟩, hH, hput⟩ := hr.get hl
  have hfl : flatV enc (xs.take k) = (flatV enc xs).take (k * sz) := by
    have e1 : flatV enc (xs.take k) ++ flatV enc (xs.drop k) = flatV enc xs := by
      unfold flatV
      rw [← List.flatMap_append, List.take_append_drop]
    have e2 : (flatV enc (xs.take k)).length = k * sz := by rw [length_flatV hel, List.length_take, Nat.min_eq_left hk]
    rw [← e1, ← e2, List.take_left]
  refine hput _ c w ⟨⟨?_, ?_, ?_⟩, hel⟩ hH
  · rw [length_flatV hel]
  · simp only [List.length_take]; omega
  · rcases h3 with ⟨rfl, rfl, rfl⟩ | ⟨g, off, cur, rfl, rfl, hs, ht⟩
    · exact .inl ⟨rfl, rfl, rfl⟩
    · refine .inr ⟨g, off, cur, rfl, rfl, hs, ?_⟩
      rw [hfl, ← ht, List.take_take]
      congr 1
      simp only [List.length_take]
      rw [Nat.min_eq_left hk]
      exact (Nat.min_eq_left (Nat.mul_le_mul_right _ hk)).symm
end

theorem den_trim (l : Nat) {ao : Option Addr} (cap sz k : Nat) (ha : ao = some ⟨Addr.blkD ao, Addr.offD ao, none⟩) : den (.sub l ao cap sz 0 k) = den (.vec l ao k cap) := by
  rw [ha]
  simp only [den, Nat.sub_zero, Nat.zero_mul, Option.map_some]
  rw [Addr.add_mid']
  split <;> rfl
end Go.Proofs.Ytkcmgcoppecfpaa

/- Queues as1 sorted rows: the plain law of a pile that is a heap; container/heap's Init. -/
namespace Go.Proofs.Ytkcmgcoppecfpaa
open Go Go.RowKit
universe u

section
variable {α : Type} {lt : α → α → Bool} {d : α}

theorem Ordered.tr (ho : Ordered lt) {a b c : α} (h1 : lt a b = true) (h2 : lt b c = true) : lt a c = true := by
  cases h : lt a c with
  | true => rfl
  | false =>
    have := ho.trans b c a (ho.asym _ _ h2) h
    rw [h1] at this; cases this

def heapFrom (lt : α → α → Bool) (d : α) (xs : List α) (n lo : Nat) : Prop := ∀ k, 0 < k → k < n → lo ≤ (k - 1) / 2 → lt (xs.getD k d) (xs.getD ((k - 1) / 2) d) = false

theorem heap_downFrom (ho : Ordered lt) : ∀ (m : Nat) (xs : List α) (i n lo : Nat), lo ≤ i → i < n → n ≤ xs.length → n ≤ m + i + 1 → (∀ k, 0 < k → k < n → lo ≤ (k - 1) / 2 → (k - 1) / 2 ≠ i → lt (xs.getD k d) (xs.getD ((k - 1) / 2) d) = false) →
    (0 < i → lo ≤ (i - 1) / 2 → ∀ k, 0 < k → k < n → (k - 1) / 2 = i → lt (xs.getD k d) (xs.getD ((i - 1) / 2) d) = false) → heapFrom lt d (downL lt d m xs i n) n lo
  | 0, xs, i, n, lo, hlo, hi, hn, hm, h1, h2 => by
    intro k k0 kn kl
    exact h1 k k0 kn kl (by omega)
  | m + 1, xs, i, n, lo, hlo, hi, hn, hm, h1, h2 => by
    unfold downL
    split
    · intro k k0 kn kl
      exact h1 k k0 kn kl (by omega)
    · rename_i h
      have hj := kidL_lt (lt := lt) (d := d) (xs := xs) h
      have hb : ∀ k, 0 < k → k < n → (k - 1) / 2 = i → lt (xs.getD k d) (xs.getD (kidL lt d xs i n) d) = false := by
        intro k k0 kn hk
        have hself : ∀ a, lt a a = false := fun a => by
          cases hq : lt a a with
          | false => rfl
          | true => have := ho.asym _ _ hq; rw [hq] at this; cases this
        have : k = 2 * i + 1 ∨ k = 2 * i + 2 := by omega
        unfold kidL
        split
        · rename_i hc
          rcases this with rfl | rfl
          · exact ho.asym _ _ hc.2
          · exact hself _
        · rename_i hc
          rcases this with rfl | rfl
          · exact hself _
          · cases hq : lt (xs.getD (2 * i + 2) d) (xs.getD (2 * i + 1) d) with
            | false => rfl
            | true => exact absurd ⟨kn, hq⟩ hc
      split
      · rename_i hlt
        have hk : kidL lt d xs i n < xs.length := by omega
        have hi' : i < xs.length := by omega
        have hpar : (kidL lt d xs i n - 1) / 2 = i := by omega
        refine heap_downFrom ho m (swapL d xs i (kidL lt d xs i n)) (kidL lt d xs i n) n lo (by omega) hj.1 (by rw [length_swapL]; exact hn) (by omega) ?_ ?_
        · intro k k0 kn kl hne
          rw [getD_swapL _ _ _ _ hi' hk, getD_swapL _ _ _ _ hi' hk]
          rw [if_neg hne]
          by_cases e1 : k = kidL lt d xs i n
          · rw [if_pos e1, e1, hpar, if_pos rfl]
            exact ho.asym _ _ hlt
          · rw [if_neg e1]
            by_cases e2 : k = i
            · rw [if_pos e2, e2, if_neg (by omega)]
              have i0 : 0 < i := by omega
              exact h2 i0 (by rw [← e2]; exact kl) _ (by omega) hj.1 hpar
            · rw [if_neg e2]
              by_cases e3 : (k - 1) / 2 = i
              · rw [if_pos e3]
                exact hb k k0 kn e3
              · rw [if_neg e3]
                exact h1 k k0 kn kl e3
        · intro _ _ k k0 kn hk2
          rw [getD_swapL _ _ _ _ hi' hk, getD_swapL _ _ _ _ hi' hk, hpar, if_neg (by omega), if_neg (by omega : ¬ k = i), if_neg (by omega : ¬ i = kidL lt d xs i n), if_pos rfl]
          have := h1 k k0 kn (by omega) (by omega)
          rw [hk2] at this
          exact this
      · rename_i hlt
        have hlt' : lt (xs.getD (kidL lt d xs i n) d) (xs.getD i d) = false := by simpa using hlt
        intro k k0 kn kl
        by_cases e1 : (k - 1) / 2 = i
        · rw [e1]
          exact ho.trans _ _ _ hlt' (hb k k0 kn e1)
        · exact h1 k k0 kn kl e1

def initL (lt : α → α → Bool) (d : α) : Nat → List α → List α
  | 0, xs => xs
  | k + 1, xs => initL lt d k (downL lt d xs.length xs k xs.length)
theorem length_initL : ∀ (k : Nat) (xs : List α), (initL lt d k xs).length = xs.length
  | 0, _ => rfl
  | k + 1, xs => by unfold initL; rw [length_initL k, length_downL]
theorem perm_initL : ∀ (k : Nat) (xs : List α), k ≤ xs.length → (initL lt d k xs).Perm xs
  | 0, _, _ => List.Perm.refl _
  | k + 1, xs, h => by
    unfold initL
    exact (perm_initL k _ (by rw [length_downL]; omega)).trans (perm_downL _ _ _ _ (by omega) (Nat.le_refl _))
theorem heap_initL (ho : Ordered lt) : ∀ (k : Nat) (xs : List α), k ≤ xs.length → heapFrom lt d xs xs.length k → heapN lt d (initL lt d k xs) xs.length
  | 0, xs, _, h => fun k k0 kn => h k k0 kn (Nat.zero_le _)
  | k + 1, xs, hk, h => by
    unfold initL
    have e : (downL lt d xs.length xs k xs.length).length = xs.length := length_downL _ _ _ _
    have := heap_initL ho k (downL lt d xs.length xs k xs.length) (by rw [e]; omega) (by
      rw [e]
      refine heap_downFrom ho xs.length xs k xs.length k (Nat.le_refl _) (by omega) (Nat.le_refl _) (by omega) ?_ ?_
      · intro j j0 jn jl jne
        exact h j j0 jn (by omega)
      · intro k0 hle
        omega)
    rw [e] at this
    exact this
theorem heap_init (ho : Ordered lt) (xs : List α) : heapN lt d (initL lt d (xs.length / 2) xs) (initL lt d (xs.length / 2) xs).length := by
  rw [length_initL]
  exact heap_initL ho _ _ (by omega) fun k k0 kn kl => by omega

def insB (lt : α → α → Bool) (v : α) : List α → List α
  | [] => [v]
  | y :: l => match lt v y with
    | true => v :: y :: l
    | false => y :: insB lt v l
theorem perm_insB (v : α) : ∀ l : List α, (insB lt v l).Perm (v :: l)
  | [] => List.Perm.refl _
  | y :: l => by
    unfold insB
    split
    · exact List.Perm.refl _
    · exact ((perm_insB v l).cons y).trans (List.Perm.swap _ _ _)
theorem length_insB (v : α) (l : List α) : (insB lt v l).length = l.length + 1 := (perm_insB v l).length_eq
theorem sorted_insB (ho : Ordered lt) (v : α) : ∀ l : List α, l.Pairwise (fun a b => lt a b = true) → (∀ y ∈ l, lt v y = false → lt y v = true) → (insB lt v l).Pairwise (fun a b => lt a b = true)
  | [], _, _ => by simp [insB]
  | y :: l, hp, ht => by
    have hp' := List.pairwise_cons.1 hp
    unfold insB
    split
    · rename_i h
      refine List.pairwise_cons.2 ⟨fun z hz => ?_, hp⟩
      rcases List.mem_cons.1 hz with rfl | hz
      · exact h
      · exact ho.tr h (hp'.1 z hz)
    · rename_i h
      refine List.pairwise_cons.2 ⟨fun z hz => ?_, sorted_insB ho v l hp'.2 fun z hz => ht z (List.mem_cons_of_mem _ hz)⟩
      rcases List.mem_cons.1 ((perm_insB v l).mem_iff.1 hz) with rfl | hz
      · exact ht y List.mem_cons_self h
      · exact hp'.1 z hz
theorem insB_at (v : α) : ∀ (l : List α) (k : Nat), k ≤ l.length → (∀ j, j < k → lt v (l.getD j d) = false) → (k < l.length → lt v (l.getD k d) = true) → insB lt v l = l.take k ++ v :: l.drop k
  | [], k, hk, _, _ => by
    obtain rfl : k = 0 := by simpa using hk
    rfl
  | y :: l, 0, _, _, h => by
    have := h (by simp)
    simp only [List.getD_cons_zero] at this
    simp [insB, this]
  | y :: l, k + 1, hk, h1, h2 => by
    have h0 := h1 0 (by omega)
    simp only [List.getD_cons_zero] at h0
    have := insB_at v l k (by simpa using hk) (fun j hj => by simpa using h1 (j + 1) (by omega)) (fun hj => by simpa using h2 (by simpa using hj))
    simp [insB, h0, this]
end

section
variable {α : Type} {bef : α → α → Bool} {d : α × Int}
theorem insB_fst (v : α) (n : Int) : ∀ l : List (α × Int), (∀ y ∈ l, y.2 < n) → (insB (lessI bef) (v, n) l).map (·.1) = insB bef v (l.map (·.1))
  | [], _ => rfl
  | y :: l, h => by
    have h0 : y.2 < n := h y List.mem_cons_self
    have e : lessI bef (v, n) y = bef v y.1 := by
      unfold lessI
      have : decide (n < y.2) = false := decide_eq_false (by omega)
      simp [this]
    simp only [insB, List.map_cons, e]
    split
    · simp
    · simp [insB_fst v n l fun z hz => h z (List.mem_cons_of_mem _ hz)]

structure QRep (bef : α → α → Bool) (d : α × Int) (xs : List (α × Int)) (l : List α) (n : Nat) : Prop where
  heap : heapN (lessI bef) d xs xs.length
  srt : ∃ ys : List (α × Int), ys.Perm xs ∧ ys.Pairwise (fun a b => lessI bef a b = true) ∧ ys.map (·.1) = l
  num : ∀ x ∈ xs, 0 ≤ x.2 ∧ x.2 < n

theorem QRep.length {xs : List (α × Int)} {l : List α} {n : Nat} (h : QRep bef d xs l n) : xs.length = l.length := by
  obtain ⟨ys, h1, _, h3⟩ := h.srt
  rw [← h3, List.length_map, h1.length_eq]
theorem QRep.nil : QRep bef d [] [] 0 := ⟨fun k k0 kn => absurd kn (by simp), ⟨[], List.Perm.refl _, List.Pairwise.nil, rfl⟩, fun x hx => by cases hx⟩
theorem QRep.push (ho : Ordered (lessI bef)) {xs : List (α × Int)} {l : List α} {n : Nat} (h : QRep bef d xs l n) (v : α) : QRep bef d (pushL (lessI bef) d xs (v, (n : Int))) (insB bef v l) (n + 1) := by
  obtain ⟨ys, h1, h2, h3⟩ := h.srt
  have hn : ∀ y ∈ ys, y.2 < (n : Int) := fun y hy => (h.num y (h1.mem_iff.1 hy)).2
  refine ⟨heap_pushL ho _ h.heap, ⟨insB (lessI bef) (v, (n : Int)) ys, ?_, ?_, ?_⟩, ?_⟩
  · exact (perm_insB _ _).trans ((h1.cons _).trans (perm_pushL _ _).symm)
  · refine sorted_insB ho _ _ h2 fun y hy hl => ?_
    have := hn y hy
    unfold lessI at hl ⊢
    simp only [Bool.or_eq_false_iff, Bool.and_eq_false_iff, Bool.not_eq_false'] at hl
    simp [hl.1, this]
  · rw [insB_fst _ _ _ hn, h3]
  · intro x hx
    rcases List.mem_cons.1 ((perm_pushL xs (v, (n : Int))).mem_iff.1 hx) with rfl | hx
    · dsimp only; omega
    · have := h.num x hx; omega
theorem QRep.top (ho : Ordered (lessI bef)) {xs : List (α × Int)} {a : α} {l : List α} {n : Nat} (h : QRep bef d xs (a :: l) n) : (xs.getD 0 d).1 = a ∧ 0 < xs.length ∧ QRep bef d (popL (lessI bef) d xs) l n := by
  have hlen := h.length
  have h0 : 0 < xs.length := by rw [hlen]; simp
  obtain ⟨ys, h1, h2, h3⟩ := h.srt
  cases ys with
  | nil => cases h3
  | cons y t =>
    simp only [List.map_cons, List.cons.injEq] at h3
    have hp := perm_popL (lt := lessI bef) (d := d) h0
    have hy := List.pairwise_cons.1 h2
    have e : xs.getD 0 d = y := by
      have hm : xs.getD 0 d ∈ y :: t := h1.mem_iff.2 (hp.mem_iff.1 List.mem_cons_self)
      rcases List.mem_cons.1 hm with e | hm
      · exact e
      · have a1 := hy.1 _ hm
        obtain ⟨k, hk, e⟩ := List.mem_iff_getElem.1 (h1.mem_iff.1 (List.mem_cons_self (a := y) (l := t)))
        have a2 := heap_top ho h.heap k hk
        have : xs.getD k d = y := by simp [List.getD, hk, e]
        rw [this, a1] at a2
        cases a2
    refine ⟨by rw [e]; exact h3.1, h0, heap_popL ho h.heap, ⟨t, ?_, hy.2, h3.2⟩, ?_⟩
    · have : (y :: t).Perm (y :: popL (lessI bef) d xs) := h1.trans (by rw [← e]; exact hp.symm)
      exact (List.perm_cons y).1 this
    · intro x hx
      exact h.num x (hp.mem_iff.1 (List.mem_cons_of_mem _ hx))
theorem QRep.drop (ho : Ordered (lessI bef)) {xs : List (α × Int)} {l : List α} {n : Nat} (h : QRep bef d xs l n) (p : α → Bool) : QRep bef d (initL (lessI bef) d ((xs.filter fun x => p x.1).length / 2) (xs.filter fun x => p x.1)) (l.filter p) n := by
  obtain ⟨ys, h1, h2, h3⟩ := h.srt
  have hp := perm_initL (lt := lessI bef) (d := d) ((xs.filter fun x => p x.1).length / 2) (xs.filter fun x => p x.1) (by omega)
  refine ⟨heap_init ho _, ⟨ys.filter fun x => p x.1, (h1.filter _).trans hp.symm, h2.filter _, ?_⟩, fun x hx => h.num x (List.mem_filter.1 (hp.mem_iff.1 hx)).1⟩
  rw [← h3, List.filter_map]
  rfl
theorem ordL {key : α → Int} : Ordered (lessI fun a b : α => decide (key a < key b)) := by
  constructor
  · intro a b h
    simp only [lessI, Bool.or_eq_true, Bool.and_eq_true, Bool.not_eq_true', decide_eq_true_eq, decide_eq_false_iff_not] at h
    simp only [lessI, Bool.or_eq_false_iff, Bool.and_eq_false_iff, Bool.not_eq_false', decide_eq_true_eq, decide_eq_false_iff_not]
    omega
  · intro a b c h1 h2
    simp only [lessI, Bool.or_eq_false_iff, Bool.and_eq_false_iff, Bool.not_eq_false', decide_eq_true_eq, decide_eq_false_iff_not] at h1 h2 ⊢
    omega
end

section
variable {α : Type} (TI : TypeId) (sz : Nat) (enc : α × Int → List SV) (d : α × Int)
def downAC (TP : TypeId) (R : FuncId → (α → α → Bool) → Prop) : Ctr := fun args hs N => match args with
  | [.iface t (.ptr l b 0), .int k i, .int k' n] => onPile TI sz enc d hs l b fun l2 ao cap f rest T xs => (t = TP ∧ k = .i64 ∧ k' = .i64 ∧ 0 ≤ i ∧ i ≤ xs.length ∧ 0 ≤ n ∧ n ≤ xs.length ∧ xs.length ≤ 2305843009213693952) ∧ ∃ bef, R f bef ∧ ∀ bb, N (setPile TI sz enc d hs l l2 b ao cap f rest T (downL (lessI bef) d xs.length xs i.toNat n.toNat)) (.bool bb)
  | _ => False
def hinitC (TP : TypeId) (R : FuncId → (α → α → Bool) → Prop) : Ctr := fun args hs N => match args with
  | [.iface t (.ptr l b 0)] => onPile TI sz enc d hs l b fun l2 ao cap f rest T xs => (t = TP ∧ xs.length ≤ 1000000000) ∧ ∃ bef, R f bef ∧ N (setPile TI sz enc d hs l l2 b ao cap f rest T (initL (lessI bef) d (xs.length / 2) xs)) (.tuple [])
  | _ => False
end
end Go.Proofs.Ytkcmgcoppecfpaa

/- Closed facts on the program's types (printed by wip/tools/tab.py). -/
namespace Go.Proofs.Ytkcmgcoppecfpaa
open Go
theorem tlay_2 : tlay Try.prog 2 = some (false, 1) := by kernel_rfl
theorem tlay_3 : tlay Try.prog 3 = some (false, 1) := by kernel_rfl
theorem tlay_4 : tlay Try.prog 4 = some (false, 1) := by kernel_rfl
theorem tlay_5 : tlay Try.prog 5 = some (false, 1) := by kernel_rfl
theorem tlay_9 : tlay Try.prog 9 = some (false, 1) := by kernel_rfl
theorem tlay_24 : tlay Try.prog 24 = some (false, 1) := by kernel_rfl
theorem tlay_27 : tlay Try.prog 27 = some (false, 1) := by kernel_rfl
theorem tlay_28 : tlay Try.prog 28 = some (false, 1) := by kernel_rfl
theorem tlay_32 : tlay Try.prog 32 = some (true, 4) := by kernel_rfl
theorem tlay_41 : tlay Try.prog 41 = some (true, 2) := by kernel_rfl
theorem tlay_49 : tlay Try.prog 49 = some (true, 2) := by kernel_rfl
theorem tlay_54 : tlay Try.prog 54 = some (false, 1) := by kernel_rfl
theorem tlay_56 : tlay Try.prog 56 = some (false, 1) := by kernel_rfl
theorem tlay_60 : tlay Try.prog 60 = some (false, 1) := by kernel_rfl
theorem tlay_62 : tlay Try.prog 62 = some (true, 2) := by kernel_rfl
theorem tlay_66 : tlay Try.prog 66 = some (false, 1) := by kernel_rfl
theorem tlay_69 : tlay Try.prog 69 = some (false, 1) := by kernel_rfl
theorem tlay_72 : tlay Try.prog 72 = some (true, 3) := by kernel_rfl
theorem tlay_75 : tlay Try.prog 75 = some (false, 1) := by kernel_rfl
theorem tlay_79 : tlay Try.prog 79 = some (true, 5) := by kernel_rfl
theorem tlay_83 : tlay Try.prog 83 = some (true, 3) := by kernel_rfl
theorem tlay_94 : tlay Try.prog 94 = some (false, 1) := by kernel_rfl
theorem tlay_98 : tlay Try.prog 98 = some (true, 9) := by kernel_rfl
theorem tlay_106 : tlay Try.prog 106 = some (false, 1) := by kernel_rfl
theorem tlay_108 : tlay Try.prog 108 = some (false, 1) := by kernel_rfl
theorem tlay_117 : tlay Try.prog 117 = some (false, 1) := by kernel_rfl
theorem tlay_123 : tlay Try.prog 123 = some (false, 1) := by kernel_rfl
theorem tlay_127 : tlay Try.prog 127 = some (false, 1) := by kernel_rfl
theorem tlay_143 : tlay Try.prog 143 = some (false, 1) := by kernel_rfl
theorem tlay_145 : tlay Try.prog 145 = some (false, 1) := by kernel_rfl
theorem tlay_146 : tlay Try.prog 146 = some (false, 1) := by kernel_rfl
theorem tlay_150 : tlay Try.prog 150 = some (true, 2) := by kernel_rfl
theorem tlay_160 : tlay Try.prog 160 = some (false, 1) := by kernel_rfl
theorem tlay_177 : tlay Try.prog 177 = some (false, 1) := by kernel_rfl
theorem tlay_179 : tlay Try.prog 179 = some (false, 1) := by kernel_rfl
theorem tlay_180 : tlay Try.prog 180 = some (false, 1) := by kernel_rfl
theorem tlay_193 : tlay Try.prog 193 = some (false, 1) := by kernel_rfl
theorem tlay_197 : tlay Try.prog 197 = some (true, 6) := by kernel_rfl
theorem tlay_205 : tlay Try.prog 205 = some (false, 1) := by kernel_rfl
theorem tlay_212 : tlay Try.prog 212 = some (false, 1) := by kernel_rfl
theorem tlay_214 : tlay Try.prog 214 = some (true, 6) := by kernel_rfl
theorem tlay_234 : tlay Try.prog 234 = some (true, 0) := by kernel_rfl
theorem tlay_257 : tlay Try.prog 257 = some (false, 1) := by kernel_rfl
theorem tlay_264 : tlay Try.prog 264 = some (false, 1) := by kernel_rfl
theorem tslice_22 : tslice Try.prog 22 = some (32, 4) := by kernel_rfl
theorem tslice_27 : tslice Try.prog 27 = some (62, 2) := by kernel_rfl
theorem tslice_28 : tslice Try.prog 28 = some (49, 2) := by kernel_rfl
theorem tslice_54 : tslice Try.prog 54 = some (41, 2) := by kernel_rfl
theorem tslice_56 : tslice Try.prog 56 = some (9, 1) := by kernel_rfl
theorem tslice_65 : tslice Try.prog 65 = some (5, 1) := by kernel_rfl
theorem tslice_69 : tslice Try.prog 69 = some (72, 3) := by kernel_rfl
theorem tslice_75 : tslice Try.prog 75 = some (3, 1) := by kernel_rfl
theorem tslice_92 : tslice Try.prog 92 = some (98, 9) := by kernel_rfl
theorem tslice_94 : tslice Try.prog 94 = some (79, 5) := by kernel_rfl
theorem tslice_121 : tslice Try.prog 121 = some (123, 1) := by kernel_rfl
theorem tslice_122 : tslice Try.prog 122 = some (2, 1) := by kernel_rfl
theorem tslice_205 : tslice Try.prog 205 = some (214, 6) := by kernel_rfl
theorem tplaces_30 : tplaces Try.prog 30 = some [(0, 1), (1, 1), (2, 1)] := by kernel_rfl
theorem tplaces_41 : tplaces Try.prog 41 = some [(0, 1), (1, 1)] := by kernel_rfl
theorem tplaces_49 : tplaces Try.prog 49 = some [(0, 1), (1, 1)] := by kernel_rfl
theorem tplaces_62 : tplaces Try.prog 62 = some [(0, 1), (1, 1)] := by kernel_rfl
theorem tplaces_72 : tplaces Try.prog 72 = some [(0, 1), (1, 1), (2, 1)] := by kernel_rfl
theorem tplaces_79 : tplaces Try.prog 79 = some [(0, 1), (1, 1), (2, 1), (3, 1), (4, 1)] := by kernel_rfl
theorem tplaces_96 : tplaces Try.prog 96 = some [(0, 1), (1, 1)] := by kernel_rfl
theorem tplaces_131 : tplaces Try.prog 131 = some [(0, 1), (1, 1), (2, 1)] := by kernel_rfl
theorem tplaces_135 : tplaces Try.prog 135 = some [(0, 1)] := by kernel_rfl
theorem tplaces_148 : tplaces Try.prog 148 = some [(0, 1), (1, 1)] := by kernel_rfl
theorem tplaces_150 : tplaces Try.prog 150 = some [(0, 1), (1, 1)] := by kernel_rfl
theorem tplaces_175 : tplaces Try.prog 175 = some [(0, 1), (1, 1), (2, 1), (3, 1), (4, 1), (5, 1)] := by kernel_rfl
theorem tplaces_182 : tplaces Try.prog 182 = some [(0, 1), (1, 1), (2, 1)] := by kernel_rfl
theorem tplaces_195 : tplaces Try.prog 195 = some [(0, 1), (1, 1), (2, 1)] := by kernel_rfl
theorem tplaces_197 : tplaces Try.prog 197 = some [(0, 1), (1, 1), (2, 1), (3, 1), (4, 1), (5, 1)] := by kernel_rfl
theorem tplaces_199 : tplaces Try.prog 199 = some [(0, 6), (6, 1), (7, 1)] := by kernel_rfl
theorem tplaces_207 : tplaces Try.prog 207 = some [(0, 1), (1, 1)] := by kernel_rfl
theorem tplaces_209 : tplaces Try.prog 209 = some [(0, 2), (2, 1)] := by kernel_rfl
theorem tplaces_214 : tplaces Try.prog 214 = some [(0, 5), (5, 1)] := by kernel_rfl
theorem tplaces_226 : tplaces Try.prog 226 = some [(0, 1), (1, 1), (2, 1)] := by kernel_rfl
theorem tplaces_234 : tplaces Try.prog 234 = some [] := by kernel_rfl
theorem tzero_2 : tzero Try.prog 2 = some [.int .i64 0] := by kernel_rfl
theorem tzero_3 : tzero Try.prog 3 = some [.int .i64 0] := by kernel_rfl
theorem tzero_4 : tzero Try.prog 4 = some [.bool false] := by kernel_rfl
theorem tzero_5 : tzero Try.prog 5 = some [.int .u8 0] := by kernel_rfl
theorem tzero_9 : tzero Try.prog 9 = some [.str ⟨#[]⟩] := by kernel_rfl
theorem tzero_30 : tzero Try.prog 30 = some [.raw (.slice none 0 0), .int .i64 0, .raw (.slice none 0 0)] := by kernel_rfl
theorem tzero_32 : tzero Try.prog 32 = some [.int .i64 0, .int .i64 0, .str ⟨#[]⟩, .str ⟨#[]⟩] := by kernel_rfl
theorem tzero_41 : tzero Try.prog 41 = some [.int .i64 0, .str ⟨#[]⟩] := by kernel_rfl
theorem tzero_49 : tzero Try.prog 49 = some [.int .i64 0, .str ⟨#[]⟩] := by kernel_rfl
theorem tzero_56 : tzero Try.prog 56 = some [.raw (.slice none 0 0)] := by kernel_rfl
theorem tzero_62 : tzero Try.prog 62 = some [.str ⟨#[]⟩, .raw (.slice none 0 0)] := by kernel_rfl
theorem tzero_69 : tzero Try.prog 69 = some [.raw (.slice none 0 0)] := by kernel_rfl
theorem tzero_72 : tzero Try.prog 72 = some [.str ⟨#[]⟩, .str ⟨#[]⟩, .int .i64 0] := by kernel_rfl
theorem tzero_76 : tzero Try.prog 76 = some [.raw (.slice none 0 0), .raw (.slice none 0 0), .raw (.slice none 0 0), .raw (.slice none 0 0), .raw (.slice none 0 0), .raw (.slice none 0 0), .raw (.slice none 0 0)] := by kernel_rfl
theorem tzero_79 : tzero Try.prog 79 = some [.int .i64 0, .int .i64 0, .int .i64 0, .str ⟨#[]⟩, .str ⟨#[]⟩] := by kernel_rfl
theorem tzero_83 : tzero Try.prog 83 = some [.str ⟨#[]⟩, .str ⟨#[]⟩, .str ⟨#[]⟩] := by kernel_rfl
theorem tzero_85 : tzero Try.prog 85 = some [.bool false, .bool false, .bool false, .bool false, .bool false, .bool false, .bool false, .bool false, .bool false, .bool false, .bool false, .bool false] := by kernel_rfl
theorem tzero_86 : tzero Try.prog 86 = some [.int .i64 0, .int .i64 0, .int .i64 0] := by kernel_rfl
theorem tzero_94 : tzero Try.prog 94 = some [.raw (.slice none 0 0)] := by kernel_rfl
theorem tzero_96 : tzero Try.prog 96 = some [.raw (.slice none 0 0), .raw (.slice none 0 0)] := by kernel_rfl
theorem tzero_98 : tzero Try.prog 98 = some [.int .i64 0, .int .i64 0, .int .i64 0, .int .i64 0, .str ⟨#[]⟩, .str ⟨#[]⟩, .str ⟨#[]⟩, .str ⟨#[]⟩, .int .i64 0] := by kernel_rfl
theorem tzero_123 : tzero Try.prog 123 = some [.int .u16 0] := by kernel_rfl
theorem tzero_131 : tzero Try.prog 131 = some [.raw (.map none), .raw (.slice none 0 0), .int .i64 0] := by kernel_rfl
theorem tzero_135 : tzero Try.prog 135 = some [.raw (.slice none 0 0)] := by kernel_rfl
theorem tzero_148 : tzero Try.prog 148 = some [.raw (.pointer none), .raw (.map none)] := by kernel_rfl
theorem tzero_150 : tzero Try.prog 150 = some [.str ⟨#[]⟩, .str ⟨#[]⟩] := by kernel_rfl
theorem tzero_175 : tzero Try.prog 175 = some [.raw (.pointer none), .raw (.pointer none), .raw (.pointer none), .raw (.pointer none), .int .i64 0, .int .i64 0] := by kernel_rfl
theorem tzero_182 : tzero Try.prog 182 = some [.raw (.map none), .raw (.map none), .raw (.slice none 0 0)] := by kernel_rfl
theorem tzero_195 : tzero Try.prog 195 = some [.raw (.map none), .int .i64 0, .int .i64 0] := by kernel_rfl
theorem tzero_197 : tzero Try.prog 197 = some [.int .i64 0, .int .i64 0, .str ⟨#[]⟩, .bool false, .int .i64 0, .str ⟨#[]⟩] := by kernel_rfl
theorem tzero_199 : tzero Try.prog 199 = some [.int .i64 0, .int .i64 0, .str ⟨#[]⟩, .bool false, .int .i64 0, .str ⟨#[]⟩, .bool false, .bool false] := by kernel_rfl
theorem tzero_207 : tzero Try.prog 207 = some [.raw (.slice none 0 0), .raw (.nilFunc)] := by kernel_rfl
theorem tzero_209 : tzero Try.prog 209 = some [.raw (.slice none 0 0), .raw (.nilFunc), .int .i64 0] := by kernel_rfl
theorem tzero_214 : tzero Try.prog 214 = some [.int .i64 0, .int .i64 0, .int .i64 0, .str ⟨#[]⟩, .str ⟨#[]⟩, .int .i64 0] := by kernel_rfl
theorem tzero_226 : tzero Try.prog 226 = some [.raw (.map none), .raw (.map none), .raw (.map none)] := by kernel_rfl
theorem tzero_234 : tzero Try.prog 234 = some [] := by kernel_rfl
theorem tzero_264 : tzero Try.prog 264 = some [.int .u64 0] := by kernel_rfl
theorem tfield_30_0 : tfield Try.prog 30 0 = some 0 := by kernel_rfl
theorem tfield_30_1 : tfield Try.prog 30 1 = some 1 := by kernel_rfl
theorem tfield_30_2 : tfield Try.prog 30 2 = some 2 := by kernel_rfl
theorem tfield_32_0 : tfield Try.prog 32 0 = some 0 := by kernel_rfl
theorem tfield_32_1 : tfield Try.prog 32 1 = some 1 := by kernel_rfl
theorem tfield_32_2 : tfield Try.prog 32 2 = some 2 := by kernel_rfl
theorem tfield_32_3 : tfield Try.prog 32 3 = some 3 := by kernel_rfl
theorem tfield_62_0 : tfield Try.prog 62 0 = some 0 := by kernel_rfl
theorem tfield_62_1 : tfield Try.prog 62 1 = some 1 := by kernel_rfl
theorem tfield_72_0 : tfield Try.prog 72 0 = some 0 := by kernel_rfl
theorem tfield_72_1 : tfield Try.prog 72 1 = some 1 := by kernel_rfl
theorem tfield_72_2 : tfield Try.prog 72 2 = some 2 := by kernel_rfl
theorem tfield_79_0 : tfield Try.prog 79 0 = some 0 := by kernel_rfl
theorem tfield_79_1 : tfield Try.prog 79 1 = some 1 := by kernel_rfl
theorem tfield_79_3 : tfield Try.prog 79 3 = some 3 := by kernel_rfl
theorem tfield_79_4 : tfield Try.prog 79 4 = some 4 := by kernel_rfl
theorem tfield_96_0 : tfield Try.prog 96 0 = some 0 := by kernel_rfl
theorem tfield_96_1 : tfield Try.prog 96 1 = some 1 := by kernel_rfl
theorem tfield_98_0 : tfield Try.prog 98 0 = some 0 := by kernel_rfl
theorem tfield_98_1 : tfield Try.prog 98 1 = some 1 := by kernel_rfl
theorem tfield_98_2 : tfield Try.prog 98 2 = some 6 := by kernel_rfl
theorem tfield_98_3 : tfield Try.prog 98 3 = some 7 := by kernel_rfl
theorem tfield_98_4 : tfield Try.prog 98 4 = some 8 := by kernel_rfl
theorem tfield_129_0 : tfield Try.prog 129 0 = some 0 := by kernel_rfl
theorem tfield_131_0 : tfield Try.prog 131 0 = some 0 := by kernel_rfl
theorem tfield_131_1 : tfield Try.prog 131 1 = some 1 := by kernel_rfl
theorem tfield_131_2 : tfield Try.prog 131 2 = some 2 := by kernel_rfl
theorem tfield_135_0 : tfield Try.prog 135 0 = some 0 := by kernel_rfl
theorem tfield_148_0 : tfield Try.prog 148 0 = some 0 := by kernel_rfl
theorem tfield_148_1 : tfield Try.prog 148 1 = some 1 := by kernel_rfl
theorem tfield_150_0 : tfield Try.prog 150 0 = some 0 := by kernel_rfl
theorem tfield_150_1 : tfield Try.prog 150 1 = some 1 := by kernel_rfl
theorem tfield_175_0 : tfield Try.prog 175 0 = some 0 := by kernel_rfl
theorem tfield_175_1 : tfield Try.prog 175 1 = some 1 := by kernel_rfl
theorem tfield_175_4 : tfield Try.prog 175 4 = some 4 := by kernel_rfl
theorem tfield_175_5 : tfield Try.prog 175 5 = some 5 := by kernel_rfl
theorem tfield_182_0 : tfield Try.prog 182 0 = some 0 := by kernel_rfl
theorem tfield_182_1 : tfield Try.prog 182 1 = some 1 := by kernel_rfl
theorem tfield_182_2 : tfield Try.prog 182 2 = some 2 := by kernel_rfl
theorem tfield_195_0 : tfield Try.prog 195 0 = some 0 := by kernel_rfl
theorem tfield_195_1 : tfield Try.prog 195 1 = some 1 := by kernel_rfl
theorem tfield_195_2 : tfield Try.prog 195 2 = some 2 := by kernel_rfl
theorem tfield_197_0 : tfield Try.prog 197 0 = some 0 := by kernel_rfl
theorem tfield_197_1 : tfield Try.prog 197 1 = some 1 := by kernel_rfl
theorem tfield_197_2 : tfield Try.prog 197 2 = some 2 := by kernel_rfl
theorem tfield_197_3 : tfield Try.prog 197 3 = some 3 := by kernel_rfl
theorem tfield_197_4 : tfield Try.prog 197 4 = some 4 := by kernel_rfl
theorem tfield_197_5 : tfield Try.prog 197 5 = some 5 := by kernel_rfl
theorem tfield_199_0 : tfield Try.prog 199 0 = some 0 := by kernel_rfl
theorem tfield_199_1 : tfield Try.prog 199 1 = some 6 := by kernel_rfl
theorem tfield_199_2 : tfield Try.prog 199 2 = some 7 := by kernel_rfl
theorem tfield_207_0 : tfield Try.prog 207 0 = some 0 := by kernel_rfl
theorem tfield_207_1 : tfield Try.prog 207 1 = some 1 := by kernel_rfl
theorem tfield_209_0 : tfield Try.prog 209 0 = some 0 := by kernel_rfl
theorem tfield_209_1 : tfield Try.prog 209 1 = some 2 := by kernel_rfl
theorem tfield_214_0 : tfield Try.prog 214 0 = some 0 := by kernel_rfl
theorem tfield_214_1 : tfield Try.prog 214 1 = some 5 := by kernel_rfl
theorem tfieldV_214_0 : tfieldV Try.prog 214 0 = some (0, true, 5) := by kernel_rfl
theorem tconc_212 : Try.prog.concrete 212 = true := by kernel_rfl
theorem tconc_214 : Try.prog.concrete 214 = true := by kernel_rfl
end Go.Proofs.Ytkcmgcoppecfpaa

/- queue.Queue[reveille/api.Event]: its elements. -/
namespace Go.Proofs.Ytkcmgcoppecfpaa
open Go Go.RowKit
structure EV where
  (kind pid status : Int) (unit text : ByteArray)
def EV.zero : EV := ⟨0, 0, 0, ByteArray.empty, ByteArray.empty⟩
def encEV (x : EV) : List SV := [.int .i64 x.kind, .int .i64 x.pid, .int .i64 x.status, .str x.unit, .str x.text]
def encItE (x : EV × Int) : List SV := [.int .i64 x.1.kind, .int .i64 x.1.pid, .int .i64 x.1.status, .str x.1.unit, .str x.1.text, .int .i64 x.2]
end Go.Proofs.Ytkcmgcoppecfpaa

/- Slots of which nothing is said, in short. -/
namespace Go.Proofs.Ytkcmgcoppecfpaa
open Go Go.RowKit
def rawR (u : Nat → Value) (k : Nat) (t : List SV) : Nat → List SV
  | 0 => t
  | n + 1 => SV.raw (u k) :: rawR u (k + 1) t n
def rawE (t : List SV) : Nat → List SV
  | 0 => t
  | n + 1 => SV.raw (Value.tuple #[]) :: rawE t n
end Go.Proofs.Ytkcmgcoppecfpaa

