import Derived.Test.YtjnkfgigpapeaaaMgQueuePlays4
import Derived.Test.YtjnkfgigpapeaaaProg
set_option linter.unusedVariables false
set_option linter.unusedSimpArgs false
set_option linter.unnecessarySimpa false
set_option maxHeartbeats 0
set_option maxRecDepth 100000
/- Queues: what is alike for all elements: a pile's two entries, and the contracts over them. -/
namespace Go.Proofs.Ytjnkfgigpapeaaa
open Go Go.RowKit
universe u

theorem setN_nth {α : Type u} {l : List α} {i : Nat} {x : α} (h : nth l i = some x) : setN l i x = l := by
  rw [nth_eq] at h
  rw [setN_eq]
  exact List.ext_getElem? fun k => by
    rw [List.getElem?_set]
    split
    · rename_i e; subst e
      split
      · exact h.symm
      · rename_i hlt; exact absurd (List.getElem?_eq_some_iff.1 h).1 hlt
    · rfl

def lessI {α : Type} (bef : α → α → Bool) (a b : α × Int) : Bool := bef a.1 b.1 || (!bef b.1 a.1 && decide (a.2 < b.2))

section
variable {α : Type} (TI : TypeId) (sz : Nat) (enc : α × Int → List SV) (d : α × Int)

abbrev qhG (b : Nat) (ao : Option Addr) (cap : Nat) (f : FuncId) (rest : List SV) (T : TypeId) (xs : List (α × Int)) : List Ent := [⟨.blk b, .cells (.vec 1 ao xs.length cap :: .func (.func f) [] [] :: rest) T⟩, ⟨.sl ao cap, .vecL TI sz enc xs d⟩]

abbrev onPile (hs : List Ent) (l b : Nat) (Φ : (l2 : Nat) → (ao : Option Addr) → (cap : Nat) → (f : FuncId) → (rest : List SV) → (T : TypeId) → (xs : List (α × Int)) → Prop) : Prop :=
  match nth hs l with
  | some ⟨.blk b', .cells (.vec l2 ao n cap :: .func (.func f) [] [] :: rest) T⟩ => match nth hs l2 with
    | some e => ∃ xs : List (α × Int), (e = ⟨.sl ao cap, .vecL TI sz enc xs d⟩ ∧ b' = b ∧ n = xs.length ∧ Nat.beq l l2 = false) ∧ Φ l2 ao cap f rest T xs
    | none => False
  | _ => False

abbrev setPile (hs : List Ent) (l l2 b : Nat) (ao : Option Addr) (cap : Nat) (f : FuncId) (rest : List SV) (T : TypeId) (xs : List (α × Int)) : List Ent :=
  setN (setN hs l ⟨.blk b, .cells (.vec l2 ao xs.length cap :: .func (.func f) [] [] :: rest) T⟩) l2 ⟨.sl ao cap, .vecL TI sz enc xs d⟩

theorem setPile_same {hs : List Ent} {l l2 b : Nat} {ao : Option Addr} {cap : Nat} {f : FuncId} {rest : List SV} {T : TypeId} {xs : List (α × Int)}
    (h1 : nth hs l = some ⟨.blk b, .cells (.vec l2 ao xs.length cap :: .func (.func f) [] [] :: rest) T⟩) (h2 : nth hs l2 = some ⟨.sl ao cap, .vecL TI sz enc xs d⟩) : setPile TI sz enc d hs l l2 b ao cap f rest T xs = hs := by
  unfold setPile
  rw [setN_nth h1, setN_nth h2]

theorem Spec.pile {P : Program} {fid : FuncId} {hs : List Ent} {args args' : List SV} {Post Post' : List Ent → SV → Prop} {l l2 b : Nat} {ao : Option Addr} {cap : Nat} {f : FuncId} {rest : List SV} {T : TypeId} {xs : List (α × Int)}
    (h1 : nth hs l = some ⟨.blk b, .cells (.vec l2 ao xs.length cap :: .func (.func f) [] [] :: rest) T⟩) (h2 : nth hs l2 = some ⟨.sl ao cap, .vecL TI sz enc xs d⟩) (hne : Nat.beq l l2 = false) (ha : denL args = denL args')
    (h : (xs.length ≤ cap → (0 < xs.length → ao = some ⟨Addr.blkD ao, Addr.offD ao, none⟩) → Spec P fid (qhG TI sz enc d b ao cap f rest T xs) args' Post'))
    (hpost : ∀ h' r, Post' h' r → ∃ xs' ao' cap' rest' r', (∀ W F w, Rep W F h' w → Rep W F (qhG TI sz enc d b ao' cap' f rest' T xs') w) ∧ den r = den r' ∧ Post (setPile TI sz enc d hs l l2 b ao' cap' f rest' T xs') r') : Spec P fid hs args Post := by
  have hne' : l ≠ l2 := by intro e; subst e; simp at hne
  have hpk : pickE hs [l, l2] = some [⟨.blk b, .cells (.vec l2 ao xs.length cap :: .func (.func f) [] [] :: rest) T⟩, ⟨.sl ao cap, .vecL TI sz enc xs d⟩] := by simp [pickE, h1, h2]
  refine Spec.know (p := xs.length ≤ cap ∧ (0 < xs.length → ao = some ⟨Addr.blkD ao, Addr.offD ao, none⟩)) (fun W F w hr => ⟨(hr.vec h2).2.1, (hr.vec h2).2.2.1⟩) fun hk => ?_
  have hin : ∀ W F w, Rep W F [⟨.blk b, .cells (.vec l2 ao xs.length cap :: .func (.func f) [] [] :: rest) T⟩, ⟨.sl ao cap, .vecL TI sz enc xs d⟩] w → Rep W F (qhG TI sz enc d b ao cap f rest T xs) w := fun W F w hr =>
    Rep.cellsEq (l := 0) (cs' := .vec 1 ao xs.length cap :: .func (.func f) [] [] :: rest) rfl (by rfl) hr
  have h0 : Spec P fid [⟨.blk b, .cells (.vec l2 ao xs.length cap :: .func (.func f) [] [] :: rest) T⟩, ⟨.sl ao cap, .vecL TI sz enc xs d⟩] args' Post' := fun W F w hr => h hk.1 hk.2 W F w (hin W F w hr)
  refine Spec.at [l, l2] (by simp [distinct, hne']) hpk (h0.weaken (Post' := fun h' r => ∃ xs' ao' cap' rest', h' = [⟨.blk b, .cells (.vec l2 ao' xs'.length cap' :: .func (.func f) [] [] :: rest') T⟩, ⟨.sl ao' cap', .vecL TI sz enc xs' d⟩] ∧ Post (setPile TI sz enc d hs l l2 b ao' cap' f rest' T xs') r) ?_) ha ?_
  · intro h' r hp
    obtain ⟨xs', ao', cap', rest', r', g1, g2, g3⟩ := hpost h' r hp
    refine ⟨_, r', fun W F w hr => ?_, g2, xs', ao', cap', rest', rfl, g3⟩
    exact Rep.cellsEq (l := 0) (cs' := .vec l2 ao' xs'.length cap' :: .func (.func f) [] [] :: rest') rfl (by rfl) (g1 W F w hr)
  · rintro h' r ⟨xs', ao', cap', rest', rfl, g3⟩
    refine ⟨Nat.le_refl _, r, rfl, ?_⟩
    have e : putBack [l, l2] hs [⟨.blk b, .cells (.vec l2 ao' xs'.length cap' :: .func (.func f) [] [] :: rest') T⟩, ⟨.sl ao' cap', .vecL TI sz enc xs' d⟩] = setPile TI sz enc d hs l l2 b ao' cap' f rest' T xs' := by
      simp [putBack, appE_eq]
    rw [e]; exact g3

def lessC (R : FuncId → (α → α → Bool) → Prop) : Ctr := fun args hs N => match args with
  | [.ptr l b 0, .int k i, .int k' j] => onPile TI sz enc d hs l b fun l2 ao cap f rest T xs => (k = .i64 ∧ k' = .i64 ∧ 0 ≤ i ∧ i < xs.length ∧ 0 ≤ j ∧ j < xs.length) ∧ ∃ bef, R f bef ∧ N hs (.bool (lessI bef (xs.getD i.toNat d) (xs.getD j.toNat d)))
  | _ => False
def swapC : Ctr := fun args hs N => match args with
  | [.ptr l b 0, .int k i, .int k' j] => onPile TI sz enc d hs l b fun l2 ao cap f rest T xs => (k = .i64 ∧ k' = .i64 ∧ 0 ≤ i ∧ i < xs.length ∧ 0 ≤ j ∧ j < xs.length) ∧ N (setPile TI sz enc d hs l l2 b ao cap f rest T (swapL d xs i.toNat j.toNat)) (.tuple [])
  | _ => False
def ppushC (bytes : Nat) : Ctr := fun args hs N => match args with
  | [.ptr l b 0, .iface t (.agg cs)] => onPile TI sz enc d hs l b fun l2 ao cap f rest T xs => ∃ x, (t = TI ∧ enc x = cs ∧ (xs.length + 1) * bytes ≤ 140737488355328 ∧ xs.length + 1 ≤ 9223372036854775807) ∧ ∀ ao2 cap2, N (setPile TI sz enc d hs l l2 b ao2 cap2 f rest T (xs ++ [x])) (.tuple [])
  | _ => False
def ppopC : Ctr := fun args hs N => match args with
  | [.ptr l b 0] => onPile TI sz enc d hs l b fun l2 ao cap f rest T xs => (0 < xs.length ∧ xs.length ≤ 9223372036854775807) ∧ N (setPile TI sz enc d hs l l2 b ao cap f rest T (xs.take (xs.length - 1))) (.iface TI (.agg (enc (xs.getD (xs.length - 1) d))))
  | _ => False
def upC (TP : TypeId) (R : FuncId → (α → α → Bool) → Prop) : Ctr := fun args hs N => match args with
  | [.iface t (.ptr l b 0), .int k j] => onPile TI sz enc d hs l b fun l2 ao cap f rest T xs => (t = TP ∧ k = .i64 ∧ 0 ≤ j ∧ j < xs.length ∧ xs.length ≤ 2305843009213693952) ∧ ∃ bef, R f bef ∧ N (setPile TI sz enc d hs l l2 b ao cap f rest T (upL (lessI bef) d j.toNat xs j.toNat)) (.tuple [])
  | _ => False
def downC (TP : TypeId) (R : FuncId → (α → α → Bool) → Prop) : Ctr := fun args hs N => match args with
  | [.iface t (.ptr l b 0), .int k i, .int k' n] => onPile TI sz enc d hs l b fun l2 ao cap f rest T xs => (t = TP ∧ k = .i64 ∧ k' = .i64 ∧ i = 0 ∧ 0 ≤ n ∧ n ≤ xs.length ∧ xs.length ≤ 2305843009213693952) ∧ ∃ bef, R f bef ∧ ∀ bb, N (setPile TI sz enc d hs l l2 b ao cap f rest T (downL (lessI bef) d xs.length xs 0 n.toNat)) (.bool bb)
  | _ => False
def hpushC (TP : TypeId) (bytes : Nat) (R : FuncId → (α → α → Bool) → Prop) : Ctr := fun args hs N => match args with
  | [.iface t (.ptr l b 0), .iface t' (.agg cs)] => onPile TI sz enc d hs l b fun l2 ao cap f rest T xs => ∃ x, (t = TP ∧ t' = TI ∧ enc x = cs ∧ (xs.length + 1) * bytes ≤ 140737488355328 ∧ xs.length < 2305843009213693952) ∧ ∃ bef, R f bef ∧ ∀ ao2 cap2, N (setPile TI sz enc d hs l l2 b ao2 cap2 f rest T (pushL (lessI bef) d xs x)) (.tuple [])
  | _ => False
def hpopC (TP : TypeId) (R : FuncId → (α → α → Bool) → Prop) : Ctr := fun args hs N => match args with
  | [.iface t (.ptr l b 0)] => onPile TI sz enc d hs l b fun l2 ao cap f rest T xs => (t = TP ∧ 0 < xs.length ∧ xs.length ≤ 2305843009213693952) ∧ ∃ bef, R f bef ∧ N (setPile TI sz enc d hs l l2 b ao cap f rest T (popL (lessI bef) d xs)) (.iface TI (.agg (enc (xs.getD 0 d))))
  | _ => False
end

section
variable {W w : World} {F : List Ch}
theorem Rep.trim {h : List Ent} {l cap sz k : Nat} {ao : Option Addr} {α : Type} {enc : α → List SV} {xs : List α} {d : α} {T : TypeId} (hl : nth h l = some ⟨.sl ao cap, .vecL T sz enc xs d⟩) (hk : k ≤ xs.length) (hr : Rep W F h w) :
    Rep W F (setN h l ⟨.sl ao cap, .vecL T sz enc (xs.take k) d⟩) w := by
  obtain ⟨c, L, ⟨⟨h1, h2, h3⟩, hel⟩, hH, hput⟩ := hr.get hl
  have hfl : flatV enc (xs.take k) = (flatV enc xs).take (k * sz) := by
    have e1 : flatV enc (xs.take k) ++ flatV enc (xs.drop k) = flatV enc xs := by
      unfold flatV
      rw [← List.flatMap_append, List.take_append_drop]
    have e2 : (flatV enc (xs.take k)).length = k * sz := by rw [length_flatV hel, List.length_take, Nat.min_eq_left hk]
    rw [← e1, ← e2, List.take_left]
  refine hput _ c w ⟨⟨?_, ?_, ?_⟩, hel⟩ hH
  · rw [length_flatV hel]
  · simp only [List.length_take]; omega
  · rcases h3 with ⟨rfl, rfl, rfl⟩ | ⟨g, off, cur, rfl, rfl, hs, ht⟩
    · exact .inl ⟨rfl, rfl, rfl⟩
    · refine .inr ⟨g, off, cur, rfl, rfl, hs, ?_⟩
      rw [hfl, ← ht, List.take_take]
      congr 1
      simp only [List.length_take]
      rw [Nat.min_eq_left hk]
      exact (Nat.min_eq_left (Nat.mul_le_mul_right _ hk)).symm
end

theorem den_trim (l : Nat) {ao : Option Addr} (cap sz k : Nat) (ha : ao = some ⟨Addr.blkD ao, Addr.offD ao, none⟩) : den (.sub l ao cap sz 0 k) = den (.vec l ao k cap) := by
  rw [ha]
  simp only [den, Nat.sub_zero, Nat.zero_mul, Option.map_some]
  rw [Addr.add_mid']
  split <;> rfl
end Go.Proofs.Ytjnkfgigpapeaaa

/- Queues as1 sorted rows: the plain law of a pile that is a heap; container/heap's Init. -/
namespace Go.Proofs.Ytjnkfgigpapeaaa
open Go Go.RowKit
universe u

section
variable {α : Type} {lt : α → α → Bool} {d : α}

theorem Ordered.tr (ho : Ordered lt) {a b c : α} (h1 : lt a b = true) (h2 : lt b c = true) : lt a c = true := by
  cases h : lt a c with
  | true => rfl
  | false =>
    have := ho.trans b c a (ho.asym _ _ h2) h
    rw [h1] at this; cases this

def heapFrom (lt : α → α → Bool) (d : α) (xs : List α) (n lo : Nat) : Prop := ∀ k, 0 < k → k < n → lo ≤ (k - 1) / 2 → lt (xs.getD k d) (xs.getD ((k - 1) / 2) d) = false

theorem heap_downFrom (ho : Ordered lt) : ∀ (m : Nat) (xs : List α) (i n lo : Nat), lo ≤ i → i < n → n ≤ xs.length → n ≤ m + i + 1 → (∀ k, 0 < k → k < n → lo ≤ (k - 1) / 2 → (k - 1) / 2 ≠ i → lt (xs.getD k d) (xs.getD ((k - 1) / 2) d) = false) →
    (0 < i → lo ≤ (i - 1) / 2 → ∀ k, 0 < k → k < n → (k - 1) / 2 = i → lt (xs.getD k d) (xs.getD ((i - 1) / 2) d) = false) → heapFrom lt d (downL lt d m xs i n) n lo
  | 0, xs, i, n, lo, hlo, hi, hn, hm, h1, h2 => by
    intro k k0 kn kl
    exact h1 k k0 kn kl (by omega)
  | m + 1, xs, i, n, lo, hlo, hi, hn, hm, h1, h2 => by
    unfold downL
    split
    · intro k k0 kn kl
      exact h1 k k0 kn kl (by omega)
    · rename_i h
      have hj := kidL_lt (lt := lt) (d := d) (xs := xs) h
      have hb : ∀ k, 0 < k → k < n → (k - 1) / 2 = i → lt (xs.getD k d) (xs.getD (kidL lt d xs i n) d) = false := by
        intro k k0 kn hk
        have hself : ∀ a, lt a a = false := fun a => by
          cases hq : lt a a with
          | false => rfl
          | true => have := ho.asym _ _ hq; rw [hq] at this; cases this
        have : k = 2 * i + 1 ∨ k = 2 * i + 2 := by omega
        unfold kidL
        split
        · rename_i hc
          rcases this with rfl | rfl
          · exact ho.asym _ _ hc.2
          · exact hself _
        · rename_i hc
          rcases this with rfl | rfl
          · exact hself _
          · cases hq : lt (xs.getD (2 * i + 2) d) (xs.getD (2 * i + 1) d) with
            | false => rfl
            | true => exact absurd ⟨kn, hq⟩ hc
      split
      · rename_i hlt
        have hk : kidL lt d xs i n < xs.length := by omega
        have hi' : i < xs.length := by omega
        have hpar : (kidL lt d xs i n - 1) / 2 = i := by omega
        refine heap_downFrom ho m (swapL d xs i (kidL lt d xs i n)) (kidL lt d xs i n) n lo (by omega) hj.1 (by rw [length_swapL]; exact hn) (by omega) ?_ ?_
        · intro k k0 kn kl hne
          rw [getD_swapL _ _ _ _ hi' hk, getD_swapL _ _ _ _ hi' hk]
          rw [if_neg hne]
          by_cases e1 : k = kidL lt d xs i n
          · rw [if_pos e1, e1, hpar, if_pos rfl]
            exact ho.asym _ _ hlt
          · rw [if_neg e1]
            by_cases e2 : k = i
            · rw [if_pos e2, e2, if_neg (by omega)]
              have i0 : 0 < i := by omega
              exact h2 i0 (by rw [← e2]; exact kl) _ (by omega) hj.1 hpar
            · rw [if_neg e2]
              by_cases e3 : (k - 1) / 2 = i
              · rw [if_pos e3]
                exact hb k k0 kn e3
              · rw [if_neg e3]
                exact h1 k k0 kn kl e3
        · intro _ _ k k0 kn hk2
          rw [getD_swapL _ _ _ _ hi' hk, getD_swapL _ _ _ _ hi' hk, hpar, if_neg (by omega), if_neg (by omega : ¬ k = i), if_neg (by omega : ¬ i = kidL lt d xs i n), if_pos rfl]
          have := h1 k k0 kn (by omega) (by omega)
          rw [hk2] at this
          exact this
      · rename_i hlt
        have hlt' : lt (xs.getD (kidL lt d xs i n) d) (xs.getD i d) = false := by simpa using hlt
        intro k k0 kn kl
        by_cases e1 : (k - 1) / 2 = i
        · rw [e1]
          exact ho.trans _ _ _ hlt' (hb k k0 kn e1)
        · exact h1 k k0 kn kl e1

def initL (lt : α → α → Bool) (d : α) : Nat → List α → List α
  | 0, xs => xs
  | k + 1, xs => initL lt d k (downL lt d xs.length xs k xs.length)
theorem length_initL : ∀ (k : Nat) (xs : List α), (initL lt d k xs).length = xs.length
  | 0, _ => rfl
  | k + 1, xs => by unfold initL; rw [length_initL k, length_downL]
theorem perm_initL : ∀ (k : Nat) (xs : List α), k ≤ xs.length → (initL lt d k xs).Perm xs
  | 0, _, _ => List.Perm.refl _
  | k + 1, xs, h => by
    unfold initL
    exact (perm_initL k _ (by rw [length_downL]; omega)).trans (perm_downL _ _ _ _ (by omega) (Nat.le_refl _))
theorem heap_initL (ho : Ordered lt) : ∀ (k : Nat) (xs : List α), k ≤ xs.length → heapFrom lt d xs xs.length k → heapN lt d (initL lt d k xs) xs.length
  | 0, xs, _, h => fun k k0 kn => h k k0 kn (Nat.zero_le _)
  | k + 1, xs, hk, h => by
    unfold initL
    have e : (downL lt d xs.length xs k xs.length).length = xs.length := length_downL _ _ _ _
    have := heap_initL ho k (downL lt d xs.length xs k xs.length) (by rw [e]; omega) (by
      rw [e]
      refine heap_downFrom ho xs.length xs k xs.length k (Nat.le_refl _) (by omega) (Nat.le_refl _) (by omega) ?_ ?_
      · intro j j0 jn jl jne
        exact h j j0 jn (by omega)
      · intro k0 hle
        omega)
    rw [e] at this
    exact this
theorem heap_init (ho : Ordered lt) (xs : List α) : heapN lt d (initL lt d (xs.length / 2) xs) (initL lt d (xs.length / 2) xs).length := by
  rw [length_initL]
  exact heap_initL ho _ _ (by omega) fun k k0 kn kl => by omega

def insB (lt : α → α → Bool) (v : α) : List α → List α
  | [] => [v]
  | y :: l => match lt v y with
    | true => v :: y :: l
    | false => y :: insB lt v l
theorem perm_insB (v : α) : ∀ l : List α, (insB lt v l).Perm (v :: l)
  | [] => List.Perm.refl _
  | y :: l => by
    unfold insB
    split
    · exact List.Perm.refl _
    · exact ((perm_insB v l).cons y).trans (List.Perm.swap _ _ _)
theorem length_insB (v : α) (l : List α) : (insB lt v l).length = l.length + 1 := (perm_insB v l).length_eq
theorem sorted_insB (ho : Ordered lt) (v : α) : ∀ l : List α, l.Pairwise (fun a b => lt a b = true) → (∀ y ∈ l, lt v y = false → lt y v = true) → (insB lt v l).Pairwise (fun a b => lt a b = true)
  | [], _, _ => by simp [insB]
  | y :: l, hp, ht => by
    have hp' := List.pairwise_cons.1 hp
    unfold insB
    split
    · rename_i h
      refine List.pairwise_cons.2 ⟨fun z hz => ?_, hp⟩
      rcases List.mem_cons.1 hz with rfl | hz
      · exact h
      · exact ho.tr h (hp'.1 z hz)
    · rename_i h
      refine List.pairwise_cons.2 ⟨fun z hz => ?_, sorted_insB ho v l hp'.2 fun z hz => ht z (List.mem_cons_of_mem _ hz)⟩
      rcases List.mem_cons.1 ((perm_insB v l).mem_iff.1 hz) with rfl | hz
      · exact ht y List.mem_cons_self h
      · exact hp'.1 z hz
theorem insB_at (v : α) : ∀ (l : List α) (k : Nat), k ≤ l.length → (∀ j, j < k → lt v (l.getD j d) = false) → (k < l.length → lt v (l.getD k d) = true) → insB lt v l = l.take k ++ v :: l.drop k
  | [], k, hk, _, _ => by
    obtain rfl : k = 0 := by simpa using hk
    rfl
  | y :: l, 0, _, _, h => by
    have := h (by simp)
    simp only [List.getD_cons_zero] at this
    simp [insB, this]
  | y :: l, k + 1, hk, h1, h2 => by
    have h0 := h1 0 (by omega)
    simp only [List.getD_cons_zero] at h0
    have := insB_at v l k (by simpa using hk) (fun j hj => by simpa using h1 (j + 1) (by omega)) (fun hj => by simpa using h2 (by simpa using hj))
    simp [insB, h0, this]
end

section
variable {α : Type} {bef : α → α → Bool} {d : α × Int}
theorem insB_fst (v : α) (n : Int) : ∀ l : List (α × Int), (∀ y ∈ l, y.2 < n) → (insB (lessI bef) (v, n) l).map (·.1) = insB bef v (l.map (·.1))
  | [], _ => rfl
  | y :: l, h => by
    have h0 : y.2 < n := h y List.mem_cons_self
    have e : lessI bef (v, n) y = bef v y.1 := by
      unfold lessI
      have : decide (n < y.2) = false := decide_eq_false (by omega)
      simp [this]
    simp only [insB, List.map_cons, e]
    split
    · simp
    · simp [insB_fst v n l fun z hz => h z (List.mem_cons_of_mem _ hz)]

structure QRep (bef : α → α → Bool) (d : α × Int) (xs : List (α × Int)) (l : List α) (n : Nat) : Prop where
  heap : heapN (lessI bef) d xs xs.length
  srt : ∃ ys : List (α × Int), ys.Perm xs ∧ ys.Pairwise (fun a b => lessI bef a b = true) ∧ ys.map (·.1) = l
  num : ∀ x ∈ xs, 0 ≤ x.2 ∧ x.2 < n

theorem QRep.length {xs : List (α × Int)} {l : List α} {n : Nat} (h : QRep bef d xs l n) : xs.length = l.length := by
  obtain ⟨ys, h1, _, h3⟩ := h.srt
  rw [← h3, List.length_map, h1.length_eq]
theorem QRep.nil : QRep bef d [] [] 0 := ⟨fun k k0 kn => absurd kn (by simp), ⟨[], List.Perm.refl _, List.Pairwise.nil, rfl⟩, fun x hx => by cases hx⟩
theorem QRep.push (ho : Ordered (lessI bef)) {xs : List (α × Int)} {l : List α} {n : Nat} (h : QRep bef d xs l n) (v : α) : QRep bef d (pushL (lessI bef) d xs (v, (n : Int))) (insB bef v l) (n + 1) := by
  obtain ⟨ys, h1, h2, h3⟩ := h.srt
  have hn : ∀ y ∈ ys, y.2 < (n : Int) := fun y hy => (h.num y (h1.mem_iff.1 hy)).2
  refine ⟨heap_pushL ho _ h.heap, ⟨insB (lessI bef) (v, (n : Int)) ys, ?_, ?_, ?_⟩, ?_⟩
  · exact (perm_insB _ _).trans ((h1.cons _).trans (perm_pushL _ _).symm)
  · refine sorted_insB ho _ _ h2 fun y hy hl => ?_
    have := hn y hy
    unfold lessI at hl ⊢
    simp only [Bool.or_eq_false_iff, Bool.and_eq_false_iff, Bool.not_eq_false'] at hl
    simp [hl.1, this]
  · rw [insB_fst _ _ _ hn, h3]
  · intro x hx
    rcases List.mem_cons.1 ((perm_pushL xs (v, (n : Int))).mem_iff.1 hx) with rfl | hx
    · dsimp only; omega
    · have := h.num x hx; omega
theorem QRep.top (ho : Ordered (lessI bef)) {xs : List (α × Int)} {a : α} {l : List α} {n : Nat} (h : QRep bef d xs (a :: l) n) : (xs.getD 0 d).1 = a ∧ 0 < xs.length ∧ QRep bef d (popL (lessI bef) d xs) l n := by
  have hlen := h.length
  have h0 : 0 < xs.length := by rw [hlen]; simp
  obtain ⟨ys, h1, h2, h3⟩ := h.srt
  cases ys with
  | nil => cases h3
  | cons y t =>
    simp only [List.map_cons, List.cons.injEq] at h3
    have hp := perm_popL (lt := lessI bef) (d := d) h0
    have hy := List.pairwise_cons.1 h2
    have e : xs.getD 0 d = y := by
      have hm : xs.getD 0 d ∈ y :: t := h1.mem_iff.2 (hp.mem_iff.1 List.mem_cons_self)
      rcases List.mem_cons.1 hm with e | hm
      · exact e
      · have a1 := hy.1 _ hm
        obtain ⟨k, hk, e⟩ := List.mem_iff_getElem.1 (h1.mem_iff.1 (List.mem_cons_self (a := y) (l := t)))
        have a2 := heap_top ho h.heap k hk
        have : xs.getD k d = y := by simp [List.getD, hk, e]
        rw [this, a1] at a2
        cases a2
    refine ⟨by rw [e]; exact h3.1, h0, heap_popL ho h.heap, ⟨t, ?_, hy.2, h3.2⟩, ?_⟩
    · have : (y :: t).Perm (y :: popL (lessI bef) d xs) := h1.trans (by rw [← e]; exact hp.symm)
      exact (List.perm_cons y).1 this
    · intro x hx
      exact h.num x (hp.mem_iff.1 (List.mem_cons_of_mem _ hx))
theorem QRep.drop (ho : Ordered (lessI bef)) {xs : List (α × Int)} {l : List α} {n : Nat} (h : QRep bef d xs l n) (p : α → Bool) : QRep bef d (initL (lessI bef) d ((xs.filter fun x => p x.1).length / 2) (xs.filter fun x => p x.1)) (l.filter p) n := by
  obtain ⟨ys, h1, h2, h3⟩ := h.srt
  have hp := perm_initL (lt := lessI bef) (d := d) ((xs.filter fun x => p x.1).length / 2) (xs.filter fun x => p x.1) (by omega)
  refine ⟨heap_init ho _, ⟨ys.filter fun x => p x.1, (h1.filter _).trans hp.symm, h2.filter _, ?_⟩, fun x hx => h.num x (List.mem_filter.1 (hp.mem_iff.1 hx)).1⟩
  rw [← h3, List.filter_map]
  rfl
theorem ordL {key : α → Int} : Ordered (lessI fun a b : α => decide (key a < key b)) := by
  constructor
  · intro a b h
    simp only [lessI, Bool.or_eq_true, Bool.and_eq_true, Bool.not_eq_true', decide_eq_true_eq, decide_eq_false_iff_not] at h
    simp only [lessI, Bool.or_eq_false_iff, Bool.and_eq_false_iff, Bool.not_eq_false', decide_eq_true_eq, decide_eq_false_iff_not]
    omega
  · intro a b c h1 h2
    simp only [lessI, Bool.or_eq_false_iff, Bool.and_eq_false_iff, Bool.not_eq_false', decide_eq_true_eq, decide_eq_false_iff_not] at h1 h2 ⊢
    omega
end

section
variable {α : Type} (TI : TypeId) (sz : Nat) (enc : α × Int → List SV) (d : α × Int)
def downAC (TP : TypeId) (R : FuncId → (α → α → Bool) → Prop) : Ctr := fun args hs N => match args with
  | [.iface t (.ptr l b 0), .int k i, .int k' n] => onPile TI sz enc d hs l b fun l2 ao cap f rest T xs => (t = TP ∧ k = .i64 ∧ k' = .i64 ∧ 0 ≤ i ∧ i ≤ xs.length ∧ 0 ≤ n ∧ n ≤ xs.length ∧ xs.length ≤ 2305843009213693952) ∧ ∃ bef, R f bef ∧ ∀ bb, N (setPile TI sz enc d hs l l2 b ao cap f rest T (downL (lessI bef) d xs.length xs i.toNat n.toNat)) (.bool bb)
  | _ => False
def hinitC (TP : TypeId) (R : FuncId → (α → α → Bool) → Prop) : Ctr := fun args hs N => match args with
  | [.iface t (.ptr l b 0)] => onPile TI sz enc d hs l b fun l2 ao cap f rest T xs => (t = TP ∧ xs.length ≤ 1000000000) ∧ ∃ bef, R f bef ∧ N (setPile TI sz enc d hs l l2 b ao cap f rest T (initL (lessI bef) d (xs.length / 2) xs)) (.tuple [])
  | _ => False
end
end Go.Proofs.Ytjnkfgigpapeaaa

/- Closed facts on the program's types (printed by wip/tools/tab.py). -/
namespace Go.Proofs.Ytjnkfgigpapeaaa
open Go
theorem tlay_3 : tlay Try.prog 3 = some (false, 1) := by kernel_rfl
theorem tlay_4 : tlay Try.prog 4 = some (false, 1) := by kernel_rfl
theorem tlay_5 : tlay Try.prog 5 = some (false, 1) := by kernel_rfl
theorem tlay_9 : tlay Try.prog 9 = some (false, 1) := by kernel_rfl
theorem tlay_27 : tlay Try.prog 27 = some (true, 3) := by kernel_rfl
theorem tlay_29 : tlay Try.prog 29 = some (false, 1) := by kernel_rfl
theorem tlay_30 : tlay Try.prog 30 = some (false, 1) := by kernel_rfl
theorem tlay_31 : tlay Try.prog 31 = some (false, 1) := by kernel_rfl
theorem tlay_39 : tlay Try.prog 39 = some (false, 1) := by kernel_rfl
theorem tlay_42 : tlay Try.prog 42 = some (true, 2) := by kernel_rfl
theorem tlay_47 : tlay Try.prog 47 = some (true, 3) := by kernel_rfl
theorem tlay_52 : tlay Try.prog 52 = some (true, 2) := by kernel_rfl
theorem tlay_55 : tlay Try.prog 55 = some (false, 1) := by kernel_rfl
theorem tlay_61 : tlay Try.prog 61 = some (true, 6) := by kernel_rfl
theorem tlay_67 : tlay Try.prog 67 = some (false, 1) := by kernel_rfl
theorem tlay_70 : tlay Try.prog 70 = some (false, 1) := by kernel_rfl
theorem tlay_75 : tlay Try.prog 75 = some (false, 1) := by kernel_rfl
theorem tlay_77 : tlay Try.prog 77 = some (false, 1) := by kernel_rfl
theorem tlay_79 : tlay Try.prog 79 = some (false, 1) := by kernel_rfl
theorem tlay_81 : tlay Try.prog 81 = some (false, 1) := by kernel_rfl
theorem tlay_95 : tlay Try.prog 95 = some (false, 1) := by kernel_rfl
theorem tlay_98 : tlay Try.prog 98 = some (true, 2) := by kernel_rfl
theorem tlay_99 : tlay Try.prog 99 = some (false, 1) := by kernel_rfl
theorem tlay_100 : tlay Try.prog 100 = some (false, 1) := by kernel_rfl
theorem tlay_101 : tlay Try.prog 101 = some (false, 1) := by kernel_rfl
theorem tlay_106 : tlay Try.prog 106 = some (false, 1) := by kernel_rfl
theorem tlay_115 : tlay Try.prog 115 = some (false, 1) := by kernel_rfl
theorem tlay_116 : tlay Try.prog 116 = some (false, 1) := by kernel_rfl
theorem tlay_132 : tlay Try.prog 132 = some (false, 1) := by kernel_rfl
theorem tlay_140 : tlay Try.prog 140 = some (true, 2) := by kernel_rfl
theorem tlay_142 : tlay Try.prog 142 = some (false, 1) := by kernel_rfl
theorem tlay_147 : tlay Try.prog 147 = some (false, 1) := by kernel_rfl
theorem tlay_149 : tlay Try.prog 149 = some (true, 2) := by kernel_rfl
theorem tlay_150 : tlay Try.prog 150 = some (false, 1) := by kernel_rfl
theorem tlay_151 : tlay Try.prog 151 = some (false, 1) := by kernel_rfl
theorem tlay_161 : tlay Try.prog 161 = some (false, 1) := by kernel_rfl
theorem tlay_166 : tlay Try.prog 166 = some (false, 1) := by kernel_rfl
theorem tlay_168 : tlay Try.prog 168 = some (true, 3) := by kernel_rfl
theorem tlay_181 : tlay Try.prog 181 = some (true, 0) := by kernel_rfl
theorem tslice_31 : tslice Try.prog 31 = some (27, 3) := by kernel_rfl
theorem tslice_36 : tslice Try.prog 36 = some (5, 1) := by kernel_rfl
theorem tslice_39 : tslice Try.prog 39 = some (3, 1) := by kernel_rfl
theorem tslice_55 : tslice Try.prog 55 = some (52, 2) := by kernel_rfl
theorem tslice_67 : tslice Try.prog 67 = some (9, 1) := by kernel_rfl
theorem tslice_75 : tslice Try.prog 75 = some (81, 1) := by kernel_rfl
theorem tslice_76 : tslice Try.prog 76 = some (4, 1) := by kernel_rfl
theorem tslice_94 : tslice Try.prog 94 = some (101, 1) := by kernel_rfl
theorem tslice_100 : tslice Try.prog 100 = some (98, 2) := by kernel_rfl
theorem tslice_116 : tslice Try.prog 116 = some (42, 2) := by kernel_rfl
theorem tslice_132 : tslice Try.prog 132 = some (140, 2) := by kernel_rfl
theorem tslice_142 : tslice Try.prog 142 = some (149, 2) := by kernel_rfl
theorem tslice_161 : tslice Try.prog 161 = some (168, 3) := by kernel_rfl
theorem tplaces_27 : tplaces Try.prog 27 = some [(0, 1), (1, 1), (2, 1)] := by kernel_rfl
theorem tplaces_42 : tplaces Try.prog 42 = some [(0, 1), (1, 1)] := by kernel_rfl
theorem tplaces_52 : tplaces Try.prog 52 = some [(0, 1), (1, 1)] := by kernel_rfl
theorem tplaces_61 : tplaces Try.prog 61 = some [(0, 3), (3, 1), (4, 1), (5, 1)] := by kernel_rfl
theorem tplaces_98 : tplaces Try.prog 98 = some [(0, 1), (1, 1)] := by kernel_rfl
theorem tplaces_120 : tplaces Try.prog 120 = some [(0, 1), (1, 1), (2, 1)] := by kernel_rfl
theorem tplaces_125 : tplaces Try.prog 125 = some [(0, 1)] := by kernel_rfl
theorem tplaces_134 : tplaces Try.prog 134 = some [(0, 1), (1, 1)] := by kernel_rfl
theorem tplaces_136 : tplaces Try.prog 136 = some [(0, 2), (2, 1)] := by kernel_rfl
theorem tplaces_140 : tplaces Try.prog 140 = some [(0, 1), (1, 1)] := by kernel_rfl
theorem tplaces_144 : tplaces Try.prog 144 = some [(0, 1), (1, 1)] := by kernel_rfl
theorem tplaces_146 : tplaces Try.prog 146 = some [(0, 2), (2, 1)] := by kernel_rfl
theorem tplaces_149 : tplaces Try.prog 149 = some [(0, 1), (1, 1)] := by kernel_rfl
theorem tplaces_153 : tplaces Try.prog 153 = some [(0, 1), (1, 1), (2, 1)] := by kernel_rfl
theorem tplaces_163 : tplaces Try.prog 163 = some [(0, 1), (1, 1)] := by kernel_rfl
theorem tplaces_165 : tplaces Try.prog 165 = some [(0, 2), (2, 1)] := by kernel_rfl
theorem tplaces_168 : tplaces Try.prog 168 = some [(0, 2), (2, 1)] := by kernel_rfl
theorem tplaces_181 : tplaces Try.prog 181 = some [] := by kernel_rfl
theorem tzero_3 : tzero Try.prog 3 = some [.int .i64 0] := by kernel_rfl
theorem tzero_4 : tzero Try.prog 4 = some [.bool false] := by kernel_rfl
theorem tzero_5 : tzero Try.prog 5 = some [.int .u8 0] := by kernel_rfl
theorem tzero_9 : tzero Try.prog 9 = some [.str ⟨#[]⟩] := by kernel_rfl
theorem tzero_27 : tzero Try.prog 27 = some [.int .i64 0, .int .i64 0, .int .i64 0] := by kernel_rfl
theorem tzero_31 : tzero Try.prog 31 = some [.raw (.slice none 0 0)] := by kernel_rfl
theorem tzero_39 : tzero Try.prog 39 = some [.raw (.slice none 0 0)] := by kernel_rfl
theorem tzero_42 : tzero Try.prog 42 = some [.int .i64 0, .str ⟨#[]⟩] := by kernel_rfl
theorem tzero_47 : tzero Try.prog 47 = some [.str ⟨#[]⟩, .str ⟨#[]⟩, .str ⟨#[]⟩] := by kernel_rfl
theorem tzero_49 : tzero Try.prog 49 = some [.raw (.slice none 0 0), .raw (.slice none 0 0), .raw (.slice none 0 0)] := by kernel_rfl
theorem tzero_52 : tzero Try.prog 52 = some [.int .i64 0, .str ⟨#[]⟩] := by kernel_rfl
theorem tzero_61 : tzero Try.prog 61 = some [.int .i64 0, .int .i64 0, .int .i64 0, .int .i64 0, .int .i64 0, .int .i64 0] := by kernel_rfl
theorem tzero_81 : tzero Try.prog 81 = some [.int .i16 0] := by kernel_rfl
theorem tzero_86 : tzero Try.prog 86 = some [.bool false, .bool false, .bool false, .bool false, .bool false, .bool false, .bool false, .bool false] := by kernel_rfl
theorem tzero_98 : tzero Try.prog 98 = some [.int .i64 0, .int .i64 0] := by kernel_rfl
theorem tzero_100 : tzero Try.prog 100 = some [.raw (.slice none 0 0)] := by kernel_rfl
theorem tzero_101 : tzero Try.prog 101 = some [.int .i8 0] := by kernel_rfl
theorem tzero_120 : tzero Try.prog 120 = some [.raw (.map none), .raw (.slice none 0 0), .int .i64 0] := by kernel_rfl
theorem tzero_125 : tzero Try.prog 125 = some [.raw (.slice none 0 0)] := by kernel_rfl
theorem tzero_134 : tzero Try.prog 134 = some [.raw (.slice none 0 0), .raw (.nilFunc)] := by kernel_rfl
theorem tzero_136 : tzero Try.prog 136 = some [.raw (.slice none 0 0), .raw (.nilFunc), .int .i64 0] := by kernel_rfl
theorem tzero_140 : tzero Try.prog 140 = some [.str ⟨#[]⟩, .int .i64 0] := by kernel_rfl
theorem tzero_144 : tzero Try.prog 144 = some [.raw (.slice none 0 0), .raw (.nilFunc)] := by kernel_rfl
theorem tzero_146 : tzero Try.prog 146 = some [.raw (.slice none 0 0), .raw (.nilFunc), .int .i64 0] := by kernel_rfl
theorem tzero_149 : tzero Try.prog 149 = some [.int .i64 0, .int .i64 0] := by kernel_rfl
theorem tzero_153 : tzero Try.prog 153 = some [.raw (.map none), .raw (.map none), .raw (.slice none 0 0)] := by kernel_rfl
theorem tzero_163 : tzero Try.prog 163 = some [.raw (.slice none 0 0), .raw (.nilFunc)] := by kernel_rfl
theorem tzero_165 : tzero Try.prog 165 = some [.raw (.slice none 0 0), .raw (.nilFunc), .int .i64 0] := by kernel_rfl
theorem tzero_168 : tzero Try.prog 168 = some [.int .i64 0, .int .i64 0, .int .i64 0] := by kernel_rfl
theorem tzero_181 : tzero Try.prog 181 = some [] := by kernel_rfl
theorem tfield_27_0 : tfield Try.prog 27 0 = some 0 := by kernel_rfl
theorem tfield_27_1 : tfield Try.prog 27 1 = some 1 := by kernel_rfl
theorem tfield_27_2 : tfield Try.prog 27 2 = some 2 := by kernel_rfl
theorem tfield_42_0 : tfield Try.prog 42 0 = some 0 := by kernel_rfl
theorem tfield_42_1 : tfield Try.prog 42 1 = some 1 := by kernel_rfl
theorem tfield_52_0 : tfield Try.prog 52 0 = some 0 := by kernel_rfl
theorem tfield_61_0 : tfield Try.prog 61 0 = some 0 := by kernel_rfl
theorem tfield_61_1 : tfield Try.prog 61 1 = some 3 := by kernel_rfl
theorem tfield_61_2 : tfield Try.prog 61 2 = some 4 := by kernel_rfl
theorem tfield_61_3 : tfield Try.prog 61 3 = some 5 := by kernel_rfl
theorem tfield_98_0 : tfield Try.prog 98 0 = some 0 := by kernel_rfl
theorem tfield_98_1 : tfield Try.prog 98 1 = some 1 := by kernel_rfl
theorem tfield_118_0 : tfield Try.prog 118 0 = some 0 := by kernel_rfl
theorem tfield_120_0 : tfield Try.prog 120 0 = some 0 := by kernel_rfl
theorem tfield_120_1 : tfield Try.prog 120 1 = some 1 := by kernel_rfl
theorem tfield_120_2 : tfield Try.prog 120 2 = some 2 := by kernel_rfl
theorem tfield_125_0 : tfield Try.prog 125 0 = some 0 := by kernel_rfl
theorem tfield_134_0 : tfield Try.prog 134 0 = some 0 := by kernel_rfl
theorem tfield_134_1 : tfield Try.prog 134 1 = some 1 := by kernel_rfl
theorem tfield_136_0 : tfield Try.prog 136 0 = some 0 := by kernel_rfl
theorem tfield_136_1 : tfield Try.prog 136 1 = some 2 := by kernel_rfl
theorem tfield_140_0 : tfield Try.prog 140 0 = some 0 := by kernel_rfl
theorem tfield_140_1 : tfield Try.prog 140 1 = some 1 := by kernel_rfl
theorem tfield_144_0 : tfield Try.prog 144 0 = some 0 := by kernel_rfl
theorem tfield_144_1 : tfield Try.prog 144 1 = some 1 := by kernel_rfl
theorem tfield_146_0 : tfield Try.prog 146 0 = some 0 := by kernel_rfl
theorem tfield_146_1 : tfield Try.prog 146 1 = some 2 := by kernel_rfl
theorem tfield_149_0 : tfield Try.prog 149 0 = some 0 := by kernel_rfl
theorem tfield_149_1 : tfield Try.prog 149 1 = some 1 := by kernel_rfl
theorem tfield_153_0 : tfield Try.prog 153 0 = some 0 := by kernel_rfl
theorem tfield_153_1 : tfield Try.prog 153 1 = some 1 := by kernel_rfl
theorem tfield_153_2 : tfield Try.prog 153 2 = some 2 := by kernel_rfl
theorem tfield_163_0 : tfield Try.prog 163 0 = some 0 := by kernel_rfl
theorem tfield_163_1 : tfield Try.prog 163 1 = some 1 := by kernel_rfl
theorem tfield_165_0 : tfield Try.prog 165 0 = some 0 := by kernel_rfl
theorem tfield_165_1 : tfield Try.prog 165 1 = some 2 := by kernel_rfl
theorem tfield_168_0 : tfield Try.prog 168 0 = some 0 := by kernel_rfl
theorem tfield_168_1 : tfield Try.prog 168 1 = some 2 := by kernel_rfl
theorem tfieldV_140_0 : tfieldV Try.prog 140 0 = some (0, false, 1) := by kernel_rfl
theorem tfieldV_149_0 : tfieldV Try.prog 149 0 = some (0, false, 1) := by kernel_rfl
theorem tfieldV_168_0 : tfieldV Try.prog 168 0 = some (0, true, 2) := by kernel_rfl
theorem tconc_138 : Try.prog.concrete 138 = true := by kernel_rfl
theorem tconc_140 : Try.prog.concrete 140 = true := by kernel_rfl
theorem tconc_147 : Try.prog.concrete 147 = true := by kernel_rfl
theorem tconc_149 : Try.prog.concrete 149 = true := by kernel_rfl
theorem tconc_166 : Try.prog.concrete 166 = true := by kernel_rfl
theorem tconc_168 : Try.prog.concrete 168 = true := by kernel_rfl
end Go.Proofs.Ytjnkfgigpapeaaa

/- queue.Queue[reveille/reveillelaw13.Item]: its elements. -/
namespace Go.Proofs.Ytjnkfgigpapeaaa
open Go Go.RowKit
structure IT where
  (n id : Int)
  deriving DecidableEq
def IT.zero : IT := ⟨0, 0⟩
def encIT (x : IT) : List SV := [.int .i64 x.n, .int .i64 x.id]
def encItP (x : IT × Int) : List SV := [.int .i64 x.1.n, .int .i64 x.1.id, .int .i64 x.2]
end Go.Proofs.Ytjnkfgigpapeaaa

/- Slots of which nothing is said, in short. -/
namespace Go.Proofs.Ytjnkfgigpapeaaa
open Go Go.RowKit
def rawR (u : Nat → Value) (k : Nat) (t : List SV) : Nat → List SV
  | 0 => t
  | n + 1 => SV.raw (u k) :: rawR u (k + 1) t n
def rawE (t : List SV) : Nat → List SV
  | 0 => t
  | n + 1 => SV.raw (Value.tuple #[]) :: rawE t n
end Go.Proofs.Ytjnkfgigpapeaaa

namespace Go.Proofs.Ytjnkfgigpapeaaa
open Go Go.RowKit

theorem qPless0 (K : List Frm → Sy → Prop) (N : List Ent → SV → Prop) (b cap : Nat) (ao : Option Addr) (rest : List SV) (T : TypeId) (xs : List (IT × Int)) (f : FuncId) (i j : Int) : (run Try.prog [(58, inl Try.prog [] true Try.f58 100)] true [] K (retP Try.prog Try.f139.results.toList N) 900 [.code (bodyOf Try.f139)] ⟨padTo 51 [.ptr 0 b 0, .int .i64 i, .int .i64 j], qhG 168 3 encItP ((⟨0, 0⟩ : IT), (0 : Int)) b ao cap 58 rest T xs⟩) = (
b = b ∧
 (ao = ao ∧ cap = cap ∧ List.length xs = List.length xs ∧ (0 : Int) ≤ i ∧ i < (↑(List.length xs) : Int)) ∧
  (Addr.blkD ao = Addr.blkD ao ∧ Addr.offD ao = Addr.offD ao ∧ 3 = 3 ∧ Int.toNat i < List.length xs ∧ 3 = 3) ∧
   b = b ∧
    (ao = ao ∧ cap = cap ∧ List.length xs = List.length xs ∧ (0 : Int) ≤ j ∧ j < (↑(List.length xs) : Int)) ∧
     (Addr.blkD ao = Addr.blkD ao ∧ Addr.offD ao = Addr.offD ao ∧ 3 = 3 ∧ Int.toNat j < List.length xs ∧ 3 = 3) ∧
      (∀ (b_1 : Nat),
       (Ent.mk (Loc.blk b) (SObj.cells (SV.vec 1 ao (List.length xs) cap :: SV.func (Fn.func (58 : FuncId)) [] [] :: rest) T) =
        Ent.mk (Loc.blk b) (SObj.cells (SV.vec 1 ao (List.length xs) cap :: SV.func (Fn.func (58 : FuncId)) [] [] :: rest) T) ∧
        Ent.mk (Loc.sl ao cap) (SObj.vecL (168 : TypeId) 3 encItP xs (IT.mk (0 : Int) (0 : Int), (0 : Int))) =
         Ent.mk (Loc.sl ao cap) (SObj.vecL (168 : TypeId) 3 encItP xs (IT.mk (0 : Int) (0 : Int), (0 : Int))) ∧
         True) ∧
        ∀ (b_2 : Nat),
         (Ent.mk (Loc.blk b) (SObj.cells (SV.vec 1 ao (List.length xs) cap :: SV.func (Fn.func (58 : FuncId)) [] [] :: rest) T) =
          Ent.mk (Loc.blk b) (SObj.cells (SV.vec 1 ao (List.length xs) cap :: SV.func (Fn.func (58 : FuncId)) [] [] :: rest) T) ∧
          Ent.mk (Loc.sl ao cap) (SObj.vecL (168 : TypeId) 3 encItP xs (IT.mk (0 : Int) (0 : Int), (0 : Int))) =
           Ent.mk (Loc.sl ao cap) (SObj.vecL (168 : TypeId) 3 encItP xs (IT.mk (0 : Int) (0 : Int), (0 : Int))) ∧
           True) ∧
          (b_1 = b_1 ∧ true = true ∧ 3 = 3 ∧ 3 ≤ 3) ∧
           (Ent.mk (Loc.blk b) (SObj.cells (SV.vec 1 ao (List.length xs) cap :: SV.func (Fn.func (58 : FuncId)) [] [] :: rest) T) =
            Ent.mk (Loc.blk b) (SObj.cells (SV.vec 1 ao (List.length xs) cap :: SV.func (Fn.func (58 : FuncId)) [] [] :: rest) T) ∧
            Ent.mk (Loc.sl ao cap) (SObj.vecL (168 : TypeId) 3 encItP xs (IT.mk (0 : Int) (0 : Int), (0 : Int))) =
             Ent.mk (Loc.sl ao cap) (SObj.vecL (168 : TypeId) 3 encItP xs (IT.mk (0 : Int) (0 : Int), (0 : Int))) ∧
             True) ∧
            (b_2 = b_2 ∧ true = true ∧ 3 = 3 ∧ 3 ≤ 3) ∧
             (Ent.mk (Loc.blk b) (SObj.cells (SV.vec 1 ao (List.length xs) cap :: SV.func (Fn.func (58 : FuncId)) [] [] :: rest) T) =
              Ent.mk (Loc.blk b) (SObj.cells (SV.vec 1 ao (List.length xs) cap :: SV.func (Fn.func (58 : FuncId)) [] [] :: rest) T) ∧
              Ent.mk (Loc.sl ao cap) (SObj.vecL (168 : TypeId) 3 encItP xs (IT.mk (0 : Int) (0 : Int), (0 : Int))) =
               Ent.mk (Loc.sl ao cap) (SObj.vecL (168 : TypeId) 3 encItP xs (IT.mk (0 : Int) (0 : Int), (0 : Int))) ∧
               True) ∧
              b = b ∧
               (b_1 = b_1 ∧ 2 = 2) ∧
                (b_2 = b_2 ∧ 2 = 2) ∧
                 true = true ∧
                  true = true ∧
                   ∀ (b_3 : Nat),
                    true = true ∧
                     ∀ (b_4 : Nat),
                      b_3 = b_3 ∧
                       b_4 = b_4 ∧
                        (Ent.mk (Loc.blk b) (SObj.cells (SV.vec 1 ao (List.length xs) cap :: SV.func (Fn.func (58 : FuncId)) [] [] :: rest) T) =
                         Ent.mk (Loc.blk b) (SObj.cells (SV.vec 1 ao (List.length xs) cap :: SV.func (Fn.func (58 : FuncId)) [] [] :: rest) T) ∧
                         Ent.mk (Loc.sl ao cap) (SObj.vecL (168 : TypeId) 3 encItP xs (IT.mk (0 : Int) (0 : Int), (0 : Int))) =
                          Ent.mk (Loc.sl ao cap) (SObj.vecL (168 : TypeId) 3 encItP xs (IT.mk (0 : Int) (0 : Int), (0 : Int))) ∧
                          Ent.mk (Loc.blk b_1)
                           (SObj.cells
                            [SV.int IntKind.i64 (List.getD xs (Int.toNat i) (IT.mk (0 : Int) (0 : Int), (0 : Int))).1.1,
                             SV.int IntKind.i64 (List.getD xs (Int.toNat i) (IT.mk (0 : Int) (0 : Int), (0 : Int))).1.2,
                             SV.int IntKind.i64 (List.getD xs (Int.toNat i) (IT.mk (0 : Int) (0 : Int), (0 : Int))).2]
                            168) =
                           Ent.mk (Loc.blk b_1)
                            (SObj.cells
                             [SV.int IntKind.i64 (List.getD xs (Int.toNat i) (IT.mk (0 : Int) (0 : Int), (0 : Int))).1.1,
                              SV.int IntKind.i64 (List.getD xs (Int.toNat i) (IT.mk (0 : Int) (0 : Int), (0 : Int))).1.2,
                              SV.int IntKind.i64 (List.getD xs (Int.toNat i) (IT.mk (0 : Int) (0 : Int), (0 : Int))).2]
                             168) ∧
                           Ent.mk (Loc.blk b_2)
                            (SObj.cells
                             [SV.int IntKind.i64 (List.getD xs (Int.toNat j) (IT.mk (0 : Int) (0 : Int), (0 : Int))).1.1,
                              SV.int IntKind.i64 (List.getD xs (Int.toNat j) (IT.mk (0 : Int) (0 : Int), (0 : Int))).1.2,
                              SV.int IntKind.i64 (List.getD xs (Int.toNat j) (IT.mk (0 : Int) (0 : Int), (0 : Int))).2]
                             168) =
                            Ent.mk (Loc.blk b_2)
                             (SObj.cells
                              [SV.int IntKind.i64 (List.getD xs (Int.toNat j) (IT.mk (0 : Int) (0 : Int), (0 : Int))).1.1,
                               SV.int IntKind.i64 (List.getD xs (Int.toNat j) (IT.mk (0 : Int) (0 : Int), (0 : Int))).1.2,
                               SV.int IntKind.i64 (List.getD xs (Int.toNat j) (IT.mk (0 : Int) (0 : Int), (0 : Int))).2]
                              168) ∧
                            True) ∧
                         match
                          decide
                           ((List.getD xs (Int.toNat i) (IT.mk (0 : Int) (0 : Int), (0 : Int))).1.1 <
                            (List.getD xs (Int.toNat j) (IT.mk (0 : Int) (0 : Int), (0 : Int))).1.1) with
                         | true =>
                          (Ent.mk (Loc.blk b) (SObj.cells (SV.vec 1 ao (List.length xs) cap :: SV.func (Fn.func (58 : FuncId)) [] [] :: rest) T) =
                           Ent.mk (Loc.blk b) (SObj.cells (SV.vec 1 ao (List.length xs) cap :: SV.func (Fn.func (58 : FuncId)) [] [] :: rest) T) ∧
                           Ent.mk (Loc.sl ao cap) (SObj.vecL (168 : TypeId) 3 encItP xs (IT.mk (0 : Int) (0 : Int), (0 : Int))) =
                            Ent.mk (Loc.sl ao cap) (SObj.vecL (168 : TypeId) 3 encItP xs (IT.mk (0 : Int) (0 : Int), (0 : Int))) ∧
                            Ent.mk (Loc.blk b_1)
                             (SObj.cells
                              [SV.int IntKind.i64 (List.getD xs (Int.toNat i) (IT.mk (0 : Int) (0 : Int), (0 : Int))).1.1,
                               SV.int IntKind.i64 (List.getD xs (Int.toNat i) (IT.mk (0 : Int) (0 : Int), (0 : Int))).1.2,
                               SV.int IntKind.i64 (List.getD xs (Int.toNat i) (IT.mk (0 : Int) (0 : Int), (0 : Int))).2]
                              168) =
                             Ent.mk (Loc.blk b_1)
                              (SObj.cells
                               [SV.int IntKind.i64 (List.getD xs (Int.toNat i) (IT.mk (0 : Int) (0 : Int), (0 : Int))).1.1,
                                SV.int IntKind.i64 (List.getD xs (Int.toNat i) (IT.mk (0 : Int) (0 : Int), (0 : Int))).1.2,
                                SV.int IntKind.i64 (List.getD xs (Int.toNat i) (IT.mk (0 : Int) (0 : Int), (0 : Int))).2]
                               168) ∧
                             Ent.mk (Loc.blk b_2)
                              (SObj.cells
                               [SV.int IntKind.i64 (List.getD xs (Int.toNat j) (IT.mk (0 : Int) (0 : Int), (0 : Int))).1.1,
                                SV.int IntKind.i64 (List.getD xs (Int.toNat j) (IT.mk (0 : Int) (0 : Int), (0 : Int))).1.2,
                                SV.int IntKind.i64 (List.getD xs (Int.toNat j) (IT.mk (0 : Int) (0 : Int), (0 : Int))).2]
                               168) =
                              Ent.mk (Loc.blk b_2)
                               (SObj.cells
                                [SV.int IntKind.i64 (List.getD xs (Int.toNat j) (IT.mk (0 : Int) (0 : Int), (0 : Int))).1.1,
                                 SV.int IntKind.i64 (List.getD xs (Int.toNat j) (IT.mk (0 : Int) (0 : Int), (0 : Int))).1.2,
                                 SV.int IntKind.i64 (List.getD xs (Int.toNat j) (IT.mk (0 : Int) (0 : Int), (0 : Int))).2]
                                168) ∧
                              True) ∧
                           true = true ∧
                            true = true ∧
                             true = true ∧
                              true = true ∧
                               true = true ∧
                                N
                                 [Ent.mk (Loc.blk b) (SObj.cells (SV.vec 1 ao (List.length xs) cap :: SV.func (Fn.func (58 : FuncId)) [] [] :: rest) T),
                                  Ent.mk (Loc.sl ao cap) (SObj.vecL (168 : TypeId) 3 encItP xs (IT.mk (0 : Int) (0 : Int), (0 : Int))),
                                  Ent.mk (Loc.blk b_1)
                                   (SObj.cells
                                    [SV.int IntKind.i64 (List.getD xs (Int.toNat i) (IT.mk (0 : Int) (0 : Int), (0 : Int))).1.1,
                                     SV.int IntKind.i64 (List.getD xs (Int.toNat i) (IT.mk (0 : Int) (0 : Int), (0 : Int))).1.2,
                                     SV.int IntKind.i64 (List.getD xs (Int.toNat i) (IT.mk (0 : Int) (0 : Int), (0 : Int))).2]
                                    168),
                                  Ent.mk (Loc.blk b_2)
                                   (SObj.cells
                                    [SV.int IntKind.i64 (List.getD xs (Int.toNat j) (IT.mk (0 : Int) (0 : Int), (0 : Int))).1.1,
                                     SV.int IntKind.i64 (List.getD xs (Int.toNat j) (IT.mk (0 : Int) (0 : Int), (0 : Int))).1.2,
                                     SV.int IntKind.i64 (List.getD xs (Int.toNat j) (IT.mk (0 : Int) (0 : Int), (0 : Int))).2]
                                    168),
                                  Ent.mk (Loc.blk b_3)
                                   (SObj.cells
                                    [SV.int IntKind.i64 (List.getD xs (Int.toNat i) (IT.mk (0 : Int) (0 : Int), (0 : Int))).1.1,
                                     SV.int IntKind.i64 (List.getD xs (Int.toNat i) (IT.mk (0 : Int) (0 : Int), (0 : Int))).1.2]
                                    98),
                                  Ent.mk (Loc.blk b_4)
                                   (SObj.cells
                                    [SV.int IntKind.i64 (List.getD xs (Int.toNat j) (IT.mk (0 : Int) (0 : Int), (0 : Int))).1.1,
                                     SV.int IntKind.i64 (List.getD xs (Int.toNat j) (IT.mk (0 : Int) (0 : Int), (0 : Int))).1.2]
                                    98)]
                                 (SV.bool true)
                         | false =>
                          b = b ∧
                           (b_2 = b_2 ∧ 2 = 2) ∧
                            (b_1 = b_1 ∧ 2 = 2) ∧
                             true = true ∧
                              true = true ∧
                               ∀ (b_5 : Nat),
                                true = true ∧
                                 ∀ (b_6 : Nat),
                                  b_5 = b_5 ∧
                                   b_6 = b_6 ∧
                                    (Ent.mk (Loc.blk b)
                                     (SObj.cells (SV.vec 1 ao (List.length xs) cap :: SV.func (Fn.func (58 : FuncId)) [] [] :: rest) T) =
                                     Ent.mk (Loc.blk b)
                                      (SObj.cells (SV.vec 1 ao (List.length xs) cap :: SV.func (Fn.func (58 : FuncId)) [] [] :: rest) T) ∧
                                     Ent.mk (Loc.sl ao cap) (SObj.vecL (168 : TypeId) 3 encItP xs (IT.mk (0 : Int) (0 : Int), (0 : Int))) =
                                      Ent.mk (Loc.sl ao cap) (SObj.vecL (168 : TypeId) 3 encItP xs (IT.mk (0 : Int) (0 : Int), (0 : Int))) ∧
                                      Ent.mk (Loc.blk b_1)
                                       (SObj.cells
                                        [SV.int IntKind.i64 (List.getD xs (Int.toNat i) (IT.mk (0 : Int) (0 : Int), (0 : Int))).1.1,
                                         SV.int IntKind.i64 (List.getD xs (Int.toNat i) (IT.mk (0 : Int) (0 : Int), (0 : Int))).1.2,
                                         SV.int IntKind.i64 (List.getD xs (Int.toNat i) (IT.mk (0 : Int) (0 : Int), (0 : Int))).2]
                                        168) =
                                       Ent.mk (Loc.blk b_1)
                                        (SObj.cells
                                         [SV.int IntKind.i64 (List.getD xs (Int.toNat i) (IT.mk (0 : Int) (0 : Int), (0 : Int))).1.1,
                                          SV.int IntKind.i64 (List.getD xs (Int.toNat i) (IT.mk (0 : Int) (0 : Int), (0 : Int))).1.2,
                                          SV.int IntKind.i64 (List.getD xs (Int.toNat i) (IT.mk (0 : Int) (0 : Int), (0 : Int))).2]
                                         168) ∧
                                       Ent.mk (Loc.blk b_2)
                                        (SObj.cells
                                         [SV.int IntKind.i64 (List.getD xs (Int.toNat j) (IT.mk (0 : Int) (0 : Int), (0 : Int))).1.1,
                                          SV.int IntKind.i64 (List.getD xs (Int.toNat j) (IT.mk (0 : Int) (0 : Int), (0 : Int))).1.2,
                                          SV.int IntKind.i64 (List.getD xs (Int.toNat j) (IT.mk (0 : Int) (0 : Int), (0 : Int))).2]
                                         168) =
                                        Ent.mk (Loc.blk b_2)
                                         (SObj.cells
                                          [SV.int IntKind.i64 (List.getD xs (Int.toNat j) (IT.mk (0 : Int) (0 : Int), (0 : Int))).1.1,
                                           SV.int IntKind.i64 (List.getD xs (Int.toNat j) (IT.mk (0 : Int) (0 : Int), (0 : Int))).1.2,
                                           SV.int IntKind.i64 (List.getD xs (Int.toNat j) (IT.mk (0 : Int) (0 : Int), (0 : Int))).2]
                                          168) ∧
                                        True) ∧
                                     match
                                      !decide
                                       ((List.getD xs (Int.toNat j) (IT.mk (0 : Int) (0 : Int), (0 : Int))).1.1 <
                                        (List.getD xs (Int.toNat i) (IT.mk (0 : Int) (0 : Int), (0 : Int))).1.1) with
                                     | true =>
                                      b_1 = b_1 ∧
                                       b_2 = b_2 ∧
                                        N
                                         [Ent.mk (Loc.blk b)
                                          (SObj.cells (SV.vec 1 ao (List.length xs) cap :: SV.func (Fn.func (58 : FuncId)) [] [] :: rest) T),
                                          Ent.mk (Loc.sl ao cap) (SObj.vecL (168 : TypeId) 3 encItP xs (IT.mk (0 : Int) (0 : Int), (0 : Int))),
                                          Ent.mk (Loc.blk b_1)
                                           (SObj.cells
                                            [SV.int IntKind.i64 (List.getD xs (Int.toNat i) (IT.mk (0 : Int) (0 : Int), (0 : Int))).1.1,
                                             SV.int IntKind.i64 (List.getD xs (Int.toNat i) (IT.mk (0 : Int) (0 : Int), (0 : Int))).1.2,
                                             SV.int IntKind.i64 (List.getD xs (Int.toNat i) (IT.mk (0 : Int) (0 : Int), (0 : Int))).2]
                                            168),
                                          Ent.mk (Loc.blk b_2)
                                           (SObj.cells
                                            [SV.int IntKind.i64 (List.getD xs (Int.toNat j) (IT.mk (0 : Int) (0 : Int), (0 : Int))).1.1,
                                             SV.int IntKind.i64 (List.getD xs (Int.toNat j) (IT.mk (0 : Int) (0 : Int), (0 : Int))).1.2,
                                             SV.int IntKind.i64 (List.getD xs (Int.toNat j) (IT.mk (0 : Int) (0 : Int), (0 : Int))).2]
                                            168),
                                          Ent.mk (Loc.blk b_3)
                                           (SObj.cells
                                            [SV.int IntKind.i64 (List.getD xs (Int.toNat i) (IT.mk (0 : Int) (0 : Int), (0 : Int))).1.1,
                                             SV.int IntKind.i64 (List.getD xs (Int.toNat i) (IT.mk (0 : Int) (0 : Int), (0 : Int))).1.2]
                                            98),
                                          Ent.mk (Loc.blk b_4)
                                           (SObj.cells
                                            [SV.int IntKind.i64 (List.getD xs (Int.toNat j) (IT.mk (0 : Int) (0 : Int), (0 : Int))).1.1,
                                             SV.int IntKind.i64 (List.getD xs (Int.toNat j) (IT.mk (0 : Int) (0 : Int), (0 : Int))).1.2]
                                            98),
                                          Ent.mk (Loc.blk b_5)
                                           (SObj.cells
                                            [SV.int IntKind.i64 (List.getD xs (Int.toNat j) (IT.mk (0 : Int) (0 : Int), (0 : Int))).1.1,
                                             SV.int IntKind.i64 (List.getD xs (Int.toNat j) (IT.mk (0 : Int) (0 : Int), (0 : Int))).1.2]
                                            98),
                                          Ent.mk (Loc.blk b_6)
                                           (SObj.cells
                                            [SV.int IntKind.i64 (List.getD xs (Int.toNat i) (IT.mk (0 : Int) (0 : Int), (0 : Int))).1.1,
                                             SV.int IntKind.i64 (List.getD xs (Int.toNat i) (IT.mk (0 : Int) (0 : Int), (0 : Int))).1.2]
                                            98)]
                                         (SV.bool
                                          (decide
                                           ((List.getD xs (Int.toNat i) (IT.mk (0 : Int) (0 : Int), (0 : Int))).2 <
                                            (List.getD xs (Int.toNat j) (IT.mk (0 : Int) (0 : Int), (0 : Int))).2)))
                                     | false =>
                                      N
                                       [Ent.mk (Loc.blk b)
                                        (SObj.cells (SV.vec 1 ao (List.length xs) cap :: SV.func (Fn.func (58 : FuncId)) [] [] :: rest) T),
                                        Ent.mk (Loc.sl ao cap) (SObj.vecL (168 : TypeId) 3 encItP xs (IT.mk (0 : Int) (0 : Int), (0 : Int))),
                                        Ent.mk (Loc.blk b_1)
                                         (SObj.cells
                                          [SV.int IntKind.i64 (List.getD xs (Int.toNat i) (IT.mk (0 : Int) (0 : Int), (0 : Int))).1.1,
                                           SV.int IntKind.i64 (List.getD xs (Int.toNat i) (IT.mk (0 : Int) (0 : Int), (0 : Int))).1.2,
                                           SV.int IntKind.i64 (List.getD xs (Int.toNat i) (IT.mk (0 : Int) (0 : Int), (0 : Int))).2]
                                          168),
                                        Ent.mk (Loc.blk b_2)
                                         (SObj.cells
                                          [SV.int IntKind.i64 (List.getD xs (Int.toNat j) (IT.mk (0 : Int) (0 : Int), (0 : Int))).1.1,
                                           SV.int IntKind.i64 (List.getD xs (Int.toNat j) (IT.mk (0 : Int) (0 : Int), (0 : Int))).1.2,
                                           SV.int IntKind.i64 (List.getD xs (Int.toNat j) (IT.mk (0 : Int) (0 : Int), (0 : Int))).2]
                                          168),
                                        Ent.mk (Loc.blk b_3)
                                         (SObj.cells
                                          [SV.int IntKind.i64 (List.getD xs (Int.toNat i) (IT.mk (0 : Int) (0 : Int), (0 : Int))).1.1,
                                           SV.int IntKind.i64 (List.getD xs (Int.toNat i) (IT.mk (0 : Int) (0 : Int), (0 : Int))).1.2]
                                          98),
                                        Ent.mk (Loc.blk b_4)
                                         (SObj.cells
                                          [SV.int IntKind.i64 (List.getD xs (Int.toNat j) (IT.mk (0 : Int) (0 : Int), (0 : Int))).1.1,
                                           SV.int IntKind.i64 (List.getD xs (Int.toNat j) (IT.mk (0 : Int) (0 : Int), (0 : Int))).1.2]
                                          98),
                                        Ent.mk (Loc.blk b_5)
                                         (SObj.cells
                                          [SV.int IntKind.i64 (List.getD xs (Int.toNat j) (IT.mk (0 : Int) (0 : Int), (0 : Int))).1.1,
                                           SV.int IntKind.i64 (List.getD xs (Int.toNat j) (IT.mk (0 : Int) (0 : Int), (0 : Int))).1.2]
                                          98),
                                        Ent.mk (Loc.blk b_6)
                                         (SObj.cells
                                          [SV.int IntKind.i64 (List.getD xs (Int.toNat i) (IT.mk (0 : Int) (0 : Int), (0 : Int))).1.1,
                                           SV.int IntKind.i64 (List.getD xs (Int.toNat i) (IT.mk (0 : Int) (0 : Int), (0 : Int))).1.2]
                                          98)]
                                       (SV.bool false)) ∧
       ∀ (b_1 : Nat),
        (Ent.mk (Loc.blk b) (SObj.cells (SV.vec 1 ao (List.length xs) cap :: SV.func (Fn.func (58 : FuncId)) [] [] :: rest) T) =
         Ent.mk (Loc.blk b) (SObj.cells (SV.vec 1 ao (List.length xs) cap :: SV.func (Fn.func (58 : FuncId)) [] [] :: rest) T) ∧
         Ent.mk (Loc.sl ao cap) (SObj.vecL (168 : TypeId) 3 encItP xs (IT.mk (0 : Int) (0 : Int), (0 : Int))) =
          Ent.mk (Loc.sl ao cap) (SObj.vecL (168 : TypeId) 3 encItP xs (IT.mk (0 : Int) (0 : Int), (0 : Int))) ∧
          True) ∧
         ∀ (b_2 : Nat),
          (Ent.mk (Loc.blk b) (SObj.cells (SV.vec 1 ao (List.length xs) cap :: SV.func (Fn.func (58 : FuncId)) [] [] :: rest) T) =
           Ent.mk (Loc.blk b) (SObj.cells (SV.vec 1 ao (List.length xs) cap :: SV.func (Fn.func (58 : FuncId)) [] [] :: rest) T) ∧
           Ent.mk (Loc.sl ao cap) (SObj.vecL (168 : TypeId) 3 encItP xs (IT.mk (0 : Int) (0 : Int), (0 : Int))) =
            Ent.mk (Loc.sl ao cap) (SObj.vecL (168 : TypeId) 3 encItP xs (IT.mk (0 : Int) (0 : Int), (0 : Int))) ∧
            True) ∧
           (b_2 = b_2 ∧ true = true ∧ 3 = 3 ∧ 3 ≤ 3) ∧
            (Ent.mk (Loc.blk b) (SObj.cells (SV.vec 1 ao (List.length xs) cap :: SV.func (Fn.func (58 : FuncId)) [] [] :: rest) T) =
             Ent.mk (Loc.blk b) (SObj.cells (SV.vec 1 ao (List.length xs) cap :: SV.func (Fn.func (58 : FuncId)) [] [] :: rest) T) ∧
             Ent.mk (Loc.sl ao cap) (SObj.vecL (168 : TypeId) 3 encItP xs (IT.mk (0 : Int) (0 : Int), (0 : Int))) =
              Ent.mk (Loc.sl ao cap) (SObj.vecL (168 : TypeId) 3 encItP xs (IT.mk (0 : Int) (0 : Int), (0 : Int))) ∧
              True) ∧
             (b_1 = b_1 ∧ true = true ∧ 3 = 3 ∧ 3 ≤ 3) ∧
              (Ent.mk (Loc.blk b) (SObj.cells (SV.vec 1 ao (List.length xs) cap :: SV.func (Fn.func (58 : FuncId)) [] [] :: rest) T) =
               Ent.mk (Loc.blk b) (SObj.cells (SV.vec 1 ao (List.length xs) cap :: SV.func (Fn.func (58 : FuncId)) [] [] :: rest) T) ∧
               Ent.mk (Loc.sl ao cap) (SObj.vecL (168 : TypeId) 3 encItP xs (IT.mk (0 : Int) (0 : Int), (0 : Int))) =
                Ent.mk (Loc.sl ao cap) (SObj.vecL (168 : TypeId) 3 encItP xs (IT.mk (0 : Int) (0 : Int), (0 : Int))) ∧
                True) ∧
               b = b ∧
                (b_2 = b_2 ∧ 2 = 2) ∧
                 (b_1 = b_1 ∧ 2 = 2) ∧
                  true = true ∧
                   true = true ∧
                    ∀ (b_3 : Nat),
                     true = true ∧
                      ∀ (b_4 : Nat),
                       b_3 = b_3 ∧
                        b_4 = b_4 ∧
                         (Ent.mk (Loc.blk b) (SObj.cells (SV.vec 1 ao (List.length xs) cap :: SV.func (Fn.func (58 : FuncId)) [] [] :: rest) T) =
                          Ent.mk (Loc.blk b) (SObj.cells (SV.vec 1 ao (List.length xs) cap :: SV.func (Fn.func (58 : FuncId)) [] [] :: rest) T) ∧
                          Ent.mk (Loc.sl ao cap) (SObj.vecL (168 : TypeId) 3 encItP xs (IT.mk (0 : Int) (0 : Int), (0 : Int))) =
                           Ent.mk (Loc.sl ao cap) (SObj.vecL (168 : TypeId) 3 encItP xs (IT.mk (0 : Int) (0 : Int), (0 : Int))) ∧
                           Ent.mk (Loc.blk b_1)
                            (SObj.cells
                             [SV.int IntKind.i64 (List.getD xs (Int.toNat j) (IT.mk (0 : Int) (0 : Int), (0 : Int))).1.1,
                              SV.int IntKind.i64 (List.getD xs (Int.toNat j) (IT.mk (0 : Int) (0 : Int), (0 : Int))).1.2,
                              SV.int IntKind.i64 (List.getD xs (Int.toNat j) (IT.mk (0 : Int) (0 : Int), (0 : Int))).2]
                             168) =
                            Ent.mk (Loc.blk b_1)
                             (SObj.cells
                              [SV.int IntKind.i64 (List.getD xs (Int.toNat j) (IT.mk (0 : Int) (0 : Int), (0 : Int))).1.1,
                               SV.int IntKind.i64 (List.getD xs (Int.toNat j) (IT.mk (0 : Int) (0 : Int), (0 : Int))).1.2,
                               SV.int IntKind.i64 (List.getD xs (Int.toNat j) (IT.mk (0 : Int) (0 : Int), (0 : Int))).2]
                              168) ∧
                            Ent.mk (Loc.blk b_2)
                             (SObj.cells
                              [SV.int IntKind.i64 (List.getD xs (Int.toNat i) (IT.mk (0 : Int) (0 : Int), (0 : Int))).1.1,
                               SV.int IntKind.i64 (List.getD xs (Int.toNat i) (IT.mk (0 : Int) (0 : Int), (0 : Int))).1.2,
                               SV.int IntKind.i64 (List.getD xs (Int.toNat i) (IT.mk (0 : Int) (0 : Int), (0 : Int))).2]
                              168) =
                             Ent.mk (Loc.blk b_2)
                              (SObj.cells
                               [SV.int IntKind.i64 (List.getD xs (Int.toNat i) (IT.mk (0 : Int) (0 : Int), (0 : Int))).1.1,
                                SV.int IntKind.i64 (List.getD xs (Int.toNat i) (IT.mk (0 : Int) (0 : Int), (0 : Int))).1.2,
                                SV.int IntKind.i64 (List.getD xs (Int.toNat i) (IT.mk (0 : Int) (0 : Int), (0 : Int))).2]
                               168) ∧
                             True) ∧
                          match
                           decide
                            ((List.getD xs (Int.toNat i) (IT.mk (0 : Int) (0 : Int), (0 : Int))).1.1 <
                             (List.getD xs (Int.toNat j) (IT.mk (0 : Int) (0 : Int), (0 : Int))).1.1) with
                          | true =>
                           (Ent.mk (Loc.blk b) (SObj.cells (SV.vec 1 ao (List.length xs) cap :: SV.func (Fn.func (58 : FuncId)) [] [] :: rest) T) =
                            Ent.mk (Loc.blk b) (SObj.cells (SV.vec 1 ao (List.length xs) cap :: SV.func (Fn.func (58 : FuncId)) [] [] :: rest) T) ∧
                            Ent.mk (Loc.sl ao cap) (SObj.vecL (168 : TypeId) 3 encItP xs (IT.mk (0 : Int) (0 : Int), (0 : Int))) =
                             Ent.mk (Loc.sl ao cap) (SObj.vecL (168 : TypeId) 3 encItP xs (IT.mk (0 : Int) (0 : Int), (0 : Int))) ∧
                             Ent.mk (Loc.blk b_1)
                              (SObj.cells
                               [SV.int IntKind.i64 (List.getD xs (Int.toNat j) (IT.mk (0 : Int) (0 : Int), (0 : Int))).1.1,
                                SV.int IntKind.i64 (List.getD xs (Int.toNat j) (IT.mk (0 : Int) (0 : Int), (0 : Int))).1.2,
                                SV.int IntKind.i64 (List.getD xs (Int.toNat j) (IT.mk (0 : Int) (0 : Int), (0 : Int))).2]
                               168) =
                              Ent.mk (Loc.blk b_1)
                               (SObj.cells
                                [SV.int IntKind.i64 (List.getD xs (Int.toNat j) (IT.mk (0 : Int) (0 : Int), (0 : Int))).1.1,
                                 SV.int IntKind.i64 (List.getD xs (Int.toNat j) (IT.mk (0 : Int) (0 : Int), (0 : Int))).1.2,
                                 SV.int IntKind.i64 (List.getD xs (Int.toNat j) (IT.mk (0 : Int) (0 : Int), (0 : Int))).2]
                                168) ∧
                              Ent.mk (Loc.blk b_2)
                               (SObj.cells
                                [SV.int IntKind.i64 (List.getD xs (Int.toNat i) (IT.mk (0 : Int) (0 : Int), (0 : Int))).1.1,
                                 SV.int IntKind.i64 (List.getD xs (Int.toNat i) (IT.mk (0 : Int) (0 : Int), (0 : Int))).1.2,
                                 SV.int IntKind.i64 (List.getD xs (Int.toNat i) (IT.mk (0 : Int) (0 : Int), (0 : Int))).2]
                                168) =
                               Ent.mk (Loc.blk b_2)
                                (SObj.cells
                                 [SV.int IntKind.i64 (List.getD xs (Int.toNat i) (IT.mk (0 : Int) (0 : Int), (0 : Int))).1.1,
                                  SV.int IntKind.i64 (List.getD xs (Int.toNat i) (IT.mk (0 : Int) (0 : Int), (0 : Int))).1.2,
                                  SV.int IntKind.i64 (List.getD xs (Int.toNat i) (IT.mk (0 : Int) (0 : Int), (0 : Int))).2]
                                 168) ∧
                               True) ∧
                            true = true ∧
                             true = true ∧
                              true = true ∧
                               true = true ∧
                                true = true ∧
                                 N
                                  [Ent.mk (Loc.blk b) (SObj.cells (SV.vec 1 ao (List.length xs) cap :: SV.func (Fn.func (58 : FuncId)) [] [] :: rest) T),
                                   Ent.mk (Loc.sl ao cap) (SObj.vecL (168 : TypeId) 3 encItP xs (IT.mk (0 : Int) (0 : Int), (0 : Int))),
                                   Ent.mk (Loc.blk b_1)
                                    (SObj.cells
                                     [SV.int IntKind.i64 (List.getD xs (Int.toNat j) (IT.mk (0 : Int) (0 : Int), (0 : Int))).1.1,
                                      SV.int IntKind.i64 (List.getD xs (Int.toNat j) (IT.mk (0 : Int) (0 : Int), (0 : Int))).1.2,
                                      SV.int IntKind.i64 (List.getD xs (Int.toNat j) (IT.mk (0 : Int) (0 : Int), (0 : Int))).2]
                                     168),
                                   Ent.mk (Loc.blk b_2)
                                    (SObj.cells
                                     [SV.int IntKind.i64 (List.getD xs (Int.toNat i) (IT.mk (0 : Int) (0 : Int), (0 : Int))).1.1,
                                      SV.int IntKind.i64 (List.getD xs (Int.toNat i) (IT.mk (0 : Int) (0 : Int), (0 : Int))).1.2,
                                      SV.int IntKind.i64 (List.getD xs (Int.toNat i) (IT.mk (0 : Int) (0 : Int), (0 : Int))).2]
                                     168),
                                   Ent.mk (Loc.blk b_3)
                                    (SObj.cells
                                     [SV.int IntKind.i64 (List.getD xs (Int.toNat i) (IT.mk (0 : Int) (0 : Int), (0 : Int))).1.1,
                                      SV.int IntKind.i64 (List.getD xs (Int.toNat i) (IT.mk (0 : Int) (0 : Int), (0 : Int))).1.2]
                                     98),
                                   Ent.mk (Loc.blk b_4)
                                    (SObj.cells
                                     [SV.int IntKind.i64 (List.getD xs (Int.toNat j) (IT.mk (0 : Int) (0 : Int), (0 : Int))).1.1,
                                      SV.int IntKind.i64 (List.getD xs (Int.toNat j) (IT.mk (0 : Int) (0 : Int), (0 : Int))).1.2]
                                     98)]
                                  (SV.bool true)
                          | false =>
                           b = b ∧
                            (b_1 = b_1 ∧ 2 = 2) ∧
                             (b_2 = b_2 ∧ 2 = 2) ∧
                              true = true ∧
                               true = true ∧
                                ∀ (b_5 : Nat),
                                 true = true ∧
                                  ∀ (b_6 : Nat),
                                   b_5 = b_5 ∧
                                    b_6 = b_6 ∧
                                     (Ent.mk (Loc.blk b)
                                      (SObj.cells (SV.vec 1 ao (List.length xs) cap :: SV.func (Fn.func (58 : FuncId)) [] [] :: rest) T) =
                                      Ent.mk (Loc.blk b)
                                       (SObj.cells (SV.vec 1 ao (List.length xs) cap :: SV.func (Fn.func (58 : FuncId)) [] [] :: rest) T) ∧
                                      Ent.mk (Loc.sl ao cap) (SObj.vecL (168 : TypeId) 3 encItP xs (IT.mk (0 : Int) (0 : Int), (0 : Int))) =
                                       Ent.mk (Loc.sl ao cap) (SObj.vecL (168 : TypeId) 3 encItP xs (IT.mk (0 : Int) (0 : Int), (0 : Int))) ∧
                                       Ent.mk (Loc.blk b_1)
                                        (SObj.cells
                                         [SV.int IntKind.i64 (List.getD xs (Int.toNat j) (IT.mk (0 : Int) (0 : Int), (0 : Int))).1.1,
                                          SV.int IntKind.i64 (List.getD xs (Int.toNat j) (IT.mk (0 : Int) (0 : Int), (0 : Int))).1.2,
                                          SV.int IntKind.i64 (List.getD xs (Int.toNat j) (IT.mk (0 : Int) (0 : Int), (0 : Int))).2]
                                         168) =
                                        Ent.mk (Loc.blk b_1)
                                         (SObj.cells
                                          [SV.int IntKind.i64 (List.getD xs (Int.toNat j) (IT.mk (0 : Int) (0 : Int), (0 : Int))).1.1,
                                           SV.int IntKind.i64 (List.getD xs (Int.toNat j) (IT.mk (0 : Int) (0 : Int), (0 : Int))).1.2,
                                           SV.int IntKind.i64 (List.getD xs (Int.toNat j) (IT.mk (0 : Int) (0 : Int), (0 : Int))).2]
                                          168) ∧
                                        Ent.mk (Loc.blk b_2)
                                         (SObj.cells
                                          [SV.int IntKind.i64 (List.getD xs (Int.toNat i) (IT.mk (0 : Int) (0 : Int), (0 : Int))).1.1,
                                           SV.int IntKind.i64 (List.getD xs (Int.toNat i) (IT.mk (0 : Int) (0 : Int), (0 : Int))).1.2,
                                           SV.int IntKind.i64 (List.getD xs (Int.toNat i) (IT.mk (0 : Int) (0 : Int), (0 : Int))).2]
                                          168) =
                                         Ent.mk (Loc.blk b_2)
                                          (SObj.cells
                                           [SV.int IntKind.i64 (List.getD xs (Int.toNat i) (IT.mk (0 : Int) (0 : Int), (0 : Int))).1.1,
                                            SV.int IntKind.i64 (List.getD xs (Int.toNat i) (IT.mk (0 : Int) (0 : Int), (0 : Int))).1.2,
                                            SV.int IntKind.i64 (List.getD xs (Int.toNat i) (IT.mk (0 : Int) (0 : Int), (0 : Int))).2]
                                           168) ∧
                                         True) ∧
                                      match
                                       !decide
                                        ((List.getD xs (Int.toNat j) (IT.mk (0 : Int) (0 : Int), (0 : Int))).1.1 <
                                         (List.getD xs (Int.toNat i) (IT.mk (0 : Int) (0 : Int), (0 : Int))).1.1) with
                                      | true =>
                                       b_2 = b_2 ∧
                                        b_1 = b_1 ∧
                                         N
                                          [Ent.mk (Loc.blk b)
                                           (SObj.cells (SV.vec 1 ao (List.length xs) cap :: SV.func (Fn.func (58 : FuncId)) [] [] :: rest) T),
                                           Ent.mk (Loc.sl ao cap) (SObj.vecL (168 : TypeId) 3 encItP xs (IT.mk (0 : Int) (0 : Int), (0 : Int))),
                                           Ent.mk (Loc.blk b_1)
                                            (SObj.cells
                                             [SV.int IntKind.i64 (List.getD xs (Int.toNat j) (IT.mk (0 : Int) (0 : Int), (0 : Int))).1.1,
                                              SV.int IntKind.i64 (List.getD xs (Int.toNat j) (IT.mk (0 : Int) (0 : Int), (0 : Int))).1.2,
                                              SV.int IntKind.i64 (List.getD xs (Int.toNat j) (IT.mk (0 : Int) (0 : Int), (0 : Int))).2]
                                             168),
                                           Ent.mk (Loc.blk b_2)
                                            (SObj.cells
                                             [SV.int IntKind.i64 (List.getD xs (Int.toNat i) (IT.mk (0 : Int) (0 : Int), (0 : Int))).1.1,
                                              SV.int IntKind.i64 (List.getD xs (Int.toNat i) (IT.mk (0 : Int) (0 : Int), (0 : Int))).1.2,
                                              SV.int IntKind.i64 (List.getD xs (Int.toNat i) (IT.mk (0 : Int) (0 : Int), (0 : Int))).2]
                                             168),
                                           Ent.mk (Loc.blk b_3)
                                            (SObj.cells
                                             [SV.int IntKind.i64 (List.getD xs (Int.toNat i) (IT.mk (0 : Int) (0 : Int), (0 : Int))).1.1,
                                              SV.int IntKind.i64 (List.getD xs (Int.toNat i) (IT.mk (0 : Int) (0 : Int), (0 : Int))).1.2]
                                             98),
                                           Ent.mk (Loc.blk b_4)
                                            (SObj.cells
                                             [SV.int IntKind.i64 (List.getD xs (Int.toNat j) (IT.mk (0 : Int) (0 : Int), (0 : Int))).1.1,
                                              SV.int IntKind.i64 (List.getD xs (Int.toNat j) (IT.mk (0 : Int) (0 : Int), (0 : Int))).1.2]
                                             98),
                                           Ent.mk (Loc.blk b_5)
                                            (SObj.cells
                                             [SV.int IntKind.i64 (List.getD xs (Int.toNat j) (IT.mk (0 : Int) (0 : Int), (0 : Int))).1.1,
                                              SV.int IntKind.i64 (List.getD xs (Int.toNat j) (IT.mk (0 : Int) (0 : Int), (0 : Int))).1.2]
                                             98),
                                           Ent.mk (Loc.blk b_6)
                                            (SObj.cells
                                             [SV.int IntKind.i64 (List.getD xs (Int.toNat i) (IT.mk (0 : Int) (0 : Int), (0 : Int))).1.1,
                                              SV.int IntKind.i64 (List.getD xs (Int.toNat i) (IT.mk (0 : Int) (0 : Int), (0 : Int))).1.2]
                                             98)]
                                          (SV.bool
                                           (decide
                                            ((List.getD xs (Int.toNat i) (IT.mk (0 : Int) (0 : Int), (0 : Int))).2 <
                                             (List.getD xs (Int.toNat j) (IT.mk (0 : Int) (0 : Int), (0 : Int))).2)))
                                      | false =>
                                       N
                                        [Ent.mk (Loc.blk b)
                                         (SObj.cells (SV.vec 1 ao (List.length xs) cap :: SV.func (Fn.func (58 : FuncId)) [] [] :: rest) T),
                                         Ent.mk (Loc.sl ao cap) (SObj.vecL (168 : TypeId) 3 encItP xs (IT.mk (0 : Int) (0 : Int), (0 : Int))),
                                         Ent.mk (Loc.blk b_1)
                                          (SObj.cells
                                           [SV.int IntKind.i64 (List.getD xs (Int.toNat j) (IT.mk (0 : Int) (0 : Int), (0 : Int))).1.1,
                                            SV.int IntKind.i64 (List.getD xs (Int.toNat j) (IT.mk (0 : Int) (0 : Int), (0 : Int))).1.2,
                                            SV.int IntKind.i64 (List.getD xs (Int.toNat j) (IT.mk (0 : Int) (0 : Int), (0 : Int))).2]
                                           168),
                                         Ent.mk (Loc.blk b_2)
                                          (SObj.cells
                                           [SV.int IntKind.i64 (List.getD xs (Int.toNat i) (IT.mk (0 : Int) (0 : Int), (0 : Int))).1.1,
                                            SV.int IntKind.i64 (List.getD xs (Int.toNat i) (IT.mk (0 : Int) (0 : Int), (0 : Int))).1.2,
                                            SV.int IntKind.i64 (List.getD xs (Int.toNat i) (IT.mk (0 : Int) (0 : Int), (0 : Int))).2]
                                           168),
                                         Ent.mk (Loc.blk b_3)
                                          (SObj.cells
                                           [SV.int IntKind.i64 (List.getD xs (Int.toNat i) (IT.mk (0 : Int) (0 : Int), (0 : Int))).1.1,
                                            SV.int IntKind.i64 (List.getD xs (Int.toNat i) (IT.mk (0 : Int) (0 : Int), (0 : Int))).1.2]
                                           98),
                                         Ent.mk (Loc.blk b_4)
                                          (SObj.cells
                                           [SV.int IntKind.i64 (List.getD xs (Int.toNat j) (IT.mk (0 : Int) (0 : Int), (0 : Int))).1.1,
                                            SV.int IntKind.i64 (List.getD xs (Int.toNat j) (IT.mk (0 : Int) (0 : Int), (0 : Int))).1.2]
                                           98),
                                         Ent.mk (Loc.blk b_5)
                                          (SObj.cells
                                           [SV.int IntKind.i64 (List.getD xs (Int.toNat j) (IT.mk (0 : Int) (0 : Int), (0 : Int))).1.1,
                                            SV.int IntKind.i64 (List.getD xs (Int.toNat j) (IT.mk (0 : Int) (0 : Int), (0 : Int))).1.2]
                                           98),
                                         Ent.mk (Loc.blk b_6)
                                          (SObj.cells
                                           [SV.int IntKind.i64 (List.getD xs (Int.toNat i) (IT.mk (0 : Int) (0 : Int), (0 : Int))).1.1,
                                            SV.int IntKind.i64 (List.getD xs (Int.toNat i) (IT.mk (0 : Int) (0 : Int), (0 : Int))).1.2]
                                           98)]
                                        (SV.bool false)) := by kernel_rfl


theorem qPswap (K : List Frm → Sy → Prop) (N : List Ent → SV → Prop) (b cap : Nat) (ao : Option Addr) (rest : List SV) (T : TypeId) (xs : List (IT × Int)) (f : FuncId) (i j : Int) : (run Try.prog [] false [] K (retP Try.prog Try.f142.results.toList N) 900 [.code (bodyOf Try.f142)] ⟨padTo 32 [.ptr 0 b 0, .int .i64 i, .int .i64 j], qhG 168 3 encItP ((⟨0, 0⟩ : IT), (0 : Int)) b ao cap f rest T xs⟩) = (
b = b ∧
 b = b ∧
  b = b ∧
   (ao = ao ∧ cap = cap ∧ List.length xs = List.length xs ∧ (0 : Int) ≤ j ∧ j < (↑(List.length xs) : Int)) ∧
    (Addr.blkD ao = Addr.blkD ao ∧ Addr.offD ao = Addr.offD ao ∧ 3 = 3 ∧ Int.toNat j < List.length xs ∧ 3 = 3) ∧
     b = b ∧
      (ao = ao ∧ cap = cap ∧ List.length xs = List.length xs ∧ (0 : Int) ≤ i ∧ i < (↑(List.length xs) : Int)) ∧
       (Addr.blkD ao = Addr.blkD ao ∧ Addr.offD ao = Addr.offD ao ∧ 3 = 3 ∧ Int.toNat i < List.length xs ∧ 3 = 3) ∧
        (ao = ao ∧ cap = cap ∧ List.length xs = List.length xs ∧ (0 : Int) ≤ i ∧ i < (↑(List.length xs) : Int)) ∧
         (Addr.blkD ao = Addr.blkD ao ∧ Addr.offD ao = Addr.offD ao ∧ 3 = 3 ∧ Int.toNat i < List.length xs ∧ true = true ∧ 3 = 3 ∧ 3 ≤ 3) ∧
          ∃ (e : IT × Int),
           denL [SV.int IntKind.i64 e.1.1, SV.int IntKind.i64 e.1.2, SV.int IntKind.i64 e.2] =
            denL
             [SV.int IntKind.i64 (List.getD xs (Int.toNat j) (IT.mk (0 : Int) (0 : Int), (0 : Int))).1.1,
              SV.int IntKind.i64 (List.getD xs (Int.toNat j) (IT.mk (0 : Int) (0 : Int), (0 : Int))).1.2,
              SV.int IntKind.i64 (List.getD xs (Int.toNat j) (IT.mk (0 : Int) (0 : Int), (0 : Int))).2] ∧
            (ao = ao ∧ cap = cap ∧ List.length xs = List.length (List.set xs (Int.toNat i) e) ∧ (0 : Int) ≤ j ∧ j < (↑(List.length xs) : Int)) ∧
             (Addr.blkD ao = Addr.blkD ao ∧
              Addr.offD ao = Addr.offD ao ∧
               3 = 3 ∧ Int.toNat j < List.length (List.set xs (Int.toNat i) e) ∧ true = true ∧ 3 = 3 ∧ 3 ≤ 3) ∧
              ∃ (e_1 : IT × Int),
               denL [SV.int IntKind.i64 e_1.1.1, SV.int IntKind.i64 e_1.1.2, SV.int IntKind.i64 e_1.2] =
                denL
                 [SV.int IntKind.i64 (List.getD xs (Int.toNat i) (IT.mk (0 : Int) (0 : Int), (0 : Int))).1.1,
                  SV.int IntKind.i64 (List.getD xs (Int.toNat i) (IT.mk (0 : Int) (0 : Int), (0 : Int))).1.2,
                  SV.int IntKind.i64 (List.getD xs (Int.toNat i) (IT.mk (0 : Int) (0 : Int), (0 : Int))).2] ∧
                N
                 [Ent.mk (Loc.blk b) (SObj.cells (SV.vec 1 ao (List.length xs) cap :: SV.func (Fn.func f) [] [] :: rest) T),
                  Ent.mk (Loc.sl ao cap)
                   (SObj.vecL (168 : TypeId) 3 encItP (List.set (List.set xs (Int.toNat i) e) (Int.toNat j) e_1) (IT.mk (0 : Int) (0 : Int), (0 : Int)))]
                 (SV.tuple [])) := by kernel_rfl


theorem qPppush (K : List Frm → Sy → Prop) (N : List Ent → SV → Prop) (b cap : Nat) (ao : Option Addr) (rest : List SV) (T : TypeId) (xs : List (IT × Int)) (f : FuncId) (v : IT × Int) : (run Try.prog [] false [] K (retP Try.prog Try.f141.results.toList N) 900 [.code (bodyOf Try.f141)] ⟨padTo 15 [.ptr 0 b 0, .iface 168 (.agg (encItP v))], qhG 168 3 encItP ((⟨0, 0⟩ : IT), (0 : Int)) b ao cap f rest T xs⟩) = (
b = b ∧
 (true = true ∧ 3 = 3 ∧ 0 < 3 ∧ 3 ≤ 16777216) ∧
  ∀ (b_1 : Nat),
   (Ent.mk (Loc.blk b) (SObj.cells (SV.vec 1 ao (List.length xs) cap :: SV.func (Fn.func f) [] [] :: rest) T) =
    Ent.mk (Loc.blk b) (SObj.cells (SV.vec 1 ao (List.length xs) cap :: SV.func (Fn.func f) [] [] :: rest) T) ∧
    Ent.mk (Loc.sl ao cap) (SObj.vecL (168 : TypeId) 3 encItP xs (IT.mk (0 : Int) (0 : Int), (0 : Int))) =
     Ent.mk (Loc.sl ao cap) (SObj.vecL (168 : TypeId) 3 encItP xs (IT.mk (0 : Int) (0 : Int), (0 : Int))) ∧
     True) ∧
    (ao = ao ∧
     cap = cap ∧
      List.length xs = List.length xs ∧
       some (Addr.mk b_1 0 (@none Nat)) = some (Addr.mk b_1 0 (@none Nat)) ∧
        (168 : TypeId) = 168 ∧
         3 = 3 ∧
          3 = 3 ∧
           0 < 1 ∧ true = true ∧ (List.length xs + 1) * 24 ≤ 140737488355328 ∧ List.length xs + 1 ≤ 9223372036854775807) ∧
     ∃ (es : List (IT × Int)),
      List.length es = 1 ∧
       denL (List.flatMap encItP es) = denL [SV.int IntKind.i64 v.1.1, SV.int IntKind.i64 v.1.2, SV.int IntKind.i64 v.2] ∧
        ∀ (ao2 : Option Addr) (cap2 : Nat),
         List.length xs + 1 ≤ cap2 →
          (b = b ∧ true = true ∧ 1 = 1 ∧ 1 ≤ lenN rest + 1 + 1) ∧
           N
            [Ent.mk (Loc.blk b) (SObj.cells (SV.vec 1 ao2 (List.length xs + 1) cap2 :: SV.func (Fn.func f) [] [] :: rest) T),
             Ent.mk (Loc.sl ao2 cap2) (SObj.vecL (168 : TypeId) 3 encItP (xs ++ es) (IT.mk (0 : Int) (0 : Int), (0 : Int))),
             Ent.mk (Loc.blk b_1) (SObj.cells [SV.int IntKind.i64 v.1.1, SV.int IntKind.i64 v.1.2, SV.int IntKind.i64 v.2] 168)]
            (SV.tuple [])) := by kernel_rfl


theorem qPppop (K : List Frm → Sy → Prop) (N : List Ent → SV → Prop) (b cap : Nat) (ao : Option Addr) (rest : List SV) (T : TypeId) (xs : List (IT × Int)) (f : FuncId) : (run Try.prog [] false [] K (retP Try.prog Try.f140.results.toList N) 900 [.code (bodyOf Try.f140)] ⟨padTo 29 [.ptr 0 b 0], qhG 168 3 encItP ((⟨0, 0⟩ : IT), (0 : Int)) b ao cap f rest T xs⟩) = (
b = b ∧
 b = b ∧
  (ao = ao ∧
   cap = cap ∧
    List.length xs = List.length xs ∧
     (0 : Int) ≤ IntKind.wrap IntKind.i64 ((↑(List.length xs) : Int) - (1 : Int)) ∧ IntKind.wrap IntKind.i64 ((↑(List.length xs) : Int) - (1 : Int)) < (↑(List.length xs) : Int)) ∧
   (Addr.blkD ao = Addr.blkD ao ∧
    Addr.offD ao = Addr.offD ao ∧ 3 = 3 ∧ Int.toNat (IntKind.wrap IntKind.i64 ((↑(List.length xs) : Int) - (1 : Int))) < List.length xs ∧ 3 = 3) ∧
    ∀ (b_1 : Nat),
     (b_1 = b_1 ∧ true = true ∧ 3 = 3 ∧ 3 ≤ 3) ∧
      b = b ∧
       ((0 : Int) ≤ IntKind.wrap IntKind.i64 ((↑(List.length xs) : Int) - (1 : Int)) ∧ IntKind.wrap IntKind.i64 ((↑(List.length xs) : Int) - (1 : Int)) ≤ (↑cap : Int)) ∧
        (b = b ∧ true = true ∧ 1 = 1 ∧ 1 ≤ lenN rest + 1 + 1) ∧
         (b_1 = b_1 ∧ 3 = 3) ∧
          N
           [Ent.mk (Loc.blk b)
            (SObj.cells (SV.sub 1 ao cap 3 0 (Int.toNat (IntKind.wrap IntKind.i64 ((↑(List.length xs) : Int) - (1 : Int)))) :: SV.func (Fn.func f) [] [] :: rest)
             T),
            Ent.mk (Loc.sl ao cap) (SObj.vecL (168 : TypeId) 3 encItP xs (IT.mk (0 : Int) (0 : Int), (0 : Int))),
            Ent.mk (Loc.blk b_1)
             (SObj.cells
              [SV.int IntKind.i64 (List.getD xs (Int.toNat (IntKind.wrap IntKind.i64 ((↑(List.length xs) : Int) - (1 : Int)))) (IT.mk (0 : Int) (0 : Int), (0 : Int))).1.1,
               SV.int IntKind.i64 (List.getD xs (Int.toNat (IntKind.wrap IntKind.i64 ((↑(List.length xs) : Int) - (1 : Int)))) (IT.mk (0 : Int) (0 : Int), (0 : Int))).1.2,
               SV.int IntKind.i64 (List.getD xs (Int.toNat (IntKind.wrap IntKind.i64 ((↑(List.length xs) : Int) - (1 : Int)))) (IT.mk (0 : Int) (0 : Int), (0 : Int))).2]
              168)]
           (SV.iface 168
            (SV.agg
             [SV.int IntKind.i64 (List.getD xs (Int.toNat (IntKind.wrap IntKind.i64 ((↑(List.length xs) : Int) - (1 : Int)))) (IT.mk (0 : Int) (0 : Int), (0 : Int))).1.1,
              SV.int IntKind.i64 (List.getD xs (Int.toNat (IntKind.wrap IntKind.i64 ((↑(List.length xs) : Int) - (1 : Int)))) (IT.mk (0 : Int) (0 : Int), (0 : Int))).1.2,
              SV.int IntKind.i64 (List.getD xs (Int.toNat (IntKind.wrap IntKind.i64 ((↑(List.length xs) : Int) - (1 : Int)))) (IT.mk (0 : Int) (0 : Int), (0 : Int))).2]))) := by kernel_rfl


theorem qPplen (K : List Frm → Sy → Prop) (N : List Ent → SV → Prop) (b cap : Nat) (ao : Option Addr) (rest : List SV) (T : TypeId) (xs : List (IT × Int)) (f : FuncId) : (run Try.prog [] true [] K (retP Try.prog Try.f107.results.toList N) 900 [.code (bodyOf Try.f107)] ⟨padTo 8 [.ptr 0 b 0], qhG 168 3 encItP ((⟨0, 0⟩ : IT), (0 : Int)) b ao cap f rest T xs⟩) = (
b = b ∧
 N
  [Ent.mk (Loc.blk b) (SObj.cells (SV.vec 1 ao (List.length xs) cap :: SV.func (Fn.func f) [] [] :: rest) T),
   Ent.mk (Loc.sl ao cap) (SObj.vecL (168 : TypeId) 3 encItP xs (IT.mk (0 : Int) (0 : Int), (0 : Int)))]
  (SV.int IntKind.i64 (↑(List.length xs) : Int))) := by kernel_rfl
end Go.Proofs.Ytjnkfgigpapeaaa

/- queue.Queue[reveille/reveillelaw13.Item]: its pile's methods. -/
namespace Go.Proofs.Ytjnkfgigpapeaaa
open Go Go.RowKit
theorem hmQP : Try.prog.follows .mixedOrders = true := by kernel_rfl
def RP (f : FuncId) (bef : IT → IT → Bool) : Prop := (f = 58 ∧ bef = fun a b : IT => decide (a.n < b.n))
theorem qPless0_ok (b cap : Nat) (ao : Option Addr) (rest : List SV) (T : TypeId) (xs : List (IT × Int)) (i j : Int) (h1 : 0 ≤ i) (h2 : i < xs.length) (h3 : 0 ≤ j) (h4 : j < xs.length) :
    Spec Try.prog 139 (qhG 168 3 encItP ((⟨0, 0⟩ : IT), (0 : Int)) b ao cap 58 rest T xs) [.ptr 0 b 0, .int .i64 i, .int .i64 j] fun h' r => PreE (qhG 168 3 encItP ((⟨0, 0⟩ : IT), (0 : Int)) b ao cap 58 rest T xs) h' ∧ r = .bool (lessI (fun a b : IT => decide (a.n < b.n)) (xs.getD i.toNat ((⟨0, 0⟩ : IT), (0 : Int))) (xs.getD j.toNat ((⟨0, 0⟩ : IT), (0 : Int)))) := by
  refine Spec.of_G 51 Try.func139 (c := bodyOf Try.f139) (by kernel_rfl) (by kernel_rfl) (Nat.le_of_ble_eq_true rfl) fun W F => ?_
  refine G_run (Cs := [(58, inl Try.prog [] true Try.f58 100)]) (kc := true) (ss := []) ⟨inl_ok trivial hmQP Try.func58 (by kernel_rfl), trivial⟩ hmQP 900 ?_
  rw [qPless0]
  repeat' first
    | exact rfl
    | exact trivial
    | assumption
    | apply And.intro
    | intro _
    | (refine ⟨[(_, _)], rfl, rfl, ?_⟩)
    | (refine ⟨[_], rfl, rfl, ?_⟩)
    | (split <;> rename_i hh <;> try simp only [Bool.not_eq_true', Bool.not_eq_false', Bool.not_true, Bool.not_false, beq_iff_eq, beq_eq_false_iff_ne, decide_eq_true_eq, decide_eq_false_iff_not, Bool.true_eq, Bool.false_eq, Bool.not_eq_true, Bool.not_eq_false, bne_iff_ne, bne_eq_false_iff_eq, ne_eq, Decidable.not_not] at hh)
    | decide
    | omega
    | (exfalso; omega)
    | exact absurd trivial hh
    | exact ⟨_, rfl⟩
    | (simp_all [lessI]; done)
    | (unfold lessI; simp only [*, decide_false, decide_true, Bool.false_or, Bool.true_or, Bool.not_false, Bool.not_true, Bool.true_and, Bool.false_and, Bool.or_false]; done)
    | fail

theorem qPless_ok : CtrOk Try.prog 139 (lessC 168 3 encItP ((⟨0, 0⟩ : IT), (0 : Int)) RP) := by
  intro args hs N h
  unfold lessC at h
  split at h
  · rename_i l b k i k' j
    unfold onPile at h
    split at h
    · rename_i b' l2 ao n cap f rest T hl
      split at h
      · rename_i e hl2
        obtain ⟨xs, ⟨rfl, rfl, rfl, hne⟩, ⟨rfl, rfl, g1, g2, g3, g4⟩, bef, hR, hN⟩ := h
        have fin : ∀ bef' : IT → IT → Bool, bef = bef' → Spec Try.prog 139 (qhG 168 3 encItP ((⟨0, 0⟩ : IT), (0 : Int)) b' ao cap f rest T xs) [.ptr 0 b' 0, .int .i64 i, .int .i64 j] (fun h' r => PreE (qhG 168 3 encItP ((⟨0, 0⟩ : IT), (0 : Int)) b' ao cap f rest T xs) h' ∧ r = .bool (lessI bef' (xs.getD i.toNat ((⟨0, 0⟩ : IT), (0 : Int))) (xs.getD j.toNat ((⟨0, 0⟩ : IT), (0 : Int))))) → Spec Try.prog 139 hs [.ptr l b' 0, .int .i64 i, .int .i64 j] N := by
          intro bef' hb hsp
          subst hb
          refine Spec.pile 168 3 encItP ((⟨0, 0⟩ : IT), (0 : Int)) hl hl2 hne (args' := [.ptr 0 b' 0, .int .i64 i, .int .i64 j]) (by rfl) (fun _ _ => hsp) ?_
          rintro h' r ⟨hp, rfl⟩
          refine ⟨xs, ao, cap, rest, _, fun W F w hr => hr.pre hp, rfl, ?_⟩
          rw [setPile_same 168 3 encItP ((⟨0, 0⟩ : IT), (0 : Int)) hl hl2]
          exact hN
        rcases hR with ⟨rfl, hb⟩
        · exact fin _ hb (qPless0_ok b' cap ao rest T xs i j g1 g2 g3 g4)
      · exact h.elim
    · exact h.elim
  · exact h.elim

theorem qPswap_ok : CtrOk Try.prog 142 (swapC 168 3 encItP ((⟨0, 0⟩ : IT), (0 : Int))) := by
  intro args hs N h
  unfold swapC at h
  split at h
  · rename_i l b k i k' j
    unfold onPile at h
    split at h
    · rename_i b' l2 ao n cap f rest T hl
      split at h
      · rename_i e hl2
        obtain ⟨xs, ⟨rfl, rfl, rfl, hne⟩, ⟨rfl, rfl, g1, g2, g3, g4⟩, hN⟩ := h
        refine Spec.pile 168 3 encItP ((⟨0, 0⟩ : IT), (0 : Int)) hl hl2 hne (args' := [.ptr 0 b' 0, .int .i64 i, .int .i64 j]) (Post' := fun h' r => h' = qhG 168 3 encItP ((⟨0, 0⟩ : IT), (0 : Int)) b' ao cap f rest T (swapL ((⟨0, 0⟩ : IT), (0 : Int)) xs i.toNat j.toNat) ∧ r = .tuple []) (by rfl) (fun _ _ => ?_) ?_
        · refine Spec.of_G 32 Try.func142 (c := bodyOf Try.f142) (by kernel_rfl) (by kernel_rfl) (Nat.le_of_ble_eq_true rfl) fun W F => ?_
          refine G_run (Cs := []) (kc := false) (ss := []) trivial hmQP 900 ?_
          rw [qPswap]
          repeat' first
            | (refine ⟨xs.getD j.toNat ((⟨0, 0⟩ : IT), (0 : Int)), rfl, ?_⟩)
            | (refine ⟨xs.getD i.toNat ((⟨0, 0⟩ : IT), (0 : Int)), rfl, ?_⟩)
            | exact rfl
            | assumption
            | apply And.intro
            | (rw [List.length_set]; omega)
            | (rw [List.length_set])
            | omega
            | (unfold qhG; rw [length_swapL]; rfl)
            | fail
        · rintro h' r ⟨rfl, rfl⟩
          exact ⟨_, ao, cap, rest, _, fun W F w hr => hr, rfl, hN⟩
      · exact h.elim
    · exact h.elim
  · exact h.elim

theorem qPppush_ok : CtrOk Try.prog 141 (ppushC 168 3 encItP ((⟨0, 0⟩ : IT), (0 : Int)) 24) := by
  intro args hs N h
  unfold ppushC at h
  split at h
  · rename_i l b t cs
    unfold onPile at h
    split at h
    · rename_i b' l2 ao n cap f rest T hl
      split at h
      · rename_i e hl2
        obtain ⟨xs, ⟨rfl, rfl, rfl, hne⟩, x, ⟨rfl, rfl, g1, g2⟩, hN⟩ := h
        refine Spec.pile 168 3 encItP ((⟨0, 0⟩ : IT), (0 : Int)) hl hl2 hne (args' := [.ptr 0 b' 0, .iface 168 (.agg (encItP x))]) (Post' := fun h' r => ∃ ao2 cap2, PreE (qhG 168 3 encItP ((⟨0, 0⟩ : IT), (0 : Int)) b' ao2 cap2 f rest T (xs ++ [x])) h' ∧ r = .tuple []) (by rfl) (fun _ _ => ?_) ?_
        · refine Spec.of_G 15 Try.func141 (c := bodyOf Try.f141) (by kernel_rfl) (by kernel_rfl) (Nat.le_of_ble_eq_true rfl) fun W F => ?_
          refine G_run (Cs := []) (kc := false) (ss := []) trivial hmQP 900 ?_
          rw [qPppush]
          repeat' first
            | (refine ⟨[x], rfl, rfl, ?_⟩)
            | exact rfl
            | exact trivial
            | assumption
            | (refine ⟨_, _, ⟨?_, rfl, trivial⟩, rfl⟩; rw [List.length_append]; rfl)
            | apply And.intro
            | intro _
            | decide
            | omega
            | fail
        · rintro h' r ⟨ao2, cap2, hp, rfl⟩
          exact ⟨_, ao2, cap2, rest, _, fun W F w hr => hr.pre hp, rfl, hN ao2 cap2⟩
      · exact h.elim
    · exact h.elim
  · exact h.elim

theorem qPppop_ok : CtrOk Try.prog 140 (ppopC 168 3 encItP ((⟨0, 0⟩ : IT), (0 : Int))) := by
  intro args hs N h
  unfold ppopC at h
  split at h
  · rename_i l b
    unfold onPile at h
    split at h
    · rename_i b' l2 ao n cap f rest T hl
      split at h
      · rename_i e hl2
        obtain ⟨xs, ⟨rfl, rfl, rfl, hne⟩, ⟨g1, g2⟩, hN⟩ := h
        have hw : IntKind.wrap .i64 ((xs.length : Int) - 1) = ((xs.length - 1 : Nat) : Int) := by rw [IntWalk.i64_in _ (by omega)]; omega
        refine Spec.pile 168 3 encItP ((⟨0, 0⟩ : IT), (0 : Int)) hl hl2 hne (args' := [.ptr 0 b' 0]) (Post' := fun h' r => (∃ c, h' = [⟨.blk b', .cells (.sub 1 ao cap 3 0 (xs.length - 1) :: .func (.func f) [] [] :: rest) T⟩, ⟨.sl ao cap, .vecL 168 3 encItP xs ((⟨0, 0⟩ : IT), (0 : Int))⟩, c]) ∧ r = .iface 168 (.agg (encItP (xs.getD (xs.length - 1) ((⟨0, 0⟩ : IT), (0 : Int)))))) (by rfl) (fun hc ha => ?_) ?_
        · refine Spec.of_G 29 Try.func140 (c := bodyOf Try.f140) (by kernel_rfl) (by kernel_rfl) (Nat.le_of_ble_eq_true rfl) fun W F => ?_
          refine G_run (Cs := []) (kc := false) (ss := []) trivial hmQP 900 ?_
          rw [qPppop]
          rw [hw]
          simp only [Int.toNat_natCast]
          repeat' first
            | exact ⟨_, rfl⟩
            | exact rfl
            | exact trivial
            | assumption
            | apply And.intro
            | intro _
            | decide
            | omega
            | fail
        · rintro h' r ⟨⟨c, rfl⟩, rfl⟩
          have hlt : (xs.take (xs.length - 1)).length = xs.length - 1 := by simp
          refine ⟨xs.take (xs.length - 1), ao, cap, rest, _, fun W F w hr => ?_, rfl, hN⟩
          have hao := (hr.vec (l := 1) rfl).2.2.1 g1
          have a1 := Rep.trim (l := 1) (k := xs.length - 1) rfl (by omega) hr
          have a2 := Rep.cellsEq (l := 0) (cs' := .vec 1 ao (xs.take (xs.length - 1)).length cap :: .func (.func f) [] [] :: rest) rfl (by rw [hlt]; simp only [denL]; rw [den_trim 1 cap 3 (xs.length - 1) hao]) a1
          exact a2.front ⟨rfl, rfl, trivial⟩
      · exact h.elim
    · exact h.elim
  · exact h.elim
end Go.Proofs.Ytjnkfgigpapeaaa

