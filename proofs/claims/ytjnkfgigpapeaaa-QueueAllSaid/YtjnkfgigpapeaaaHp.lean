/- The plain law of a binary heap on lists: up and down, as container/heap does them. -/
namespace Go.Proofs.Ytjnkfgigpapeaaa
set_option linter.unusedVariables false
set_option linter.unusedSimpArgs false
set_option linter.unnecessarySimpa false
universe u

section
variable {α : Type} {lt : α → α → Bool} {d : α}

/-- A strict order, as a function tells it. -/
structure Ordered (lt : α → α → Bool) : Prop where
  asym : ∀ a b, lt a b = true → lt b a = false
  trans : ∀ a b c, lt b a = false → lt c b = false → lt c a = false

/-- Two elements change places. -/
def swapL (d : α) (xs : List α) (i j : Nat) : List α := (xs.set i (xs.getD j d)).set j (xs.getD i d)

theorem length_swapL (xs : List α) (i j : Nat) : (swapL d xs i j).length = xs.length := by simp [swapL]

theorem getD_set (xs : List α) (i k : Nat) (v : α) (hi : i < xs.length) : (xs.set i v).getD k d = if k = i then v else xs.getD k d := by
  by_cases h : k = i
  · subst h; simp [List.getD, hi]
  · rw [if_neg h]
    simp [List.getD, List.getElem?_set_ne (fun e => h e.symm)]

theorem getD_swapL (xs : List α) (i j k : Nat) (hi : i < xs.length) (hj : j < xs.length) : (swapL d xs i j).getD k d = if k = j then xs.getD i d else if k = i then xs.getD j d else xs.getD k d := by
  unfold swapL
  rw [getD_set _ _ _ _ (by simpa using hj)]
  split
  · rfl
  · rw [getD_set _ _ _ _ hi]

theorem perm_swapL (xs : List α) (i j : Nat) (hi : i < xs.length) (hj : j < xs.length) : (swapL d xs i j).Perm xs := by
  have h := Array.swap_perm (xs := xs.toArray) (i := i) (j := j) (by simpa using hi) (by simpa using hj)
  have h2 := Array.perm_iff_toList_perm.1 h
  have e : (xs.toArray.swap i j (by simpa using hi) (by simpa using hj)).toList = swapL d xs i j := by
    apply List.ext_getElem?
    intro k
    simp only [Array.swap_def, Array.toList_set, swapL, List.getD, List.getElem_toArray]
    simp [hi, hj]
  rw [e] at h2
  simpa using h2

/-- In each place but 0 what stands there doesn't go ahead of what stands above it. -/
def heapN (lt : α → α → Bool) (d : α) (xs : List α) (n : Nat) : Prop := ∀ k, 0 < k → k < n → lt (xs.getD k d) (xs.getD ((k - 1) / 2) d) = false

/-- container/heap's up. -/
def upL (lt : α → α → Bool) (d : α) : Nat → List α → Nat → List α
  | 0, xs, _ => xs
  | n + 1, xs, j => if (j - 1) / 2 = j then xs else if lt (xs.getD j d) (xs.getD ((j - 1) / 2) d) = true then upL lt d n (swapL d xs ((j - 1) / 2) j) ((j - 1) / 2) else xs

/-- The child that is to go ahead. -/
def kidL (lt : α → α → Bool) (d : α) (xs : List α) (i n : Nat) : Nat := if 2 * i + 2 < n ∧ lt (xs.getD (2 * i + 2) d) (xs.getD (2 * i + 1) d) = true then 2 * i + 2 else 2 * i + 1

/-- container/heap's down. -/
def downL (lt : α → α → Bool) (d : α) : Nat → List α → Nat → Nat → List α
  | 0, xs, _, _ => xs
  | m + 1, xs, i, n => if n ≤ 2 * i + 1 then xs else if lt (xs.getD (kidL lt d xs i n) d) (xs.getD i d) = true then downL lt d m (swapL d xs i (kidL lt d xs i n)) (kidL lt d xs i n) n else xs

theorem upL_stop {m : Nat} {xs : List α} {j : Nat} (h : (j - 1) / 2 = j ∨ lt (xs.getD j d) (xs.getD ((j - 1) / 2) d) = false) : upL lt d m xs j = xs := by
  cases m with
  | zero => rfl
  | succ m =>
    unfold upL
    split
    · rfl
    · rename_i hne
      rw [if_neg (by rw [h.resolve_left hne]; decide)]

theorem upL_go {m : Nat} {xs : List α} {j : Nat} (h1 : (j - 1) / 2 ≠ j) (h2 : lt (xs.getD j d) (xs.getD ((j - 1) / 2) d) = true) (hm : j ≤ m) : upL lt d m xs j = upL lt d (m - 1) (swapL d xs ((j - 1) / 2) j) ((j - 1) / 2) := by
  cases m with
  | zero => omega
  | succ m =>
    show (if _ then _ else _) = _
    rw [if_neg h1, if_pos h2]; rfl

theorem downL_stop {m : Nat} {xs : List α} {i n : Nat} (h : n ≤ 2 * i + 1 ∨ lt (xs.getD (kidL lt d xs i n) d) (xs.getD i d) = false) : downL lt d m xs i n = xs := by
  cases m with
  | zero => rfl
  | succ m =>
    unfold downL
    split
    · rfl
    · rename_i hne
      rw [if_neg (by rw [h.resolve_left hne]; decide)]

theorem downL_go {m : Nat} {xs : List α} {i n : Nat} (h1 : ¬ n ≤ 2 * i + 1) (h2 : lt (xs.getD (kidL lt d xs i n) d) (xs.getD i d) = true) (hm : n ≤ m + i + 1) : downL lt d m xs i n = downL lt d (m - 1) (swapL d xs i (kidL lt d xs i n)) (kidL lt d xs i n) n := by
  cases m with
  | zero => omega
  | succ m =>
    show (if _ then _ else _) = _
    rw [if_neg h1, if_pos h2]; rfl

theorem kidL_two {xs : List α} {i n : Nat} (h1 : 2 * i + 2 < n) (h2 : lt (xs.getD (2 * i + 2) d) (xs.getD (2 * i + 1) d) = true) : kidL lt d xs i n = 2 * i + 2 := by unfold kidL; rw [if_pos ⟨h1, h2⟩]
theorem kidL_one {xs : List α} {i n : Nat} (h : 2 * i + 2 < n → lt (xs.getD (2 * i + 2) d) (xs.getD (2 * i + 1) d) = false) : kidL lt d xs i n = 2 * i + 1 := by
  unfold kidL; rw [if_neg]; rintro ⟨h1, h2⟩; rw [h h1] at h2; cases h2

theorem length_upL : ∀ (n : Nat) (xs : List α) (j : Nat), (upL lt d n xs j).length = xs.length
  | 0, _, _ => rfl
  | n + 1, xs, j => by
    unfold upL
    split
    · rfl
    split
    · rw [length_upL n, length_swapL]
    · rfl

theorem length_downL : ∀ (m : Nat) (xs : List α) (i n : Nat), (downL lt d m xs i n).length = xs.length
  | 0, _, _, _ => rfl
  | m + 1, xs, i, n => by
    unfold downL
    split
    · rfl
    split
    · rw [length_downL m, length_swapL]
    · rfl

theorem perm_upL : ∀ (n : Nat) (xs : List α) (j : Nat), j < xs.length → (upL lt d n xs j).Perm xs
  | 0, _, _, _ => List.Perm.refl _
  | n + 1, xs, j, hj => by
    unfold upL
    split
    · exact List.Perm.refl _
    split
    · exact (perm_upL n _ _ (by rw [length_swapL]; omega)).trans (perm_swapL xs _ _ (by omega) hj)
    · exact List.Perm.refl _

theorem kidL_lt {xs : List α} {i n : Nat} (h : ¬ n ≤ 2 * i + 1) : kidL lt d xs i n < n ∧ (kidL lt d xs i n = 2 * i + 1 ∨ kidL lt d xs i n = 2 * i + 2) := by
  unfold kidL
  split <;> omega

theorem perm_downL : ∀ (m : Nat) (xs : List α) (i n : Nat), i < xs.length → n ≤ xs.length → (downL lt d m xs i n).Perm xs
  | 0, _, _, _, _, _ => List.Perm.refl _
  | m + 1, xs, i, n, hi, hn => by
    unfold downL
    split
    · exact List.Perm.refl _
    · rename_i h
      have hk := kidL_lt (lt := lt) (d := d) (xs := xs) h
      split
      · exact (perm_downL m _ _ _ (by rw [length_swapL]; omega) (by rw [length_swapL]; exact hn)).trans (perm_swapL xs _ _ hi (by omega))
      · exact List.Perm.refl _

/-- What lies behind the end stays. -/
theorem tail_downL : ∀ (m : Nat) (xs : List α) (i n : Nat), i < n → n ≤ xs.length → ∀ k, n ≤ k → (downL lt d m xs i n).getD k d = xs.getD k d
  | 0, _, _, _, _, _, _, _ => rfl
  | m + 1, xs, i, n, hi, hn, k, hk => by
    unfold downL
    split
    · rfl
    · rename_i h
      have hj := kidL_lt (lt := lt) (d := d) (xs := xs) h
      split
      · rw [tail_downL m _ _ _ hj.1 (by rw [length_swapL]; exact hn) k hk, getD_swapL _ _ _ _ (by omega) (by omega), if_neg (by omega), if_neg (by omega)]
      · rfl

/-- A heap, but for place j: up mends it. -/
theorem heap_upL (ho : Ordered lt) : ∀ (m : Nat) (xs : List α) (j : Nat), j < xs.length → j ≤ m → (∀ k, 0 < k → k < xs.length → k ≠ j → lt (xs.getD k d) (xs.getD ((k - 1) / 2) d) = false) →
    (0 < j → ∀ k, 0 < k → k < xs.length → (k - 1) / 2 = j → lt (xs.getD k d) (xs.getD ((j - 1) / 2) d) = false) → heapN lt d (upL lt d m xs j) xs.length
  | 0, xs, j, hj, hm, h1, h2 => by
    have : j = 0 := by omega
    subst this
    intro k k0 kn
    exact h1 k k0 kn (by omega)
  | m + 1, xs, j, hj, hm, h1, h2 => by
    unfold upL
    split
    · rename_i e
      have : j = 0 := by omega
      subst this
      intro k k0 kn
      exact h1 k k0 kn (by omega)
    · rename_i hne
      have j0 : 0 < j := by omega
      split
      · rename_i hlt
        have hi : (j - 1) / 2 < xs.length := by omega
        have hh := heap_upL ho m (swapL d xs ((j - 1) / 2) j) ((j - 1) / 2) (by rw [length_swapL]; exact hi) (by omega)
        rw [length_swapL] at hh
        refine hh ?_ ?_
        · intro k k0 kn hk
          rw [getD_swapL _ _ _ _ hi hj, getD_swapL _ _ _ _ hi hj]
          by_cases e1 : k = j
          · subst e1
            rw [if_pos rfl, if_neg (by omega), if_pos rfl]
            exact ho.asym _ _ hlt
          · rw [if_neg e1, if_neg hk]
            by_cases e2 : (k - 1) / 2 = j
            · rw [if_pos e2]
              exact h2 j0 k k0 kn e2
            · rw [if_neg e2]
              by_cases e3 : (k - 1) / 2 = (j - 1) / 2
              · rw [if_pos e3]
                have a1 := h1 k k0 kn e1
                rw [e3] at a1
                exact ho.trans _ _ _ (ho.asym _ _ hlt) a1
              · rw [if_neg e3]
                exact h1 k k0 kn e1
        · intro i0 k k0 kn hk
          rw [getD_swapL _ _ _ _ hi hj, getD_swapL _ _ _ _ hi hj]
          have hg : lt (xs.getD ((j - 1) / 2) d) (xs.getD (((j - 1) / 2 - 1) / 2) d) = false := h1 _ i0 hi (by omega)
          rw [if_neg (by omega : ¬ ((j - 1) / 2 - 1) / 2 = j), if_neg (by omega : ¬ ((j - 1) / 2 - 1) / 2 = (j - 1) / 2)]
          by_cases e1 : k = j
          · rw [if_pos e1]; exact hg
          · rw [if_neg e1, if_neg (by omega)]
            have a1 := h1 k k0 kn e1
            rw [hk] at a1
            exact ho.trans _ _ _ hg a1
      · rename_i hlt
        intro k k0 kn
        by_cases e1 : k = j
        · subst e1; simpa using hlt
        · exact h1 k k0 kn e1

/-- A heap, but below place i: down mends it. -/
theorem heap_downL (ho : Ordered lt) : ∀ (m : Nat) (xs : List α) (i n : Nat), i < n → n ≤ xs.length → n ≤ m + i + 1 → (∀ k, 0 < k → k < n → (k - 1) / 2 ≠ i → lt (xs.getD k d) (xs.getD ((k - 1) / 2) d) = false) →
    (0 < i → ∀ k, 0 < k → k < n → (k - 1) / 2 = i → lt (xs.getD k d) (xs.getD ((i - 1) / 2) d) = false) → heapN lt d (downL lt d m xs i n) n
  | 0, xs, i, n, hi, hn, hm, h1, h2 => by
    intro k k0 kn
    exact h1 k k0 kn (by omega)
  | m + 1, xs, i, n, hi, hn, hm, h1, h2 => by
    unfold downL
    split
    · intro k k0 kn
      exact h1 k k0 kn (by omega)
    · rename_i h
      have hj := kidL_lt (lt := lt) (d := d) (xs := xs) h
      -- the child goes ahead of its brother
      have hb : ∀ k, 0 < k → k < n → (k - 1) / 2 = i → lt (xs.getD k d) (xs.getD (kidL lt d xs i n) d) = false := by
        intro k k0 kn hk
        have hself : ∀ a, lt a a = false := fun a => by
          cases hq : lt a a with
          | false => rfl
          | true => have := ho.asym _ _ hq; rw [hq] at this; cases this
        have : k = 2 * i + 1 ∨ k = 2 * i + 2 := by omega
        unfold kidL
        split
        · rename_i hc
          rcases this with rfl | rfl
          · exact ho.asym _ _ hc.2
          · exact hself _
        · rename_i hc
          rcases this with rfl | rfl
          · exact hself _
          · cases hq : lt (xs.getD (2 * i + 2) d) (xs.getD (2 * i + 1) d) with
            | false => rfl
            | true => exact absurd ⟨kn, hq⟩ hc
      split
      · rename_i hlt
        have hk : kidL lt d xs i n < xs.length := by omega
        have hi' : i < xs.length := by omega
        have hpar : (kidL lt d xs i n - 1) / 2 = i := by omega
        refine heap_downL ho m (swapL d xs i (kidL lt d xs i n)) (kidL lt d xs i n) n hj.1 (by rw [length_swapL]; exact hn) (by omega) ?_ ?_
        · intro k k0 kn hne
          rw [getD_swapL _ _ _ _ hi' hk, getD_swapL _ _ _ _ hi' hk]
          rw [if_neg hne]
          by_cases e1 : k = kidL lt d xs i n
          · rw [if_pos e1, e1, hpar, if_pos rfl]
            exact ho.asym _ _ hlt
          · rw [if_neg e1]
            by_cases e2 : k = i
            · rw [if_pos e2, e2, if_neg (by omega)]
              have i0 : 0 < i := by omega
              exact h2 i0 _ (by omega) hj.1 hpar
            · rw [if_neg e2]
              by_cases e3 : (k - 1) / 2 = i
              · rw [if_pos e3]
                exact hb k k0 kn e3
              · rw [if_neg e3]
                exact h1 k k0 kn e3
        · intro _ k k0 kn hk2
          rw [getD_swapL _ _ _ _ hi' hk, getD_swapL _ _ _ _ hi' hk, hpar, if_neg (by omega), if_neg (by omega : ¬ k = i), if_neg (by omega : ¬ i = kidL lt d xs i n), if_pos rfl]
          have := h1 k k0 kn (by omega)
          rw [hk2] at this
          exact this
      · rename_i hlt
        have hlt' : lt (xs.getD (kidL lt d xs i n) d) (xs.getD i d) = false := by simpa using hlt
        intro k k0 kn
        by_cases e1 : (k - 1) / 2 = i
        · rw [e1]
          exact ho.trans _ _ _ hlt' (hb k k0 kn e1)
        · exact h1 k k0 kn e1

/-- At a heap's top stands what goes ahead of all. -/
theorem heap_top (ho : Ordered lt) {xs : List α} {n : Nat} (h : heapN lt d xs n) : ∀ k, k < n → lt (xs.getD k d) (xs.getD 0 d) = false := by
  intro k
  induction k using Nat.strongRecOn with
  | ind k ih =>
    intro kn
    by_cases k0 : k = 0
    · subst k0
      cases hq : lt (xs.getD 0 d) (xs.getD 0 d) with
      | false => rfl
      | true => have := ho.asym _ _ hq; rw [hq] at this; cases this
    · exact ho.trans _ _ _ (ih ((k - 1) / 2) (by omega) (by omega)) (h k (by omega) kn)

/-- An element is pushed. -/
def pushL (lt : α → α → Bool) (d : α) (xs : List α) (v : α) : List α := upL lt d xs.length (xs ++ [v]) xs.length

theorem length_pushL (xs : List α) (v : α) : (pushL lt d xs v).length = xs.length + 1 := by simp [pushL, length_upL]
theorem perm_pushL (xs : List α) (v : α) : (pushL lt d xs v).Perm (v :: xs) :=
  (perm_upL _ _ _ (by simp)).trans (List.perm_append_comm (l₁ := xs) (l₂ := [v]))

theorem heap_pushL (ho : Ordered lt) {xs : List α} (v : α) (h : heapN lt d xs xs.length) : heapN lt d (pushL lt d xs v) (pushL lt d xs v).length := by
  rw [length_pushL]
  have hh := heap_upL (d := d) ho xs.length (xs ++ [v]) xs.length (by simp) (Nat.le_refl _)
  simp only [List.length_append, List.length_cons, List.length_nil] at hh
  refine hh ?_ ?_
  · intro k k0 kn hk
    have e1 : ∀ j, j < xs.length → (xs ++ [v]).getD j d = xs.getD j d := fun j hj => by simp [List.getD, List.getElem?_append_left hj]
    rw [e1 k (by omega), e1 _ (by omega)]
    exact h k k0 (by omega)
  · intro _ k k0 kn hk; omega

/-- The top is popped: what is left. -/
def popL (lt : α → α → Bool) (d : α) (xs : List α) : List α := (downL lt d xs.length (swapL d xs 0 (xs.length - 1)) 0 (xs.length - 1)).take (xs.length - 1)

theorem length_popL (xs : List α) : (popL lt d xs).length = xs.length - 1 := by
  simp [popL, length_downL, length_swapL]

theorem last_downL {xs : List α} (h : 0 < xs.length) : (downL lt d xs.length (swapL d xs 0 (xs.length - 1)) 0 (xs.length - 1)).getD (xs.length - 1) d = xs.getD 0 d := by
  by_cases h1 : xs.length - 1 = 0
  · have e : xs.length = 1 := by omega
    rw [e]
    simp only [downL, Nat.sub_self, Nat.mul_zero, Nat.zero_add]
    rw [if_pos (by omega), getD_swapL _ _ _ _ h (by omega)]
    split <;> rfl
  · rw [tail_downL _ _ _ _ (by omega) (by rw [length_swapL]; omega) _ (Nat.le_refl _), getD_swapL _ _ _ _ h (by omega), if_pos rfl]

theorem perm_popL {xs : List α} (h : 0 < xs.length) : (xs.getD 0 d :: popL lt d xs).Perm xs := by
  have hp : (downL lt d xs.length (swapL d xs 0 (xs.length - 1)) 0 (xs.length - 1)).Perm xs :=
    (perm_downL _ _ _ _ (by rw [length_swapL]; exact h) (by rw [length_swapL]; omega)).trans (perm_swapL _ _ _ h (by omega))
  have hl := last_downL (lt := lt) (d := d) h
  have hlen : (downL lt d xs.length (swapL d xs 0 (xs.length - 1)) 0 (xs.length - 1)).length = xs.length := by rw [length_downL, length_swapL]
  have hcut := List.take_append_drop (xs.length - 1) (downL lt d xs.length (swapL d xs 0 (xs.length - 1)) 0 (xs.length - 1))
  have hd : (downL lt d xs.length (swapL d xs 0 (xs.length - 1)) 0 (xs.length - 1)).drop (xs.length - 1) = [xs.getD 0 d] := by
    rw [← hl]
    generalize (downL lt d xs.length (swapL d xs 0 (xs.length - 1)) 0 (xs.length - 1)) = ys at hlen ⊢
    have h2 : xs.length - 1 < ys.length := by omega
    rw [List.drop_eq_getElem_cons h2, List.drop_eq_nil_of_le (by omega)]
    simp [List.getD, h2]
  rw [hd] at hcut
  have : (popL lt d xs ++ [xs.getD 0 d]).Perm xs := by rw [popL, hcut]; exact hp
  exact (List.perm_append_comm (l₁ := [xs.getD 0 d]) (l₂ := popL lt d xs)).trans this

theorem heap_popL (ho : Ordered lt) {xs : List α} (h : heapN lt d xs xs.length) : heapN lt d (popL lt d xs) (popL lt d xs).length := by
  rw [length_popL]
  by_cases h1 : xs.length ≤ 1
  · intro k k0 kn; omega
  · have hh := heap_downL (d := d) ho xs.length (swapL d xs 0 (xs.length - 1)) 0 (xs.length - 1) (by omega) (by rw [length_swapL]; omega) (by omega) ?_ (fun h => absurd h (by decide))
    · intro k k0 kn
      have e1 : ∀ j, j < xs.length - 1 → (popL lt d xs).getD j d = (downL lt d xs.length (swapL d xs 0 (xs.length - 1)) 0 (xs.length - 1)).getD j d := fun j hj => by
        unfold popL
        simp [List.getD, List.getElem?_take, hj]
      rw [e1 k kn, e1 _ (by omega)]
      exact hh k k0 kn
    · intro k k0 kn hk
      rw [getD_swapL _ _ _ _ (by omega) (by omega), getD_swapL _ _ _ _ (by omega) (by omega), if_neg (by omega), if_neg (by omega), if_neg (by omega), if_neg hk]
      exact h k k0 (by omega)

/-- What is popped goes ahead of all that is left. -/
theorem pop_first (ho : Ordered lt) {xs : List α} (h : heapN lt d xs xs.length) (h0 : 0 < xs.length) : ∀ y ∈ popL lt d xs, lt y (xs.getD 0 d) = false := by
  intro y hy
  have hm : y ∈ xs := (perm_popL (lt := lt) (d := d) h0).mem_iff.1 (List.mem_cons_of_mem _ hy)
  obtain ⟨k, hk, rfl⟩ := List.mem_iff_getElem.1 hm
  have := heap_top ho h k hk
  simpa [List.getD, hk] using this

section
variable {β : Type} {lt' : β → β → Bool} {g : α → β}

theorem getD_map' (xs : List α) (k : Nat) : (xs.map g).getD k (g d) = g (xs.getD k d) := by
  simp [List.getD, List.getElem?_map]
theorem swapL_map (xs : List α) (i j : Nat) : swapL (g d) (xs.map g) i j = (swapL d xs i j).map g := by
  unfold swapL
  rw [getD_map', getD_map', List.map_set, List.map_set]
theorem upL_map (hg : ∀ a b, lt' (g a) (g b) = lt a b) : ∀ (n : Nat) (xs : List α) (j : Nat), upL lt' (g d) n (xs.map g) j = (upL lt d n xs j).map g
  | 0, _, _ => rfl
  | n + 1, xs, j => by
    unfold upL
    rw [getD_map', getD_map', hg, swapL_map, upL_map hg n]
    split
    · rfl
    · split <;> rfl
theorem kidL_map (hg : ∀ a b, lt' (g a) (g b) = lt a b) (xs : List α) (i n : Nat) : kidL lt' (g d) (xs.map g) i n = kidL lt d xs i n := by
  unfold kidL
  rw [getD_map', getD_map', hg]
theorem downL_map (hg : ∀ a b, lt' (g a) (g b) = lt a b) : ∀ (m : Nat) (xs : List α) (i n : Nat), downL lt' (g d) m (xs.map g) i n = (downL lt d m xs i n).map g
  | 0, _, _, _ => rfl
  | m + 1, xs, i, n => by
    unfold downL
    rw [kidL_map hg, getD_map', getD_map', hg, swapL_map, downL_map hg m]
    split
    · rfl
    · split <;> rfl
theorem pushL_map (hg : ∀ a b, lt' (g a) (g b) = lt a b) (xs : List α) (v : α) : pushL lt' (g d) (xs.map g) (g v) = (pushL lt d xs v).map g := by
  unfold pushL
  rw [← upL_map hg]
  simp
theorem popL_map (hg : ∀ a b, lt' (g a) (g b) = lt a b) (xs : List α) : popL lt' (g d) (xs.map g) = (popL lt d xs).map g := by
  unfold popL
  rw [List.length_map, swapL_map, downL_map hg, List.map_take]
end
end
end Go.Proofs.Ytjnkfgigpapeaaa
