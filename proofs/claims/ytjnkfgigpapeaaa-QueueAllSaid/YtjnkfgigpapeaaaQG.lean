/- Queues: what is alike for all elements: a pile's two entries, and the contracts over them. -/
import Derived.Test.YtjnkfgigpapeaaaAid
import Derived.Test.YtjnkfgigpapeaaaHp
namespace Go.Proofs.Ytjnkfgigpapeaaa
open Go Go.RowKit
set_option linter.unusedVariables false
set_option linter.unusedSimpArgs false
set_option linter.unnecessarySimpa false
universe u

theorem setN_nth {α : Type u} {l : List α} {i : Nat} {x : α} (h : nth l i = some x) : setN l i x = l := by
  rw [nth_eq] at h
  rw [setN_eq]
  exact List.ext_getElem? fun k => by
    rw [List.getElem?_set]
    split
    · rename_i e; subst e
      split
      · exact h.symm
      · rename_i hlt; exact absurd (List.getElem?_eq_some_iff.1 h).1 hlt
    · rfl

/-- The order of items: by their elements, those that are alike by their numbers. -/
def lessI {α : Type} (bef : α → α → Bool) (a b : α × Int) : Bool := bef a.1 b.1 || (!bef b.1 a.1 && decide (a.2 < b.2))

section
variable {α : Type} (TI : TypeId) (sz : Nat) (enc : α × Int → List SV) (d : α × Int)

/-- A pile's entries, alone. -/
abbrev qhG (b : Nat) (ao : Option Addr) (cap : Nat) (f : FuncId) (rest : List SV) (T : TypeId) (xs : List (α × Int)) : List Ent := [⟨.blk b, .cells (.vec 1 ao xs.length cap :: .func (.func f) [] [] :: rest) T⟩, ⟨.sl ao cap, .vecL TI sz enc xs d⟩]

/-- A pile among the entries. -/
abbrev onPile (hs : List Ent) (l b : Nat) (Φ : (l2 : Nat) → (ao : Option Addr) → (cap : Nat) → (f : FuncId) → (rest : List SV) → (T : TypeId) → (xs : List (α × Int)) → Prop) : Prop :=
  match nth hs l with
  | some ⟨.blk b', .cells (.vec l2 ao n cap :: .func (.func f) [] [] :: rest) T⟩ => match nth hs l2 with
    | some e => ∃ xs : List (α × Int), (e = ⟨.sl ao cap, .vecL TI sz enc xs d⟩ ∧ b' = b ∧ n = xs.length ∧ Nat.beq l l2 = false) ∧ Φ l2 ao cap f rest T xs
    | none => False
  | _ => False

/-- The entries with the pile changed. -/
abbrev setPile (hs : List Ent) (l l2 b : Nat) (ao : Option Addr) (cap : Nat) (f : FuncId) (rest : List SV) (T : TypeId) (xs : List (α × Int)) : List Ent :=
  setN (setN hs l ⟨.blk b, .cells (.vec l2 ao xs.length cap :: .func (.func f) [] [] :: rest) T⟩) l2 ⟨.sl ao cap, .vecL TI sz enc xs d⟩

theorem setPile_same {hs : List Ent} {l l2 b : Nat} {ao : Option Addr} {cap : Nat} {f : FuncId} {rest : List SV} {T : TypeId} {xs : List (α × Int)}
    (h1 : nth hs l = some ⟨.blk b, .cells (.vec l2 ao xs.length cap :: .func (.func f) [] [] :: rest) T⟩) (h2 : nth hs l2 = some ⟨.sl ao cap, .vecL TI sz enc xs d⟩) : setPile TI sz enc d hs l l2 b ao cap f rest T xs = hs := by
  unfold setPile
  rw [setN_nth h1, setN_nth h2]

/-- A contract over the two entries, among others. -/
theorem Spec.pile {P : Program} {fid : FuncId} {hs : List Ent} {args args' : List SV} {Post Post' : List Ent → SV → Prop} {l l2 b : Nat} {ao : Option Addr} {cap : Nat} {f : FuncId} {rest : List SV} {T : TypeId} {xs : List (α × Int)}
    (h1 : nth hs l = some ⟨.blk b, .cells (.vec l2 ao xs.length cap :: .func (.func f) [] [] :: rest) T⟩) (h2 : nth hs l2 = some ⟨.sl ao cap, .vecL TI sz enc xs d⟩) (hne : Nat.beq l l2 = false) (ha : denL args = denL args')
    (h : (xs.length ≤ cap → (0 < xs.length → ao = some ⟨Addr.blkD ao, Addr.offD ao, none⟩) → Spec P fid (qhG TI sz enc d b ao cap f rest T xs) args' Post'))
    (hpost : ∀ h' r, Post' h' r → ∃ xs' ao' cap' rest' r', (∀ W F w, Rep W F h' w → Rep W F (qhG TI sz enc d b ao' cap' f rest' T xs') w) ∧ den r = den r' ∧ Post (setPile TI sz enc d hs l l2 b ao' cap' f rest' T xs') r') : Spec P fid hs args Post := by
  have hne' : l ≠ l2 := by intro e; subst e; simp at hne
  have hpk : pickE hs [l, l2] = some [⟨.blk b, .cells (.vec l2 ao xs.length cap :: .func (.func f) [] [] :: rest) T⟩, ⟨.sl ao cap, .vecL TI sz enc xs d⟩] := by simp [pickE, h1, h2]
  refine Spec.know (p := xs.length ≤ cap ∧ (0 < xs.length → ao = some ⟨Addr.blkD ao, Addr.offD ao, none⟩)) (fun W F w hr => ⟨(hr.vec h2).2.1, (hr.vec h2).2.2.1⟩) fun hk => ?_
  have hin : ∀ W F w, Rep W F [⟨.blk b, .cells (.vec l2 ao xs.length cap :: .func (.func f) [] [] :: rest) T⟩, ⟨.sl ao cap, .vecL TI sz enc xs d⟩] w → Rep W F (qhG TI sz enc d b ao cap f rest T xs) w := fun W F w hr =>
    Rep.cellsEq (l := 0) (cs' := .vec 1 ao xs.length cap :: .func (.func f) [] [] :: rest) rfl (by rfl) hr
  have h0 : Spec P fid [⟨.blk b, .cells (.vec l2 ao xs.length cap :: .func (.func f) [] [] :: rest) T⟩, ⟨.sl ao cap, .vecL TI sz enc xs d⟩] args' Post' := fun W F w hr => h hk.1 hk.2 W F w (hin W F w hr)
  refine Spec.at [l, l2] (by simp [distinct, hne']) hpk (h0.weaken (Post' := fun h' r => ∃ xs' ao' cap' rest', h' = [⟨.blk b, .cells (.vec l2 ao' xs'.length cap' :: .func (.func f) [] [] :: rest') T⟩, ⟨.sl ao' cap', .vecL TI sz enc xs' d⟩] ∧ Post (setPile TI sz enc d hs l l2 b ao' cap' f rest' T xs') r) ?_) ha ?_
  · intro h' r hp
    obtain ⟨xs', ao', cap', rest', r', g1, g2, g3⟩ := hpost h' r hp
    refine ⟨_, r', fun W F w hr => ?_, g2, xs', ao', cap', rest', rfl, g3⟩
    exact Rep.cellsEq (l := 0) (cs' := .vec l2 ao' xs'.length cap' :: .func (.func f) [] [] :: rest') rfl (by rfl) (g1 W F w hr)
  · rintro h' r ⟨xs', ao', cap', rest', rfl, g3⟩
    refine ⟨Nat.le_refl _, r, rfl, ?_⟩
    have e : putBack [l, l2] hs [⟨.blk b, .cells (.vec l2 ao' xs'.length cap' :: .func (.func f) [] [] :: rest') T⟩, ⟨.sl ao' cap', .vecL TI sz enc xs' d⟩] = setPile TI sz enc d hs l l2 b ao' cap' f rest' T xs' := by
      simp [putBack, appE_eq]
    rw [e]; exact g3

/-- Less. -/
def lessC (R : FuncId → (α → α → Bool) → Prop) : Ctr := fun args hs N => match args with
  | [.ptr l b 0, .int k i, .int k' j] => onPile TI sz enc d hs l b fun l2 ao cap f rest T xs => (k = .i64 ∧ k' = .i64 ∧ 0 ≤ i ∧ i < xs.length ∧ 0 ≤ j ∧ j < xs.length) ∧ ∃ bef, R f bef ∧ N hs (.bool (lessI bef (xs.getD i.toNat d) (xs.getD j.toNat d)))
  | _ => False
/-- Swap. -/
def swapC : Ctr := fun args hs N => match args with
  | [.ptr l b 0, .int k i, .int k' j] => onPile TI sz enc d hs l b fun l2 ao cap f rest T xs => (k = .i64 ∧ k' = .i64 ∧ 0 ≤ i ∧ i < xs.length ∧ 0 ≤ j ∧ j < xs.length) ∧ N (setPile TI sz enc d hs l l2 b ao cap f rest T (swapL d xs i.toNat j.toNat)) (.tuple [])
  | _ => False
/-- A pile's Push. -/
def ppushC (bytes : Nat) : Ctr := fun args hs N => match args with
  | [.ptr l b 0, .iface t (.agg cs)] => onPile TI sz enc d hs l b fun l2 ao cap f rest T xs => ∃ x, (t = TI ∧ enc x = cs ∧ (xs.length + 1) * bytes ≤ 140737488355328 ∧ xs.length + 1 ≤ 9223372036854775807) ∧ ∀ ao2 cap2, N (setPile TI sz enc d hs l l2 b ao2 cap2 f rest T (xs ++ [x])) (.tuple [])
  | _ => False
/-- A pile's Pop. -/
def ppopC : Ctr := fun args hs N => match args with
  | [.ptr l b 0] => onPile TI sz enc d hs l b fun l2 ao cap f rest T xs => (0 < xs.length ∧ xs.length ≤ 9223372036854775807) ∧ N (setPile TI sz enc d hs l l2 b ao cap f rest T (xs.take (xs.length - 1))) (.iface TI (.agg (enc (xs.getD (xs.length - 1) d))))
  | _ => False
/-- container/heap's up. -/
def upC (TP : TypeId) (R : FuncId → (α → α → Bool) → Prop) : Ctr := fun args hs N => match args with
  | [.iface t (.ptr l b 0), .int k j] => onPile TI sz enc d hs l b fun l2 ao cap f rest T xs => (t = TP ∧ k = .i64 ∧ 0 ≤ j ∧ j < xs.length ∧ xs.length ≤ 2305843009213693952) ∧ ∃ bef, R f bef ∧ N (setPile TI sz enc d hs l l2 b ao cap f rest T (upL (lessI bef) d j.toNat xs j.toNat)) (.tuple [])
  | _ => False
/-- container/heap's down. -/
def downC (TP : TypeId) (R : FuncId → (α → α → Bool) → Prop) : Ctr := fun args hs N => match args with
  | [.iface t (.ptr l b 0), .int k i, .int k' n] => onPile TI sz enc d hs l b fun l2 ao cap f rest T xs => (t = TP ∧ k = .i64 ∧ k' = .i64 ∧ i = 0 ∧ 0 ≤ n ∧ n ≤ xs.length ∧ xs.length ≤ 2305843009213693952) ∧ ∃ bef, R f bef ∧ ∀ bb, N (setPile TI sz enc d hs l l2 b ao cap f rest T (downL (lessI bef) d xs.length xs 0 n.toNat)) (.bool bb)
  | _ => False
/-- container/heap's Push. -/
def hpushC (TP : TypeId) (bytes : Nat) (R : FuncId → (α → α → Bool) → Prop) : Ctr := fun args hs N => match args with
  | [.iface t (.ptr l b 0), .iface t' (.agg cs)] => onPile TI sz enc d hs l b fun l2 ao cap f rest T xs => ∃ x, (t = TP ∧ t' = TI ∧ enc x = cs ∧ (xs.length + 1) * bytes ≤ 140737488355328 ∧ xs.length < 2305843009213693952) ∧ ∃ bef, R f bef ∧ ∀ ao2 cap2, N (setPile TI sz enc d hs l l2 b ao2 cap2 f rest T (pushL (lessI bef) d xs x)) (.tuple [])
  | _ => False
/-- container/heap's Pop. -/
def hpopC (TP : TypeId) (R : FuncId → (α → α → Bool) → Prop) : Ctr := fun args hs N => match args with
  | [.iface t (.ptr l b 0)] => onPile TI sz enc d hs l b fun l2 ao cap f rest T xs => (t = TP ∧ 0 < xs.length ∧ xs.length ≤ 2305843009213693952) ∧ ∃ bef, R f bef ∧ N (setPile TI sz enc d hs l l2 b ao cap f rest T (popL (lessI bef) d xs)) (.iface TI (.agg (enc (xs.getD 0 d))))
  | _ => False
end

section
variable {W w : World} {F : List Ch}
/-- A slice's first k elements alone. -/
theorem Rep.trim {h : List Ent} {l cap sz k : Nat} {ao : Option Addr} {α : Type} {enc : α → List SV} {xs : List α} {d : α} {T : TypeId} (hl : nth h l = some ⟨.sl ao cap, .vecL T sz enc xs d⟩) (hk : k ≤ xs.length) (hr : Rep W F h w) :
    Rep W F (setN h l ⟨.sl ao cap, .vecL T sz enc (xs.take k) d⟩) w := by
  obtain ⟨c, L, ⟨⟨h1, h2, h3⟩, hel⟩, hH, hput⟩ := hr.get hl
  have hfl : flatV enc (xs.take k) = (flatV enc xs).take (k * sz) := by
    have e1 : flatV enc (xs.take k) ++ flatV enc (xs.drop k) = flatV enc xs := by
      unfold flatV
      rw [← List.flatMap_append, List.take_append_drop]
    have e2 : (flatV enc (xs.take k)).length = k * sz := by rw [length_flatV hel, List.length_take, Nat.min_eq_left hk]
    rw [← e1, ← e2, List.take_left]
  refine hput _ c w ⟨⟨?_, ?_, ?_⟩, hel⟩ hH
  · rw [length_flatV hel]
  · simp only [List.length_take]; omega
  · rcases h3 with ⟨rfl, rfl, rfl⟩ | ⟨g, off, cur, rfl, rfl, hs, ht⟩
    · exact .inl ⟨rfl, rfl, rfl⟩
    · refine .inr ⟨g, off, cur, rfl, rfl, hs, ?_⟩
      rw [hfl, ← ht, List.take_take]
      congr 1
      simp only [List.length_take]
      rw [Nat.min_eq_left hk]
      exact (Nat.min_eq_left (Nat.mul_le_mul_right _ hk)).symm
end

/-- A slice cut at its end. -/
theorem den_trim (l : Nat) {ao : Option Addr} (cap sz k : Nat) (ha : ao = some ⟨Addr.blkD ao, Addr.offD ao, none⟩) : den (.sub l ao cap sz 0 k) = den (.vec l ao k cap) := by
  rw [ha]
  simp only [den, Nat.sub_zero, Nat.zero_mul, Option.map_some]
  rw [Addr.add_mid']
  split <;> rfl
end Go.Proofs.Ytjnkfgigpapeaaa
