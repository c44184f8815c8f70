/- The first place of a row at which something holds. -/
import Derived.Test.YtihajdkipkfiiaaAdt
namespace Go.Proofs.Ytihajdkipkfiiaa
open Go Go.RowKit
set_option linter.unusedVariables false
set_option linter.unusedSimpArgs false

/-- The first place from i on at which p holds, or -1. -/
def fIdx {α : Type} (p : α → Bool) : List α → Nat → Int
  | [], _ => -1
  | x :: l, i => match p x with
    | true => (i : Int)
    | false => fIdx p l (i + 1)
theorem fIdx_drop {α : Type} (p : α → Bool) (d : α) (xs : List α) (i : Nat) (h : i < xs.length) : fIdx p (xs.drop i) i = match p (xs.getD i d) with | true => (i : Int) | false => fIdx p (xs.drop (i + 1)) (i + 1) := by
  have e : xs.drop i = xs.getD i d :: xs.drop (i + 1) := by
    rw [List.drop_eq_getElem_cons h]
    simp [List.getD, h]
  rw [e]
  rfl
theorem fIdx_none {α : Type} (p : α → Bool) : ∀ (xs : List α) (i : Nat), (∀ x ∈ xs, p x = false) → fIdx p xs i = -1
  | [], _, _ => rfl
  | x :: l, i, h => by
    simp only [fIdx, h x List.mem_cons_self]
    exact fIdx_none p l (i + 1) fun y hy => h y (List.mem_cons_of_mem _ hy)
theorem fIdx_split {α : Type} (p : α → Bool) (x : α) (l2 : List α) (hx : p x = true) : ∀ (l1 : List α) (i : Nat), (∀ y ∈ l1, p y = false) → fIdx p (l1 ++ x :: l2) i = ((i + l1.length : Nat) : Int)
  | [], i, _ => by simp [fIdx, hx]
  | y :: l1, i, h => by
    simp only [List.cons_append, fIdx, h y List.mem_cons_self]
    rw [fIdx_split p x l2 hx l1 (i + 1) fun z hz => h z (List.mem_cons_of_mem _ hz)]
    simp only [List.length_cons]
    congr 1
    omega
theorem setN_selfR {α : Type 1} {l : Nat} {v : α} : ∀ {h : List α}, nth h l = some v → setN h l v = h := by
  induction l with
  | zero => intro h hl; cases h <;> simp [nth, setN] at hl ⊢; exact hl.symm
  | succ l ih => intro h hl; cases h <;> simp [nth, setN] at hl ⊢; exact ih hl
theorem getD_mid {α : Type} (l1 : List α) (x : α) (l2 : List α) (d : α) : (l1 ++ x :: l2).getD l1.length d = x := by simp [List.getD]
theorem set_mid {α : Type} (l1 : List α) (x y : α) (l2 : List α) : (l1 ++ x :: l2).set l1.length y = l1 ++ y :: l2 := by simp
theorem drop_mid {α : Type} (l1 : List α) (x : α) (l2 : List α) : (l1 ++ x :: l2).drop (l1.length + 1) = l2 := by
  rw [List.drop_append]
  simp
theorem take_mid {α : Type} (l1 : List α) (x : α) (l2 : List α) : (l1 ++ x :: l2).take l1.length = l1 := by simp
theorem set_sameR {α : Type} {xs : List α} {i : Nat} {d : α} (h : i < xs.length) : xs.set i (xs.getD i d) = xs := by
  refine List.ext_getElem? fun j => ?_
  rw [List.getElem?_set]
  split
  · rename_i e; subst e
    simp [List.getD, h]
  · rfl
end Go.Proofs.Ytihajdkipkfiiaa
