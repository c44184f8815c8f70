/- GroupNotes: what its calls do to the groups. -/
import Derived.Test.YtjnkfgigpapeaaaGnC
import Derived.Test.YtjnkfgigpapeaaaGrp2
namespace Go.Proofs.Ytjnkfgigpapeaaa
open Go Go.RowKit
set_option linter.unusedVariables false
set_option linter.unusedSimpArgs false
set_option linter.unnecessarySimpa false

def nm (k : Nat) : ByteArray := names8.extract k (k + 1)
theorem nm_all : ∀ i : _root_.Fin 8, ∀ j : _root_.Fin 8, keyEq (.s (nm i.1)) (.s (nm j.1)) = decide (i.1 = j.1) ∧ sEq (nm i.1) (nm j.1) = decide (i.1 = j.1) ∧ sEq (nm i.1) ⟨#[]⟩ = false := by decide +kernel
theorem nm_key {i j : Nat} (hi : i < 8) (hj : j < 8) : keyEq (.s (nm i)) (.s (nm j)) = decide (i = j) := (nm_all ⟨i, hi⟩ ⟨j, hj⟩).1
theorem nm_eq {i j : Nat} (hi : i < 8) (hj : j < 8) : sEq (nm i) (nm j) = decide (i = j) := (nm_all ⟨i, hi⟩ ⟨j, hj⟩).2.1
theorem nm_ne {i : Nat} (hi : i < 8) : sEq (nm i) ⟨#[]⟩ = false := (nm_all ⟨i, hi⟩ ⟨i, hi⟩).2.2
theorem key_int (a b : Int) : keyEq (.i .i64 a) (.i .i64 b) = decide (a = b) := by rw [Bool.eq_iff_iff]; simp [keyEq]

/-- What stands in the groups: n were made; seen: those that became empty, in order. -/
structure GI (s : Grp) (n : Nat) (ag rm : Nat → Bool) (seen : List Nat) : Prop where
  gk : keysOk s.gs
  g : ∀ k : Nat, k < 8 → ∃ nb, mget s.gs (.s (nm k)) = if k < n then (if k ∈ seen then (if ag k then some (nb, [(Key.i .i64 ((k : Int) + 20), ())]) else if rm k then none else some (nb, [])) else some (nb, [(Key.i .i64 ((k : Int) + 2), ())])) else none
  ok : keysOk s.of
  o2 : ∀ k : Nat, k < 8 → mget s.of (.i .i64 ((k : Int) + 2)) = if k < n ∧ k ∉ seen then some (nm k) else none
  o20 : ∀ k : Nat, k < 8 → mget s.of (.i .i64 ((k : Int) + 20)) = if k ∈ seen ∧ ag k then some (nm k) else none
  nt : s.notes = (seen.filter fun k => ag k || !rm k).map nm
  nd : seen.Nodup
  lt : ∀ k ∈ seen, k < n
  n8 : n ≤ 8

section
variable {s : Grp} {n : Nat} {ag rm : Nat → Bool} {seen : List Nat}
theorem nodup_len : ∀ (n : Nat) (l : List Nat), l.Nodup → (∀ x ∈ l, x < n) → l.length ≤ n
  | 0, l, _, h => by
    cases l with
    | nil => simp
    | cons x l => have := h x List.mem_cons_self; omega
  | n + 1, l, hd, h => by
    by_cases hn : n ∈ l
    · have h1 := nodup_len n (l.erase n) (hd.erase n) fun x hx => by
        have h2 := (List.Nodup.mem_erase_iff hd).1 hx
        have := h x h2.2
        omega
      rw [List.length_erase_of_mem hn] at h1
      omega
    · have := nodup_len n l hd fun x hx => by
        have h1 := h x hx
        have : x ≠ n := fun e => hn (e ▸ hx)
        omega
      omega
theorem GI.short (h : GI s n ag rm seen) : seen.length ≤ 8 := nodup_len 8 seen h.nd fun k hk => by
  have := h.lt k hk; have := h.n8
  omega
theorem GI.notes_le (h : GI s n ag rm seen) : s.notes.length ≤ 8 := by
  rw [h.nt, List.length_map]
  exact Nat.le_trans (List.length_filter_le _ _) h.short
theorem GI.okp (h : GI s n ag rm seen) {k : Nat} (hk : k < 8) : gOk s ((k : Int) + 2) ∧ gOk s ((k : Int) + 20) := by
  have hl := h.notes_le
  obtain ⟨nb, hg⟩ := h.g k hk
  refine ⟨⟨by omega, fun m hm => ?_⟩, by omega, fun m hm => ?_⟩
  · rw [h.o2 k hk] at hm
    split at hm
    · rename_i hc
      cases hm
      rw [if_pos hc.1, if_neg hc.2] at hg
      exact ⟨_, hg⟩
    · cases hm
  · rw [h.o20 k hk] at hm
    split at hm
    · rename_i hc
      cases hm
      have := h.lt k hc.1
      rw [if_pos this, if_pos hc.1, if_pos hc.2] at hg
      exact ⟨_, hg⟩
    · cases hm

/-- A group is made, with its first process. -/
theorem GI.make (h : GI s n ag rm []) (hn : n < 8) (nb : Nat) : (gMake s (nm n) nb).2 = 0 ∧ gOk (gMake s (nm n) nb).1 ((n : Int) + 2) ∧ keysOk (gMake s (nm n) nb).1.gs ∧
    ∀ ao cap, (gPut (gMake s (nm n) nb).1 ((n : Int) + 2) (nm n) ao cap).2 = 0 ∧ GI (gPut (gMake s (nm n) nb).1 ((n : Int) + 2) (nm n) ao cap).1 (n + 1) ag rm [] := by
  have hl := h.notes_le
  obtain ⟨nb0, hg⟩ := h.g n hn
  rw [if_neg (by omega)] at hg
  have ho := h.o2 n hn
  rw [if_neg (by omega)] at ho
  have e1 : gMake s (nm n) nb = ({ s with gs := mset s.gs (.s (nm n)) (nb, []) }, 0) := by simp only [gMake, nm_ne hn, hg]
  rw [e1]
  have hd : decide (((n : Int) + 2) < 2) = false := by simp; omega
  refine ⟨rfl, ⟨by dsimp only; omega, fun m hm => by dsimp only at hm; rw [ho] at hm; cases hm⟩, keysOk_mset h.gk, fun ao cap => ?_⟩
  have e2 : gPut { s with gs := mset s.gs (.s (nm n)) (nb, []) } ((n : Int) + 2) (nm n) ao cap = ({ s with gs := mset (mset s.gs (.s (nm n)) (nb, [])) (.s (nm n)) (nb, [(Key.i .i64 ((n : Int) + 2), ())]), of := mset s.of (.i .i64 ((n : Int) + 2)) (nm n) }, 0) := by
    simp only [gPut, mget_mset (keyEq_self _), hd, mget, gGone, ho, mset]
  rw [e2]
  refine ⟨rfl, keysOk_mset (keysOk_mset h.gk), fun k hk => ?_, keysOk_mset h.ok, fun k hk => ?_, fun k hk => ?_, h.nt, h.nd, fun k hk => absurd hk List.not_mem_nil, by omega⟩
  · by_cases hkn : k = n
    · subst hkn
      exact ⟨nb, by rw [mget_mset (keyEq_self _), if_pos (by omega), if_neg List.not_mem_nil]⟩
    · obtain ⟨nb1, h1⟩ := h.g k hk
      have hq : keyEq (.s (nm k)) (.s (nm n)) = false := by rw [nm_key hk hn]; simp [hkn]
      refine ⟨nb1, ?_⟩
      rw [mget_mset_ne hq, mget_mset_ne hq, h1]
      by_cases hlt : k < n
      · rw [if_pos hlt, if_neg List.not_mem_nil, if_pos (show k < n + 1 by omega)]
      · rw [if_neg hlt, if_neg (show ¬ k < n + 1 by omega)]
  · by_cases hkn : k = n
    · subst hkn
      rw [mget_mset (keyEq_self _), if_pos ⟨by omega, List.not_mem_nil⟩]
    · rw [mget_mset_ne (by rw [key_int]; simp; omega), h.o2 k hk]
      by_cases hlt : k < n
      · rw [if_pos ⟨hlt, List.not_mem_nil⟩, if_pos ⟨by omega, List.not_mem_nil⟩]
      · rw [if_neg (fun h => hlt h.1), if_neg (fun h => by have := h.1; omega)]
  · rw [mget_mset_ne (by rw [key_int]; simp; omega), h.o20 k hk]

/-- What a group's end comes to. -/
theorem GI.gone (h : GI s 8 ag rm seen) {k : Nat} (hk : k < 8) (hs : k ∉ seen) : ∃ nb, ∀ ao cap, gGone s ((k : Int) + 2) ao cap = ({ s with of := mdel s.of (.i .i64 ((k : Int) + 2)), gs := mset s.gs (.s (nm k)) (nb, []), notes := s.notes ++ [nm k], ao := ao, cap := cap }, true) := by
  obtain ⟨nb, hg⟩ := h.g k hk
  rw [if_pos hk, if_neg hs] at hg
  have ho := h.o2 k hk
  rw [if_pos ⟨hk, hs⟩] at ho
  refine ⟨nb, fun ao cap => ?_⟩
  have hd : mdel [(Key.i .i64 ((k : Int) + 2), ())] (.i .i64 ((k : Int) + 2)) = [] := by simp [mdel, keyEq]
  have hno : idxFrom (sEq (nm k)) s.notes 0 = -1 := by
    rw [idxFrom_none _ _ _ (by omega), h.nt]
    intro x hx
    obtain ⟨j, hj, rfl⟩ := List.mem_map.1 hx
    have hj := (List.mem_filter.1 hj).1
    rw [nm_eq hk (h.lt j hj)]
    simp
    rintro rfl
    exact hs hj
  simp only [gGone, ho, hg, hd, hno]
  rfl

theorem GI.step (h : GI s 8 ag rm seen) {k : Nat} (hk : k < 8) (hs : k ∉ seen) {s2 : Grp} (x : Option GSet) (h1 : keysOk s2.gs) (h2 : ∀ j : Nat, j < 8 → mget s2.gs (.s (nm j)) = if j = k then x else mget s.gs (.s (nm j)))
    (hx : ∃ nb, x = if ag k then some (nb, [(Key.i .i64 ((k : Int) + 20), ())]) else if rm k then none else some (nb, [])) (h3 : keysOk s2.of) (h4 : ∀ j : Nat, j < 8 → mget s2.of (.i .i64 ((j : Int) + 2)) = if j = k then none else mget s.of (.i .i64 ((j : Int) + 2)))
    (h5 : ∀ j : Nat, j < 8 → mget s2.of (.i .i64 ((j : Int) + 20)) = if j = k then (if ag k then some (nm k) else none) else mget s.of (.i .i64 ((j : Int) + 20)))
    (h6 : s2.notes = s.notes ++ if ag k || !rm k then [nm k] else []) : GI s2 8 ag rm (seen ++ [k]) := by
  refine ⟨h1, fun j hj => ?_, h3, fun j hj => ?_, fun j hj => ?_, ?_, ?_, ?_, Nat.le_refl _⟩
  · rw [h2 j hj]
    by_cases hjk : j = k
    · subst hjk
      obtain ⟨nb, rfl⟩ := hx
      exact ⟨nb, by rw [if_pos rfl, if_pos hj, if_pos (show j ∈ seen ++ [j] by simp)]⟩
    · obtain ⟨nb, hg⟩ := h.g j hj
      refine ⟨nb, ?_⟩
      rw [if_neg hjk, hg]
      have : j ∈ seen ++ [k] ↔ j ∈ seen := by simp [hjk]
      simp only [this]
  · rw [h4 j hj]
    by_cases hjk : j = k
    · subst hjk; rw [if_pos rfl, if_neg (fun hc => hc.2 (by simp))]
    · rw [if_neg hjk, h.o2 j hj]
      have : j ∈ seen ++ [k] ↔ j ∈ seen := by simp [hjk]
      simp only [this]
  · rw [h5 j hj]
    by_cases hjk : j = k
    · subst hjk; rw [if_pos rfl]; simp
    · rw [if_neg hjk, h.o20 j hj]
      have : j ∈ seen ++ [k] ↔ j ∈ seen := by simp [hjk]
      simp only [this]
  · rw [h6, h.nt, List.filter_append, List.map_append]
    congr 1
    cases hq : (ag k || !rm k) <;> simp [List.filter_cons, hq]
  · rw [List.nodup_append]
    refine ⟨h.nd, by simp, fun a ha b hb => ?_⟩
    simp only [List.mem_singleton] at hb
    subst hb
    rintro rfl
    exact hs ha
  · intro j hj
    rcases List.mem_append.1 hj with hj | hj
    · exact h.lt j hj
    · simp only [List.mem_singleton] at hj; omega

theorem mget_nm {β : Type} {es : List (Key × β)} {k j : Nat} (hk : k < 8) (hj : j < 8) (u : β) : mget (mset es (.s (nm k)) u) (.s (nm j)) = if j = k then some u else mget es (.s (nm j)) := by
  by_cases hjk : j = k
  · subst hjk; rw [if_pos rfl, mget_mset (keyEq_self _)]
  · rw [if_neg hjk, mget_mset_ne (by rw [nm_key hj hk]; simp [hjk])]
theorem mget_pid {es : List (Key × ByteArray)} (h : keysOk es) (a b : Int) : mget (mdel es (.i .i64 a)) (.i .i64 b) = if b = a then none else mget es (.i .i64 b) := by
  by_cases hab : b = a
  · subst hab; rw [if_pos rfl, mget_mdel h]
  · rw [if_neg hab, mget_mdel_ne (by rw [key_int]; simp [hab])]

/-- The group becomes empty, and nothing else happens. -/
theorem GI.plain (h : GI s 8 ag rm seen) {k : Nat} (hk : k < 8) (hs : k ∉ seen) (ha : ag k = false) (hr : rm k = false) (ao : Option Addr) (cap : Nat) : (gGone s ((k : Int) + 2) ao cap).2 = true ∧ GI (gGone s ((k : Int) + 2) ao cap).1 8 ag rm (seen ++ [k]) := by
  obtain ⟨nb, hg⟩ := h.gone hk hs
  rw [hg]
  refine ⟨rfl, h.step hk hs (some (nb, [])) (keysOk_mset h.gk) (fun j hj => mget_nm hk hj _) ⟨nb, by rw [if_neg (by simp [ha]), if_neg (by simp [hr])]⟩ (keysOk_mdel h.ok) (fun j hj => ?_) (fun j hj => ?_) (by simp [ha, hr])⟩
  · dsimp only
    rw [mget_pid h.ok]
    by_cases hjk : j = k
    · subst hjk; simp
    · rw [if_neg (by omega), if_neg hjk]
  · dsimp only
    rw [mget_pid h.ok, if_neg (by omega)]
    by_cases hjk : j = k
    · subst hjk; rw [if_pos rfl, if_neg (by simp [ha]), h.o20 j hj, if_neg (fun hc => hs hc.1)]
    · rw [if_neg hjk]

/-- The group becomes empty and is removed. -/
theorem GI.remove (h : GI s 8 ag rm seen) {k : Nat} (hk : k < 8) (hs : k ∉ seen) (ha : ag k = false) (hr : rm k = true) (ao : Option Addr) (cap : Nat) : (gGone s ((k : Int) + 2) ao cap).2 = true ∧ (gGone s ((k : Int) + 2) ao cap).1.notes.length ≤ 100000000 ∧ (gRemove (gGone s ((k : Int) + 2) ao cap).1 (nm k)).2 = 0 ∧
    GI (gRemove (gGone s ((k : Int) + 2) ao cap).1 (nm k)).1 8 ag rm (seen ++ [k]) := by
  obtain ⟨nb, hg⟩ := h.gone hk hs
  have hl := h.notes_le
  rw [hg]
  have e : gRemove { s with of := mdel s.of (.i .i64 ((k : Int) + 2)), gs := mset s.gs (.s (nm k)) (nb, []), notes := s.notes ++ [nm k], ao := ao, cap := cap } (nm k) = ({ s with of := mdel s.of (.i .i64 ((k : Int) + 2)), gs := mdel (mset s.gs (.s (nm k)) (nb, [])) (.s (nm k)), notes := (s.notes ++ [nm k]).filter fun x => !sEq x (nm k), ao := ao, cap := cap }, 0) := by
    simp only [gRemove, mget_mset (keyEq_self _)]
    rfl
  have hf : s.notes.filter (fun x => !sEq x (nm k)) = s.notes := by
    refine List.filter_eq_self.2 fun x hx => ?_
    rw [h.nt] at hx
    obtain ⟨j, hj, rfl⟩ := List.mem_map.1 hx
    have hj := (List.mem_filter.1 hj).1
    rw [nm_eq (h.lt j hj) hk]
    simp
    rintro rfl
    exact hs hj
  refine ⟨rfl, by simp; omega, by rw [e], ?_⟩
  rw [e]
  refine h.step hk hs none (keysOk_mdel (keysOk_mset h.gk)) (fun j hj => ?_) ⟨nb, by rw [if_neg (by simp [ha]), if_pos hr]⟩ (keysOk_mdel h.ok) (fun j hj => ?_) (fun j hj => ?_) ?_
  · dsimp only
    by_cases hjk : j = k
    · subst hjk; rw [if_pos rfl, mget_mdel (keysOk_mset h.gk)]
    · rw [if_neg hjk, mget_mdel_ne (by rw [nm_key hj hk]; simp [hjk]), mget_nm hk hj, if_neg hjk]
  · dsimp only
    rw [mget_pid h.ok]
    by_cases hjk : j = k
    · subst hjk; simp
    · rw [if_neg (by omega), if_neg hjk]
  · dsimp only
    rw [mget_pid h.ok, if_neg (by omega)]
    by_cases hjk : j = k
    · subst hjk; rw [if_pos rfl, if_neg (by simp [ha]), h.o20 j hj, if_neg (fun hc => hs hc.1)]
    · rw [if_neg hjk]
  · dsimp only
    rw [List.filter_append, hf, ha, hr]
    have : sEq (nm k) (nm k) = true := by rw [nm_eq hk hk]; simp
    simp [List.filter_cons, this]

/-- The group becomes empty and has a member again; it can't be removed. -/
theorem GI.again (h : GI s 8 ag rm seen) {k : Nat} (hk : k < 8) (hs : k ∉ seen) (ha : ag k = true) (ao : Option Addr) (cap : Nat) : (gGone s ((k : Int) + 2) ao cap).2 = true ∧ gOk (gGone s ((k : Int) + 2) ao cap).1 ((k : Int) + 20) ∧ keysOk (gGone s ((k : Int) + 2) ao cap).1.gs ∧
    ∀ ao' cap', (gPut (gGone s ((k : Int) + 2) ao cap).1 ((k : Int) + 20) (nm k) ao' cap').2 = 0 ∧ (gPut (gGone s ((k : Int) + 2) ao cap).1 ((k : Int) + 20) (nm k) ao' cap').1.notes.length ≤ 100000000 ∧
      (gRemove (gPut (gGone s ((k : Int) + 2) ao cap).1 ((k : Int) + 20) (nm k) ao' cap').1 (nm k)).2 = 91 ∧
      GI (gRemove (gPut (gGone s ((k : Int) + 2) ao cap).1 ((k : Int) + 20) (nm k) ao' cap').1 (nm k)).1 8 ag rm (seen ++ [k]) := by
  obtain ⟨nb, hg⟩ := h.gone hk hs
  have hl := h.notes_le
  rw [hg]
  have ho : mget (mdel s.of (.i .i64 ((k : Int) + 2))) (.i .i64 ((k : Int) + 20)) = none := by
    rw [mget_pid h.ok, if_neg (by omega), h.o20 k hk, if_neg (fun hc => hs hc.1)]
  refine ⟨rfl, ⟨by simp; omega, fun m hm => by dsimp only at hm; rw [ho] at hm; cases hm⟩, keysOk_mset h.gk, fun ao' cap' => ?_⟩
  have hd : decide (((k : Int) + 20) < 2) = false := by simp; omega
  have e : gPut { s with of := mdel s.of (.i .i64 ((k : Int) + 2)), gs := mset s.gs (.s (nm k)) (nb, []), notes := s.notes ++ [nm k], ao := ao, cap := cap } ((k : Int) + 20) (nm k) ao' cap' = ({ s with of := mset (mdel s.of (.i .i64 ((k : Int) + 2))) (.i .i64 ((k : Int) + 20)) (nm k), gs := mset (mset s.gs (.s (nm k)) (nb, [])) (.s (nm k)) (nb, [(Key.i .i64 ((k : Int) + 20), ())]), notes := s.notes ++ [nm k], ao := ao, cap := cap }, 0) := by
    simp only [gPut, mget_mset (keyEq_self _), hd, mget, gGone, ho, mset]
  rw [e]
  have e2 : gRemove { s with of := mset (mdel s.of (.i .i64 ((k : Int) + 2))) (.i .i64 ((k : Int) + 20)) (nm k), gs := mset (mset s.gs (.s (nm k)) (nb, [])) (.s (nm k)) (nb, [(Key.i .i64 ((k : Int) + 20), ())]), notes := s.notes ++ [nm k], ao := ao, cap := cap } (nm k) = ({ s with of := mset (mdel s.of (.i .i64 ((k : Int) + 2))) (.i .i64 ((k : Int) + 20)) (nm k), gs := mset (mset s.gs (.s (nm k)) (nb, [])) (.s (nm k)) (nb, [(Key.i .i64 ((k : Int) + 20), ())]), notes := s.notes ++ [nm k], ao := ao, cap := cap }, 91) := by
    simp only [gRemove, mget_mset (keyEq_self _)]
    rfl
  refine ⟨rfl, by simp; omega, by rw [e2], ?_⟩
  rw [e2]
  refine h.step hk hs (some (nb, [(Key.i .i64 ((k : Int) + 20), ())])) (keysOk_mset (keysOk_mset h.gk)) (fun j hj => ?_) ⟨nb, by rw [if_pos ha]⟩ (keysOk_mset (keysOk_mdel h.ok)) (fun j hj => ?_) (fun j hj => ?_) (by simp [ha])
  · dsimp only
    rw [mget_nm hk hj]
    by_cases hjk : j = k
    · rw [if_pos hjk, if_pos hjk]
    · rw [if_neg hjk, if_neg hjk, mget_nm hk hj, if_neg hjk]
  · dsimp only
    rw [mget_mset_ne (by rw [key_int]; simp; omega), mget_pid h.ok]
    by_cases hjk : j = k
    · subst hjk; simp
    · rw [if_neg (by omega), if_neg hjk]
  · dsimp only
    by_cases hjk : j = k
    · subst hjk; rw [mget_mset (keyEq_self _), if_pos rfl, if_pos ha]
    · rw [mget_mset_ne (by rw [key_int]; simp; omega), mget_pid h.ok, if_neg (by omega), if_neg hjk]
end

/-- What is told of the notes that are left. -/
theorem firstEmpty_rest {s : Grp} {ag rm : Nat → Bool} {seen : List Nat} (h : GI s 8 ag rm seen) : ∀ (rem : List Nat), (∀ k ∈ rem, k ∈ seen ∧ (ag k || !rm k) = true) →
    firstEmpty s.gs (rem.map nm) = match rem.dropWhile ag with
      | [] => ([], none)
      | k :: l => (l.map nm, some (nm k))
  | [], _ => rfl
  | k :: rem, hr => by
    obtain ⟨hk1, hk2⟩ := hr k List.mem_cons_self
    have hk := h.lt k hk1
    obtain ⟨nb, hg⟩ := h.g k hk
    rw [if_pos hk, if_pos hk1] at hg
    simp only [List.map_cons, firstEmpty, List.dropWhile_cons]
    cases ha : ag k with
    | true =>
      rw [if_pos ha] at hg
      simp only [hg, List.length_cons]
      exact firstEmpty_rest h rem fun j hj => hr j (List.mem_cons_of_mem _ hj)
    | false =>
      have hrm : rm k = false := by simpa [ha] using hk2
      rw [if_neg (by simp [ha]), if_neg (by simp [hrm])] at hg
      simp [hg]
end Go.Proofs.Ytjnkfgigpapeaaa
