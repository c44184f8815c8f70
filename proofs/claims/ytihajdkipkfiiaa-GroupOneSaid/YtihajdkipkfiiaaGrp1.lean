/- slices.Index, IndexFunc, DeleteFunc at texts. -/
import Derived.Test.YtihajdkipkfiiaaGr1Run
import Derived.Test.YtihajdkipkfiiaaGr2Run
namespace Go.Proofs.Ytihajdkipkfiiaa
universe u
open Go Go.RowKit
set_option linter.unusedVariables false
set_option linter.unusedSimpArgs false
set_option linter.unnecessarySimpa false
set_option maxHeartbeats 0

theorem hmG : Try.prog.follows .mixedOrders = true := by kernel_rfl

/-! ### slices.Index, Contains, IndexFunc, DeleteFunc -/
theorem getD_lt {α : Type} (xs : List α) (d : α) (i : Nat) (h : i < xs.length) : xs.getD i d = xs[i] := by simp [List.getD, h]
theorem idxFrom_drop {α : Type} (p : α → Bool) (d : α) (xs : List α) (i : Nat) (h : i < xs.length) : idxFrom p (xs.drop i) i = match p (xs.getD i d) with | true => (i : Int) | false => idxFrom p (xs.drop (i + 1)) ((i + 1 : Nat) : Int) := by
  have e : xs.drop i = xs.getD i d :: xs.drop (i + 1) := by
    rw [List.drop_eq_getElem_cons h, getD_lt _ _ _ h]
  rw [e]
  simp only [idxFrom]
  cases p (xs.getD i d) <;> simp
theorem idxFrom_lt {α : Type} (p : α → Bool) : ∀ (xs : List α) (i : Int), idxFrom p xs i = -1 ∨ i ≤ idxFrom p xs i ∧ idxFrom p xs i < i + xs.length
  | [], i => .inl rfl
  | x :: l, i => by
    simp only [idxFrom]
    cases p x with
    | true => right; simp only [List.length_cons]; omega
    | false =>
      rcases idxFrom_lt p l (i + 1) with h | h
      · exact .inl h
      · right; simp only [List.length_cons]; omega
theorem idxFrom_none {α : Type} (p : α → Bool) : ∀ (xs : List α) (i : Int), 0 ≤ i → (idxFrom p xs i = -1 ↔ ∀ x ∈ xs, p x = false)
  | [], i, _ => by simp [idxFrom]
  | x :: l, i, h => by
    simp only [idxFrom]
    cases hp : p x with
    | true => simp [hp]; omega
    | false => simp [hp, idxFrom_none p l (i + 1) (by omega)]
theorem idxFrom_first {α : Type} (p : α → Bool) (d : α) : ∀ (xs : List α) (i : Int) (k : Nat), idxFrom p xs i = i + k → 0 ≤ i → k < xs.length ∧ p (xs.getD k d) = true ∧ ∀ x ∈ xs.take k, p x = false
  | [], i, k, h, h0 => by simp [idxFrom] at h; omega
  | x :: l, i, k, h, h0 => by
    simp only [idxFrom] at h
    cases hp : p x with
    | true =>
      rw [hp] at h
      have : k = 0 := by simp only at h; omega
      subst this; simp [hp]
    | false =>
      rw [hp] at h
      simp only at h
      cases k with
      | zero =>
        rcases idxFrom_lt p l (i + 1) with h1 | h1 <;> omega
      | succ k =>
        obtain ⟨h1, h2, h3⟩ := idxFrom_first p d l (i + 1) k (by rw [h]; push_cast; omega) (by omega)
        refine ⟨by simpa using h1, by simpa using h2, fun y hy => ?_⟩
        rw [List.take_succ_cons, List.mem_cons] at hy
        rcases hy with rfl | hy
        · exact hp
        · exact h3 y hy


theorem idxS_spec (ao : Option Addr) (cap : Nat) (xs : List ByteArray) (v : ByteArray) (hx : xs.length ≤ 1000000000) : Spec Try.prog 95 [⟨.sl ao cap, .vecL 9 1 encS xs ByteArray.empty⟩] [.vec 0 ao xs.length cap, .str v] fun h' r => h' = [⟨.sl ao cap, .vecL 9 1 encS xs ByteArray.empty⟩] ∧ r = .int .i64 (idxFrom (sEq v) xs 0) := by
  refine Spec.of_G 19 Try.func95 (c := bodyOf Try.f95) (by kernel_rfl) (by kernel_rfl) (Nat.le_of_ble_eq_true rfl) fun W F => ?_
  refine G_run (kc := false) (ss := []) (Cs := []) trivial hmG 300 ?_
  rw [idxS_start]
  refine G_loopAt (ι := Nat) [] (bodyOf Try.f95) [1, 0, 1, 0] 19 (fun i => [(0, .vec 0 ao xs.length cap), (1, .str v), (7, .int .i64 (xs.length : Int)), (8, .int .i64 (i : Int))]) (fun _ => [⟨.sl ao cap, .vecL 9 1 encS xs ByteArray.empty⟩]) (fun i => i ≤ xs.length ∧ idxFrom (sEq v) (xs.drop i) i = idxFrom (sEq v) xs 0) (fun i => xs.length - i) 0 (by kernel_rfl) (fun J => by kernel_rfl) ⟨Nat.zero_le _, rfl⟩ rfl ⟨rfl, rfl, rfl, rfl, trivial⟩ (fun w hw => hw) fun i hi u => ?_
  obtain ⟨h1, h2⟩ := hi
  simp only [List.nil_append, List.cons_append]
  refine G_run (kc := false) (ss := []) (Cs := []) trivial hmG 900 ?_
  rw [idxS_body]
  cases hlt : decide ((i : Int) < (xs.length : Int)) with
  | false =>
    simp only [decide_eq_false_iff_not] at hlt
    have hi : i = xs.length := by omega
    subst hi
    rw [List.drop_length] at h2
    exact ⟨rfl, by rw [← h2]; rfl⟩
  | true =>
    simp only [decide_eq_true_eq] at hlt
    have hlt' : i < xs.length := by omega
    rw [idxFrom_drop _ ByteArray.empty _ _ hlt'] at h2
    have e1 : Int.toNat (i : Int) = i := by omega
    have e2 : IntKind.wrap .i64 ((i : Int) + 1) = ((i + 1 : Nat) : Int) := IntWalk.i64_in _ (by omega)
    rw [e1, e2]
    refine ⟨⟨rfl, rfl, rfl, by omega, by omega⟩, ⟨rfl, rfl, rfl, hlt'⟩, ?_⟩
    skip
    cases hp : sEq v (xs.getD i ByteArray.empty) with
    | true =>
      simp only [hp] at h2
      exact ⟨rfl, by rw [← h2]⟩
    | false =>
      simp only [hp] at h2
      exact G_back (i + 1) ⟨by omega, h2⟩ (by omega) rfl ⟨rfl, rfl, rfl, rfl, trivial⟩ (fun w hw => hw)

theorem gT0_ok : AllOk Try.prog gT0 := ⟨inl_ok trivial hmG Try.func91 (by kernel_rfl), trivial⟩

theorem idxF_spec (ao : Option Addr) (cap : Nat) (xs : List ByteArray) (b : Nat) (nm : ByteArray) (hx : xs.length ≤ 1000000000) : Spec Try.prog 108 [⟨.sl ao cap, .vecL 9 1 encS xs ByteArray.empty⟩, ⟨.blk b, .cells [.str nm] 9⟩] [.vec 0 ao xs.length cap, .func (.func 91) [] [.ptr 1 b 0]] fun h' r => h' = [⟨.sl ao cap, .vecL 9 1 encS xs ByteArray.empty⟩, ⟨.blk b, .cells [.str nm] 9⟩] ∧ r = .int .i64 (idxFrom (fun x => sEq x nm) xs 0) := by
  refine Spec.of_G 19 Try.func108 (c := bodyOf Try.f108) (by kernel_rfl) (by kernel_rfl) (Nat.le_of_ble_eq_true rfl) fun W F => ?_
  refine G_run (kc := false) (ss := []) gT0_ok hmG 300 ?_
  rw [idxF_start]
  refine G_loopAt (ι := Nat) [] (bodyOf Try.f108) [1, 0, 1, 0] 19 (fun i => [(0, .vec 0 ao xs.length cap), (1, .func (.func 91) [] [.ptr 1 b 0]), (7, .int .i64 (xs.length : Int)), (8, .int .i64 (i : Int))]) (fun _ => [⟨.sl ao cap, .vecL 9 1 encS xs ByteArray.empty⟩, ⟨.blk b, .cells [.str nm] 9⟩]) (fun i => i ≤ xs.length ∧ idxFrom (fun x => sEq x nm) (xs.drop i) i = idxFrom (fun x => sEq x nm) xs 0) (fun i => xs.length - i) 0 (by kernel_rfl) (fun J => by kernel_rfl) ⟨Nat.zero_le _, rfl⟩ rfl ⟨rfl, rfl, rfl, rfl, trivial⟩ (fun w hw => hw) fun i hi u => ?_
  obtain ⟨h1, h2⟩ := hi
  simp only [List.nil_append, List.cons_append]
  refine G_run (kc := false) (ss := []) gT0_ok hmG 900 ?_
  rw [idxF_body]
  cases hlt : decide ((i : Int) < (xs.length : Int)) with
  | false =>
    simp only [decide_eq_false_iff_not] at hlt
    have hi : i = xs.length := by omega
    subst hi
    rw [List.drop_length] at h2
    exact ⟨rfl, by rw [← h2]; rfl⟩
  | true =>
    simp only [decide_eq_true_eq] at hlt
    have hlt' : i < xs.length := by omega
    rw [idxFrom_drop _ ByteArray.empty _ _ hlt'] at h2
    have e1 : Int.toNat (i : Int) = i := by omega
    have e2 : IntKind.wrap .i64 ((i : Int) + 1) = ((i + 1 : Nat) : Int) := IntWalk.i64_in _ (by omega)
    rw [e1, e2]
    refine ⟨⟨rfl, rfl, rfl, by omega, by omega⟩, ⟨rfl, rfl, rfl, hlt'⟩, ?_⟩
    refine ⟨rfl, rfl, ?_⟩
    cases hp : sEq (xs.getD i ByteArray.empty) nm with
    | true =>
      simp only [hp] at h2
      exact ⟨rfl, by rw [← h2]⟩
    | false =>
      simp only [hp] at h2
      exact G_back (i + 1) ⟨by omega, h2⟩ (by omega) rfl ⟨rfl, rfl, rfl, rfl, trivial⟩ (fun w hw => hw)

theorem setN_self {α : Type u} {l : Nat} {v : α} : ∀ {h : List α}, nth h l = some v → setN h l v = h := by
  induction l with
  | zero => intro h hl; cases h <;> simp [nth, setN] at hl ⊢; exact hl.symm
  | succ l ih => intro h hl; cases h <;> simp [nth, setN] at hl ⊢; exact ih hl

theorem idxS_ok : CtrOk Try.prog 95 (idxSC 9) := by
  intro args hs N h
  unfold idxSC at h
  split at h
  · rename_i l ao n cap v
    obtain ⟨xs, hl, rfl, hx, h⟩ := h
    refine Spec.at (hp := [⟨.sl ao cap, .vecL 9 1 encS xs ByteArray.empty⟩]) (args' := [.vec 0 ao xs.length cap, .str v]) [l] (by simp [distinct]) (by simp [pickE, hl]) (idxS_spec ao cap xs v hx) rfl ?_
    rintro h' r ⟨rfl, rfl⟩
    refine ⟨Nat.le_refl _, _, rfl, ?_⟩
    simpa [putBack, appE_eq, setN_self hl] using h
  · exact h.elim

theorem ne_of_beq {a b : Nat} (h : Nat.beq a b = false) : a ≠ b := fun e => by subst e; simp at h

theorem idxF_ok : CtrOk Try.prog 108 (idxFC 9 91) := by
  intro args hs N h
  unfold idxFC at h
  split at h
  · rename_i l ao n cap g lb b
    obtain ⟨rfl, xs, nm, hl, hlb, ⟨hne, rfl, hx⟩, h⟩ := h
    refine Spec.at (hp := [⟨.sl ao cap, .vecL 9 1 encS xs ByteArray.empty⟩, ⟨.blk b, .cells [.str nm] 9⟩]) (args' := [.vec 0 ao xs.length cap, .func (.func 91) [] [.ptr 1 b 0]]) [l, lb] (by simpa [distinct] using ne_of_beq hne) (by simp [pickE, hl, hlb]) (idxF_spec ao cap xs b nm hx) rfl ?_
    rintro h' r ⟨rfl, rfl⟩
    refine ⟨Nat.le_refl _, _, rfl, ?_⟩
    simpa [putBack, appE_eq, setN_self hl, setN_self hlb] using h
  · exact h.elim

theorem gT0d_ok : AllOk Try.prog gT0d := ⟨idxF_ok, gT0_ok⟩

theorem filter_take_succ {α : Type} (q : α → Bool) (d : α) (xs : List α) (j : Nat) (h : j < xs.length) : (xs.take (j + 1)).filter q = (xs.take j).filter q ++ if q (xs.getD j d) then [xs.getD j d] else [] := by
  rw [List.take_succ_eq_append_getElem h, List.filter_append, getD_lt _ _ _ h]
  congr 1
  simp [List.filter_cons]

theorem delF_spec (ao : Option Addr) (cap : Nat) (xs : List ByteArray) (b : Nat) (nm : ByteArray) (hx : xs.length ≤ 1000000000) : Spec Try.prog 90 [⟨.sl ao cap, .vecL 9 1 encS xs ByteArray.empty⟩, ⟨.blk b, .cells [.str nm] 9⟩] [.vec 0 ao xs.length cap, .func (.func 91) [] [.ptr 1 b 0]] fun h' r => h' = [⟨.sl ao cap, .vecL 9 1 encS (xs.filter fun x => !sEq x nm) ByteArray.empty⟩, ⟨.blk b, .cells [.str nm] 9⟩] ∧ den r = den (.vec 0 ao (xs.filter fun x => !sEq x nm).length cap) := by
  refine Spec.of_G 42 Try.func90 (c := bodyOf Try.f90) (by kernel_rfl) (by kernel_rfl) (Nat.le_of_ble_eq_true rfl) fun W F => ?_
  refine G_vec (l := 0) rfl fun hcap _ => ?_
  refine G_run (kc := false) (ss := []) gT0d_ok hmG 600 ?_
  rw [delF_start]
  refine ⟨rfl, rfl, xs, nm, rfl, rfl, ⟨rfl, rfl, hx⟩, ?_⟩
  have hm : (idxFrom (fun x => sEq x nm) xs 0 == -1) = true ∨ ∃ i0 : Nat, idxFrom (fun x => sEq x nm) xs 0 = i0 ∧ i0 < xs.length ∧ sEq (xs.getD i0 ByteArray.empty) nm = true ∧ ∀ x ∈ xs.take i0, sEq x nm = false := by
    rcases idxFrom_lt (fun x => sEq x nm) xs 0 with h | h
    · exact .inl (by rw [h]; rfl)
    · obtain ⟨i0, hi0⟩ := Int.eq_ofNat_of_zero_le h.1
      obtain ⟨h1, h2, h3⟩ := idxFrom_first (fun x => sEq x nm) ByteArray.empty xs 0 i0 (by rw [hi0]; simp) (by omega)
      exact .inr ⟨i0, hi0, h1, h2, h3⟩
  rcases hm with hm | ⟨i0, hi0, hlt0, hp0, hall⟩
  · rw [hm]
    have hno := (idxFrom_none (fun x => sEq x nm) xs 0 (by omega)).1 (by simpa using hm)
    have : xs.filter (fun x => !sEq x nm) = xs := List.filter_eq_self.2 fun x hx => by rw [hno x hx]; rfl
    rw [this]
    exact ⟨rfl, rfl⟩
  · have hne : (idxFrom (fun x => sEq x nm) xs 0 == -1) = false := by rw [hi0]; simp
    rw [hne, hi0]
    have e1 : IntKind.wrap .i64 ((i0 : Int) + 1) = ((i0 + 1 : Nat) : Int) := IntWalk.i64_in _ (by omega)
    rw [e1]
    have hf0 : (xs.take i0).filter (fun x => !sEq x nm) = xs.take i0 := List.filter_eq_self.2 fun x hx => by rw [hall x hx]; rfl
    refine G_loopAt (ι := List ByteArray × Nat × Nat) [] (bodyOf Try.f90) [1, 1, 1, 0, 1, 0] 42 (fun s => [(0, .vec 0 ao s.1.length cap), (1, .func (.func 91) [] [.ptr 1 b 0]), (5, .int .i64 (s.2.1 : Int)), (6, .int .i64 (s.2.2 : Int))]) (fun s => [⟨.sl ao cap, .vecL 9 1 encS s.1 ByteArray.empty⟩, ⟨.blk b, .cells [.str nm] 9⟩])
      (fun s => s.1.length = xs.length ∧ s.2.1 < s.2.2 ∧ s.2.2 ≤ xs.length ∧ s.1.take s.2.1 = (xs.take s.2.2).filter (fun x => !sEq x nm) ∧ s.1.drop s.2.2 = xs.drop s.2.2) (fun s => xs.length - s.2.2) (xs, i0, i0 + 1) (by kernel_rfl) (fun J => by kernel_rfl)
      ⟨rfl, by dsimp only; omega, by dsimp only; omega, by dsimp only; rw [filter_take_succ _ ByteArray.empty _ _ hlt0, hf0, hp0]; simp, rfl⟩ rfl ⟨rfl, rfl, rfl, rfl, trivial⟩ (fun w hw => hw) ?_
    rintro ⟨ys, i, j⟩ ⟨h1, h2, h3, h4, h5⟩ u
    dsimp only at h1 h2 h3 h4 h5 ⊢
    simp only [List.nil_append, List.cons_append]
    refine G_run (kc := false) (ss := []) gT0d_ok hmG 900 ?_
    rw [delF_body]
    have t1 : Int.toNat (i : Int) = i := by omega
    have t2 : Int.toNat (j : Int) = j := by omega
    have t3 : IntKind.wrap .i64 ((i : Int) + 1) = ((i + 1 : Nat) : Int) := IntWalk.i64_in _ (by omega)
    have t4 : IntKind.wrap .i64 ((j : Int) + 1) = ((j + 1 : Nat) : Int) := IntWalk.i64_in _ (by omega)
    rw [t1, t2, t3, t4]
    cases hlt : decide ((j : Int) < (ys.length : Int)) with
    | true =>
      simp only [decide_eq_true_eq] at hlt
      have hj : ys.getD j ByteArray.empty = xs.getD j ByteArray.empty := by
        have := congrArg (fun l => l.getD 0 ByteArray.empty) h5
        simpa [List.getD, List.getElem?_drop] using this
      have hd : ys.drop (j + 1) = xs.drop (j + 1) := by
        have := congrArg (List.drop 1) h5
        simpa [List.drop_drop, Nat.add_comm] using this
      have hft := filter_take_succ (fun x => !sEq x nm) ByteArray.empty xs j (by omega)
      refine ⟨⟨rfl, rfl, rfl, by omega, by omega⟩, ⟨rfl, rfl, rfl, by omega⟩, rfl, rfl, ?_⟩
      rw [hj]
      cases hq : !sEq (xs.getD j ByteArray.empty) nm with
      | true =>
        refine ⟨⟨rfl, rfl, rfl, by omega, by omega⟩, ⟨rfl, rfl, rfl, by omega, rfl, rfl, Nat.le_refl _⟩, _, rfl, ?_⟩
        refine G_back (ys.set i (xs.getD j ByteArray.empty), i + 1, j + 1) ⟨by simp [h1], by dsimp only; omega, by dsimp only; omega, ?_, ?_⟩ (by dsimp only; omega) rfl ⟨(by show Value.slice ao ys.length cap = Value.slice ao _ cap; rw [List.length_set]), rfl, rfl, rfl, trivial⟩ (fun w hw => hw)
        · dsimp only
          rw [hft, hq, ← h4, List.take_succ_eq_append_getElem (by simp; omega), List.take_set_of_le (Nat.le_refl _)]
          simp
        · dsimp only
          rw [List.drop_set_of_lt (by omega)]
          exact hd
      | false =>
        refine G_back (ys, i, j + 1) ⟨h1, by dsimp only; omega, by dsimp only; omega, ?_, hd⟩ (by dsimp only; omega) rfl ⟨rfl, rfl, rfl, rfl, trivial⟩ (fun w hw => hw)
        dsimp only
        rw [hft, hq, h4]; simp
    | false =>
      simp only [decide_eq_false_iff_not] at hlt
      have hje : j = xs.length := by omega
      subst hje
      rw [List.take_length] at h4
      refine ⟨⟨by omega, by omega, by omega⟩, ⟨rfl, rfl, rfl, rfl, rfl, by omega, Nat.le_refl _⟩, ⟨by omega, by omega⟩, ?_⟩
      refine ⟨by rw [h4], ?_⟩
      rw [← h4]
      have : (ys.take i).length = i := by simp; omega
      rw [this]
      simp only [den, Nat.sub_zero]
      by_cases hc : cap = 0
      · simp [hc]
      · rw [if_neg hc]
        cases ao with
        | none => rfl
        | some a => simp [Addr.add]

theorem delF_ok : CtrOk Try.prog 90 (delSC 9 91) := by
  intro args hs N h
  unfold delSC at h
  split at h
  · rename_i l ao n cap g lb b
    obtain ⟨rfl, xs, nm, hl, hlb, ⟨hne, rfl, hx⟩, h⟩ := h
    refine Spec.at (hp := [⟨.sl ao cap, .vecL 9 1 encS xs ByteArray.empty⟩, ⟨.blk b, .cells [.str nm] 9⟩]) (args' := [.vec 0 ao xs.length cap, .func (.func 91) [] [.ptr 1 b 0]]) [l, lb] (by simpa [distinct] using ne_of_beq hne) (by simp [pickE, hl, hlb]) (delF_spec ao cap xs b nm hx) rfl ?_
    rintro h' r ⟨rfl, hr⟩
    refine ⟨Nat.le_refl _, .vec l ao (xs.filter fun x => !sEq x nm).length cap, hr, ?_⟩
    have hlb' : nth (setN hs l ⟨.sl ao cap, .vecL 9 1 encS (xs.filter fun x => !sEq x nm) ByteArray.empty⟩) lb = some ⟨.blk b, .cells [.str nm] 9⟩ := by
      rw [nth_eq, setN_eq, List.getElem?_set_ne (ne_of_beq hne), ← nth_eq]; exact hlb
    simpa [putBack, appE_eq, setN_self hlb'] using h
  · exact h.elim
theorem gT1_ok : AllOk Try.prog gT1 := ⟨idxS_ok, trivial⟩
theorem gT2_ok : AllOk Try.prog gT2 := ⟨inl_ok gT1_ok hmG Try.func70 (by kernel_rfl), inl_ok trivial hmG Try.func71 (by kernel_rfl), inl_ok trivial hmG Try.func72 (by kernel_rfl), gT1_ok⟩
theorem gT3_ok : AllOk Try.prog gT3 := ⟨delF_ok, trivial⟩
end Go.Proofs.Ytihajdkipkfiiaa
