/- queue.Queue[int]: container/heap over its piles. -/
import Derived.Test.YtjnkfgigpapeaaaQI2Run
namespace Go.Proofs.Ytjnkfgigpapeaaa
open Go Go.RowKit
set_option linter.unusedVariables false
set_option linter.unusedSimpArgs false
set_option linter.unnecessarySimpa false
set_option maxHeartbeats 0

section
variable {W : World} {F : List Ch} (b cap : Nat) (ao : Option Addr) (rest : List SV) (T : TypeId) (f : FuncId) (bef : Int → Int → Bool) (len : Nat) (R0 : List (Int × Int))

def qIupLive (s : List (Int × Int) × Nat) : List (Nat × SV) := [(0, .iface 147 (.ptr 0 b 0)), (1, .int .i64 (s.2 : Int))]
def qIHeap (s : List (Int × Int) × Nat) : List Ent := qhG 149 2 encItI ((0 : Int), (0 : Int)) b ao cap f rest T s.1
structure QIUp (s : List (Int × Int) × Nat) : Prop where
  lt : s.2 < s.1.length
  len : s.1.length = len
  go : ∃ m, s.2 ≤ m ∧ upL (lessI bef) ((0 : Int), (0 : Int)) m s.1 s.2 = R0

theorem qIup_round (hR : RI f bef) (hlen : len ≤ 2305843009213693952) (s : List (Int × Int) × Nat) (h : QIUp bef len R0 s) (u : Nat → Value) :
    G Try.prog (endQ Try.prog Try.f99 W F fun h' r => h' = qhG 149 2 encItI ((0 : Int), (0 : Int)) b ao cap f rest T R0 ∧ r = .tuple []) W F (frm [Back W F 23 (qIupLive b) (qIHeap b cap ao rest T f) (QIUp bef len R0) (fun s => s.2) s.2] (bodyOf Try.f99) [0, 0] []) ⟨mkT u 23 0 (qIupLive b s), qIHeap b cap ao rest T f s⟩ := by
  obtain ⟨xs, j⟩ := s
  obtain ⟨h1, h2, m, hm, he⟩ := h
  dsimp only at h1 h2 hm he ⊢
  refine G_run (kc := false) (ss := []) qTI1_ok hmQI 900 ?_
  unfold qIupLive qIHeap
  dsimp only
  rw [qIup_body]
  have hw : IntKind.wrap .i64 (Int.tdiv (IntKind.wrap .i64 ((j : Int) - 1)) 2) = (((j - 1) / 2 : Nat) : Int) := by
    rw [IntWalk.i64_in ((j : Int) - 1) (by omega)]
    by_cases j0 : j = 0
    · subst j0; decide
    · rw [Int.tdiv_eq_ediv_of_nonneg (by omega), IntWalk.i64_in _ (by omega)]; omega
  rw [hw]
  refine ⟨by decide, ?_⟩
  split <;> rename_i hh
  · have hj : (j - 1) / 2 = j := by have := beq_iff_eq.1 hh; omega
    exact ⟨by rw [← he, upL_stop (.inl hj)], rfl⟩
  · have hj : (j - 1) / 2 ≠ j := by have := beq_eq_false_iff_ne.1 hh; omega
    refine ⟨rfl, xs, ⟨rfl, rfl, rfl, rfl⟩, ⟨rfl, rfl, by omega, by omega, by omega, by omega⟩, bef, hR, ?_⟩
    split <;> rename_i hl
    · exact ⟨by rw [← he, upL_stop (.inr (by rw [Bool.not_eq_true'] at hl; exact hl))], rfl⟩
    · refine ⟨rfl, xs, ⟨rfl, rfl, rfl, rfl⟩, ⟨rfl, rfl, by omega, by omega, by omega, by omega⟩, ?_⟩
      refine G_back (swapL ((0 : Int), (0 : Int)) xs ((j - 1) / 2) j, (j - 1) / 2) ⟨by rw [length_swapL]; dsimp only; omega, by rw [length_swapL]; exact h2, m - 1, by dsimp only; omega, by rw [← he, upL_go hj (by rw [Bool.not_eq_false'] at hl; exact hl) hm]⟩ (by dsimp only; omega) rfl ⟨rfl, rfl, trivial⟩ (fun w hw => hw)
end

theorem qIup_spec (b cap : Nat) (ao : Option Addr) (rest : List SV) (T : TypeId) (f : FuncId) (bef : Int → Int → Bool) (hR : RI f bef) (xs : List (Int × Int)) (j : Nat) (hj : j < xs.length) (hl : xs.length ≤ 2305843009213693952) :
    Spec Try.prog 99 (qhG 149 2 encItI ((0 : Int), (0 : Int)) b ao cap f rest T xs) [.iface 147 (.ptr 0 b 0), .int .i64 (j : Int)] fun h' r => h' = qhG 149 2 encItI ((0 : Int), (0 : Int)) b ao cap f rest T (upL (lessI bef) ((0 : Int), (0 : Int)) j xs j) ∧ r = .tuple [] := by
  refine Spec.of_G 23 Try.func99 (c := bodyOf Try.f99) (by kernel_rfl) (by kernel_rfl) (Nat.le_of_ble_eq_true rfl) fun W F => ?_
  refine G_run (kc := false) (ss := []) qTI1_ok hmQI 900 ?_
  rw [qIup_start (J := fun _ _ => False) (u := fun _ => undef)]
  exact G_loopAt [] (bodyOf Try.f99) [0] 23 (qIupLive b) (qIHeap b cap ao rest T f) (QIUp bef xs.length (upL (lessI bef) ((0 : Int), (0 : Int)) j xs j)) (fun s => s.2) (xs, j) (by kernel_rfl) (fun J => by kernel_rfl) ⟨hj, rfl, j, Nat.le_refl _, rfl⟩ rfl ⟨rfl, rfl, trivial⟩ (fun w hw => hw) fun s hs u => qIup_round b cap ao rest T f bef xs.length _ hR hl s hs u

theorem qIup_ok : CtrOk Try.prog 99 (upC 149 2 encItI ((0 : Int), (0 : Int)) 147 RI) := by
  intro args hs N h
  unfold upC at h
  split at h
  · rename_i t l b k j
    unfold onPile at h
    split at h
    · rename_i b' l2 ao n' cap f rest T hl
      split at h
      · rename_i e hl2
        obtain ⟨xs, ⟨rfl, rfl, rfl, hne⟩, ⟨rfl, rfl, g1, g2, g3⟩, bef, hR, hN⟩ := h
        obtain ⟨j', rfl⟩ := Int.eq_ofNat_of_zero_le g1
        refine Spec.pile 149 2 encItI ((0 : Int), (0 : Int)) hl hl2 hne (args' := [.iface 147 (.ptr 0 b' 0), .int .i64 (j' : Int)]) (by rfl) (fun _ _ => qIup_spec b' cap ao rest T f bef hR xs j' (by omega) (by omega)) ?_
        rintro h' r ⟨rfl, rfl⟩
        exact ⟨_, ao, cap, rest, _, fun W F w hr => hr, rfl, hN⟩
      · exact h.elim
    · exact h.elim
  · exact h.elim

section
variable {W : World} {F : List Ch} (b cap : Nat) (ao : Option Addr) (rest : List SV) (T : TypeId) (f : FuncId) (bef : Int → Int → Bool) (len n : Nat) (R0 : List (Int × Int))

def qIdnLive (s : List (Int × Int) × Nat) : List (Nat × SV) := [(0, .iface 147 (.ptr 0 b 0)), (1, .int .i64 0), (2, .int .i64 (n : Int)), (7, .int .i64 (s.2 : Int))]
structure QIDn (s : List (Int × Int) × Nat) : Prop where
  le : s.2 ≤ len
  len : s.1.length = len
  go : ∃ m, n ≤ m + s.2 + 1 ∧ downL (lessI bef) ((0 : Int), (0 : Int)) m s.1 s.2 n = R0

theorem qIdn_round (hR : RI f bef) (hlen : len ≤ 2305843009213693952) (hn : n ≤ len) (s : List (Int × Int) × Nat) (h : QIDn bef len n R0 s) (u : Nat → Value) :
    G Try.prog (endQ Try.prog Try.f100 W F fun h' r => h' = qhG 149 2 encItI ((0 : Int), (0 : Int)) b ao cap f rest T R0 ∧ ∃ bb, r = .bool bb) W F (frm [Back W F 48 (qIdnLive b n) (qIHeap b cap ao rest T f) (QIDn bef len n R0) (fun s => len - s.2) (len - s.2)] (bodyOf Try.f100) [1, 1, 0, 0, 0] []) ⟨mkT u 48 0 (qIdnLive b n s), qIHeap b cap ao rest T f s⟩ := by
  obtain ⟨xs, i⟩ := s
  obtain ⟨h1, h2, m, hm, he⟩ := h
  dsimp only at h1 h2 hm he ⊢
  refine G_run (kc := false) (ss := []) qTI1_ok hmQI 900 ?_
  unfold qIdnLive qIHeap
  dsimp only
  rw [qIdn_body]
  have e1 : IntKind.wrap .i64 (2 * (i : Int)) = 2 * (i : Int) := IntWalk.i64_in _ (by omega)
  have e2 : IntKind.wrap .i64 (2 * (i : Int) + 1) = 2 * (i : Int) + 1 := IntWalk.i64_in _ (by omega)
  have e3 : IntKind.wrap .i64 (2 * (i : Int) + 1 + 1) = 2 * (i : Int) + 1 + 1 := IntWalk.i64_in _ (by omega)
  have e4 : Int.toNat (2 * (i : Int) + 1) = 2 * i + 1 := by omega
  have e5 : Int.toNat (2 * (i : Int) + 1 + 1) = 2 * i + 2 := by omega
  rw [e1, e2, e3, e4, e5]
  have go : ∀ kd : Nat, ¬ n ≤ 2 * i + 1 → kidL (lessI bef) ((0 : Int), (0 : Int)) xs i n = kd → (kd = 2 * i + 1 ∨ kd = 2 * i + 2) → kd < n → lessI bef (xs.getD kd ((0 : Int), (0 : Int))) (xs.getD i ((0 : Int), (0 : Int))) = true → QIDn bef len n R0 (swapL ((0 : Int), (0 : Int)) xs i kd, kd) ∧ len - kd < len - i := by
    intro kd q1 q2 q3 q4 q5
    refine ⟨⟨by dsimp only; omega, by rw [length_swapL]; exact h2, m - 1, by dsimp only; omega, ?_⟩, by omega⟩
    dsimp only
    rw [← he, downL_go q1 (by rw [q2]; exact q5) hm, q2]
  split <;> rename_i c1
  · exact ⟨by rw [← he, downL_stop (.inl (by simp at c1; omega))], _, rfl⟩
  · have c1' : ¬ n ≤ 2 * i + 1 := by simp at c1; omega
    split <;> rename_i c2
    · simp at c2; omega
    · split <;> rename_i c3
      · have c3' : 2 * i + 2 < n := by simp at c3; omega
        refine ⟨rfl, xs, ⟨rfl, rfl, rfl, rfl⟩, ⟨rfl, rfl, by omega, by omega, by omega, by omega⟩, bef, hR, ?_⟩
        split <;> rename_i c4
        · have hk := kidL_two (lt := lessI bef) (d := ((0 : Int), (0 : Int))) c3' c4
          refine ⟨rfl, xs, ⟨rfl, rfl, rfl, rfl⟩, ⟨rfl, rfl, by omega, by omega, by omega, by omega⟩, bef, hR, ?_⟩
          split <;> rename_i c5
          · exact ⟨by rw [← he, downL_stop (.inr (by rw [hk]; simpa using c5))], _, rfl⟩
          · refine ⟨rfl, xs, ⟨rfl, rfl, rfl, rfl⟩, ⟨rfl, rfl, by omega, by omega, by omega, by omega⟩, ?_⟩
            obtain ⟨a1, a2⟩ := go _ c1' hk (.inr rfl) (by omega) (by simpa using c5)
            exact G_back (swapL ((0 : Int), (0 : Int)) xs i (2 * i + 2), 2 * i + 2) a1 a2 rfl ⟨rfl, rfl, rfl, congrArg (Value.int .i64) (by dsimp only; omega), trivial⟩ (fun w hw => hw)
        · have hk := kidL_one (lt := lessI bef) (d := ((0 : Int), (0 : Int))) (xs := xs) (i := i) (n := n) fun _ => by simpa using c4
          refine ⟨rfl, xs, ⟨rfl, rfl, rfl, rfl⟩, ⟨rfl, rfl, by omega, by omega, by omega, by omega⟩, bef, hR, ?_⟩
          split <;> rename_i c5
          · exact ⟨by rw [← he, downL_stop (.inr (by rw [hk]; simpa using c5))], _, rfl⟩
          · refine ⟨rfl, xs, ⟨rfl, rfl, rfl, rfl⟩, ⟨rfl, rfl, by omega, by omega, by omega, by omega⟩, ?_⟩
            obtain ⟨a1, a2⟩ := go _ c1' hk (.inl rfl) (by omega) (by simpa using c5)
            exact G_back (swapL ((0 : Int), (0 : Int)) xs i (2 * i + 1), 2 * i + 1) a1 a2 rfl ⟨rfl, rfl, rfl, congrArg (Value.int .i64) (by dsimp only; omega), trivial⟩ (fun w hw => hw)
      · have hk := kidL_one (lt := lessI bef) (d := ((0 : Int), (0 : Int))) (xs := xs) (i := i) (n := n) fun h => by simp at c3; omega
        refine ⟨rfl, xs, ⟨rfl, rfl, rfl, rfl⟩, ⟨rfl, rfl, by omega, by omega, by omega, by omega⟩, bef, hR, ?_⟩
        split <;> rename_i c5
        · exact ⟨by rw [← he, downL_stop (.inr (by rw [hk]; simpa using c5))], _, rfl⟩
        · refine ⟨rfl, xs, ⟨rfl, rfl, rfl, rfl⟩, ⟨rfl, rfl, by omega, by omega, by omega, by omega⟩, ?_⟩
          obtain ⟨a1, a2⟩ := go _ c1' hk (.inl rfl) (by omega) (by simpa using c5)
          exact G_back (swapL ((0 : Int), (0 : Int)) xs i (2 * i + 1), 2 * i + 1) a1 a2 rfl ⟨rfl, rfl, rfl, congrArg (Value.int .i64) (by dsimp only; omega), trivial⟩ (fun w hw => hw)
end

theorem qIdn_spec (b cap : Nat) (ao : Option Addr) (rest : List SV) (T : TypeId) (f : FuncId) (bef : Int → Int → Bool) (hR : RI f bef) (xs : List (Int × Int)) (n : Nat) (hn : n ≤ xs.length) (hl : xs.length ≤ 2305843009213693952) :
    Spec Try.prog 100 (qhG 149 2 encItI ((0 : Int), (0 : Int)) b ao cap f rest T xs) [.iface 147 (.ptr 0 b 0), .int .i64 0, .int .i64 (n : Int)] fun h' r => h' = qhG 149 2 encItI ((0 : Int), (0 : Int)) b ao cap f rest T (downL (lessI bef) ((0 : Int), (0 : Int)) xs.length xs 0 n) ∧ ∃ bb, r = .bool bb := by
  refine Spec.of_G 48 Try.func100 (c := bodyOf Try.f100) (by kernel_rfl) (by kernel_rfl) (Nat.le_of_ble_eq_true rfl) fun W F => ?_
  refine G_run (kc := false) (ss := []) qTI1_ok hmQI 900 ?_
  rw [qIdn_start (J := fun _ _ => False) (u := fun _ => undef)]
  exact G_loopAt [] (bodyOf Try.f100) [1, 1, 0, 0] 48 (qIdnLive b n) (qIHeap b cap ao rest T f) (QIDn bef xs.length n (downL (lessI bef) ((0 : Int), (0 : Int)) xs.length xs 0 n)) (fun s => xs.length - s.2) (xs, 0) (by kernel_rfl) (fun J => by kernel_rfl) ⟨Nat.zero_le _, rfl, xs.length, by dsimp only; omega, rfl⟩ rfl ⟨rfl, rfl, rfl, rfl, trivial⟩ (fun w hw => hw) fun s hs u => qIdn_round b cap ao rest T f bef xs.length n _ hR hl hn s hs u

theorem qIdn_ok : CtrOk Try.prog 100 (downC 149 2 encItI ((0 : Int), (0 : Int)) 147 RI) := by
  intro args hs N h
  unfold downC at h
  split at h
  · rename_i t l b k i k' n
    unfold onPile at h
    split at h
    · rename_i b' l2 ao n' cap f rest T hl
      split at h
      · rename_i e hl2
        obtain ⟨xs, ⟨rfl, rfl, rfl, hne⟩, ⟨rfl, rfl, rfl, rfl, g1, g2, g3⟩, bef, hR, hN⟩ := h
        obtain ⟨j', rfl⟩ := Int.eq_ofNat_of_zero_le g1
        refine Spec.pile 149 2 encItI ((0 : Int), (0 : Int)) hl hl2 hne (args' := [.iface 147 (.ptr 0 b' 0), .int .i64 0, .int .i64 (j' : Int)]) (by rfl) (fun _ _ => qIdn_spec b' cap ao rest T f bef hR xs j' (by omega) (by omega)) ?_
        rintro h' r ⟨rfl, bb, rfl⟩
        exact ⟨_, ao, cap, rest, _, fun W F w hr => hr, rfl, hN bb⟩
      · exact h.elim
    · exact h.elim
  · exact h.elim

theorem qTI2_ok : AllOk Try.prog qTI2 := ⟨qIup_ok, qIdn_ok, qTI1_ok⟩

theorem qIhpush_ok : CtrOk Try.prog 80 (hpushC 149 2 encItI ((0 : Int), (0 : Int)) 147 16 RI) := by
  intro args hs N h
  unfold hpushC at h
  split at h
  · rename_i t l b t' cs
    unfold onPile at h
    split at h
    · rename_i b' l2 ao n' cap f rest T hl
      split at h
      · rename_i e hl2
        obtain ⟨xs, ⟨rfl, rfl, rfl, hne⟩, x, ⟨rfl, rfl, rfl, g1, g2⟩, bef, hR, hN⟩ := h
        refine Spec.pile 149 2 encItI ((0 : Int), (0 : Int)) hl hl2 hne (args' := [.iface 147 (.ptr 0 b' 0), .iface 149 (.agg (encItI x))]) (Post' := fun h' r => ∃ ao2 cap2, h' = qhG 149 2 encItI ((0 : Int), (0 : Int)) b' ao2 cap2 f rest T (pushL (lessI bef) ((0 : Int), (0 : Int)) xs x) ∧ r = .tuple []) (by rfl) (fun _ _ => ?_) ?_
        · refine Spec.of_G 12 Try.func80 (c := bodyOf Try.f80) (by kernel_rfl) (by kernel_rfl) (Nat.le_of_ble_eq_true rfl) fun W F => ?_
          refine G_run (kc := false) (ss := []) qTI2_ok hmQI 900 ?_
          rw [qIhpush (J := fun _ _ => False) (u := fun _ => undef)]
          have hlx : (xs ++ [x]).length = xs.length + 1 := by simp
          have hw : IntKind.wrap .i64 (((xs ++ [x]).length : Int) - 1) = (xs.length : Int) := by rw [hlx, IntWalk.i64_in _ (by omega)]; omega
          refine ⟨rfl, xs, ⟨rfl, rfl, rfl, rfl⟩, x, ⟨rfl, rfl, g1, by omega⟩, fun ao2 cap2 => ⟨rfl, rfl, rfl, xs ++ [x], ⟨rfl, rfl, rfl, rfl⟩, ?_⟩⟩
          rw [hw]
          exact ⟨⟨rfl, rfl, by omega, by omega, by omega⟩, bef, hR, ao2, cap2, rfl, rfl⟩
        · rintro h' r ⟨ao2, cap2, rfl, rfl⟩
          exact ⟨_, ao2, cap2, rest, _, fun W F w hr => hr, rfl, hN ao2 cap2⟩
      · exact h.elim
    · exact h.elim
  · exact h.elim

theorem qIhpop_ok : CtrOk Try.prog 81 (hpopC 149 2 encItI ((0 : Int), (0 : Int)) 147 RI) := by
  intro args hs N h
  unfold hpopC at h
  split at h
  · rename_i t l b
    unfold onPile at h
    split at h
    · rename_i b' l2 ao n' cap f rest T hl
      split at h
      · rename_i e hl2
        obtain ⟨xs, ⟨rfl, rfl, rfl, hne⟩, ⟨rfl, g1, g2⟩, bef, hR, hN⟩ := h
        refine Spec.pile 149 2 encItI ((0 : Int), (0 : Int)) hl hl2 hne (args' := [.iface 147 (.ptr 0 b' 0)]) (Post' := fun h' r => h' = qhG 149 2 encItI ((0 : Int), (0 : Int)) b' ao cap f rest T (popL (lessI bef) ((0 : Int), (0 : Int)) xs) ∧ r = .iface 149 (.agg (encItI (xs.getD 0 ((0 : Int), (0 : Int)))))) (by rfl) (fun _ _ => ?_) ?_
        · refine Spec.of_G 15 Try.func81 (c := bodyOf Try.f81) (by kernel_rfl) (by kernel_rfl) (Nat.le_of_ble_eq_true rfl) fun W F => ?_
          refine G_run (kc := false) (ss := []) qTI2_ok hmQI 900 ?_
          rw [qIhpop (J := fun _ _ => False) (u := fun _ => undef)]
          have hw : IntKind.wrap .i64 ((xs.length : Int) - 1) = ((xs.length - 1 : Nat) : Int) := by rw [IntWalk.i64_in _ (by omega)]; omega
          have hs1 : (swapL ((0 : Int), (0 : Int)) xs 0 (xs.length - 1)).length = xs.length := length_swapL _ _ _
          have hd1 : (downL (lessI bef) ((0 : Int), (0 : Int)) xs.length (swapL ((0 : Int), (0 : Int)) xs 0 (xs.length - 1)) 0 (xs.length - 1)).length = xs.length := by rw [length_downL, hs1]
          have hlast := last_downL (lt := lessI bef) (d := ((0 : Int), (0 : Int))) g1
          rw [hw]
          refine ⟨rfl, rfl, rfl, xs, ⟨rfl, rfl, rfl, rfl⟩, ⟨rfl, rfl, by omega, by omega, by omega, by omega⟩, rfl, swapL ((0 : Int), (0 : Int)) xs 0 (xs.length - 1), ⟨rfl, rfl, rfl, rfl⟩, ⟨rfl, rfl, rfl, rfl, by omega, by omega, by omega⟩, bef, hR, fun bb => ⟨rfl, downL (lessI bef) ((0 : Int), (0 : Int)) xs.length (swapL ((0 : Int), (0 : Int)) xs 0 (xs.length - 1)) 0 (xs.length - 1), ⟨by simp only [hs1, Int.toNat_natCast], rfl, by simp only [hs1, Int.toNat_natCast], rfl⟩, ⟨by omega, by omega⟩, ?_⟩⟩
          rw [hd1, hlast]
          exact ⟨rfl, rfl⟩
        · rintro h' r ⟨rfl, rfl⟩
          exact ⟨_, ao, cap, rest, _, fun W F w hr => hr, rfl, hN⟩
      · exact h.elim
    · exact h.elim
  · exact h.elim
end Go.Proofs.Ytjnkfgigpapeaaa
