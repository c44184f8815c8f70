/- reveillelaw2.CivilBack. -/
import Derived.Test.YtjnkfgigpapeaaaCBRun
import Derived.Test.YtjnkfgigpapeaaaMom
import Derived.Test.YtjnkfgigpapeaaaAid
namespace Go.Proofs.Ytjnkfgigpapeaaa
open Go Go.RowKit
set_option linter.unusedVariables false
set_option linter.unusedSimpArgs false
set_option linter.unnecessarySimpa false

theorem known2_ok : CtrOk Try.prog 14 known2C := by
  intro args hs N h
  unfold known2C at h
  split at h
  · refine Spec.pure (Cs := civ5) (kc := true) (ss := []) 600 30 civ5_ok hm Try.func14 (by kernel_rfl) (by kernel_rfl) rfl h fun K => ?_
    rw [known2_run]
    simp
  · exact h.elim
theorem civ6_ok : AllOk Try.prog civ6 := ⟨known2_ok, civ5_ok⟩

/-! ### Dates, the plain law -/

theorem len_cum (y : Int) (k : Nat) : cumI y (k + 1) = cumI y k + lenI y ((k : Int) + 1) := rfl
theorem dateP_bounds {n y m d : Int} (h : dateP n y m d) : ∃ k : Nat, m = (k : Int) + 1 ∧ k ≤ 11 ∧ n = beginsI y + cumI y k + (d - 1) ∧ cumI y (k + 1) = cumI y k + lenI y m ∧ cumI y (k + 1) ≤ cumI y 12 := by
  obtain ⟨y1, y2, m1, m2, d1, d2, e⟩ := h
  refine ⟨(m - 1).toNat, by omega, by omega, ?_, ?_, ?_⟩
  · rw [← e]; unfold daysI; omega
  · rw [len_cum]; congr 2; omega
  · have := cumI_mono y ((m - 1).toNat + 1) (11 - (m - 1).toNat)
    have e2 : (m - 1).toNat + 1 + (11 - (m - 1).toNat) = 12 := by omega
    rw [e2] at this; exact this

theorem begins_mono {y y' : Int} (h1 : 1970 ≤ y) (h : y + 1 ≤ y') (h2 : y' ≤ 2300) : beginsI (y + 1) ≤ beginsI y' := by
  unfold beginsI leapsI; omega

theorem dateP_unique {n y m d y' m' d' : Int} (h : dateP n y m d) (h' : dateP n y' m' d') : y = y' ∧ m = m' ∧ d = d' := by
  obtain ⟨k, e1, k1, e2, e3, e4⟩ := dateP_bounds h
  obtain ⟨k', f1, k1', f2, f3, f4⟩ := dateP_bounds h'
  obtain ⟨y1, y2, m1, m2, d1, d2, -⟩ := h
  obtain ⟨y1', y2', m1', m2', d1', d2', -⟩ := h'
  have c := cumI_le y k
  have c' := cumI_le y' k'
  have hy : y = y' := by
    rcases Int.lt_trichotomy y y' with h | h | h
    · have := begins_mono y1 (by omega : y + 1 ≤ y') (by omega)
      rw [begins_next y1 y2] at this; omega
    · exact h
    · have := begins_mono y1' (by omega : y' + 1 ≤ y) (by omega)
      rw [begins_next y1' y2'] at this; omega
  subst hy
  have hk : k = k' := by
    rcases Nat.lt_trichotomy k k' with h | h | h
    · have := cumI_mono y (k + 1) (k' - (k + 1))
      rw [show k + 1 + (k' - (k + 1)) = k' by omega] at this; omega
    · exact h
    · have := cumI_mono y (k' + 1) (k - (k' + 1))
      rw [show k' + 1 + (k - (k' + 1)) = k by omega] at this; omega
  subst hk
  exact ⟨rfl, by omega, by omega⟩

theorem len_ge {y m : Int} (h1 : 1970 ≤ y) (h2 : y ≤ 2200) (h3 : 1 ≤ m) (h4 : m ≤ 12) : 28 ≤ lenI y m := by
  unfold lenI; repeat' split <;> omega

theorem date_succ {a y m d y2 m2 d2 : Int} (h : dateP a y m d) (h' : dateP (a + 1) y2 m2 d2) :
    (d2 = d + 1 ∧ m2 = m ∧ y2 = y) ∨ (d2 = 1 ∧ m2 = m + 1 ∧ y2 = y) ∨ (d2 = 1 ∧ m2 = 1 ∧ m = 12 ∧ y2 = y + 1) := by
  obtain ⟨k, e1, k1, e2, e3, e4⟩ := dateP_bounds h
  have hh := h
  obtain ⟨y1, y2', m1, m2', d1, d2', e⟩ := h
  have q : (m - 1).toNat = k := by omega
  by_cases hd : d < lenI y m
  · have : dateP (a + 1) y m (d + 1) := ⟨y1, y2', m1, m2', by omega, by omega, by rw [← e]; unfold daysI; omega⟩
    obtain ⟨r1, r2, r3⟩ := dateP_unique h' this
    exact .inl ⟨r3, r2, r1⟩
  · by_cases hm : m < 12
    · have hl := len_ge y1 y2' (by omega : 1 ≤ m + 1) (by omega)
      have : dateP (a + 1) y (m + 1) 1 := ⟨y1, y2', by omega, by omega, by omega, by omega, by
        unfold daysI
        rw [show (m + 1 - 1).toNat = k + 1 by omega, e3]; omega⟩
      obtain ⟨r1, r2, r3⟩ := dateP_unique h' this
      exact .inr (.inl ⟨r3, r2, r1⟩)
    · have hm' : m = 12 := by omega
      have hk : k = 11 := by omega
      subst hk
      have hb := begins_next y1 y2'
      have e3' : cumI y 12 = cumI y 11 + lenI y m := e3
      obtain ⟨k', f1, k1', f2, f3, f4⟩ := dateP_bounds h'
      obtain ⟨z1, z2, n1, n2, c1, c2, ez⟩ := h'
      have hlt : a + 1 = beginsI (y + 1) := by rw [hb]; omega
      have hy : y + 1 ≤ 2200 := by
        rcases Int.lt_or_le y 2200 with h5 | h5
        · omega
        · have h6 : y = 2200 := by omega
          subst h6
          have hb2 := begins_next z1 z2
          have h7 : beginsI (y2 + 1) ≤ beginsI 2201 := by
            rcases Int.lt_or_le y2 2200 with h8 | h8
            · have := begins_mono z1 (by omega : y2 + 1 ≤ 2201) (by omega); exact this
            · have : y2 = 2200 := by omega
              subst this; exact Int.le_refl _
          have c := cumI_le y2 k'
          have : beginsI (2200 + 1) = beginsI 2201 := rfl
          omega
      have hl := len_ge (y := y + 1) (by omega) hy (by omega : (1 : Int) ≤ 1) (by omega)
      have : dateP (a + 1) (y + 1) 1 1 := ⟨by omega, hy, by omega, by omega, by omega, by omega, by
        unfold daysI
        rw [show ((1 : Int) - 1).toNat = 0 from rfl, hlt]
        simp only [cumI]; omega⟩
      have h'' : dateP (a + 1) y2 m2 d2 := ⟨z1, z2, n1, n2, c1, c2, ez⟩
      obtain ⟨r1, r2, r3⟩ := dateP_unique h'' this
      exact .inr (.inr ⟨r3, r2, hm', r1⟩)

theorem dateP_is {n y m d : Int} (h : dateP n y m d) : isB y m d = true := isB_iff.2 ⟨h.2.2.2.2.1, h.2.2.2.2.2.1⟩

/-! ### The law -/

theorem cb_end (W : World) (F : List Ch) (b : Int) (hb : b ≤ 9223372036854775807) (st : Sy) (hlen : lenN st.tmps = 143) (hlive : liveOk st.tmps [(1, .int .i64 b), (4, .bool false)]) :
    G Try.prog (endQ Try.prog Try.f7 W F fun _ r => r = .bool true) W F [.code (codeAt (bodyOf Try.f7) [1, 1, 1, 1, 0]), .code (codeAt (bodyOf Try.f7) [1, 1, 1, 1, 1])] st := by
  refine G_live 143 _ [] hlen hlive (fun w hw => Rep.pre (h := []) trivial hw) fun u => ?_
  refine G_run (Cs := civ6) (kc := true) (ss := []) civ6_ok hm 600 ?_
  rw [civilBack_end]
  refine ⟨rfl, hb, ?_⟩
  cases hr : decide (0 ≤ b) && decide (b < 7289654400) with
  | true =>
    simp only [Bool.and_eq_true, decide_eq_true_eq] at hr
    intro y m d hd b1
    have g1 := dateP_is hd
    have g2 : inB (b % 86400 / 3600) 24 = true := inB_iff.2 (by omega)
    have g3 : inB (b % 86400 / 60 % 60) 60 = true := inB_iff.2 (by omega)
    have g4 : inB (b % 86400 % 60) 60 = true := inB_iff.2 (by omega)
    rw [g1, g2, g3, g4]
    refine ⟨⟨rfl, rfl, rfl, by decide⟩, ⟨rfl, rfl⟩, rfl, ?_⟩
    have e := hd.2.2.2.2.2.2
    show SV.bool _ = SV.bool _
    congr 1
    rw [beq_iff_eq, e]; omega
  | false => exact fun b1 => ⟨⟨rfl, rfl, rfl, by decide⟩, ⟨rfl, rfl⟩, ⟨rfl, rfl⟩, rfl⟩

theorem civilBack_ok (a b : Int) (ha : -9223372036854775808 ≤ a ∧ a ≤ 9223372036854775807) (hb : b ≤ 9223372036854775807) : Spec Try.prog 7 [] [.int .i64 a, .int .i64 b] fun _ r => r = .bool true := by
  refine Spec.of_G 143 Try.func7 (c := bodyOf Try.f7) (by kernel_rfl) (by kernel_rfl) (by simp [lenN]) fun W F => ?_
  refine G_run (Cs := civ6) (kc := true) (ss := [9, 12]) civ6_ok hm 600 ?_
  have kend := cb_end W F b hb
  rw [civilBack_run]
  refine ⟨rfl, rfl, ?_⟩
  cases hr : decide (0 ≤ a) && decide (a < 84371) with
  | false => exact fun p => ⟨⟨rfl, rfl, rfl, by decide⟩, kend _ rfl ⟨rfl, rfl, trivial⟩⟩
  | true =>
    simp only [Bool.and_eq_true, decide_eq_true_eq] at hr
    have e1 : IntKind.i64.wrap (a + 1) = a + 1 := IntWalk.i64_in _ (by omega)
    intro y m d hd p
    have g1 := dateP_is hd
    have e2 := hd.2.2.2.2.2.2
    have w1 : 0 ≤ weekdayI a ∧ weekdayI a < 7 := by unfold weekdayI; omega
    have e3 : IntKind.i64.wrap (weekdayI a + 1) = weekdayI a + 1 := IntWalk.i64_in _ (by omega)
    have e4 : (weekdayI a + 1).tmod 7 = (weekdayI a + 1) % 7 := Int.tmod_eq_emod_of_nonneg (by omega)
    have e5 : weekdayI (a + 1) = (weekdayI a + 1) % 7 := by unfold weekdayI; omega
    have f1 : (daysI y m d != a) = false := by simp [e2]
    have f2 : (weekdayI (a + 1) != (weekdayI a + 1) % 7) = false := by simp [e5]
    have h3 : decide (0 ≤ a + 1) = true := by simp; omega
    rw [e1, e3, e4, f1, f2, h3, g1]
    refine ⟨⟨rfl, rfl, rfl, by decide⟩, ⟨rfl, rfl⟩, rfl, rfl, ?_⟩
    have fin : ∀ (q : Nat) (y2 m2 d2 e : Int), (e = 20 ∧ d2 = 0) ∨ (e = 0 ∧ ((d2 = d + 1 ∧ m2 = m ∧ y2 = y) ∨ (d2 = 1 ∧ m2 = m + 1 ∧ y2 = y) ∨ (d2 = 1 ∧ m2 = 1 ∧ m = 12 ∧ y2 = y + 1))) → ∀ st : Sy, lenN st.tmps = 143 →
        liveOk st.tmps [(0, .int .i64 a), (1, .int .i64 b), (4, .bool false), (5, .ptr 0 p 0), (9, .ptr 1 q 0), (10, .int .i64 e)] →
        st.heap = [⟨.blk p, .cells [.int .i64 y, .int .i64 m, .int .i64 d] 27⟩, ⟨.blk q, .cells [.int .i64 y2, .int .i64 m2, .int .i64 d2] 27⟩] →
        G Try.prog (endQ Try.prog Try.f7 W F fun _ r => r = .bool true) W F
          [.code (codeAt (bodyOf Try.f7) [1, 1, 1, 0, 1, 0, 1, 1, 1, 0]), .code (codeAt (bodyOf Try.f7) [1, 1, 1, 0, 1, 0, 1, 1, 1, 1]), .code (codeAt (bodyOf Try.f7) [1, 1, 1, 1])] st := by
      intro q y2 m2 d2 e hs st hlen hlive hheap
      refine G_live 143 _ _ hlen hlive (fun w hw => hheap ▸ hw) fun u => ?_
      refine G_run (Cs := civ6) (kc := true) (ss := [12]) civ6_ok hm 600 ?_
      rw [civilBack_mid]
      have hl := hd.2.2.2.2.2.1
      have hl2 := lenI_le y m
      obtain ⟨z1, z2, z3, z4, z5, -, -⟩ := hd
      rw [IntWalk.i64_in (d + 1) (by omega), IntWalk.i64_in (m + 1) (by omega), IntWalk.i64_in (y + 1) (by omega)]
      clear hlive hheap hlen st
      rcases hs with ⟨rfl, rfl⟩ | ⟨rfl, ⟨rfl, rfl, rfl⟩ | ⟨rfl, rfl, rfl⟩ | ⟨rfl, rfl, rfl, rfl⟩⟩
      · have c1 : ((0 : Int) == d + 1) = false := by simp; omega
        rw [c1]
        repeat' first
          | exact kend _ rfl ⟨rfl, rfl, trivial⟩
          | refine ⟨rfl, ?_⟩
      · have c1 : (d + 1 == d + 1) = true := by simp
        have c2 : (m2 == m2) = true := by simp
        have c3 : (y2 == y2) = true := by simp
        rw [c1, c2, c3]
        repeat' first
          | exact kend _ rfl ⟨rfl, rfl, trivial⟩
          | refine ⟨rfl, ?_⟩
      · have c1 : ((1 : Int) == d + 1) = false := by simp; omega
        have c2 : (m + 1 == m + 1) = true := by simp
        have c3 : (y2 == y2) = true := by simp
        rw [c1, c2, c3]
        repeat' first
          | exact kend _ rfl ⟨rfl, rfl, trivial⟩
          | refine ⟨rfl, ?_⟩
      · have c1 : ((1 : Int) == d + 1) = false := by simp; omega
        have c3 : (y + 1 == y + 1) = true := by simp
        rw [c1, c3]
        repeat' first
          | exact kend _ rfl ⟨rfl, rfl, trivial⟩
          | refine ⟨rfl, ?_⟩
    cases h4 : decide (a + 1 < 84371) with
    | true =>
      intro y2 m2 d2 hd2 q
      have hsucc := date_succ hd hd2
      refine ⟨⟨rfl, rfl, rfl, by decide⟩, ⟨rfl, rfl⟩, rfl, rfl, ⟨by omega, by omega⟩, rfl, ⟨by omega, by omega⟩, by decide, ?_⟩
      exact fin q y2 m2 d2 0 (.inr ⟨rfl, hsucc⟩) _ rfl ⟨rfl, rfl, rfl, rfl, rfl, rfl, trivial⟩ rfl
    | false =>
      intro q
      refine ⟨⟨rfl, rfl, rfl, by decide⟩, ⟨rfl, rfl⟩, rfl, rfl, ⟨by omega, by omega⟩, rfl, ⟨by omega, by omega⟩, by decide, ?_⟩
      exact fin q 0 0 0 20 (.inl ⟨rfl, rfl⟩) _ rfl ⟨rfl, rfl, rfl, rfl, rfl, rfl, trivial⟩ rfl
end Go.Proofs.Ytjnkfgigpapeaaa
