/- ProcFamily. -/
import Derived.Test.YtihajdkipkfiiaaPf3
namespace Go.Proofs.Ytihajdkipkfiiaa
open Go Go.RowKit
set_option linter.unusedVariables false
set_option linter.unusedSimpArgs false
set_option linter.unnecessarySimpa false
set_option maxHeartbeats 0

theorem bne0 : ((0 : Int) != (0 : Int)) = false := rfl
theorem pf_ok (a0 a1 : Int) (e : Bool) (h0 : 0 ≤ a0 ∧ a0 ≤ 255) (h1 : 0 ≤ a1 ∧ a1 ≤ 255) : Spec Try.prog 6 [] [.int .u8 a0, .int .u8 a1, .bool e] fun _ r => r = .bool true := by
  refine Spec.of_G 152 Try.func6 (c := bodyOf Try.f6) (by kernel_rfl) (by kernel_rfl) (Nat.le_of_ble_eq_true rfl) fun W F => ?_
  refine G_run (kc := false) (ss := []) ptTk_ok hmP 1500 ?_
  rw [pf_start]
  have small : ∀ z : Int, 0 ≤ z ∧ z ≤ 255 → ∃ k : Nat, IntKind.wrap .i64 (Int.tmod z 6) = (k : Int) ∧ k ≤ 5 := fun z hz => by
    have h1 := Int.tmod_nonneg 6 hz.1
    have h2 := Int.tmod_lt_of_pos z (show (0 : Int) < 6 by decide)
    exact ⟨(Int.tmod z 6).toNat, by rw [Int.toNat_of_nonneg h1]; exact IntWalk.i64_in _ (by omega), by omega⟩
  obtain ⟨a, ea, ha⟩ := small a0 h0
  obtain ⟨c, ec, hc⟩ := small a1 h1
  rw [ea, ec]
  refine ⟨rfl, by decide, by decide, rfl, fun b bm bp => ⟨rfl, rfl, rfl, HEq.rfl, pOk_lit rfl rfl rfl, fun nb => ?_⟩⟩
  obtain ⟨s0, hs0e, hs0⟩ : ∃ s0, pSpawn (PT.mk bm [(bp, PR.mk (1 : Int) (0 : Int) (ByteArray.mk #[]) false (0 : Int) (ByteArray.mk #[]) false false)] (60 : Int) (1 : Int)) (1 : Int) (ByteArray.mk #[(103 : UInt8)]) (ByteArray.mk #[(99 : UInt8)]) nb = (s0, 2, 0) ∧ FI s0 bp [] 0 :=
    ⟨⟨bm, [(bp, rootP), (nb, parP)], 60, 2⟩, rfl, pOk_lit rfl rfl rfl, rfl, rfl, nb, [], rfl, rfl, by simp, by simp⟩
  rw [hs0e]
  dsimp only
  refine G_loopAt (ι := PT × Option Addr × Nat × List Int × Nat) [] (bodyOf Try.f6) [1, 1, 1, 1, 1, 1, 1, 0, 1, 0] 152 (fun x => [(2, .bool e), (7, .int .i64 (a : Int)), (8, .int .i64 (c : Int)), (9, .ptr 0 b 0), (10, .int .i64 2), (12, .vec 1 x.2.1 x.2.2.2.1.length x.2.2.1), (13, .int .i64 (x.2.2.2.2 : Int))]) (fun x => [pkA b ptE x.1, ⟨.sl x.2.1 x.2.2.1, .vecL 3 1 encI1 x.2.2.2.1 0⟩])
    (fun x => FI x.1 bp x.2.2.2.1 (x.2.2.2.2 * (1 + c)) ∧ x.2.2.2.1.length = x.2.2.2.2 ∧ x.2.2.2.2 ≤ a) (fun x => a - x.2.2.2.2) (s0, none, 0, [], 0) (by kernel_rfl) (fun J => by kernel_rfl) ⟨by simpa using hs0, rfl, Nat.zero_le _⟩ rfl ⟨rfl, rfl, rfl, rfl, rfl, rfl, rfl, trivial⟩ (fun w hw => Rep.nilvec 3 (sz := 1) (enc := encI1) (0 : Int) (fun _ => rfl) hw) ?_
  rintro ⟨s, ao, cap, ls, i⟩ ⟨hF, hls, hi⟩ u
  dsimp only at hF hls hi ⊢
  simp only [List.nil_append, List.cons_append]
  refine G_run (kc := false) (ss := []) ptTk_ok hmP 1500 ?_
  rw [pf_l1]
  have hmul : i * (1 + c) ≤ 30 := Nat.mul_le_mul (show i ≤ 5 by omega) (show 1 + c ≤ 6 by omega)
  cases hlt : decide ((i : Int) < (a : Int)) with
  | true =>
    simp only [decide_eq_true_eq] at hlt
    refine ⟨rfl, rfl, rfl, HEq.rfl, hF.ok, fun nb => ?_⟩
    obtain ⟨s', es, hF'⟩ := hF.kid (by omega) nb
    rw [es]
    dsimp only
    rw [bne0]
    refine ⟨⟨rfl, rfl, by decide, by decide⟩, fun b1 => ⟨⟨rfl, rfl, rfl, rfl, rfl, rfl, rfl, by decide, rfl, by omega, by omega⟩, [s.last + 1], rfl, rfl, fun ao2 cap2 hcap => ?_⟩⟩
    refine G_loopAt (ι := PT × Nat) [_] (bodyOf Try.f6) [1, 1, 1, 1, 1, 1, 1, 0, 1, 0, 0, 1, 0, 0, 1, 1, 1, 1, 0] 152 (fun x => [(2, .bool e), (7, .int .i64 (a : Int)), (8, .int .i64 (c : Int)), (9, .ptr 0 b 0), (10, .int .i64 2), (12, .vec 1 ao2 (ls ++ [s.last + 1]).length cap2), (13, .int .i64 (i : Int)), (14, .int .i64 (s.last + 1)), (16, .int .i64 (x.2 : Int))]) (fun x => [pkA b ptE x.1, ⟨.sl ao2 cap2, .vecL 3 1 encI1 (ls ++ [s.last + 1]) 0⟩])
      (fun x => FI x.1 bp (ls ++ [s.last + 1]) (i * (1 + c) + 1 + x.2) ∧ x.2 ≤ c) (fun x => c - x.2) (s', 0) (by kernel_rfl) (fun J => by kernel_rfl) ⟨hF', Nat.zero_le _⟩ rfl ⟨rfl, rfl, rfl, rfl, rfl, by rw [List.length_append]; rfl, rfl, rfl, rfl, trivial⟩ (fun w hw => Rep.pick (π := [0, 1]) (by decide) rfl hw) ?_
    rintro ⟨t, j⟩ ⟨hT, hj⟩ u
    dsimp only at hT hj ⊢
    simp only [List.nil_append, List.cons_append]
    refine G_run (kc := false) (ss := []) ptTk_ok hmP 1500 ?_
    rw [pf_l2]
    have w1 : IntKind.wrap .i64 ((j : Int) + 1) = ((j + 1 : Nat) : Int) := IntWalk.i64_in _ (by omega)
    have w2 : IntKind.wrap .i64 ((i : Int) + 1) = ((i + 1 : Nat) : Int) := IntWalk.i64_in _ (by omega)
    rw [w1, w2]
    cases hjl : decide ((j : Int) < (c : Int)) with
    | true =>
      simp only [decide_eq_true_eq] at hjl
      refine ⟨rfl, rfl, rfl, HEq.rfl, hT.ok, fun nb2 => ?_⟩
      obtain ⟨t', et, hT'⟩ := hT.grand (by omega) (k := s.last + 1) (by simp) nb2
      rw [et]
      dsimp only
      rw [bne0]
      exact G_back (t', j + 1) ⟨hT', by dsimp only; omega⟩ (by dsimp only; omega) rfl ⟨rfl, rfl, rfl, rfl, rfl, rfl, rfl, rfl, rfl, trivial⟩ (fun w hw => hw)
    | false =>
      simp only [decide_eq_false_iff_not] at hjl
      obtain rfl : j = c := by omega
      have hmm : i * (1 + j) + 1 + j = (i + 1) * (1 + j) := by rw [Nat.succ_mul]; omega
      rw [hmm] at hT
      exact G_back (t, ao2, cap2, ls ++ [s.last + 1], i + 1) ⟨hT, by simp [hls], by dsimp only; omega⟩ (by dsimp only; omega) rfl ⟨rfl, rfl, rfl, rfl, rfl, rfl, rfl, trivial⟩ (fun w hw => hw)
  | false =>
    simp only [decide_eq_false_iff_not] at hlt
    obtain rfl : i = a := by omega
    have hlenS := hF.len
    have hmm : i * (1 + c) = i + i * c := by rw [Nat.mul_add, Nat.mul_one]
    cases e with
    | true =>
      refine ⟨rfl, rfl, rfl, HEq.rfl, hF.ok, ?_⟩
      obtain ⟨s', es, ho', hl', hE⟩ := hF.exit
      rw [es]
      dsimp only
      rw [bne0]
      refine ⟨rfl, rfl, rfl, HEq.rfl, ⟨ho', by omega⟩, fun aA cA => ?_⟩
      exact pf_loop3 (e := true) hE ha hc hmm (by omega) (by rw [List.length_map]; omega) rfl ⟨rfl, rfl, rfl, rfl, rfl, rfl, rfl, rfl, trivial⟩
    | false =>
      refine ⟨rfl, rfl, rfl, HEq.rfl, ⟨hF.ok, by omega⟩, fun aA cA => ?_⟩
      exact pf_loop3 (e := false) hF.stay ha hc hmm (by omega) (by rw [List.length_map]; omega) rfl ⟨rfl, rfl, rfl, rfl, rfl, rfl, rfl, rfl, trivial⟩
end Go.Proofs.Ytihajdkipkfiiaa
