/- ProcRoom. -/
import Derived.Test.YtihajdkipkfiiaaRmP
import Derived.Test.YtihajdkipkfiiaaPrc7
import Derived.Test.YtihajdkipkfiiaaRm1Run
namespace Go.Proofs.Ytihajdkipkfiiaa
open Go Go.RowKit
set_option linter.unusedVariables false
set_option linter.unusedSimpArgs false
set_option linter.unnecessarySimpa false
set_option maxHeartbeats 0

def gB : ByteArray := ByteArray.mk #[(103 : UInt8)]
def cB : ByteArray := ByteArray.mk #[(99 : UInt8)]
theorem bne_same (x : Int) : (x != x) = false := by simp
section
variable {W : World} {F : List Ch} {a1 n : Int} {kn b bp : Nat}
def rmLive (a1 n : Int) (kn b : Nat) : List (Nat × SV) := [(1, .int .u8 a1), (5, .int .i64 n), (6, .ptr 0 b 0), (7, .int .i64 (kn : Int))]
theorem rm_loop2 (h1 : 0 ≤ a1 ∧ a1 ≤ 255) (hkn : kn ≤ 64) (s0 : PT) (hs0 : RI s0 bp kn) (hr0 : s0.room = kn) (hl0 : s0.last = kn + 1) {tm : List SV} (hlen : lenN tm = 137) (hlive : liveOk tm [(1, .int .u8 a1), (5, .int .i64 n), (6, .ptr 0 b 0), (7, .int .i64 (kn : Int)), (13, .int .i64 ((kn : Int) + 1)), (14, .int .i64 0)]) :
    G Try.prog (endQ Try.prog Try.f5 W F fun _ r => r = .bool true) W F (frm [] (bodyOf Try.f5) [1, 1, 1, 1, 1, 1, 1, 1, 1, 0, 1, 0] []) ⟨tm, [pkA b ptE s0]⟩ := by
  refine G_loopAt (ι := PT × Nat) [] (bodyOf Try.f5) [1, 1, 1, 1, 1, 1, 1, 1, 1, 0, 1, 0] 137 (fun x => [(1, .int .u8 a1), (5, .int .i64 n), (6, .ptr 0 b 0), (7, .int .i64 (kn : Int)), (13, .int .i64 (x.1.last)), (14, .int .i64 (x.2 : Int))]) (fun x => [pkA b ptE x.1])
    (fun x => RI x.1 bp kn ∧ x.1.room = kn ∧ x.1.last = kn + 1 + x.2 ∧ x.2 ≤ 20) (fun x => 20 - x.2) (s0, 0) (by kernel_rfl) (fun J => by kernel_rfl) ⟨hs0, hr0, by dsimp only; omega, by dsimp only; omega⟩ hlen (by dsimp only; rw [hl0]; exact hlive) (fun w hw => hw) ?_
  rintro ⟨s, i⟩ ⟨hs, hr, hl, hi⟩ u
  dsimp only at hs hr hl hi ⊢
  simp only [List.nil_append, List.cons_append]
  refine G_run (kc := false) (ss := []) ptTk_ok hmP 1500 ?_
  rw [rm_l2]
  refine ⟨by decide, ?_⟩
  have t20 : 0 ≤ Int.tmod a1 20 ∧ Int.tmod a1 20 < 20 := ⟨Int.tmod_nonneg _ h1.1, Int.tmod_lt_of_pos _ (by decide)⟩
  have w20 : IntKind.wrap .i64 (Int.tmod a1 20) = Int.tmod a1 20 := IntWalk.i64_in _ (by omega)
  rw [w20]
  cases hlt : decide ((i : Int) < Int.tmod a1 20) with
  | false => exact rfl
  | true =>
    simp only [decide_eq_true_eq] at hlt
    cases hk0 : decide ((kn : Int) > 0) with
    | false => exact rfl
    | true =>
      simp only [decide_eq_true_eq] at hk0
      have hlenS := hs.len
      refine ⟨rfl, rfl, rfl, HEq.rfl, ⟨hs.ok, by omega⟩, fun ao cap => ?_⟩
      have hU : upto (0 : Int) (List.map (fun (x : Nat × PR) => x.snd) s.ps) = List.map (fun (x : Nat × PR) => x.snd) s.ps := rfl
      have hUl : (List.map (fun (x : Nat × PR) => x.snd) s.ps).length = kn + 1 := by simp [hlenS]
      have e1 : IntKind.wrap .i64 (((kn + 1 : Nat) : Int) - 1) = (kn : Int) := by
        rw [show (((kn + 1 : Nat) : Int) - 1) = (kn : Int) by omega]; exact IntWalk.i64_in _ (by omega)
      have e2 : Int.tmod (i : Int) (kn : Int) = ((i % kn : Nat) : Int) := by rw [Int.tmod_eq_emod_of_nonneg (by omega)]; simp
      have hmod := Nat.mod_lt i (show kn > 0 by omega)
      have e3 : IntKind.wrap .i64 ((1 : Int) + ((i % kn : Nat) : Int)) = ((1 + i % kn : Nat) : Int) := by
        rw [show ((1 : Int) + ((i % kn : Nat) : Int)) = ((1 + i % kn : Nat) : Int) by omega]; exact IntWalk.i64_in _ (by omega)
      rw [hU, hUl, e1, e2, e3, Int.toNat_natCast]
      obtain ⟨j, hj⟩ : ∃ j, j = 1 + i % kn := ⟨_, rfl⟩
      rw [← hj]
      have hj1 : 1 ≤ j := by omega
      have hj2 : j < s.ps.length := by omega
      have hget : List.getD (List.map (fun (x : Nat × PR) => x.snd) s.ps) j (PR.mk (0 : Int) (0 : Int) (ByteArray.mk #[]) false (0 : Int) (ByteArray.mk #[]) false false) = (s.ps[j]).2 := by simp [List.getD, hj2]
      rw [hget]
      obtain ⟨s1, hex, ho1, ⟨M, hM, hMl⟩, hr1, hl1, s2, r, hrp, hr2, hr3, hs2, hr4, hl4⟩ := hs.round hj1 hj2 (st := (i : Int)) (by omega)
      rw [hex]
      dsimp only
      refine ⟨by omega, ⟨rfl, rfl, rfl, by omega, by omega⟩, ⟨rfl, rfl, rfl, by omega⟩, rfl, rfl, rfl, HEq.rfl, hs.ok, ?_⟩
      rw [bne_same]
      refine ⟨rfl, rfl, rfl, HEq.rfl, ho1, fun nb => ?_⟩
      have hf : pSpawn s1 (1 : Int) (ByteArray.mk #[(103 : UInt8)]) (ByteArray.mk #[(99 : UInt8)]) nb = (s1, 0, 81) := by
        rw [spawn_if hM]
        have : decide ((M.length : Int) ≥ s1.room) = true := decide_eq_true (by omega)
        rw [this]
      rw [hf]
      dsimp only
      rw [hrp]
      dsimp only
      refine ⟨rfl, rfl, rfl, HEq.rfl, ho1, fun b1 => ⟨⟨rfl, rfl, rfl, by decide⟩, rfl, rfl, rfl, HEq.rfl, hs2.ok, fun nb1 => ?_⟩⟩
      obtain ⟨s3, hsp, hs3, hr5, hl5⟩ := hs2.spawn (by omega) (by omega) (by omega) (ByteArray.mk #[(103 : UInt8)]) (ByteArray.mk #[(99 : UInt8)]) nb1
      rw [hsp]
      dsimp only
      have w2 : IntKind.wrap .i64 (s.last + 1) = s.last + 1 := IntWalk.i64_in _ (by omega)
      have w3 : IntKind.wrap .i64 ((i : Int) + 1) = ((i + 1 : Nat) : Int) := IntWalk.i64_in _ (by omega)
      rw [w2, w3, hl4, hr2, hr3]
      simp only [bne_same]
      refine ⟨trivial, trivial, ?_⟩
      refine G_back (s3, i + 1) ⟨by have := hs3; rwa [show kn - 1 + 1 = kn by omega] at this, by dsimp only; omega, by dsimp only; omega, by dsimp only; omega⟩ (by dsimp only; omega) rfl ⟨rfl, rfl, rfl, rfl, ?_, rfl, trivial⟩ (fun w hw => Rep.pick (π := [0]) (by decide) rfl hw)
      dsimp only
      rw [hl5, hl4]
      rfl
end
theorem rm_ok (a0 a1 : Int) (h0 : 0 ≤ a0 ∧ a0 ≤ 255) (h1 : 0 ≤ a1 ∧ a1 ≤ 255) : Spec Try.prog 5 [] [.int .u8 a0, .int .u8 a1] fun _ r => r = .bool true := by
  refine Spec.of_G 137 Try.func5 (c := bodyOf Try.f5) (by kernel_rfl) (by kernel_rfl) (Nat.le_of_ble_eq_true rfl) fun W F => ?_
  refine G_run (kc := false) (ss := []) ptTk_ok hmP 1500 ?_
  rw [rm_start]
  refine ⟨rfl, by decide, rfl, fun b bm bp => ?_⟩
  have t70 : 0 ≤ Int.tmod a0 70 ∧ Int.tmod a0 70 < 70 := ⟨Int.tmod_nonneg _ h0.1, Int.tmod_lt_of_pos _ (by decide)⟩
  have w70 : IntKind.wrap .i64 (Int.tmod a0 70) = Int.tmod a0 70 := IntWalk.i64_in _ (by omega)
  rw [w70]
  obtain ⟨n, hn⟩ : ∃ n, n = Int.tmod a0 70 := ⟨_, rfl⟩
  rw [← hn] at t70 ⊢
  obtain ⟨kn, hk, hk2⟩ : ∃ kn : Nat, mnI n 64 = (kn : Int) ∧ kn ≤ 64 := ⟨(mnI n 64).toNat, by unfold mnI; split <;> omega, by unfold mnI; split <;> omega⟩
  have hroom : (pNew n bm bp).room = kn := by
    show mnI (mxI n 0) 64 = kn
    rw [← hk]
    have : mxI n 0 = n := by unfold mxI; split <;> omega
    rw [this]
  rw [hk]
  obtain ⟨hI, hL⟩ := RI.new n bp bm
  refine G_loopAt (ι := PT × Nat) [] (bodyOf Try.f5) [1, 1, 1, 1, 1, 0, 1, 0] 137 (fun x => [(1, .int .u8 a1), (5, .int .i64 n), (6, .ptr 0 b 0), (7, .int .i64 (kn : Int)), (8, .int .i64 (x.2 : Int))]) (fun x => [pkA b ptE x.1])
    (fun x => RI x.1 bp x.2 ∧ x.1.room = kn ∧ x.1.last = x.2 + 1 ∧ x.2 ≤ kn) (fun x => kn - x.2) (pNew n bm bp, 0) (by kernel_rfl) (fun J => by kernel_rfl) ⟨hI, hroom, by rw [hL]; rfl, Nat.zero_le _⟩ rfl ⟨rfl, rfl, rfl, rfl, rfl, trivial⟩ (fun w hw => hw) ?_
  rintro ⟨s, i⟩ ⟨hs, hr, hl, hi⟩ u
  dsimp only at hs hr hl hi ⊢
  simp only [List.nil_append, List.cons_append]
  refine G_run (kc := false) (ss := []) ptTk_ok hmP 1500 ?_
  rw [rm_l1]
  cases hlt : decide ((i : Int) < (kn : Int)) with
  | true =>
    simp only [decide_eq_true_eq] at hlt
    refine ⟨rfl, rfl, rfl, HEq.rfl, hs.ok, fun nb => ?_⟩
    obtain ⟨s3, hsp, hs3, hr5, hl5⟩ := hs.spawn (by omega) (by omega) (by omega) (ByteArray.mk #[(103 : UInt8)]) (ByteArray.mk #[(99 : UInt8)]) nb
    rw [hsp]
    dsimp only
    have w2 : IntKind.wrap .i64 ((i : Int) + 2) = s.last + 1 := by
      rw [hl, show ((i : Int) + 1 + 1) = (i : Int) + 2 by omega]; exact IntWalk.i64_in _ (by omega)
    have w3 : IntKind.wrap .i64 ((i : Int) + 1) = ((i + 1 : Nat) : Int) := IntWalk.i64_in _ (by omega)
    rw [w2, w3]
    simp only [bne_same]
    exact G_back (s3, i + 1) ⟨hs3, by dsimp only; omega, by dsimp only; omega, by dsimp only; omega⟩ (by dsimp only; omega) rfl ⟨rfl, rfl, rfl, rfl, rfl, trivial⟩ (fun w hw => hw)
  | false =>
    simp only [decide_eq_false_iff_not] at hlt
    obtain rfl : i = kn := by omega
    refine ⟨rfl, rfl, rfl, HEq.rfl, hs.ok, fun nb => ?_⟩
    rw [hs.full (by omega)]
    dsimp only
    rw [bne_same]
    refine ⟨rfl, rfl, rfl, HEq.rfl, hs.ok, ?_⟩
    have hlenS := hs.len
    have e1 : (s.ps.length : Int) - 1 = (i : Int) := by omega
    rw [e1]
    have w3 : IntKind.wrap .i64 ((i : Int) + 1) = (i : Int) + 1 := IntWalk.i64_in _ (by omega)
    rw [w3]
    simp only [bne_same]
    exact rm_loop2 h1 hk2 s hs hr (by omega) rfl ⟨rfl, rfl, rfl, rfl, rfl, rfl, trivial⟩
end Go.Proofs.Ytihajdkipkfiiaa
