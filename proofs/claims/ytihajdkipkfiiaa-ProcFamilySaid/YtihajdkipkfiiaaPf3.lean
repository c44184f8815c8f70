/- ProcFamily: its last loop. -/
import Derived.Test.YtihajdkipkfiiaaPfP
import Derived.Test.YtihajdkipkfiiaaPrc7
import Derived.Test.YtihajdkipkfiiaaPf1Run
namespace Go.Proofs.Ytihajdkipkfiiaa
open Go Go.RowKit
set_option linter.unusedVariables false
set_option linter.unusedSimpArgs false
set_option linter.unnecessarySimpa false
set_option maxHeartbeats 0

theorem sEq_g : sEq (ByteArray.mk #[(103 : UInt8)]) (ByteArray.mk #[(103 : UInt8)]) = true := by decide +kernel
theorem sEq_c : sEq (ByteArray.mk #[(99 : UInt8)]) (ByteArray.mk #[(99 : UInt8)]) = true := by decide +kernel
def mineAt (ls : List Int) (p : Int) (k : Nat) : Bool := (ls.take k).any fun y => y == p
theorem mineAt_succ {ls : List Int} {p : Int} {k : Nat} (hk : k < ls.length) : mineAt ls p (k + 1) = (mineAt ls p k || (ls.getD k 0 == p)) := by
  unfold mineAt
  rw [List.take_add_one, List.any_append]
  simp [List.getD, hk]
theorem mineAt_all {ls : List Int} {p : Int} {k : Nat} (hk : ¬ k < ls.length) : mineAt ls p k = decide (p ∈ ls) := by
  unfold mineAt
  rw [List.take_of_length_le (by omega), Bool.eq_iff_iff]
  simp
section
variable {W : World} {F : List Ch} {e : Bool} {a c : Nat} {b : Nat} {s : PT} {ao : Option Addr} {cap : Nat} {ls : List Int} {aA : Option Addr} {cA : Nat} {A : List PR} {m : Nat}
theorem pf_loop3 (hE : FE A ls (match e with | true => 1 | false => 2) m) (ha : a ≤ 5) (hc : c ≤ 5) (hm : m = a + a * c) (hls : ls.length ≤ 100) (hA : A.length ≤ 200) {tm : List SV} (hlen : lenN tm = 152) (hlive : liveOk tm [(2, .bool e), (7, .int .i64 (a : Int)), (8, .int .i64 (c : Int)), (10, .int .i64 2), (12, .vec 1 ao ls.length cap), (17, .int .i64 0), (18, .vec 2 aA A.length cA), (19, .int .i64 0)]) :
    G Try.prog (endQ Try.prog Try.f6 W F fun _ r => r = .bool true) W F (frm [] (bodyOf Try.f6) [1, 1, 1, 1, 1, 1, 1, 1, 1, 1, 1, 0, 1, 0] []) ⟨tm, [pkA b ptE s, ⟨.sl ao cap, .vecL 3 1 encI1 ls 0⟩, ⟨.sl aA cA, .vecL 45 6 encP6 A PR.zero⟩]⟩ := by
  refine G_loopAt (ι := Nat) [] (bodyOf Try.f6) [1, 1, 1, 1, 1, 1, 1, 1, 1, 1, 1, 0, 1, 0] 152 (fun i => [(2, .bool e), (7, .int .i64 (a : Int)), (8, .int .i64 (c : Int)), (10, .int .i64 2), (12, .vec 1 ao ls.length cap), (17, .int .i64 ((i - 2 : Nat) : Int)), (18, .vec 2 aA A.length cA), (19, .int .i64 (i : Int))]) (fun _ => [pkA b ptE s, ⟨.sl ao cap, .vecL 3 1 encI1 ls 0⟩, ⟨.sl aA cA, .vecL 45 6 encP6 A PR.zero⟩])
    (fun i => i ≤ A.length) (fun i => A.length - i) 0 (by kernel_rfl) (fun J => by kernel_rfl) (Nat.zero_le _) hlen hlive (fun w hw => hw) ?_
  intro i hi u
  try dsimp only at hi ⊢
  simp only [List.nil_append, List.cons_append]
  refine G_run (kc := false) (ss := []) ptTk_ok hmP 1500 ?_
  rw [pf_l3]
  have hEl := hE.len
  have hac : a * c ≤ 25 := Nat.mul_le_mul ha hc
  cases hlt : decide ((i : Int) < (A.length : Int)) with
  | false =>
    simp only [decide_eq_false_iff_not] at hlt
    have w1 : IntKind.wrap .i64 ((a : Int) * (c : Int)) = ((a * c : Nat) : Int) := by rw [← Int.natCast_mul]; exact IntWalk.i64_in _ (by omega)
    have w2 : IntKind.wrap .i64 ((a : Int) + ((a * c : Nat) : Int)) = ((i - 2 : Nat) : Int) := by
      rw [show ((a : Int) + ((a * c : Nat) : Int)) = ((i - 2 : Nat) : Int) by omega]; exact IntWalk.i64_in _ (by omega)
    rw [w1, w2]
    show SV.bool _ = SV.bool true
    simp
  | true =>
    simp only [decide_eq_true_eq] at hlt
    have hi' : i < A.length := by omega
    have hget : List.getD A i (PR.mk (0 : Int) (0 : Int) (ByteArray.mk #[]) false (0 : Int) (ByteArray.mk #[]) false false) = A[i] := by simp [List.getD, hi']
    have w3 : IntKind.wrap .i64 ((i : Int) + 1) = ((i + 1 : Nat) : Int) := IntWalk.i64_in _ (by omega)
    rw [Int.toNat_natCast, hget, w3]
    refine ⟨⟨rfl, rfl, rfl, by omega, by omega⟩, ⟨rfl, rfl, rfl, hi', rfl⟩, fun bx => ⟨⟨rfl, rfl, rfl, by decide⟩, rfl, ?_⟩⟩
    cases hlow : decide (A[i].pid ≤ 2) with
    | true =>
      simp only [decide_eq_true_eq] at hlow
      have hi2 : i < 2 := by
        by_cases h : i < 2
        · exact h
        · have := (hE.hi i hi' (by omega)).lt; omega
      refine G_back (i + 1) (by omega) (by omega) rfl ⟨rfl, rfl, rfl, rfl, rfl, ?_, rfl, rfl, trivial⟩ (fun w hw => Rep.pick (π := [0, 1, 2]) (by decide) rfl hw)
      have e1 : i - 2 = 0 := by omega
      have e2 : i + 1 - 2 = 0 := by omega
      rw [e1, e2]; rfl
    | false =>
      simp only [decide_eq_false_iff_not] at hlow
      have hi2 : 2 ≤ i := by
        by_cases h : i < 2
        · have := hE.low i hi' h; omega
        · omega
      have hf := hE.hi i hi' hi2
      have w4 : IntKind.wrap .i64 (((i - 2 : Nat) : Int) + 1) = ((i + 1 - 2 : Nat) : Int) := by
        rw [show (((i - 2 : Nat) : Int) + 1) = ((i + 1 - 2 : Nat) : Int) by omega]; exact IntWalk.i64_in _ (by omega)
      rw [w4]
      generalize A[i] = x at hf
      refine G_loopAt (ι := Nat) [_] (bodyOf Try.f6) [1, 1, 1, 1, 1, 1, 1, 1, 1, 1, 1, 0, 1, 0, 0, 1, 0, 0, 1, 1, 1, 1, 0, 1, 0] 152 (fun k => [(2, .bool e), (7, .int .i64 (a : Int)), (8, .int .i64 (c : Int)), (10, .int .i64 2), (12, .vec 1 ao ls.length cap), (17, .int .i64 ((i + 1 - 2 : Nat) : Int)), (18, .vec 2 aA A.length cA), (19, .int .i64 (i : Int)), (20, .ptr 3 bx 0), (21, .bool (mineAt ls x.pid k)), (22, .int .i64 (k : Int))]) (fun _ => [pkA b ptE s, ⟨.sl ao cap, .vecL 3 1 encI1 ls 0⟩, ⟨.sl aA cA, .vecL 45 6 encP6 A PR.zero⟩, ⟨.blk bx, .cells (encP6 x) 45⟩])
        (fun k => k ≤ ls.length) (fun k => ls.length - k) 0 (by kernel_rfl) (fun J => by kernel_rfl) (Nat.zero_le _) rfl ⟨rfl, rfl, rfl, rfl, rfl, rfl, rfl, rfl, rfl, rfl, rfl, trivial⟩ (fun w hw => hw) ?_
      intro k hk u
      try dsimp only at hk ⊢
      simp only [List.nil_append, List.cons_append]
      refine G_run (kc := false) (ss := []) ptTk_ok hmP 2500 ?_
      rw [pf_l4]
      have w5 : IntKind.wrap .i64 ((k : Int) + 1) = ((k + 1 : Nat) : Int) := IntWalk.i64_in _ (by omega)
      rw [w5, w3]
      cases hkl : decide ((k : Int) < (ls.length : Int)) with
      | true =>
        simp only [decide_eq_true_eq] at hkl
        have hk' : k < ls.length := by omega
        have hms := mineAt_succ (p := x.pid) hk'
        cases hm1 : mineAt ls x.pid k with
        | true =>
          rw [hm1] at hms
          refine G_back (k + 1) (by omega) (by omega) rfl ⟨rfl, rfl, rfl, rfl, rfl, rfl, rfl, rfl, rfl, ?_, rfl, trivial⟩ (fun w hw => hw)
          rw [hms]; rfl
        | false =>
          rw [hm1] at hms
          refine ⟨⟨rfl, rfl, rfl, by omega, by omega⟩, ⟨rfl, rfl, rfl, by omega⟩, rfl, ?_⟩
          rw [Int.toNat_natCast]
          refine G_back (k + 1) (by omega) (by omega) rfl ⟨rfl, rfl, rfl, rfl, rfl, rfl, rfl, rfl, rfl, ?_, rfl, trivial⟩ (fun w hw => hw)
          rw [hms]; rfl
      | false =>
        simp only [decide_eq_false_iff_not] at hkl
        have hma := mineAt_all (ls := ls) (p := x.pid) (k := k) (by omega)
        have hback : ∀ tm, lenN tm = 152 → liveOk tm [(2, .bool e), (7, .int .i64 (a : Int)), (8, .int .i64 (c : Int)), (10, .int .i64 2), (12, .vec 1 ao ls.length cap), (17, .int .i64 ((i + 1 - 2 : Nat) : Int)), (18, .vec 2 aA A.length cA), (19, .int .i64 ((i + 1 : Nat) : Int))] → G Try.prog (endQ Try.prog Try.f6 W F fun _ r => r = .bool true) W F (.loop (Back W F 152 (fun i : Nat => [(2, .bool e), (7, .int .i64 (a : Int)), (8, .int .i64 (c : Int)), (10, .int .i64 2), (12, .vec 1 ao ls.length cap), (17, .int .i64 ((i - 2 : Nat) : Int)), (18, .vec 2 aA A.length cA), (19, .int .i64 (i : Int))]) (fun _ => [pkA b ptE s, ⟨.sl ao cap, .vecL 3 1 encI1 ls 0⟩, ⟨.sl aA cA, .vecL 45 6 encP6 A PR.zero⟩]) (fun i => i ≤ A.length) (fun i => A.length - i) (A.length - i)) :: .blk 4 :: frm [] (bodyOf Try.f6) [1, 1, 1, 1, 1, 1, 1, 1, 1, 1, 1, 1] []) ⟨tm, [pkA b ptE s, ⟨.sl ao cap, .vecL 3 1 encI1 ls 0⟩, ⟨.sl aA cA, .vecL 45 6 encP6 A PR.zero⟩, ⟨.blk bx, .cells (encP6 x) 45⟩]⟩ :=
          fun tm h1 h2 => G_back (i + 1) (by omega) (by omega) h1 h2 (fun w hw => Rep.pick (π := [0, 1, 2]) (by decide) rfl hw)
        have q1 : (!sEq x.group (ByteArray.mk #[(103 : UInt8)])) = false := by rw [hf.g, sEq_g]; rfl
        have q2 : (!sEq x.cmd (ByteArray.mk #[(99 : UInt8)])) = false := by rw [hf.c, sEq_c]; rfl
        have q3 : x.pid ∉ ls → (x.parent == 1) = false ∧ (x.parent == 2) = false := fun h => by
          rcases hf.p with ⟨h1, _⟩ | ⟨_, h2⟩
          · exact absurd h1 h
          · have := hE.gt _ h2
            constructor <;> simp <;> omega
        have q4 : x.pid ∈ ls → (x.parent != (match e with | true => 1 | false => 2)) = false := fun h => by
          rcases hf.p with ⟨_, h2⟩ | ⟨h1, _⟩
          · rw [h2]; cases e <;> rfl
          · exact absurd h h1
        by_cases hmem : x.pid ∈ ls
        · have hm1 : mineAt ls x.pid k = true := by rw [hma]; simpa using hmem
          have q4 := q4 hmem
          rw [hm1]
          cases e <;> (
            dsimp only at q4 ⊢
            rw [q4, q1, q2]
            repeat' first
              | apply And.intro
              | exact rfl
              | exact trivial
              | exact hback _ rfl ⟨rfl, rfl, rfl, rfl, rfl, rfl, rfl, rfl, trivial⟩)
        · have hm1 : mineAt ls x.pid k = false := by rw [hma]; simpa using hmem
          obtain ⟨q5, q6⟩ := q3 hmem
          rw [hm1]
          cases e <;> (
            dsimp only
            rw [q5, q6, q1, q2]
            repeat' first
              | apply And.intro
              | exact rfl
              | exact trivial
              | exact hback _ rfl ⟨rfl, rfl, rfl, rfl, rfl, rfl, rfl, rfl, trivial⟩)
end
end Go.Proofs.Ytihajdkipkfiiaa
