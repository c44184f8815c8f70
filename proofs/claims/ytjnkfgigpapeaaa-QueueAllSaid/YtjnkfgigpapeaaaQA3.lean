/- QueueAll: the law. -/
import Derived.Test.YtjnkfgigpapeaaaQA2
namespace Go.Proofs.Ytjnkfgigpapeaaa
open Go Go.RowKit
set_option linter.unusedVariables false
set_option linter.unusedSimpArgs false
set_option linter.unnecessarySimpa false
set_option maxHeartbeats 0

structure QAI where
  (xs : List (Int × Int)) (na : Int) (i : Nat) (capq : Nat) (aoq : Option Addr)

theorem tmod_range {a b : Int} (h : 0 < b) (h0 : 0 ≤ a) : 0 ≤ a.tmod b ∧ a.tmod b < b := by
  rw [Int.tmod_eq_emod_of_nonneg h0]
  exact ⟨Int.emod_nonneg _ (by omega), Int.emod_lt_of_pos _ h⟩

theorem qa_ok (ao : Option Addr) (cap : Nat) (bs : List Int) (ao' : Option Addr) (cap' : Nat) (ss : List Int) (hss' : ∀ z ∈ ss, (Lit.int .u8 z).wf = true) :
    Spec Try.prog 12 [⟨.sl ao cap, .roL 1 encI16 bs 0⟩, ⟨.sl ao' cap', .roL 1 encU8 ss 0⟩] [.vec 0 ao bs.length cap, .vec 1 ao' ss.length cap'] fun _ r => r = .bool true := by
  have hss : ∀ b ∈ ss, 0 ≤ b ∧ b ≤ 255 := fun b hb => by
    have := hss' b hb
    simp only [Lit.wf, Bool.and_eq_true, decide_eq_true_eq] at this
    exact this
  refine Spec.of_G 113 Try.func12 (c := bodyOf Try.f12) (by kernel_rfl) (by kernel_rfl) (Nat.le_of_ble_eq_true rfl) fun W F => ?_
  refine G_run (kc := false) (ss := []) qaT2_ok hmQI 2500 ?_
  rw [qa_start]
  refine ⟨rfl, fun bl => ⟨rfl, rfl, ?_⟩⟩
  cases h80 : decide ((bs.length : Int) > 80) with
  | true => exact rfl
  | false =>
  cases h20 : decide ((ss.length : Int) > 20) with
  | true => exact rfl
  | false =>
  simp only [decide_eq_false_iff_not] at h80 h20
  refine ⟨rfl, ⟨rfl, rfl⟩, ⟨rfl, rfl⟩, rfl, fun q => ?_⟩
  refine G_loopAt (ι := QAI) [] (bodyOf Try.f12) [1, 1, 1, 1, 0, 1, 0] 113 (fun s => [(1, .vec 1 ao' ss.length cap'), (2, .ptr 2 bl 0), (4, .bool false), (5, .ptr 3 q 0), (6, .int .i64 s.i)])
    (fun s => qaL0 ao cap bs ao' cap' ss bl q s.aoq s.capq s.xs s.na) (fun s => s.i ≤ bs.length ∧ s.xs.length = s.i) (fun s => bs.length - s.i) ⟨[], 0, 0, 0, none⟩ (by kernel_rfl) (fun J => by kernel_rfl)
    ⟨Nat.zero_le _, rfl⟩ rfl ⟨rfl, rfl, rfl, rfl, rfl, trivial⟩ (fun w hw => ?_) ?_
  · have a1 := Rep.cellsEq (l := 3) (cs' := [.vec 4 none 0 0, .func (.func 53) [] [], .int .i64 0]) rfl (by rfl) hw
    exact Rep.nilvec 149 (sz := 2) (enc := encItI) ((0 : Int), (0 : Int)) (fun _ => rfl) a1
  rintro ⟨xs, na, i, capq, aoq⟩ ⟨h1, h2⟩ u
  dsimp only at h1 h2 ⊢
  refine G_run (kc := false) (ss := []) qaT2_ok hmQI 2500 ?_
  simp only [List.nil_append, List.cons_append]
  rw [qa_l1]
  refine ⟨rfl, ?_⟩
  cases hlt : decide ((i : Int) < (bs.length : Int)) with
  | true =>
    simp only [decide_eq_true_eq] at hlt
    refine ⟨rfl, ⟨rfl, rfl, rfl, by omega, hlt⟩, ⟨rfl, rfl, rfl, by omega⟩, rfl, rfl, ⟨rfl, rfl⟩, rfl, xs, ⟨rfl, rfl, rfl, rfl⟩, (_, _), ⟨rfl, rfl, rfl, by omega, by omega⟩, _, RI_3, fun ao2 cap2 => ⟨rfl, ⟨rfl, rfl, rfl, by decide⟩, ?_⟩⟩
    have e1 : IntKind.wrap .i64 ((i : Int) + 1) = ((i + 1 : Nat) : Int) := IntWalk.i64_in _ (by omega)
    rw [e1]
    exact G_back ⟨_, IntKind.wrap .i64 (na + 1), i + 1, cap2, ao2⟩ ⟨by dsimp only; omega, (length_pushL xs _).trans (congrArg (· + 1) h2)⟩ (by dsimp only; omega) rfl ⟨rfl, rfl, rfl, rfl, rfl, trivial⟩ (fun w hw => hw)
  | false =>
  simp only [decide_eq_false_iff_not] at hlt
  have hlen : xs.length = bs.length := by omega
  refine fun b7 => ⟨rfl, rfl, fun bq => ⟨rfl, rfl, ao, cap, bs, ao', cap', ss, q, aoq, capq, xs, na, rfl, ⟨hlen, by omega⟩, fun aof capf => ⟨rfl, rfl, fun b8 => ⟨⟨rfl, rfl, rfl, by decide⟩, ?_⟩⟩⟩⟩
  have e0 : (((xs.length : Nat) : Int) == (bs.length : Int)) = true := by rw [hlen]; simp
  rw [e0]
  refine G_loopAt (ι := Nat) [] (bodyOf Try.f12) [1, 1, 1, 1, 1, 1, 1, 1, 0, 1, 0] 113 (fun i => [(1, .vec 1 ao' ss.length cap'), (2, .ptr 2 bl 0), (4, .bool false), (5, .ptr 3 q 0), (7, .ptr 5 b7 0), (8, .ptr 7 b8 0), (9, .int .i64 i)])
    (fun i => qaL2 ao cap bs ao' cap' ss bl q aoq capq xs na b7 aof capf b8 true) (fun i => i ≤ ss.length) (fun i => ss.length - i) 0 (by kernel_rfl) (fun J => by kernel_rfl)
    (Nat.zero_le _) rfl ⟨rfl, rfl, rfl, rfl, rfl, rfl, rfl, trivial⟩ (fun w hw => hw) ?_
  intro i hi u
  refine G_run (kc := false) (ss := []) qaT2_ok hmQI 2500 ?_
  simp only [List.nil_append, List.cons_append]
  rw [qa_l2]
  cases hlt : decide ((i : Int) < (ss.length : Int)) with
  | true =>
    simp only [decide_eq_true_eq] at hlt
    have e1 : IntKind.wrap .i64 ((bs.length : Int) + 1) = (bs.length : Int) + 1 := IntWalk.i64_in _ (by omega)
    have hg : 0 ≤ ss.getD (Int.toNat (i : Int)) 0 ∧ ss.getD (Int.toNat (i : Int)) 0 ≤ 255 := by
      have hi' : i < ss.length := by omega
      have := hss _ (List.getElem_mem hi')
      simpa [List.getD, hi'] using this
    have e2 : IntKind.wrap .i64 (ss.getD (Int.toNat (i : Int)) 0) = ss.getD (Int.toNat (i : Int)) 0 := IntWalk.i64_in _ (by omega)
    have e3 : IntKind.wrap .i64 ((i : Int) + 1) = ((i + 1 : Nat) : Int) := IntWalk.i64_in _ (by omega)
    rw [e1, e2, e3]
    have hn := tmod_range (a := ss.getD (Int.toNat (i : Int)) 0) (b := (bs.length : Int) + 1) (by omega) hg.1
    generalize (ss.getD (Int.toNat (i : Int)) 0).tmod ((bs.length : Int) + 1) = n at hn ⊢
    generalize hJ : Back W F 113 _ _ _ _ _ = J
    generalize hK : G Try.prog _ W F = K
    have hat1 : (n = 0 → atF xs.length n.toNat ≤ 1) ∧ (n ≠ 0 → (atF xs.length n.toNat : Int) = n) := by unfold atF; constructor <;> intro h <;> (repeat' split) <;> omega
    refine ⟨⟨rfl, rfl, rfl, by omega, hlt⟩, ⟨rfl, rfl, rfl, by omega⟩, rfl, by omega, fun b10 => ⟨⟨rfl, rfl, rfl, rfl, rfl, rfl, rfl, rfl, trivial⟩, ⟨rfl, rfl, rfl, by decide⟩, fun b11 => ⟨⟨rfl, rfl, rfl, by decide⟩, rfl, rfl, fun bq => ⟨rfl, rfl, ao, cap, bs, ao', cap', ss, bl, q, aoq, capq, xs, na, aof, capf, true, n, rfl, ⟨hn.1, by omega, by omega⟩, ?_⟩⟩⟩⟩
    generalize atF xs.length n.toNat = a at hat1 ⊢
    have leaf : ∀ (tm : List SV) (v : Bool), v = true → lenN tm = 113 → liveOk tm [(1, .vec 1 ao' ss.length cap'), (2, .ptr 2 bl 0), (4, .bool false), (5, .ptr 3 q 0), (7, .ptr 5 b7 0), (8, .ptr 7 b8 0), (9, .int .i64 ((i + 1 : Nat) : Int))] → K (.loop J :: .blk 2 :: frm [] (bodyOf Try.f12) [1, 1, 1, 1, 1, 1, 1, 1, 1] []) ⟨tm, qaP2 ao cap bs ao' cap' ss bl q aoq capq xs na b7 aof capf b8 v b10 n b11 a⟩ := by
      intro tm v hv hlen hlive
      subst hv hJ hK
      exact G_back (i + 1) (by omega) (by omega) hlen hlive (fun w hw => hw.front ⟨rfl, rfl, rfl, rfl, rfl, rfl, rfl, rfl, trivial⟩)
    repeat' first
      | exact rfl
      | exact trivial
      | assumption
      | (refine leaf _ _ ?_ rfl ⟨rfl, rfl, rfl, rfl, rfl, rfl, rfl, trivial⟩; first | rfl | (simp only [decide_eq_true_eq]; omega) | (simp only [beq_iff_eq]; omega))
      | apply And.intro
      | intro _
      | (split <;> rename_i hh <;> try simp only [Bool.not_eq_true', Bool.not_eq_false', beq_iff_eq, beq_eq_false_iff_ne, decide_eq_true_eq, decide_eq_false_iff_not, Bool.true_eq, Bool.false_eq, ne_eq] at hh)
      | decide
      | omega
      | (exfalso; omega)
      | fail
  | false =>
  refine G_loopAt (ι := Nat) [] (bodyOf Try.f12) [1, 1, 1, 1, 1, 1, 1, 1, 1, 0, 1, 0] 113 (fun i => [(4, .bool false), (5, .ptr 3 q 0), (7, .ptr 5 b7 0), (8, .ptr 7 b8 0), (12, .int .i64 i)])
    (fun i => qaL3 ao cap bs ao' cap' ss bl q aoq capq xs na b7 aof capf b8 true (popN xs i)) (fun i => i ≤ xs.length) (fun i => xs.length - i) 0 (by kernel_rfl) (fun J => by kernel_rfl)
    (Nat.zero_le _) rfl ⟨rfl, rfl, rfl, rfl, rfl, trivial⟩ (fun w hw => hw) ?_
  intro i hi u
  refine G_run (kc := false) (ss := []) qaT2_ok hmQI 2500 ?_
  simp only [List.nil_append, List.cons_append]
  rw [qa_l3]
  have hl := length_popN xs i
  have hf := (length_firsts xs xs.length).symm
  refine ⟨rfl, ?_⟩
  cases hlt : decide ((i : Int) < (xs.length : Int)) with
  | true =>
    simp only [decide_eq_true_eq] at hlt
    refine ⟨rfl, rfl, rfl, rfl, ?_⟩
    have ez : (((popN xs i).length : Int) == 0) = false := by simp only [beq_eq_false_iff_ne, ne_eq]; omega
    have e1 : IntKind.wrap .i64 ((i : Int) + 1) = ((i + 1 : Nat) : Int) := IntWalk.i64_in _ (by omega)
    have e2 : (((popN xs i).getD 0 ((0 : Int), (0 : Int))).1 == (firsts xs xs.length).getD (Int.toNat (i : Int)) 0) = true := by rw [Int.toNat_natCast, firsts_get _ _ _ (by omega)]; simp [topI]
    rw [ez, e1]
    refine ⟨rfl, popN xs i, ⟨rfl, rfl, rfl, rfl⟩, ⟨rfl, by omega, by omega⟩, _, RI_3, rfl, ⟨rfl, rfl, hf, by omega, hlt⟩, ⟨rfl, rfl, rfl, by rw [← hf]; omega⟩, ⟨rfl, rfl, rfl, by decide⟩, ?_⟩
    rw [e2]
    exact G_back (i + 1) (by omega) (by omega) rfl ⟨rfl, rfl, rfl, rfl, rfl, trivial⟩ (fun w hw => hw)
  | false =>
    exact ⟨rfl, rfl⟩
end Go.Proofs.Ytjnkfgigpapeaaa
