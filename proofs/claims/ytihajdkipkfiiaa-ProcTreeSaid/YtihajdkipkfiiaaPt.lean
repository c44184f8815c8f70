/- ProcTree. -/
import Derived.Test.YtihajdkipkfiiaaPt2
namespace Go.Proofs.Ytihajdkipkfiiaa
open Go Go.RowKit
set_option linter.unusedVariables false
set_option linter.unusedSimpArgs false
set_option linter.unnecessarySimpa false
set_option maxHeartbeats 0

theorem mxI_up (x : Int) : mxI x (x + 1) = x + 1 := by unfold mxI; split <;> omega
theorem mxI_0 {x : Int} (h : 1 ≤ x) : mxI x 0 = x := by unfold mxI; split <;> omega
theorem tr_ok (ao : Option Addr) (cap : Nat) (bs : List Int) : Spec Try.prog 4 [⟨.sl ao cap, .roL 1 encU8 bs 0⟩] [.vec 0 ao bs.length cap] fun _ r => r = .bool true := by
  refine Spec.of_G 192 Try.func4 (c := bodyOf Try.f4) (by kernel_rfl) (by kernel_rfl) (Nat.le_of_ble_eq_true rfl) fun W F => ?_
  refine G_run (kc := false) (ss := []) ptTk_ok hmP 1500 ?_
  rw [tr_start]
  refine ⟨rfl, ?_⟩
  cases h150 : decide ((bs.length : Int) > 150) with
  | true => exact rfl
  | false =>
    simp only [decide_eq_false_iff_not] at h150
    refine ⟨rfl, fun b bm bp => ?_⟩
    obtain ⟨hT0, hl0⟩ := TI.new bm bp
    refine G_loopAt (ι := PT × Nat) [] (bodyOf Try.f4) [1, 1, 1, 1, 1, 0, 1, 0] 192 (fun x => [(0, .vec 0 ao bs.length cap), (3, .ptr 1 b 0), (4, .int .i64 x.1.last), (5, .int .i64 (x.2 : Int))]) (fun x => [⟨.sl ao cap, .roL 1 encU8 bs 0⟩, pkA b ptE x.1])
      (fun x => TI x.1 bp ∧ x.1.last ≤ x.2 + 1 ∧ x.1.ps.length ≤ x.2 + 1 ∧ x.2 ≤ bs.length) (fun x => bs.length - x.2) (pNew 40 bm bp, 0) (by kernel_rfl) (fun J => by kernel_rfl) ⟨hT0, by rw [hl0]; exact Int.le_refl 1, Nat.le_refl 1, Nat.zero_le _⟩ rfl ⟨rfl, rfl, rfl, rfl, trivial⟩ (fun w hw => hw) ?_
    rintro ⟨s, i⟩ ⟨hT, hla, hle, hi⟩ u
    dsimp only at hT hla hle hi ⊢
    simp only [List.nil_append, List.cons_append]
    refine G_run (kc := false) (ss := [28]) ptTk_ok hmP 1500 ?_
    rw [tr_l1]
    cases hlt : decide ((i : Int) < (bs.length : Int)) with
    | false => exact rfl
    | true =>
      simp only [decide_eq_true_eq] at hlt
      have h1 := hT.last0
      have w1 : IntKind.wrap .i64 (s.last + 1) = s.last + 1 := IntWalk.i64_in _ (by omega)
      rw [w1]
      have key : ∀ (s' : PT) (tm : List SV) (t : List Ent), TI s' bp → s'.last ≤ i + 2 → s'.ps.length ≤ i + 2 → lenN tm = 192 → liveOk tm [(0, .vec 0 ao bs.length cap), (3, .ptr 1 b 0), (4, .int .i64 s'.last), (5, .int .i64 (i : Int))] → G Try.prog (endQ Try.prog Try.f4 W F fun _ r => r = .bool true) W F (frmR [Back W F 192 (fun x : PT × Nat => [(0, .vec 0 ao bs.length cap), (3, .ptr 1 b 0), (4, .int .i64 x.1.last), (5, .int .i64 (x.2 : Int))]) (fun x => [⟨.sl ao cap, .roL 1 encU8 bs 0⟩, pkA b ptE x.1]) (fun x => TI x.1 bp ∧ x.1.last ≤ x.2 + 1 ∧ x.1.ps.length ≤ x.2 + 1 ∧ x.2 ≤ bs.length) (fun x => bs.length - x.2) (bs.length - i)] (bodyOf Try.f4) 28) ⟨tm, [⟨.sl ao cap, .roL 1 encU8 bs 0⟩, pkA b ptE s'] ++ t⟩ := fun s' tm t k1 k2 k3 k4 k5 => by
        refine G_live 192 [(0, .vec 0 ao bs.length cap), (3, .ptr 1 b 0), (4, .int .i64 s'.last), (5, .int .i64 (i : Int))] [⟨.sl ao cap, .roL 1 encU8 bs 0⟩, pkA b ptE s'] k4 k5 (fun w hw => Rep.dropR hw) fun u => ?_
        exact pt_28 k1 (by omega) (by omega) (fun tm t g1 g2 => G_back (s', i + 1) ⟨k1, by dsimp only; omega, by dsimp only; omega, by dsimp only; omega⟩ (by dsimp only; omega) g1 g2 (fun w hw => Rep.dropR hw)) u
      refine ⟨⟨rfl, rfl, rfl, by omega, by omega⟩, ⟨rfl, rfl, rfl, by omega⟩, by decide, by omega, ⟨rfl, rfl, rfl, by omega, by omega⟩, ⟨rfl, rfl, rfl, by omega⟩, by decide, ?_⟩
      cases c0 : Int.tmod (List.getD bs (Int.toNat (i : Int)) (0 : Int)) (4 : Int) == (0 : Int) with
      | true =>
        refine ⟨rfl, rfl, rfl, HEq.rfl, hT.ok, fun nb => ?_⟩
        rcases hT.spawn (by omega) (by omega) (ByteArray.mk #[(103 : UInt8)]) (ByteArray.mk #[(99 : UInt8)]) nb with ⟨s', es, hT', hl', hn'⟩ | es
        · rw [es]
          dsimp only
          rw [bne_same, mxI_up]
          exact key s' _ [] hT' (by omega) (by omega) rfl ⟨rfl, rfl, by rw [hl']; rfl, rfl, trivial⟩
        · rw [es]
          dsimp only
          rw [mxI_0 h1]
          exact key s _ [] hT (by omega) (by omega) rfl ⟨rfl, rfl, rfl, rfl, trivial⟩
      | false =>
        generalize IntKind.wrap .i64 (Int.tmod (IntKind.wrap .i64 (IntKind.wrap .u8 (Int.tdiv (List.getD bs (Int.toNat (i : Int)) (0 : Int)) (4 : Int)))) (s.last + 1) + 1) = x
        cases c1 : Int.tmod (List.getD bs (Int.toNat (i : Int)) (0 : Int)) (4 : Int) == (1 : Int) with
        | true =>
          refine ⟨rfl, rfl, rfl, HEq.rfl, hT.ok, fun nb => ?_⟩
          rcases hT.fork (by omega) (by omega) x nb with ⟨s', es, hT', hl', hn'⟩ | ⟨er, her, es⟩
          · rw [es]
            dsimp only
            rw [bne_same, mxI_up]
            exact key s' _ [] hT' (by omega) (by omega) rfl ⟨rfl, rfl, by rw [hl']; rfl, rfl, trivial⟩
          · rw [es]
            dsimp only
            have her' : (er == 0) = false := by simpa using her
            rw [her', mxI_0 h1]
            exact key s _ [] hT (by omega) (by omega) rfl ⟨rfl, rfl, rfl, rfl, trivial⟩
        | false =>
          cases c2 : Int.tmod (List.getD bs (Int.toNat (i : Int)) (0 : Int)) (4 : Int) == (2 : Int) with
          | true =>
            refine ⟨rfl, rfl, rfl, HEq.rfl, hT.ok, ?_⟩
            obtain ⟨s', er, es, hT', hl', hn'⟩ := hT.exit x 3
            rw [es]
            exact key s' _ [] hT' (by omega) (by omega) rfl ⟨rfl, rfl, by rw [hl']; rfl, rfl, trivial⟩
          | false =>
            refine ⟨rfl, rfl, rfl, HEq.rfl, hT.ok, fun b1 => ?_⟩
            rcases hT.reap with ⟨s', r, es, hT', hl', hn', q1, q2, q3⟩ | es
            · rw [es]
              dsimp only
              rw [q1, q2, q3]
              refine ⟨⟨rfl, rfl, rfl, by decide⟩, rfl, rfl, rfl, rfl, HEq.rfl, hT'.ok, fun b2 => ⟨⟨rfl, rfl, rfl, by decide⟩, rfl, rfl, ?_⟩⟩
              exact key s' _ [_, _] hT' (by omega) (by omega) rfl ⟨rfl, rfl, by rw [hl']; rfl, rfl, trivial⟩
            · rw [es]
              dsimp only
              refine ⟨⟨rfl, rfl, rfl, by decide⟩, rfl, rfl, rfl, rfl, HEq.rfl, hT.ok, fun b2 => ⟨⟨rfl, rfl, rfl, by decide⟩, ?_⟩⟩
              have z80 : ((80 : Int) == 0) = false := rfl
              rw [z80]
              refine ⟨rfl, rfl, rfl, rfl, ?_⟩
              refine key s _ [_, _] hT (by omega) (by omega) ?_ ?_
              · rfl
              · exact ⟨rfl, rfl, rfl, rfl, trivial⟩
end Go.Proofs.Ytihajdkipkfiiaa
