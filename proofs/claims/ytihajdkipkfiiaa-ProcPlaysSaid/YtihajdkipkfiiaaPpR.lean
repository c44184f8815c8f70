/- A row of the argument of ProcPlays. -/
import Derived.Test.YtihajdkipkfiiaaRow2
import Derived.Test.YtihajdkipkfiiaaPpC
namespace Go.Proofs.Ytihajdkipkfiiaa
open Go Go.RowKit
set_option linter.unusedVariables false
set_option linter.unusedSimpArgs false
set_option linter.unnecessarySimpa false
set_option maxHeartbeats 0
open Go.ChangeShapes
theorem step_row {H : Type} {enc : TypeId × Value → H} {W : World} (n : Nat) (cs : List Value) (y : DataW H × List MemPlace) (hcs : cs.length = 5) (h : DataW.trod enc Try.prog W 0 (fun _ => true) true n 68 cs = some y) : ∃ a, cs = denL (encStep a) ∧ True := by
  obtain ⟨xs, m, _, _, hl, hlen, hf⟩ := DataW.trod_struct Try.underlying68 h
  have hlen : xs.length = 5 := hlen
  match xs, hlen with
  | [y0, y1, y2, y3, y4], _ =>
  have c3 : Try.prog.cellsOf 3 = 1 := by kernel_rfl
  have c9 : Try.prog.cellsOf 9 = 1 := by kernel_rfl
  have c4 : Try.prog.cellsOf 4 = 1 := by kernel_rfl
  have q0 := hf 0 _ rfl
  obtain ⟨a0, e0, w0⟩ := fld_int Try.underlying3 q0
  have q1 := hf 1 _ rfl
  obtain ⟨a1, e1, w1⟩ := fld_int Try.underlying3 q1
  have q2 := hf 2 _ rfl
  obtain ⟨a2, e2, w2⟩ := fld_int Try.underlying3 q2
  have q3 := hf 3 _ rfl
  obtain ⟨a3, e3, w3⟩ := fld_str Try.underlying9 q3
  have q4 := hf 4 _ rfl
  obtain ⟨a4, e4, w4⟩ := fld_str Try.underlying9 q4
  clear hf
  obtain ⟨v0, cs0, rfl⟩ := List.exists_cons_of_length_eq_add_one hcs
  have hc0 : cs0.length = 4 := by simpa using hcs
  obtain ⟨v1, cs1, rfl⟩ := List.exists_cons_of_length_eq_add_one hc0
  have hc1 : cs1.length = 3 := by simpa using hc0
  obtain ⟨v2, cs2, rfl⟩ := List.exists_cons_of_length_eq_add_one hc1
  have hc2 : cs2.length = 2 := by simpa using hc1
  obtain ⟨v3, cs3, rfl⟩ := List.exists_cons_of_length_eq_add_one hc2
  have hc3 : cs3.length = 1 := by simpa using hc2
  obtain ⟨v4, cs4, rfl⟩ := List.exists_cons_of_length_eq_add_one hc3
  have hc4 : cs4.length = 0 := by simpa using hc3
  obtain rfl := List.eq_nil_of_length_eq_zero hc4
  have g0 : (([v0, v1, v2, v3, v4] : List Value).drop 0).take (Try.prog.cellsOf 3) = [.int .i64 a0] := e0
  rw [c3] at g0
  have k0 := cut_cells _ _ _ g0
  have j0 : v0 = .int .i64 a0 := Option.some.inj k0
  have g1 : (([v0, v1, v2, v3, v4] : List Value).drop 1).take (Try.prog.cellsOf 3) = [.int .i64 a1] := e1
  rw [c3] at g1
  have k1 := cut_cells _ _ _ g1
  have j1 : v1 = .int .i64 a1 := Option.some.inj k1
  have g2 : (([v0, v1, v2, v3, v4] : List Value).drop 2).take (Try.prog.cellsOf 3) = [.int .i64 a2] := e2
  rw [c3] at g2
  have k2 := cut_cells _ _ _ g2
  have j2 : v2 = .int .i64 a2 := Option.some.inj k2
  have g3 : (([v0, v1, v2, v3, v4] : List Value).drop 3).take (Try.prog.cellsOf 9) = [.string a3] := e3
  rw [c9] at g3
  have k3 := cut_cells _ _ _ g3
  have j3 : v3 = .string a3 := Option.some.inj k3
  have g4 : (([v0, v1, v2, v3, v4] : List Value).drop 4).take (Try.prog.cellsOf 9) = [.string a4] := e4
  rw [c9] at g4
  have k4 := cut_cells _ _ _ g4
  have j4 : v4 = .string a4 := Option.some.inj k4
  subst j0 j1 j2 j3 j4
  exact ⟨⟨a0, a1, a2, a3, a4⟩, rfl, trivial⟩
end Go.Proofs.Ytihajdkipkfiiaa
