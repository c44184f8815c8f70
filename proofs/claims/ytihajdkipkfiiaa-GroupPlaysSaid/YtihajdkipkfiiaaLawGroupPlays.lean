/- GroupPlays: for all arguments the law returns true. Walked by a symbolic executor of mine; this last text has the shape of the kit's worked MnProofs. No condition. -/
import Derived.Test.YtihajdkipkfiiaaRows
import Derived.Test.YtihajdkipkfiiaaMgGroupPlays13
import Derived.WalkKit
import Derived.ProofKit
import Derived.OpenShut
import Derived.ShutString
import Derived.ChangeOld
import Derived.Below
import Derived.SizedLaws
import Derived.Carry
import Derived.ChangeSlices
namespace Go.Proofs.Ytihajdkipkfiiaa.groupPlays
open Go.ChangeShapes Go.WideShapes Go.ChangeAt Go.RowKit
set_option linter.unusedVariables false
set_option linter.unusedSimpArgs false
theorem own : ownKnob Try.prog.godebug = none := by kernel_rfl
theorem laid : laidOutB Try.prog = true := by kernel_rfl
theorem cellsR0 : Try.prog.cellsOf 105 = 3 := by kernel_rfl
set_option maxRecDepth 100000 in
theorem lifted (os : Os) (started : os.Started) (H : Type) (enc : TypeId × Value → H) :
    ReturnsInHanded {} Try.checked os 11 .any (Rows.groupPlaysSpec.pre6 enc Try.prog Try.f11 Rows.groupPlaysRow.domain false) (Rows.groupPlaysSpec.post enc Try.prog Try.f11 false true false false) := by
  refine returnsInHanded_of_change_sized (C := Try.checked) own started (by kernel_rfl) Try.func11
    (ChangeSpec.witness6 (enc := enc) (C := Try.checked) false ⟨#[], #[.slice none 0 0], []⟩ 8 (by kernel_rfl) (by kernel_rfl) (by kernel_rfl) (by kernel_rfl)) ?_
  intro W base args ds gs before hval0 hW hcnd hsz0 _
  have hval : ∀ (j : Nat) t v, Try.f11.params[j]? = some t → args[j]? = some v → Value.okWide Try.prog W .any base t v := hval0
  have hW' := hW
  obtain ⟨p, q, hA0, hV, rfl, _, _⟩ := hW
  have hA : DataW.TrodAll enc Try.prog W 0 (fun _ => true) true Try.f11.params.toList args.toList ds p := hA0
  rw [Try.params11] at hA hval
  obtain ⟨v0, vs0, d0, ds0, p0, q0, hargs, rfl, rfl, h0, r0⟩ := trodAll_cons hA
  obtain ⟨rfl, rfl, rfl⟩ := trodAll_nil r0
  obtain rfl : args = #[v0] := by cases args; simp_all
  obtain ⟨rfl, rfl⟩ := trodVars_none hV
  have hlt : ∀ x ∈ p0, x.block < W.heap.size := fun x hx => by simpa using hW'.lt x (by simpa using hx)
  have k0 : ∀ (W' : World), Below W.heap.size W W' → DataW.Trod enc Try.prog W' 0 (fun b => decide (b < W.heap.size)) true 99 v0 d0 p0 :=
    fun W' hn => Below.trod laid (by kernel_rfl) (of_decide_eq_true (by kernel_rfl)) h0 hn (fun x hx => hlt x (by simp [hx]))
  obtain ⟨ao0, len0, cap0, rfl⟩ := okWide_slice Try.underlying99 (hval 0 99 v0 rfl rfl)
  obtain ⟨fuel0, hf0⟩ := h0
  obtain ⟨bs0, rfl, hb0, hh0⟩ := arg_rows (good := good9 W) (enc' := encStep9) Step9.zero (fun _ => rfl) Try.underlying99 cellsR0 (by decide) (fun n cs y => step9_row n cs y) hf0
  have hx0 : has W (facts9 bs0).loc (facts9 bs0).obj [] := ⟨rfl, hb0⟩
  have hend := Spec.rowR (W := W) (v := .bool true) (args := [.vec 0 ao0 bs0.length cap0]) (hs := [⟨.sl ao0 cap0, .roL 3 encStep9 bs0 Step9.zero⟩, facts9 bs0]) (by
    intro e he
    simp only [List.mem_cons, List.not_mem_nil, or_false] at he
    rcases he with rfl | rfl <;> assumption) (gp_ok ao0 cap0 bs0)
  refine Calls.mono hend ?_
  rintro e W' ⟨he, bel⟩
  subst he
  exact ⟨_, rfl, _, _, _, [], _, [], hW', trodAll_mk1 (shut_bool Try.underlying4 _), (trodAll_cons_mk (k0 _ bel) trodAll_mk0), rfl, bel.frame _, fun h => by cases h⟩
theorem over : Rows.groupPlaysRow.holds Try.pinned (OpenSpec.ofChange Rows.groupPlaysSpec) :=
  OpenClaim.holds_of_wide 11 Try.f11 rfl rfl rfl rfl rfl rfl rfl ⟨rfl, rfl, rfl, rfl, rfl⟩ rfl rfl rfl rfl rfl (by kernel_rfl) Try.func11 (by kernel_rfl)
    (of_decide_eq_true (by kernel_rfl)) (by unfold Func.isWrapper; first | (rw [if_pos (by decide +kernel)]; kernel_rfl) | (rw [if_neg (by decide +kernel)]; exact ⟨rfl, rfl⟩))
    (fun os started H enc _ => lifted os started H enc)
theorem proved : Rows.GroupPlaysSaid := over
end Go.Proofs.Ytihajdkipkfiiaa.groupPlays
namespace Go.Proofs.Ytihajdkipkfiiaa
/-- The row, under a short name, for the claim. -/
theorem groupPlays_holds : Rows.GroupPlaysSaid := groupPlays.proved
#print axioms groupPlays_holds
end Go.Proofs.Ytihajdkipkfiiaa
