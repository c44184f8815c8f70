/- From a contract to the row; a state said by its live slots alone. -/
import Derived.Test.YtjnkfgigpapeaaaRun
namespace Go.Proofs.Ytjnkfgigpapeaaa
open Go Go.RowKit
set_option linter.unusedVariables false
set_option linter.unusedSimpArgs false
set_option linter.unnecessarySimpa false

/-- All blocks of a world. -/
def allOf (W : World) : Ch := W.heap.toList.zipIdx.map fun p => (p.2, p.1)

theorem H.all (W : World) : H W W [allOf W] := by
  refine ⟨St.refl W, ?_, fun b o hb => ?_⟩
  · have : ([allOf W] : List Ch).flatten.map Prod.fst = W.heap.toList.zipIdx.map Prod.snd := by
      simp only [List.flatten_cons, List.flatten_nil, List.append_nil, allOf, List.map_map]; rfl
    rw [this, List.zipIdx_map_snd]
    exact List.nodup_range'
  · simp only [List.flatten_cons, List.flatten_nil, List.append_nil, allOf, List.mem_map, Prod.mk.injEq] at hb
    obtain ⟨⟨x, i⟩, hm, rfl, rfl⟩ := hb
    have := List.mem_zipIdx_iff_getElem?.1 hm
    simpa using this

theorem Below.of_H {W w : World} {cs : List Ch} (h : H W w (cs ++ [allOf W])) : Below W.heap.size W w := by
  refine ⟨h.st.os, h.st.tape, h.st.output, h.st.size, fun k hk => ?_⟩
  have hm : (k, W.heap[k]) ∈ (cs ++ [allOf W]).flatten := by
    simp only [List.flatten_append, List.mem_append, List.flatten_cons, List.flatten_nil, List.append_nil, allOf, List.mem_map]
    right
    exact ⟨(W.heap[k], k), List.mem_zipIdx_iff_getElem?.2 (by simp [hk]), rfl⟩
  rw [h.get _ _ hm]
  simp [hk]

/-- A law's function, from the world of its call. -/
theorem Spec.row {P : Program} {f : FuncId} {args : List SV} {v : SV} (h : Spec P f [] args fun _ r => r = v) (W : World) :
    Calls P f (denL args).toArray W fun e W' => e = .returned (den v) ∧ Below W.heap.size W W' := by
  refine Calls.mono (h W [allOf W] W ⟨[], rfl, H.all W⟩) ?_
  rintro e W' ⟨h', r, rfl, rfl, cs, _, hH⟩
  exact ⟨rfl, Below.of_H hH⟩

theorem i64_range {n : Int} (h : (Lit.int .i64 n).wf = true) : -9223372036854775808 ≤ n ∧ n ≤ 9223372036854775807 := by
  simp only [Lit.wf, Bool.and_eq_true, decide_eq_true_eq] at h
  exact h

/-- The state may be said by its live slots, and with fewer entries. -/
theorem G_live {P : Program} {Q : Exit → Act → World → Prop} {W : World} {F : List Ch} {k : List Frm} {st : Sy} (n : Nat) (live : List (Nat × SV)) (hp : List Ent) (hlen : lenN st.tmps = n) (hlive : liveOk st.tmps live)
    (hheap : ∀ w, Rep W F st.heap w → Rep W F hp w) (h : ∀ u, G P Q W F k ⟨mkT u n 0 live, hp⟩) : G P Q W F k st := by
  refine G_eqv (h fun t => den ((nth st.tmps t).getD (.raw undef))) ?_ hheap
  rw [lenN_eq] at hlen
  rw [mkT_eq _ st.tmps (fun _ => rfl) n 0 live (by omega) hlive]
  rfl
end Go.Proofs.Ytjnkfgigpapeaaa
