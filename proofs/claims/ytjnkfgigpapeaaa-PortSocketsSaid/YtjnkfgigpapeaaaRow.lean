/- A law's call with a slice of numbers as its argument. -/
import Derived.Test.YtjnkfgigpapeaaaAid
import Derived.ChangeSlices
import Derived.OpenShut
import Derived.Carry
import Derived.ProofKit
namespace Go.Proofs.Ytjnkfgigpapeaaa
open Go Go.RowKit Go.ChangeShapes
set_option linter.unusedVariables false
set_option linter.unusedSimpArgs false
set_option linter.unnecessarySimpa false

theorem ro_ints {W : World} {k : IntKind} {a : Addr} {len cap : Nat} {zs : List Int} {enc : Int → List SV} (henc : ∀ x, enc x = [.int k x]) (hl : len ≤ cap) (hz : zs.length = cap) (hcell : ∀ i, i < zs.length → W.cell? (a.add i) = some (.int k (zs.getD i 0))) :
    ∃ c0 : Ch, (∀ x ∈ c0, W.heap[x.1]? = some x.2) ∧ c0.length ≤ 1 ∧ has (.sl (some a) cap) (.roL c0 1 enc (zs.take len) 0) c0 := by
  by_cases h0 : len = 0
  · subst h0
    exact ⟨[], (fun x hx => by cases hx), by decide, rfl, (fun x => by rw [henc]; rfl), by simp, .inl (by simp)⟩
  · obtain ⟨b, off, rfl, hc⟩ := ints_at hcell (by omega)
    have hc0 := hc 0 (by omega)
    have hc1 : ∃ cur T fr, W.heap[b]? = some (.cells cur T fr) := by
      simp only [World.cell?] at hc0
      split at hc0
      · rename_i cur T fr hh; exact ⟨_, _, _, hh⟩
      · cases hc0
    obtain ⟨cur, T, fr, hb⟩ := hc1
    refine ⟨[(b, .cells cur T fr)], fun x hx => ?_, by simp, rfl, (fun x => by rw [henc]; rfl), by simp; omega, .inr ⟨b, off, cur, T, fr, rfl, rfl, ?_⟩⟩
    · simp at hx; subst hx; exact hb
    · have hfl : ∀ l : List Int, flatV enc l = l.map fun x => Value.int k x := by
        intro l
        induction l with
        | nil => rfl
        | cons x l ih =>
          have : flatV enc (x :: l) = denL (enc x) ++ flatV enc l := by simp [flatV]
          rw [this, ih, henc]; rfl
      rw [hfl, List.map_take]
      have hlt : (zs.take len).length = len := by simp; omega
      rw [hlt, Nat.mul_one]
      apply List.ext_getElem?
      intro j
      simp only [List.getElem?_take, List.getElem?_drop, List.getElem?_map]
      split
      · rename_i hj
        have h1 := hc j (by omega)
        simp only [World.cell?, hb] at h1
        have h2 : cur.toList[off + j]? = cur[off + j]? := by simp
        simp at h1
        rw [h2, h1]
        have : j < zs.length := by omega
        simp [this]
      · rfl

theorem ro_one {l : Loc} {c0 : Ch} {sz : Nat} {enc : Int → List SV} {xs : List Int} : ∀ c, has l (.roL c0 sz enc xs 0) c → c = c0 := by
  intro c h
  cases l with
  | blk b => exact h.elim
  | sl ao cap => exact h.1

theorem calls_ints {P : Program} {H : Type} {enc : TypeId × Value → H} {f : FuncId} {t e : TypeId} {k : IntKind} {fuel : Nat} {W : World} {a0 : Option Addr} {len cap : Nat} {x : DataW H × List MemPlace} {v : SV} {enc' : Int → List SV}
    (henc : ∀ x, enc' x = [.int k x]) (ht : P.underlying t = some (.slice e)) (he : P.underlying e = some (.int k)) (hc : P.cellsOf e = 1)
    (hf : DataW.trod enc P W 0 (fun _ => true) true fuel t [.slice a0 len cap] = some x)
    (h : ∀ (c0 : Ch) (ao : Option Addr) (bs : List Int) (cap : Nat), (∀ z ∈ bs, (Lit.int k z).wf = true) → Spec P f [⟨.sl ao cap, .roL c0 1 enc' bs 0⟩] [.vec 0 ao bs.length cap] fun h' r => r = v ∧ ∃ l, h' = ⟨.sl ao cap, .roL c0 1 enc' bs 0⟩ :: l) :
    Calls P f #[.slice a0 len cap] W fun e W' => e = .returned (den v) ∧ Below W.heap.size W W' := by
  rcases open_ints ht he hc hf with ⟨hcs, _⟩ | ⟨a, len', cap', zs, hcs, _, hl, hm, hz, _, hcell, hwz⟩
  · simp only [List.cons.injEq, Value.slice.injEq, and_true] at hcs
    obtain ⟨rfl, rfl, rfl⟩ := hcs
    have h4 := Spec.rowR (e := ⟨.sl none 0, .roL [] 1 enc' [] 0⟩) (c0 := []) (W := W) ro_one ⟨rfl, (fun x => by rw [henc]; rfl), by simp, .inl rfl⟩ (fun x hx => by cases hx) (by decide) (h [] none [] 0 (fun z hz => by cases hz))
    exact h4
  · simp at hcs
    obtain ⟨rfl, rfl, rfl⟩ := hcs
    simp only [if_true] at hz
    obtain ⟨c0, h1, h2, h3⟩ := ro_ints (k := k) (len := len) henc hl hz hcell
    have h4 := Spec.rowR ro_one h3 h1 h2 (h c0 (some a) (zs.take len) cap fun z hz => hwz z (List.mem_of_mem_take hz))
    have hlt : (zs.take len).length = len := by simp; omega
    rw [hlt] at h4
    exact h4
end Go.Proofs.Ytjnkfgigpapeaaa
