import Derived.Test.YtkcmgcoppecfpaaGreatMgKernHolds4
import Derived.ChangeSlices
import Derived.OpenShut
import Derived.Carry
import Derived.ProofKit
import Derived.Deep.Grids
import Derived.Deep.Strs
/- YtkcmgcoppecfpaaGreatRow -/
/- A law's call with a slice of numbers as1 its argument. -/
namespace Go.Proofs.YtkcmgcoppecfpaaGreat
open Go Go.RowKit Go.ChangeShapes
set_option linter.unusedVariables false
set_option linter.unusedSimpArgs false
set_option linter.unnecessarySimpa false

theorem ro_ints {W : World} {k : IntKind} {a : Addr} {len cap : Nat} {zs : List Int} {enc : Int → List SV} (henc : ∀ x, enc x = [.int k x]) (hl : len ≤ cap) (hz : zs.length = cap) (hcell : ∀ i, i < zs.length → W.cell? (a.add i) = some (.int k (zs.getD i 0))) :
    has W (.sl (some a) cap) (.roL 1 enc (zs.take len) 0) [] := by
  by_cases h0 : len = 0
  · subst h0
    exact ⟨rfl, (fun x => by rw [henc]; rfl), by simp, .inl (by simp)⟩
  · obtain ⟨b, off, rfl, hc⟩ := ints_at hcell (by omega)
    have hc0 := hc 0 (by omega)
    have hc1 : ∃ cur T fr, W.heap[b]? = some (.cells cur T fr) := by
      simp only [World.cell?] at hc0
      split at hc0
      · rename_i cur T fr hh; exact ⟨_, _, _, hh⟩
      · cases hc0
    obtain ⟨cur, T, fr, hb⟩ := hc1
    refine ⟨rfl, (fun x => by rw [henc]; rfl), by simp; omega, .inr ⟨b, off, cur, T, fr, rfl, hb, ?_⟩⟩
    · have hfl : ∀ l : List Int, flatV enc l = l.map fun x => Value.int k x := by
        intro l
        induction l with
        | nil => rfl
        | cons x l ih =>
          have : flatV enc (x :: l) = denL (enc x) ++ flatV enc l := by simp [flatV]
          rw [this, ih, henc]; rfl
      rw [hfl, List.map_take]
      have hlt : (zs.take len).length = len := by simp; omega
      rw [hlt, Nat.mul_one]
      apply List.ext_getElem?
      intro j
      simp only [List.getElem?_take, List.getElem?_drop, List.getElem?_map]
      split
      · rename_i hj
        have h1 := hc j (by omega)
        simp only [World.cell?, hb] at h1
        have h2 : cur.toList[off + j]? = cur[off + j]? := by simp
        simp at h1
        rw [h2, h1]
        have : j < zs.length := by omega
        simp [this]
      · rfl

/-- An argument that is a slice of numbers: the entry, its numbers. -/
theorem arg_ints {P : Program} {H : Type} {enc : TypeId × Value → H} {t e : TypeId} {k : IntKind} {fuel : Nat} {W : World} {a0 : Option Addr} {len cap : Nat} {x : DataW H × List MemPlace} {enc' : Int → List SV}
    (henc : ∀ x, enc' x = [.int k x]) (ht : P.underlying t = some (.slice e)) (he : P.underlying e = some (.int k)) (hc : P.cellsOf e = 1)
    (hf : DataW.trod enc P W 0 (fun _ => true) true fuel t [.slice a0 len cap] = some x) :
    ∃ bs : List Int, bs.length = len ∧ (∀ z ∈ bs, (Lit.int k z).wf = true) ∧ has W (.sl a0 cap) (.roL 1 enc' bs 0) [] := by
  rcases open_ints ht he hc hf with ⟨hcs, _⟩ | ⟨a, len', cap', zs, hcs, _, hl, hm, hz, _, hcell, hwz⟩
  · simp only [List.cons.injEq, Value.slice.injEq, and_true] at hcs
    obtain ⟨rfl, rfl, rfl⟩ := hcs
    exact ⟨[], rfl, (fun z hz => by cases hz), rfl, fun x => by rw [henc]; rfl, by simp, .inl rfl⟩
  · simp at hcs
    obtain ⟨rfl, rfl, rfl⟩ := hcs
    simp only [if_true] at hz
    exact ⟨zs.take len, by simp; omega, fun z hz => hwz z (List.mem_of_mem_take hz), ro_ints (k := k) (len := len) henc hl hz hcell⟩

/-- A slice whose cells are known, to be read. -/
theorem ro_gen {W : World} {α : Type} {a : Addr} {len cap : Nat} {zs : List α} {enc : α → List SV} {sv : α → SV} {d : α} (henc : ∀ x, enc x = [sv x]) (hl : len ≤ cap) (hz : zs.length = cap) (hcell : ∀ i, i < zs.length → W.cell? (a.add i) = some (den (sv (zs.getD i d)))) :
    has W (.sl (some a) cap) (.roL 1 enc (zs.take len) d) [] := by
  by_cases h0 : len = 0
  · subst h0
    exact ⟨rfl, (fun x => by rw [henc]; rfl), by simp, .inl (by simp)⟩
  · obtain ⟨b, off, spot⟩ := a
    have hspot : spot = none := by simpa [Addr.add] using World.cell?_spot (hcell 0 (by omega))
    subst hspot
    have hc : ∀ j, j < zs.length → W.cell? ⟨b, off + j, none⟩ = some (den (sv (zs.getD j d))) := fun j hj => by rw [← Go.WideShapes.add_plain]; exact hcell j hj
    have hc0 := hc 0 (by omega)
    have hc1 : ∃ cur T fr, W.heap[b]? = some (.cells cur T fr) := by
      simp only [World.cell?] at hc0
      split at hc0
      · rename_i cur T fr hh; exact ⟨_, _, _, hh⟩
      · cases hc0
    obtain ⟨cur, T, fr, hb⟩ := hc1
    refine ⟨rfl, (fun x => by rw [henc]; rfl), by simp; omega, .inr ⟨b, off, cur, T, fr, rfl, hb, ?_⟩⟩
    have hfl : ∀ l : List α, flatV enc l = l.map fun x => den (sv x) := by
      intro l
      induction l with
      | nil => rfl
      | cons x l ih =>
        have : flatV enc (x :: l) = denL (enc x) ++ flatV enc l := by simp [flatV]
        rw [this, ih, henc]; rfl
    rw [hfl, List.map_take]
    have hlt : (zs.take len).length = len := by simp; omega
    rw [hlt, Nat.mul_one]
    apply List.ext_getElem?
    intro j
    simp only [List.getElem?_take, List.getElem?_drop, List.getElem?_map]
    split
    · rename_i hj
      have h1 := hc j (by omega)
      simp only [World.cell?, hb] at h1
      have h2 : cur.toList[off + j]? = cur[off + j]? := by simp
      simp at h1
      rw [h2, h1]
      have : j < zs.length := by omega
      simp [this]
    · rfl

/-- An argument that is a slice of truth values. -/
theorem arg_bools {P : Program} {H : Type} {enc : TypeId × Value → H} {t e : TypeId} {fuel : Nat} {W : World} {a0 : Option Addr} {len cap : Nat} {x : DataW H × List MemPlace} {enc' : Bool → List SV}
    (henc : ∀ x, enc' x = [.bool x]) (ht : P.underlying t = some (.slice e)) (he : P.underlying e = some .bool) (hc : P.cellsOf e = 1)
    (hf : DataW.trod enc P W 0 (fun _ => true) true fuel t [.slice a0 len cap] = some x) :
    ∃ bs : List Bool, bs.length = len ∧ has W (.sl a0 cap) (.roL 1 enc' bs false) [] := by
  rcases Go.Deep.open_bools ht he hc hf with ⟨hcs, _⟩ | ⟨a, len', cap', B, hcs, _, hl, hm, _, hcell⟩
  · simp only [List.cons.injEq, Value.slice.injEq, and_true] at hcs
    obtain ⟨rfl, rfl, rfl⟩ := hcs
    exact ⟨[], rfl, rfl, fun x => by rw [henc]; rfl, by simp, .inl rfl⟩
  · simp at hcs
    obtain ⟨rfl, rfl, rfl⟩ := hcs
    have hlen : ((List.range cap).map B).length = cap := by simp
    refine ⟨((List.range cap).map B).take len, by simp; omega, ro_gen (sv := SV.bool) henc hl hlen fun i hi => ?_⟩
    rw [hlen] at hi
    rw [hcell i hi]
    simp [List.getD, hi, den]

/-- An argument that is a slice of texts. -/
theorem arg_strs {P : Program} {H : Type} {enc : TypeId × Value → H} {t e : TypeId} {fuel : Nat} {W : World} {a0 : Option Addr} {len cap : Nat} {x : DataW H × List MemPlace} {enc' : ByteArray → List SV}
    (henc : ∀ x, enc' x = [.str x]) (ht : P.underlying t = some (.slice e)) (he : P.underlying e = some .string) (hc : P.cellsOf e = 1)
    (hf : DataW.trod enc P W 0 (fun _ => true) true fuel t [.slice a0 len cap] = some x) :
    ∃ bs : List ByteArray, bs.length = len ∧ (∀ s ∈ bs, s.size ≤ maxLen) ∧ has W (.sl a0 cap) (.roL 1 enc' bs .empty) [] := by
  rcases Go.Deep.open_strs ht he hc hf with ⟨hcs, _⟩ | ⟨a, len', cap', m, S, hcs, _, hl, hm, hmm, _, hcell⟩
  · simp only [List.cons.injEq, Value.slice.injEq, and_true] at hcs
    obtain ⟨rfl, rfl, rfl⟩ := hcs
    exact ⟨[], rfl, (fun s hs => by cases hs), rfl, fun x => by rw [henc]; rfl, by simp, .inl rfl⟩
  · simp at hcs
    obtain ⟨rfl, rfl, rfl⟩ := hcs
    simp only [if_true] at hmm
    subst hmm
    have hlen : ((List.range m).map S).length = m := by simp
    refine ⟨((List.range m).map S).take len, by simp; omega, fun s hs => ?_, ro_gen (sv := SV.str) henc hl hlen fun i hi => ?_⟩
    · obtain ⟨i, hi, rfl⟩ := List.mem_map.1 (List.mem_of_mem_take hs)
      exact (hcell i (List.mem_range.1 hi)).2
    · rw [hlen] at hi
      rw [(hcell i hi).1]
      simp [List.getD, hi, den]

theorem calls_ints {P : Program} {H : Type} {enc : TypeId × Value → H} {f : FuncId} {t e : TypeId} {k : IntKind} {fuel : Nat} {W : World} {a0 : Option Addr} {len cap : Nat} {x : DataW H × List MemPlace} {v : SV} {enc' : Int → List SV}
    (henc : ∀ x, enc' x = [.int k x]) (ht : P.underlying t = some (.slice e)) (he : P.underlying e = some (.int k)) (hc : P.cellsOf e = 1)
    (hf : DataW.trod enc P W 0 (fun _ => true) true fuel t [.slice a0 len cap] = some x)
    (h : ∀ (ao : Option Addr) (bs : List Int) (cap : Nat), (∀ z ∈ bs, (Lit.int k z).wf = true) → Spec P f [⟨.sl ao cap, .roL 1 enc' bs 0⟩] [.vec 0 ao bs.length cap] fun _ r => r = v) :
    Calls P f #[.slice a0 len cap] W fun e W' => e = .returned (den v) ∧ Below W.heap.size W W' := by
  obtain ⟨bs, rfl, hw, hh⟩ := arg_ints henc ht he hc hf
  have h4 := Spec.rowR (W := W) (hs := [⟨.sl a0 cap, .roL 1 enc' bs 0⟩]) (fun e he => by rcases List.mem_singleton.1 he with rfl; exact hh) (h a0 bs cap hw)
  exact h4
end Go.Proofs.YtkcmgcoppecfpaaGreat

