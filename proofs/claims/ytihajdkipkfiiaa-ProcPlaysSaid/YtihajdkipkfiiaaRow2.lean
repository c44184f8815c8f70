/- A law's call with a slice of rows (structs of plain fields) as its argument. -/
import Derived.Test.YtihajdkipkfiiaaRow
import Derived.Deep.Slices
namespace Go.Proofs.Ytihajdkipkfiiaa
open Go Go.RowKit Go.ChangeShapes
set_option linter.unusedVariables false
set_option linter.unusedSimpArgs false
set_option linter.unnecessarySimpa false

/-- An argument that is a slice of rows: the entry, its rows. -/
theorem arg_rows {P : Program} {H : Type} {enc : TypeId × Value → H} {t e : TypeId} {fuel : Nat} {W : World} {a0 : Option Addr} {len cap : Nat} {x : DataW H × List MemPlace} {α : Type} {enc' : α → List SV} {sz : Nat} {good : α → Prop} (d : α)
    (henc : ∀ x, (enc' x).length = sz) (ht : P.underlying t = some (.slice e)) (hc : P.cellsOf e = sz) (hpos : 0 < sz)
    (hel : ∀ n cs y, cs.length = sz → DataW.trod enc P W 0 (fun _ => true) true n e cs = some y → ∃ a, cs = denL (enc' a) ∧ good a)
    (hf : DataW.trod enc P W 0 (fun _ => true) true fuel t [.slice a0 len cap] = some x) :
    ∃ bs : List α, bs.length = len ∧ (∀ z ∈ bs, good z) ∧ has W (.sl a0 cap) (.roL sz enc' bs d) [] := by
  rcases Go.Deep.open_slice ht hf with ⟨hcs, _⟩ | ⟨a, len', cap', m, n, D, Pl, hcs, _, hl, hm, hmm, _, hx⟩
  · simp only [List.cons.injEq, Value.slice.injEq, and_true] at hcs
    obtain ⟨rfl, rfl, rfl⟩ := hcs
    exact ⟨[], rfl, (fun z hz => by cases hz), rfl, henc, by simp, .inl rfl⟩
  · simp only [List.cons.injEq, Value.slice.injEq, and_true] at hcs
    obtain ⟨rfl, rfl, rfl⟩ := hcs
    simp only [if_true] at hmm
    subst hmm
    have : Inhabited α := ⟨d⟩
    obtain ⟨A, hA⟩ := Go.Deep.choose_lt (α := α) (p := fun i a' => good a' ∧ ∀ j, j < sz → W.cell? (a.add (i * sz + j)) = (denL (enc' a'))[j]?) (fun i hi => by
      obtain ⟨cs', h1, h2⟩ := hx i hi
      rw [hc] at h1
      obtain ⟨_, hlen, hcell⟩ := World.cells?_some h1
      obtain ⟨a', rfl, hg⟩ := hel _ _ _ hlen h2
      refine ⟨a', hg, fun j hj => ?_⟩
      rw [← Go.Deep.add_add]
      exact hcell j hj)
    refine ⟨(List.range len).map A, by simp, fun z hz => ?_, rfl, henc, by simpa using hl, ?_⟩
    · obtain ⟨i, hi, rfl⟩ := List.mem_map.1 hz
      exact (hA i (by have := List.mem_range.1 hi; omega)).1
    · by_cases h0 : len = 0
      · subst h0; exact .inl rfl
      refine .inr ?_
      obtain ⟨b, off, spot⟩ := a
      have hc0 := (hA 0 (by omega)).2 0 hpos
      have hlt : 0 < (denL (enc' (A 0))).length := by rw [length_denL, henc]; exact hpos
      rw [List.getElem?_eq_getElem hlt] at hc0
      have hspot : spot = none := by simpa [Addr.add] using World.cell?_spot hc0
      subst hspot
      have hcc : ∀ i, i < m → ∀ j, j < sz → W.cell? ⟨b, off + (i * sz + j), none⟩ = (denL (enc' (A i)))[j]? := fun i hi j hj => by rw [← Go.WideShapes.add_plain]; exact (hA i hi).2 j hj
      have hc1 : ∃ cur T fr, W.heap[b]? = some (.cells cur T fr) := by
        have hc0 := hcc 0 (by omega) 0 hpos
        rw [List.getElem?_eq_getElem hlt] at hc0
        simp only [World.cell?] at hc0
        split at hc0
        · rename_i cur T fr hh; exact ⟨_, _, _, hh⟩
        · cases hc0
      obtain ⟨cur, T, fr, hb⟩ := hc1
      refine ⟨b, off, cur, T, fr, rfl, hb, ?_⟩
      have hfl : (flatV enc' ((List.range len).map A)).length = len * sz := by rw [length_flatV henc]; simp
      apply List.ext_getElem?
      intro q
      rw [List.getElem?_take, List.getElem?_drop]
      split
      · rename_i hq
        have hq : q < len * sz := by simpa using hq
        have hi : q / sz < len := (Nat.div_lt_iff_lt_mul hpos).2 hq
        have hj : q % sz < sz := Nat.mod_lt _ hpos
        have hqe : q = q / sz * sz + q % sz := by rw [Nat.mul_comm]; exact (Nat.div_add_mod q sz).symm
        have h1 := hcc (q / sz) (by omega) (q % sz) hj
        rw [hqe, flatV_get henc d _ _ _ (by simpa using hi) hj, ← hqe]
        simp only [List.getD, List.getElem?_map, List.getElem?_range hi, Option.map_some, Option.getD_some]
        rw [← h1, ← hqe]
        simp [World.cell?, hb]
      · rename_i hq
        have hq : ¬ q < len * sz := by simpa using hq
        rw [List.getElem?_eq_none (by omega)]

/-- A field of a row: a whole number. -/
theorem fld_int {P : Program} {H : Type} {enc : TypeId × Value → H} {W : World} {n : Nat} {t : TypeId} {cs : List Value} {y : DataW H × List MemPlace} {k : IntKind} (ht : P.underlying t = some (.int k)) (h : DataW.trod enc P W 0 (fun _ => true) true n t cs = some y) : ∃ z, cs = [.int k z] ∧ (Lit.int k z).wf = true := by
  obtain ⟨z, h1, _, h2⟩ := DataW.trod_int ht h
  exact ⟨z, h1, h2⟩
theorem fld_str {P : Program} {H : Type} {enc : TypeId × Value → H} {W : World} {n : Nat} {t : TypeId} {cs : List Value} {y : DataW H × List MemPlace} (ht : P.underlying t = some .string) (h : DataW.trod enc P W 0 (fun _ => true) true n t cs = some y) : ∃ s : ByteArray, cs = [.string s] ∧ s.size ≤ maxLen := by
  obtain ⟨z, h1, _, h2⟩ := DataW.trod_string ht h
  exact ⟨z, h1, h2⟩
theorem fld_bool {P : Program} {H : Type} {enc : TypeId × Value → H} {W : World} {n : Nat} {t : TypeId} {cs : List Value} {y : DataW H × List MemPlace} (ht : P.underlying t = some .bool) (h : DataW.trod enc P W 0 (fun _ => true) true n t cs = some y) : ∃ s : Bool, cs = [.bool s] := by
  obtain ⟨z, h1, _⟩ := DataW.trod_bool ht h
  exact ⟨z, h1⟩
/-- A struct's cells are its fields' cells. -/
theorem cut_cells : ∀ (cs : List Value) (i : Nat) (v : Value), (cs.drop i).take 1 = [v] → cs[i]? = some v
  | [], i, v, h => by simp at h
  | c :: cs, 0, v, h => by simp at h; simp [h]
  | c :: cs, i + 1, v, h => by simpa using cut_cells cs i v (by simpa using h)
end Go.Proofs.Ytihajdkipkfiiaa
