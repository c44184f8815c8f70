/- A small separation logic over the model's heap: which blocks are known, op by op. -/
import Derived.WalkKit
import Derived.KernelRfl
import Derived.RowKit3
import Derived.Below
import Derived.Deep.QuietTactic
import Derived.BigQuiet
import Derived.Deep.RegionHeld3
import Derived.Deep.DeepCutAuto
import Derived.Deep.CutBlock
import Derived.Deep.LoopGhost
namespace Go.Proofs.Ytihajdkipkfiiaa
open Go Go.RowKit
set_option linter.unusedVariables false
set_option linter.unusedSimpArgs false
set_option linter.unnecessarySimpa false

/-- The streams of w are those of W; no block has gone. -/
structure St (W w : World) : Prop where
  os : w.os = W.os
  tape : w.tape = W.tape
  output : w.output = W.output
  size : W.heap.size ≤ w.heap.size

theorem St.refl (w : World) : St w w := ⟨rfl, rfl, rfl, Nat.le_refl _⟩
theorem St.trans {a b c : World} (h : St a b) (k : St b c) : St a c :=
  ⟨k.os.trans h.os, k.tape.trans h.tape, k.output.trans h.output, Nat.le_trans h.size k.size⟩

abbrev Ch := List (Nat × Obj)

/-- What is known of the heap of w: the blocks of L, each at its place, no two at one place. -/
structure H (W w : World) (L : List Ch) : Prop where
  st : St W w
  nd : (L.flatten.map Prod.fst).Nodup
  get : ∀ b o, (b, o) ∈ L.flatten → w.heap[b]? = some o
  fresh : ∀ b o, (b, o) ∈ L.flatten → W.heap.size ≤ b
  old : ∀ b, b < W.heap.size → w.heap[b]? = W.heap[b]?

inductive In (b : Nat) (o : Obj) : List Ch → Prop
  | here {c : Ch} {L : List Ch} : In b o (((b, o) :: c) :: L)
  | next {x : Nat × Obj} {c : Ch} {L : List Ch} : In b o (c :: L) → In b o ((x :: c) :: L)
  | skip {c : Ch} {L : List Ch} : In b o L → In b o (c :: L)

inductive Upd (b : Nat) (o o' : Obj) : List Ch → List Ch → Prop
  | here {c : Ch} {L : List Ch} : Upd b o o' (((b, o) :: c) :: L) (((b, o') :: c) :: L)
  | next {x : Nat × Obj} {c c' : Ch} {L L' : List Ch} : Upd b o o' (c :: L) (c' :: L') → Upd b o o' ((x :: c) :: L) ((x :: c') :: L')
  | skip {c : Ch} {L L' : List Ch} : Upd b o o' L L' → Upd b o o' (c :: L) (c :: L')

inductive Pick (c : Ch) : List Ch → List Ch → Prop
  | here {L : List Ch} : Pick c (c :: L) L
  | next {d : Ch} {L L' : List Ch} : Pick c L L' → Pick c (d :: L) (d :: L')

theorem In.mem {b : Nat} {o : Obj} {L : List Ch} (h : In b o L) : (b, o) ∈ L.flatten := by
  induction h with
  | here => simp
  | next _ ih => simp only [List.flatten_cons, List.cons_append, List.mem_cons, List.mem_append] at ih ⊢; exact .inr ih
  | skip _ ih => simp only [List.flatten_cons, List.mem_append]; exact .inr ih

theorem Upd.split {b : Nat} {o o' : Obj} {L L' : List Ch} (h : Upd b o o' L L') : ∃ x y, L.flatten = x ++ (b, o) :: y ∧ L'.flatten = x ++ (b, o') :: y := by
  induction h with
  | @here c L => exact ⟨[], c ++ L.flatten, by simp, by simp⟩
  | @next e c c' L L' _ ih =>
    obtain ⟨x, y, h1, h2⟩ := ih
    refine ⟨e :: x, y, ?_, ?_⟩
    · simp only [List.flatten_cons, List.cons_append] at h1 ⊢; rw [h1]
    · simp only [List.flatten_cons, List.cons_append] at h2 ⊢; rw [h2]
  | @skip c L L' _ ih =>
    obtain ⟨x, y, h1, h2⟩ := ih
    exact ⟨c ++ x, y, by simp [h1], by simp [h2]⟩

theorem Pick.perm {c : Ch} {L L' : List Ch} (h : Pick c L L') : L.flatten.Perm (c :: L').flatten := by
  induction h with
  | here => exact List.Perm.refl _
  | @next d L L' _ ih =>
    simp only [List.flatten_cons] at ih ⊢
    refine (List.Perm.append_left d ih).trans ?_
    rw [← List.append_assoc, ← List.append_assoc]
    exact List.Perm.append_right _ List.perm_append_comm

section
variable {W w : World} {L L' : List Ch}

theorem H.perm (h : H W w L) (hp : L.flatten.Perm L'.flatten) : H W w L' :=
  ⟨h.st, (hp.map _).nodup_iff.1 h.nd, fun b o hb => h.get b o (hp.mem_iff.2 hb), fun b o hb => h.fresh b o (hp.mem_iff.2 hb), h.old⟩

theorem H.congr (h : H W w L) (hp : L.flatten = L'.flatten) : H W w L' := h.perm (by rw [hp])

theorem H.pick {c : Ch} (h : H W w L) (hp : Pick c L L') : H W w (c :: L') := h.perm hp.perm

theorem H.drop {c : Ch} (h : H W w (c :: L)) : H W w L :=
  ⟨h.st, (by have := h.nd; simp only [List.flatten_cons, List.map_append] at this; exact (List.nodup_append.1 this).2.1), fun b o hb => h.get b o (by simp only [List.flatten_cons, List.mem_append]; exact .inr hb), fun b o hb => h.fresh b o (by simp only [List.flatten_cons, List.mem_append]; exact .inr hb), h.old⟩

theorem H.lt (h : H W w L) {b : Nat} {o : Obj} (hi : In b o L) : b < w.heap.size := by
  have := h.get b o hi.mem
  exact (Array.getElem?_eq_some_iff.1 this).1

theorem H.heap (h : H W w L) {b : Nat} {o : Obj} (hi : In b o L) : w.heap[b]? = some o := h.get b o hi.mem

theorem H.cells (h : H W w L) {b : Nat} {cs : Array Value} {T : TypeId} {fr : Nat × Nat} (hi : In b (.cells cs T fr) L) (i : Nat) : w.cell? ⟨b, i, none⟩ = cs[i]? := by
  simp [World.cell?, h.heap hi]

theorem Addr.add_mid' (b o j : Nat) : (⟨b, o, none⟩ : Addr).add j = ⟨b, o + j, none⟩ := by unfold Addr.add; split <;> simp_all

theorem H.news (h : H W w L) {b : Nat} {cs : Array Value} {T : TypeId} {fr : Nat × Nat} (hi : In b (.cells cs T fr) L) : ∀ (j : Nat) (u : Value), cs.toList[j]? = some u → w.cell? ((⟨b, 0, none⟩ : Addr).add j) = some u := fun j u hu => by
  rw [Addr.add_mid', h.cells hi, Nat.zero_add]; simpa using hu

theorem H.frozen (h : H W w L) {b : Nat} {cs : Array Value} {T : TypeId} (hi : In b (.cells cs T (0, 0)) L) (i : Nat) : w.frozen? ⟨b, i, none⟩ = false := by
  simp [World.frozen?, h.heap hi]

/-- A block is set to another object. -/
theorem H.set {b : Nat} {o o' : Obj} (h : H W w L) (hu : Upd b o o' L L') {w' : World} (h1 : St w w') (h2 : ∀ k, w'.heap[k]? = if k = b then some o' else w.heap[k]?) : H W w' L' := by
  obtain ⟨x, y, e1, e2⟩ := hu.split
  have nd := h.nd
  rw [e1] at nd
  have hbf : W.heap.size ≤ b := h.fresh b o (by rw [e1]; simp)
  refine ⟨h.st.trans h1, ?_, ?_, ?_, ?_⟩
  · rw [e2]; simpa using nd
  rotate_left
  · intro k ok hk
    rw [e2] at hk
    simp only [List.mem_append, List.mem_cons, Prod.mk.injEq] at hk
    rcases hk with hk | ⟨rfl, _⟩ | hk
    · exact h.fresh k ok (by rw [e1]; simp [hk])
    · exact hbf
    · exact h.fresh k ok (by rw [e1]; simp [hk])
  · intro k hk
    rw [h2, if_neg (by omega)]
    exact h.old k hk
  · intro k ok hk
    rw [e2] at hk
    rw [h2]
    simp only [List.map_append, List.map_cons] at nd
    have hn := List.nodup_append.1 nd
    have hb1 : ∀ q, (b, q) ∉ x := fun q hq => hn.2.2 b (List.mem_map.2 ⟨_, hq, rfl⟩) b List.mem_cons_self rfl
    have hb2 : ∀ q, (b, q) ∉ y := fun q hq => (List.nodup_cons.1 hn.2.1).1 (List.mem_map.2 ⟨_, hq, rfl⟩)
    simp only [List.mem_append, List.mem_cons, Prod.mk.injEq] at hk
    by_cases hkb : k = b
    · subst hkb
      rw [if_pos rfl]
      rcases hk with hk | ⟨_, rfl⟩ | hk
      · exact (hb1 _ hk).elim
      · rfl
      · exact (hb2 _ hk).elim
    · rw [if_neg hkb]
      refine h.get k ok ?_
      rw [e1]
      simp only [List.mem_append, List.mem_cons, Prod.mk.injEq]
      rcases hk with hk | ⟨rfl, _⟩ | hk
      · exact .inl hk
      · exact (hkb rfl).elim
      · exact .inr (.inr hk)

/-- A new block. -/
theorem H.new (h : H W w L) (o : Obj) {w' : World} (h1 : St w w') (h2 : ∀ k, k < w.heap.size → w'.heap[k]? = w.heap[k]?) (h3 : w'.heap[w.heap.size]? = some o) : H W w' ([(w.heap.size, o)] :: L) := by
  refine ⟨h.st.trans h1, ?_, ?_, ?_, fun b hb => by rw [h2 b (Nat.lt_of_lt_of_le hb h.st.size)]; exact h.old b hb⟩
  rotate_right
  · intro b q hb
    simp only [List.flatten_cons, List.singleton_append, List.mem_cons, Prod.mk.injEq] at hb
    rcases hb with ⟨rfl, rfl⟩ | hb
    · exact h.st.size
    · exact h.fresh b q hb
  · simp only [List.flatten_cons, List.singleton_append, List.map_cons, List.nodup_cons]
    refine ⟨fun hm => ?_, h.nd⟩
    obtain ⟨⟨b, q⟩, hb, hq⟩ := List.mem_map.1 hm
    have hq' : b = w.heap.size := hq
    have := h.get b q hb
    have := (Array.getElem?_eq_some_iff.1 this).1
    omega
  · intro b q hb
    simp only [List.flatten_cons, List.singleton_append, List.mem_cons, Prod.mk.injEq] at hb
    rcases hb with ⟨rfl, rfl⟩ | hb
    · exact h3
    · have hq := h.get b q hb
      have hlt := (Array.getElem?_eq_some_iff.1 hq).1
      rw [h2 b hlt]; exact hq

theorem St.alloc (w : World) (o : Obj) : St w (w.alloc o) := ⟨rfl, rfl, rfl, by simp⟩
theorem St.drew (w : World) : St w w.drew := ⟨rfl, rfl, rfl, Nat.le_refl _⟩
theorem St.setCell (w : World) (a : Addr) (v : Value) : St w (w.setCell a v) := ⟨rfl, rfl, rfl, by simp⟩

theorem H.alloc (h : H W w L) (o : Obj) : H W (w.alloc o) ([(w.heap.size, o)] :: L) :=
  h.new o (St.alloc w o) (fun k hk => Below.heap_alloc w o k hk) (heap_alloc_new w o)

theorem H.drew (h : H W w L) : H W w.drew L := ⟨h.st.trans (St.drew w), h.nd, h.get, h.fresh, h.old⟩

/-- The heap alone counts. -/
theorem H.same (h : H W w L) {w' : World} (h1 : St w w') (h2 : w'.heap = w.heap) : H W w' L := ⟨h.st.trans h1, h.nd, fun b o hb => by rw [h2]; exact h.get b o hb, h.fresh, fun b hb => by rw [h2]; exact h.old b hb⟩

theorem heap_setCell (w : World) (b i : Nat) (cs : Array Value) (t : TypeId) (fr : Nat × Nat) (v : Value) (hg : w.heap[b]? = some (.cells cs t fr)) (k : Nat) :
    (w.setCell ⟨b, i, none⟩ v).heap[k]? = if k = b then some (.cells (cs.setIfInBounds i v) t fr) else w.heap[k]? := by
  by_cases h : k = b
  · subst h
    simp only [World.setCell, Array.getElem?_modify, ↓reduceIte, hg, Option.map_some]
    simp
  · rw [if_neg h]; exact heap_setCell_other w ⟨b, i, none⟩ k v h

theorem H.setCell {b : Nat} {cs : Array Value} {T : TypeId} {fr : Nat × Nat} (h : H W w L) (i : Nat) (v : Value) (hi : In b (.cells cs T fr) L) (hu : Upd b (.cells cs T fr) (.cells (cs.setIfInBounds i v) T fr) L L') : H W (w.setCell ⟨b, i, none⟩ v) L' :=
  h.set hu (St.setCell _ _ _) (heap_setCell w b i cs T fr v (h.heap hi))

theorem Upd.has {b : Nat} {o o' : Obj} (hu : Upd b o o' L L') : In b o L := by
  induction hu with
  | here => exact .here
  | next _ ih => exact .next ih
  | skip _ ih => exact .skip ih
end

/-- The cells cs with vs written from i on. -/
def putCells : List Value → Nat → Array Value → Array Value
  | [], _, cs => cs
  | v :: vs, i, cs => putCells vs (i + 1) (cs.setIfInBounds i v)

theorem run_storeCells_H {P : Program} {W : World} (b off : Nat) (T : TypeId) : ∀ (vs : List Value) (j : Nat) (cs : Array Value) (w : World) (L : List Ch),
    H W w ([(b, .cells cs T (0, 0))] :: L) → off + j + vs.length ≤ cs.size → (∀ v ∈ vs, v.oneCell' = true) →
    ∃ w', (storeCells ⟨b, off, none⟩ vs j).run P w = .ok () w' ∧ H W w' ([(b, .cells (putCells vs (off + j) cs) T (0, 0))] :: L)
  | [], j, cs, w, L, h, _, _ => ⟨w, rfl, h⟩
  | v :: vs, j, cs, w, L, h, hlen, h1 => by
    have hlt : off + j < cs.size := by simp only [List.length_cons] at hlen; omega
    have hc : w.cell? ⟨b, off + j, none⟩ = some cs[off + j] := by
      rw [h.cells .here]; exact Array.getElem?_eq_getElem hlt
    have h2 := h.setCell (L' := [(b, .cells (cs.setIfInBounds (off + j) v) T (0, 0))] :: L) (off + j) v .here .here
    obtain ⟨w', hr, h3⟩ := run_storeCells_H (P := P) b off T vs (j + 1) _ _ _ h2 (by simp only [List.length_cons] at hlen; simp; omega) (fun u hu => h1 u (List.mem_cons_of_mem _ hu))
    refine ⟨w', ?_, by simpa [putCells, Nat.add_assoc] using h3⟩
    unfold storeCells
    simp only [Addr.add_mid', Sem.run_bind]
    rw [run_store P w ⟨b, off + j, none⟩ v .plain (h1 v List.mem_cons_self), hc]
    simp only [h.frozen .here, Bool.false_eq_true, if_false, Result.andThen_ok]
    exact hr

end Go.Proofs.Ytihajdkipkfiiaa
