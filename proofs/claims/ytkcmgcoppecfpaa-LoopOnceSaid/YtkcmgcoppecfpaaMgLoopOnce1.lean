import Derived.WalkKit
import Derived.KernelRfl
import Derived.RowKit3
import Derived.Below
import Derived.Deep.QuietTactic
import Derived.BigQuiet
import Derived.Deep.RegionHeld3
import Derived.Deep.DeepCutAuto
import Derived.Deep.CutBlock
import Derived.Deep.LoopGhost
import Derived.Laws.Append
import Derived.LoopN
import Derived.Laws.StructEq
set_option linter.unusedVariables false
set_option linter.unusedSimpArgs false
set_option linter.unnecessarySimpa false
set_option maxHeartbeats 0
set_option maxRecDepth 100000
/- A small separation logic over the model's heap: which blocks are known, op by op. -/
namespace Go.Proofs.Ytkcmgcoppecfpaa
open Go Go.RowKit

structure St (W w : World) : Prop where
  os : w.os = W.os
  tape : w.tape = W.tape
  output : w.output = W.output
  size : W.heap.size ≤ w.heap.size
  drawn : W.drawn ≤ w.drawn

theorem St.mk' {W w : World} (h1 : w.os = W.os) (h2 : w.tape = W.tape) (h3 : w.output = W.output) (h4 : W.heap.size ≤ w.heap.size) (h5 : W.drawn ≤ w.drawn) : St W w := ⟨h1, h2, h3, h4, h5⟩
theorem St.refl (w : World) : St w w := St.mk' rfl rfl rfl (Nat.le_refl _) (Nat.le_refl _)
theorem St.trans {a b c : World} (h : St a b) (k : St b c) : St a c :=
  ⟨k.os.trans h.os, k.tape.trans h.tape, k.output.trans h.output, Nat.le_trans h.size k.size, Nat.le_trans h.drawn k.drawn⟩

abbrev Ch := List (Nat × Obj)

structure H (W w : World) (L : List Ch) : Prop where
  st : St W w
  nd : (L.flatten.map Prod.fst).Nodup
  get : ∀ b o, (b, o) ∈ L.flatten → w.heap[b]? = some o
  fresh : ∀ b o, (b, o) ∈ L.flatten → W.heap.size ≤ b
  old : ∀ b, b < W.heap.size → w.heap[b]? = W.heap[b]?

inductive In (b : Nat) (o : Obj) : List Ch → Prop
  | here {c : Ch} {L : List Ch} : In b o (((b, o) :: c) :: L)
  | next {x : Nat × Obj} {c : Ch} {L : List Ch} : In b o (c :: L) → In b o ((x :: c) :: L)
  | skip {c : Ch} {L : List Ch} : In b o L → In b o (c :: L)

inductive Upd (b : Nat) (o o' : Obj) : List Ch → List Ch → Prop
  | here {c : Ch} {L : List Ch} : Upd b o o' (((b, o) :: c) :: L) (((b, o') :: c) :: L)
  | next {x : Nat × Obj} {c c' : Ch} {L L' : List Ch} : Upd b o o' (c :: L) (c' :: L') → Upd b o o' ((x :: c) :: L) ((x :: c') :: L')
  | skip {c : Ch} {L L' : List Ch} : Upd b o o' L L' → Upd b o o' (c :: L) (c :: L')

inductive Pick (c : Ch) : List Ch → List Ch → Prop
  | here {L : List Ch} : Pick c (c :: L) L
  | next {d : Ch} {L L' : List Ch} : Pick c L L' → Pick c (d :: L) (d :: L')

theorem In.mem {b : Nat} {o : Obj} {L : List Ch} (h : In b o L) : (b, o) ∈ L.flatten := by
  induction h with
  | here => simp
  | next _ ih => simp only [List.flatten_cons, List.cons_append, List.mem_cons, List.mem_append] at ih ⊢; exact .inr ih
  | skip _ ih => simp only [List.flatten_cons, List.mem_append]; exact .inr ih

theorem Upd.split {b : Nat} {o o' : Obj} {L L' : List Ch} (h : Upd b o o' L L') : ∃ x y, L.flatten = x ++ (b, o) :: y ∧ L'.flatten = x ++ (b, o') :: y := by
  induction h with
  | @here c L => exact ⟨[], c ++ L.flatten, by simp, by simp⟩
  | @next e c c' L L' _ ih =>
    obtain ⟨x, y, h1, h2⟩ := ih
    refine ⟨e :: x, y, ?_, ?_⟩
    · simp only [List.flatten_cons, List.cons_append] at h1 ⊢; rw [h1]
    · simp only [List.flatten_cons, List.cons_append] at h2 ⊢; rw [h2]
  | @skip c L L' _ ih =>
    obtain ⟨x, y, h1, h2⟩ := ih
    exact ⟨c ++ x, y, by simp [h1], by simp [h2]⟩

theorem Pick.perm {c : Ch} {L L' : List Ch} (h : Pick c L L') : L.flatten.Perm (c :: L').flatten := by
  induction h with
  | here => exact List.Perm.refl _
  | @next d L L' _ ih =>
    simp only [List.flatten_cons] at ih ⊢
    refine (List.Perm.append_left d ih).trans ?_
    rw [← List.append_assoc, ← List.append_assoc]
    exact List.Perm.append_right _ List.perm_append_comm

section
variable {W w : World} {L L' : List Ch}

theorem H.perm (h : H W w L) (hp : L.flatten.Perm L'.flatten) : H W w L' :=
  ⟨h.st, (hp.map _).nodup_iff.1 h.nd, fun b o hb => h.get b o (hp.mem_iff.2 hb), fun b o hb => h.fresh b o (hp.mem_iff.2 hb), h.old⟩

theorem H.congr (h : H W w L) (hp : L.flatten = L'.flatten) : H W w L' := h.perm (by rw [hp])

theorem H.pick {c : Ch} (h : H W w L) (hp : Pick c L L') : H W w (c :: L') := h.perm hp.perm

theorem H.drop {c : Ch} (h : H W w (c :: L)) : H W w L :=
  ⟨h.st, (by have := h.nd; simp only [List.flatten_cons, List.map_append] at this; exact (List.nodup_append.1 this).2.1), fun b o hb => h.get b o (by simp only [List.flatten_cons, List.mem_append]; exact .inr hb), fun b o hb => h.fresh b o (by simp only [List.flatten_cons, List.mem_append]; exact .inr hb), h.old⟩

theorem H.lt (h : H W w L) {b : Nat} {o : Obj} (hi : In b o L) : b < w.heap.size := by
  have := h.get b o hi.mem
  exact (Array.getElem?_eq_some_iff.1 this).1

theorem H.heap (h : H W w L) {b : Nat} {o : Obj} (hi : In b o L) : w.heap[b]? = some o := h.get b o hi.mem

theorem H.cells (h : H W w L) {b : Nat} {cs : Array Value} {T : TypeId} {fr : Nat × Nat} (hi : In b (.cells cs T fr) L) (i : Nat) : w.cell? ⟨b, i, none⟩ = cs[i]? := by
  simp [World.cell?, h.heap hi]

theorem Addr.add_mid' (b o j : Nat) : (⟨b, o, none⟩ : Addr).add j = ⟨b, o + j, none⟩ := by unfold Addr.add; split <;> simp_all

theorem H.news (h : H W w L) {b : Nat} {cs : Array Value} {T : TypeId} {fr : Nat × Nat} (hi : In b (.cells cs T fr) L) : ∀ (j : Nat) (u : Value), cs.toList[j]? = some u → w.cell? ((⟨b, 0, none⟩ : Addr).add j) = some u := fun j u hu => by
  rw [Addr.add_mid', h.cells hi, Nat.zero_add]; simpa using hu

theorem H.frozen (h : H W w L) {b : Nat} {cs : Array Value} {T : TypeId} (hi : In b (.cells cs T (0, 0)) L) (i : Nat) : w.frozen? ⟨b, i, none⟩ = false := by
  simp [World.frozen?, h.heap hi]

theorem H.set {b : Nat} {o o' : Obj} (h : H W w L) (hu : Upd b o o' L L') {w' : World} (h1 : St w w') (h2 : ∀ k, w'.heap[k]? = if k = b then some o' else w.heap[k]?) : H W w' L' := by
  obtain ⟨x, y, e1, e2⟩ := hu.split
  have nd := h.nd
  rw [e1] at nd
  have hbf : W.heap.size ≤ b := h.fresh b o (by rw [e1]; simp)
  refine ⟨h.st.trans h1, ?_, ?_, ?_, ?_⟩
  · rw [e2]; simpa using nd
  rotate_left
  · intro k ok hk
    rw [e2] at hk
    simp only [List.mem_append, List.mem_cons, Prod.mk.injEq] at hk
    rcases hk with hk | ⟨rfl, _⟩ | hk
    · exact h.fresh k ok (by rw [e1]; simp [hk])
    · exact hbf
    · exact h.fresh k ok (by rw [e1]; simp [hk])
  · intro k hk
    rw [h2, if_neg (by omega)]
    exact h.old k hk
  · intro k ok hk
    rw [e2] at hk
    rw [h2]
    simp only [List.map_append, List.map_cons] at nd
    have hn := List.nodup_append.1 nd
    have hb1 : ∀ q, (b, q) ∉ x := fun q hq => hn.2.2 b (List.mem_map.2 ⟨_, hq, rfl⟩) b List.mem_cons_self rfl
    have hb2 : ∀ q, (b, q) ∉ y := fun q hq => (List.nodup_cons.1 hn.2.1).1 (List.mem_map.2 ⟨_, hq, rfl⟩)
    simp only [List.mem_append, List.mem_cons, Prod.mk.injEq] at hk
    by_cases hkb : k = b
    · subst hkb
      rw [if_pos rfl]
      rcases hk with hk | ⟨_, rfl⟩ | hk
      · exact (hb1 _ hk).elim
      · rfl
      · exact (hb2 _ hk).elim
    · rw [if_neg hkb]
      refine h.get k ok ?_
      rw [e1]
      simp only [List.mem_append, List.mem_cons, Prod.mk.injEq]
      rcases hk with hk | ⟨rfl, _⟩ | hk
      · exact .inl hk
      · exact (hkb rfl).elim
      · exact .inr (.inr hk)

theorem H.new (h : H W w L) (o : Obj) {w' : World} (h1 : St w w') (h2 : ∀ k, k < w.heap.size → w'.heap[k]? = w.heap[k]?) (h3 : w'.heap[w.heap.size]? = some o) : H W w' ([(w.heap.size, o)] :: L) := by
  refine ⟨h.st.trans h1, ?_, ?_, ?_, fun b hb => by rw [h2 b (Nat.lt_of_lt_of_le hb h.st.size)]; exact h.old b hb⟩
  rotate_right
  · intro b q hb
    simp only [List.flatten_cons, List.singleton_append, List.mem_cons, Prod.mk.injEq] at hb
    rcases hb with ⟨rfl, rfl⟩ | hb
    · exact h.st.size
    · exact h.fresh b q hb
  · simp only [List.flatten_cons, List.singleton_append, List.map_cons, List.nodup_cons]
    refine ⟨fun hm => ?_, h.nd⟩
    obtain ⟨⟨b, q⟩, hb, hq⟩ := List.mem_map.1 hm
    have hq' : b = w.heap.size := hq
    have := h.get b q hb
    have := (Array.getElem?_eq_some_iff.1 this).1
    omega
  · intro b q hb
    simp only [List.flatten_cons, List.singleton_append, List.mem_cons, Prod.mk.injEq] at hb
    rcases hb with ⟨rfl, rfl⟩ | hb
    · exact h3
    · have hq := h.get b q hb
      have hlt := (Array.getElem?_eq_some_iff.1 hq).1
      rw [h2 b hlt]; exact hq

theorem St.alloc (w : World) (o : Obj) : St w (w.alloc o) := St.mk' rfl rfl rfl (by simp) (Nat.le_refl _)
theorem St.drew (w : World) : St w w.drew := St.mk' rfl rfl rfl (Nat.le_refl _) (Nat.le_succ _)
theorem St.setCell (w : World) (a : Addr) (v : Value) : St w (w.setCell a v) := St.mk' rfl rfl rfl (by simp) (by simp)

theorem H.alloc (h : H W w L) (o : Obj) : H W (w.alloc o) ([(w.heap.size, o)] :: L) :=
  h.new o (St.alloc w o) (fun k hk => Below.heap_alloc w o k hk) (heap_alloc_new w o)

theorem H.drew (h : H W w L) : H W w.drew L := ⟨h.st.trans (St.drew w), h.nd, h.get, h.fresh, h.old⟩

theorem H.same (h : H W w L) {w' : World} (h1 : St w w') (h2 : w'.heap = w.heap) : H W w' L := ⟨h.st.trans h1, h.nd, fun b o hb => by rw [h2]; exact h.get b o hb, h.fresh, fun b hb => by rw [h2]; exact h.old b hb⟩

theorem heap_setCell (w : World) (b i : Nat) (cs : Array Value) (t : TypeId) (fr : Nat × Nat) (v : Value) (hg : w.heap[b]? = some (.cells cs t fr)) (k : Nat) :
    (w.setCell ⟨b, i, none⟩ v).heap[k]? = if k = b then some (.cells (cs.setIfInBounds i v) t fr) else w.heap[k]? := by
  by_cases h : k = b
  · subst h
    simp only [World.setCell, Array.getElem?_modify, ↓reduceIte, hg, Option.map_some]
    simp
  · rw [if_neg h]; exact heap_setCell_other w ⟨b, i, none⟩ k v h

theorem H.setCell {b : Nat} {cs : Array Value} {T : TypeId} {fr : Nat × Nat} (h : H W w L) (i : Nat) (v : Value) (hi : In b (.cells cs T fr) L) (hu : Upd b (.cells cs T fr) (.cells (cs.setIfInBounds i v) T fr) L L') : H W (w.setCell ⟨b, i, none⟩ v) L' :=
  h.set hu (St.setCell _ _ _) (heap_setCell w b i cs T fr v (h.heap hi))

theorem Upd.has {b : Nat} {o o' : Obj} (hu : Upd b o o' L L') : In b o L := by
  induction hu with
  | here => exact .here
  | next _ ih => exact .next ih
  | skip _ ih => exact .skip ih
end

def putCells : List Value → Nat → Array Value → Array Value
  | [], _, cs => cs
  | v :: vs, i, cs => putCells vs (i + 1) (cs.setIfInBounds i v)

theorem run_storeCells_H {P : Program} {W : World} (b off : Nat) (T : TypeId) : ∀ (vs : List Value) (j : Nat) (cs : Array Value) (w : World) (L : List Ch),
    H W w ([(b, .cells cs T (0, 0))] :: L) → off + j + vs.length ≤ cs.size → (∀ v ∈ vs, v.oneCell' = true) →
    ∃ w', (storeCells ⟨b, off, none⟩ vs j).run P w = .ok () w' ∧ H W w' ([(b, .cells (putCells vs (off + j) cs) T (0, 0))] :: L)
  | [], j, cs, w, L, h, _, _ => ⟨w, rfl, h⟩
  | v :: vs, j, cs, w, L, h, hlen, h1 => by
    have hlt : off + j < cs.size := by simp only [List.length_cons] at hlen; omega
    have hc : w.cell? ⟨b, off + j, none⟩ = some cs[off + j] := by
      rw [h.cells .here]; exact Array.getElem?_eq_getElem hlt
    have h2 := h.setCell (L' := [(b, .cells (cs.setIfInBounds (off + j) v) T (0, 0))] :: L) (off + j) v .here .here
    obtain ⟨w', hr, h3⟩ := run_storeCells_H (P := P) b off T vs (j + 1) _ _ _ h2 (by simp only [List.length_cons] at hlen; simp; omega) (fun u hu => h1 u (List.mem_cons_of_mem _ hu))
    refine ⟨w', ?_, by simpa [putCells, Nat.add_assoc] using h3⟩
    unfold storeCells
    simp only [Addr.add_mid', Sem.run_bind]
    rw [run_store P w ⟨b, off + j, none⟩ v .plain (h1 v List.mem_cons_self), hc]
    simp only [h.frozen .here, Bool.false_eq_true, if_false, Result.andThen_ok]
    exact hr

end Go.Proofs.Ytkcmgcoppecfpaa

/- The operations' laws over the small heap logic. -/
namespace Go.Proofs.Ytkcmgcoppecfpaa
open Go Go.RowKit

section
variable {P : Program} {W w : World} {L L' : List Ch} {ops : Array Oper} {rest : List Oper} {o : Oper} {a : Act} {Q : Exit → Act → World → Prop} {K : Act → World → Prop}

theorem wp_store_H (t : TypeId) (x y : Operand) (ho : o.op = .store t x y) (b off : Nat) (hx : a.eval x = .pointer (some ⟨b, off, none⟩)) (v : Value) (hy : a.eval y = v)
    (h : H W w L) {cs : Array Value} {T : TypeId} (hu : Upd b (.cells cs T (0, 0)) (.cells (putCells v.cells.toList off cs) T (0, 0)) L L')
    (hsz : (P.info? t).map (·.size) = some v.cells.size) (hlen : off + v.cells.size ≤ cs.size) (h1 : v.cells.all (·.oneCell') = true)
    (hn : ∀ w', H W w' L' → K (a.put o.dst undef) w') : o.wp P a w K Q := by
  obtain ⟨xl, yl, e1, e2⟩ := hu.split
  have hp : H W w ([(b, .cells cs T (0, 0))] :: [xl ++ yl]) := h.perm (by rw [e1]; simpa using List.perm_middle)
  obtain ⟨w', hr, h2⟩ := run_storeCells_H (P := P) b off T v.cells.toList 0 cs w [xl ++ yl] hp (by simpa using hlen) (fun u hu => by
    have := Array.all_eq_true_iff_forall_mem.1 h1 u (by simpa using hu); exact this)
  have h3 : H W w' L' := h2.perm (by rw [e2]; simpa using List.perm_middle.symm)
  have hst : (Instr.storeAt t (.pointer (some ⟨b, off, none⟩)) v).run P w = .ok () w' := by
    obtain ⟨i, hi, hs⟩ := Option.map_eq_some_iff.1 hsz
    simp [Instr.storeAt, Instr.sureAddr, storeVar, sizeOf, typeInfo, hi, hs, hr]
  unfold Oper.wp execOp
  simp only [ho, hx, hy, Sem.run_bind, hst, Result.andThen_ok, Sem.run_pure]
  exact hn w' h3

theorem wpList_store_H (hg : o.guard = none) (t : TypeId) (x y : Operand) (ho : o.op = .store t x y) (b off : Nat) (hx : a.eval x = .pointer (some ⟨b, off, none⟩)) (v : Value) (hy : a.eval y = v)
    (h : H W w L) {cs : Array Value} {T : TypeId} (hu : Upd b (.cells cs T (0, 0)) (.cells (putCells v.cells.toList off cs) T (0, 0)) L L')
    (hsz : (P.info? t).map (·.size) = some v.cells.size) (hlen : off + v.cells.size ≤ cs.size) (h1 : v.cells.all (·.oneCell') = true)
    (hn : ∀ w', H W w' L' → wpList P ops Q rest (a.put o.dst undef) w') : wpList P ops Q (o :: rest) a w :=
  wpList_plain hg fun _ hK => wp_store_H t x y ho b off hx v hy h hu hsz hlen h1 fun w' h' => hK _ _ (hn w' h')

theorem wp_box_H (t : TypeId) (y : Operand) (ho : o.op = .box t y) (v : Value) (hy : a.eval y = v) (h : H W w L)
    (hn : ∀ w' g, H W w' ([(g, .cells v.cells t (0, 0))] :: L) → K (a.put o.dst (.pointer (some ⟨g, 0, none⟩))) w') : o.wp P a w K Q := by
  unfold Oper.wp execOp
  simp only [ho, hy, Instr.box, newVar, newRow, Sem.run_bind, Result.andThen_ok, Sem.run_pure]
  exact hn _ _ (h.alloc _)

theorem wpList_box_H (hg : o.guard = none) (t : TypeId) (y : Operand) (ho : o.op = .box t y) (v : Value) (hy : a.eval y = v) (h : H W w L)
    (hn : ∀ w' g, H W w' ([(g, .cells v.cells t (0, 0))] :: L) → wpList P ops Q rest (a.put o.dst (.pointer (some ⟨g, 0, none⟩))) w') : wpList P ops Q (o :: rest) a w :=
  wpList_plain hg fun _ hK => wp_box_H t y ho v hy h fun w' g h' => hK _ _ (hn w' g h')

theorem wp_alloc_H (t : TypeId) (ho : o.op = .alloc t) (z : Value) (hz : (P.info? t).bind (·.zero) = some z) (h : H W w L)
    (hn : ∀ w' g, H W w' ([(g, .cells z.cells t (0, 0))] :: L) → K (a.put o.dst (.pointer (some ⟨g, 0, none⟩))) w') : o.wp P a w K Q := by
  obtain ⟨i, hi, hz'⟩ := Option.bind_eq_some_iff.1 hz
  unfold Oper.wp execOp
  simp [ho, Instr.alloc, zeroValue, typeInfo, hi, hz', newVar, newRow, Sem.run_bind, Result.andThen_ok, Sem.run_pure]
  exact hn _ _ (h.alloc _)

theorem wpList_alloc_H (hg : o.guard = none) (t : TypeId) (ho : o.op = .alloc t) (z : Value) (hz : (P.info? t).bind (·.zero) = some z) (h : H W w L)
    (hn : ∀ w' g, H W w' ([(g, .cells z.cells t (0, 0))] :: L) → wpList P ops Q rest (a.put o.dst (.pointer (some ⟨g, 0, none⟩))) w') : wpList P ops Q (o :: rest) a w :=
  wpList_plain hg fun _ hK => wp_alloc_H t ho z hz h fun w' g h' => hK _ _ (hn w' g h')

theorem step_of_wp {E : Prop} (hg : o.guard = none) (h : o.wp P a w K Q) : if Region.wanted o (yielded ops a.tmps) = true then Oper.wp P o a w K Q else E := by
  rw [if_pos (by simp [Region.wanted, hg])]; exact h

end
end Go.Proofs.Ytkcmgcoppecfpaa

/- Slices that the code owns: append, cut, at whatever place in their row. -/
namespace Go.Proofs.Ytkcmgcoppecfpaa
open Go Go.RowKit

def Own (e : TypeId) (sz : Nat) (ao : Option Addr) (n cap : Nat) (xs : List Value) (c : Ch) : Prop :=
  xs.length = n * sz ∧ n ≤ cap ∧
  ((ao = none ∧ cap = 0 ∧ c = []) ∨
   ∃ g off cur, ao = some ⟨g, off, none⟩ ∧ c = [(g, .cells cur e (0, 0))] ∧ off + cap * sz ≤ cur.size ∧ (cur.toList.drop off).take (n * sz) = xs)

theorem Own.nil (e : TypeId) (sz : Nat) : Own e sz none 0 0 [] [] := ⟨by simp, Nat.le_refl _, .inl ⟨rfl, rfl, rfl⟩⟩

theorem putCells_toList : ∀ (vs : List Value) (i : Nat) (cs : Array Value), i + vs.length ≤ cs.size →
    (putCells vs i cs).toList = cs.toList.take i ++ vs ++ cs.toList.drop (i + vs.length)
  | [], i, cs, _ => by simp [putCells]
  | v :: vs, i, cs, h => by
    simp only [List.length_cons] at h
    have hi : i < cs.toList.length := by simp; omega
    rw [putCells, putCells_toList vs (i + 1) _ (by simp; omega)]
    have h1 : (cs.toList.set i v).take (i + 1) = cs.toList.take i ++ [v] := by
      rw [List.take_succ_eq_append_getElem (by simpa using hi), List.take_set_of_le (Nat.le_refl _)]
      simp
    have h2 : (cs.toList.set i v).drop (i + 1 + vs.length) = cs.toList.drop (i + (vs.length + 1)) := by
      rw [List.drop_set_of_lt (by omega)]
      congr 1; omega
    simp only [Array.toList_setIfInBounds, List.length_cons, h1, h2, List.append_assoc, List.singleton_append]

theorem size_putCells : ∀ (vs : List Value) (i : Nat) (cs : Array Value), (putCells vs i cs).size = cs.size
  | [], _, _ => rfl
  | v :: vs, i, cs => by rw [putCells, size_putCells vs]; simp

section
variable {P : Program} {W w : World} {L L' : List Ch}

theorem Own.cell {e : TypeId} {sz : Nat} {g off n cap : Nat} {xs : List Value} {c : Ch} (ho : Own e sz (some ⟨g, off, none⟩) n cap xs c) (h : H W w (c :: L))
    (j : Nat) (u : Value) (hu : xs[j]? = some u) : w.cell? ⟨g, off + j, none⟩ = some u := by
  obtain ⟨_, _, ⟨h0, _⟩ | ⟨g', off', cur, hv', rfl, hs, ht⟩⟩ := ho
  · cases h0
  · cases hv'
    rw [h.cells .here]
    rw [← ht, List.getElem?_take] at hu
    split at hu
    · simpa using hu
    · cases hu

theorem Own.some {e : TypeId} {sz : Nat} {ao : Option Addr} {n cap : Nat} {xs : List Value} {c : Ch} (ho : Own e sz ao n cap xs c) (hn : 0 < n) : ∃ g off, ao = some ⟨g, off, none⟩ := by
  obtain ⟨_, hc, ⟨_, h0, _⟩ | ⟨g', off', cur, hv', _⟩⟩ := ho
  · omega
  · exact ⟨g', off', hv'⟩

theorem run_append_H (t ty e : TypeId) (z : Value) (sz bytes : Nat) (ht : P.underlying t = some (.slice e)) (hinfo : (P.info? e).map (fun i => (i.zero, i.size, i.bytes)) = some (some z, sz, bytes)) (hz : z.cells.size = sz)
    (ao : Option Addr) (n cap : Nat) (xs : List Value) (c : Ch) (ho : Own e sz ao n cap xs c) (h : H W w (c :: L))
    (a : Addr) (m k : Nat) (news : List Value) (hl : news.length = m * sz) (hm : 0 < m) (hnews : ∀ j u, news[j]? = some u → w.cell? (a.add j) = some u) (h1 : ∀ u ∈ news, u.oneCell' = true)
    (hbytes : (n + m) * bytes ≤ 140737488355328) (h63 : n + m ≤ 9223372036854775807) :
    ∃ ao' cap' w' c', (Builtin.append_ #[t, t] ty #[.slice ao n cap, .slice (some a) m k]).run P w = .ok (.slice ao' (n + m) cap') w' ∧ Own e sz ao' (n + m) cap' (xs ++ news) c' ∧ H W w' (c' :: L) := by
  obtain ⟨i, hi, hzz⟩ := Option.map_eq_some_iff.1 hinfo
  simp only [Prod.mk.injEq] at hzz
  obtain ⟨hz0, hs, hb⟩ := hzz
  subst hs; subst hb
  have hlen : (xs ++ news).length = (n + m) * i.size := by rw [List.length_append, ho.1, hl, Nat.add_mul]
  have made : ∀ (old : Nat) , (∃ g cur cap, w.heap.size = g ∧ cur.size = cap * i.size ∧ n + m ≤ cap ∧ cap = grownCap w (n + m) old e ∧ cur = xs.toArray ++ news.toArray ++ Builtin.zeroCells z.cells (cap - (n + m)) ) := fun old => by
    refine ⟨_, _, _, rfl, ?_, grownCap_ge w (n + m) old e, rfl, rfl⟩
    have hge := grownCap_ge w (n + m) old e
    simp only [Array.size_append, List.size_toArray, size_zeroCells, hz, ho.1, hl, ← Nat.add_mul]
    congr 1; omega
  have fresh : ∀ (old : Nat), Own e i.size (some ⟨w.heap.size, 0, none⟩) (n + m) (grownCap w (n + m) old e) (xs ++ news)
      [(w.heap.size, .cells (xs.toArray ++ news.toArray ++ Builtin.zeroCells z.cells (grownCap w (n + m) old e - (n + m))) e (0, 0))] := fun old => by
    obtain ⟨g, cur, cap, rfl, h2, h3, rfl, rfl⟩ := made old
    refine ⟨hlen, h3, .inr ⟨_, 0, _, rfl, rfl, by rw [h2]; omega, ?_⟩⟩
    simp only [Array.toList_append, List.drop_zero]
    rw [← hlen]
    exact List.take_left
  have frame : ∀ (o : Obj), H W (w.drew.alloc o) ([(w.heap.size, o)] :: L) := fun o => by
    have h2 : H W w L := h.drop
    exact h2.drew.alloc o
  have hnc := ho.2.1
  rcases ho.2.2 with ⟨rfl, rfl, rfl⟩ | ⟨g, off, cur, rfl, rfl, hsz, htake⟩
  · obtain rfl : n = 0 := by omega
    have hx : xs = [] := List.eq_nil_of_length_eq_zero (by simpa using ho.1)
    subst hx
    have hr := run_append_nil (P := P) w t ty e i z ht hi hz0 a m k news hl hnews hm (by omega) (by have hb := hbytes; simp only [Nat.zero_add] at hb; omega)
    have hf := fresh 0
    simp only [Nat.zero_add, List.nil_append] at hf ⊢
    refine ⟨_, _, _, _, hr, ?_, frame _⟩
    simpa using hf
  · by_cases hroom : n + m ≤ cap
    · have hf := run_firstCells_some (P := P) w i.size m a m k news hl hnews
      have hfit : off + n * i.size + news.length ≤ cur.size := by
        have : (n + m) * i.size ≤ cap * i.size := Nat.mul_le_mul_right _ hroom
        rw [Nat.add_mul] at this
        omega
      obtain ⟨w', hst, hH⟩ := run_storeCells_H (P := P) g (off + n * i.size) e news 0 cur w L h (by simpa using hfit) h1
      simp only [Nat.add_zero] at hH
      refine ⟨some ⟨g, off, none⟩, cap, w', _, ?_, ⟨hlen, hroom, .inr ⟨g, off, _, rfl, rfl, by rw [size_putCells]; exact hsz, ?_⟩⟩, hH⟩
      · simp [Builtin.append_, run_underlying ht, sizeOf, typeInfo, hi, Builtin.lenOf, hroom, hf, Addr.add_mid', hst]
      · rw [putCells_toList _ _ _ hfit]
        have e0 : (cur.toList.take (off + n * i.size)).length = off + n * i.size := by simp; omega
        rw [List.append_assoc, List.drop_append, List.drop_take, e0]
        have e1 : off - (off + n * i.size) = 0 := by omega
        have e2 : off + n * i.size - off = n * i.size := by omega
        rw [e1, List.drop_zero, e2, htake, ← List.append_assoc, ← hlen]
        exact List.take_left
    · have holds : ∀ j u, xs[j]? = some u → w.cell? ((⟨g, off, none⟩ : Addr).add j) = some u := fun j u hu => by
        rw [Addr.add_mid']; exact ho.cell h j u hu
      have hr := run_append_grow (P := P) w t ty e i z ht hi hz0 ⟨g, off, none⟩ n cap xs ho.1 holds a m k news hl hnews (by omega) (by omega) (growslice_fits (by omega) hbytes)
      exact ⟨_, _, _, _, hr, fresh cap, frame _⟩

theorem wp_append_H {o : Oper} {a : Act} {Q : Exit → Act → World → Prop} {K : Act → World → Prop} (s x : Operand) (t : TypeId)
    (hop : o.op = .call { callee := .builtin .append, args := #[s, x], argTypes := #[t, t] }) (e : TypeId) (z : Value) (sz bytes : Nat) (ht : P.underlying t = some (.slice e)) (hinfo : (P.info? e).map (fun i => (i.zero, i.size, i.bytes)) = some (some z, sz, bytes)) (hz : z.cells.size = sz)
    (ao : Option Addr) (n cap : Nat) (hs : a.eval s = .slice ao n cap) (ad : Addr) (m k : Nat) (hx : a.eval x = .slice (some ad) m k) (xs : List Value) (c : Ch) (ho : Own e sz ao n cap xs c) (h : H W w (c :: L))
    (news : List Value) (hl : news.length = m * sz) (hm : 0 < m) (hnews : ∀ j u, news[j]? = some u → w.cell? (ad.add j) = some u) (h1 : ∀ u ∈ news, u.oneCell' = true)
    (hbytes : (n + m) * bytes ≤ 140737488355328) (h63 : n + m ≤ 9223372036854775807)
    (hn : ∀ ao' cap' w' c', Own e sz ao' (n + m) cap' (xs ++ news) c' → H W w' (c' :: L) → K (a.put o.dst (.slice ao' (n + m) cap')) w') : o.wp P a w K Q := by
  obtain ⟨ao', cap', w', c', hr, h2, h3⟩ := run_append_H (P := P) t o.type e z sz bytes ht hinfo hz ao n cap xs c ho h ad m k news hl hm hnews h1 hbytes h63
  unfold Oper.wp execOp
  simp only [hop, resolve, invoke, builtin, Sem.run_bind, Sem.run_pure, Result.andThen_ok, List.map_toArray, List.map_cons, List.map_nil, hs, hx, hr]
  exact hn ao' cap' w' c' h2 h3

theorem run_append_fresh (t ty e : TypeId) (z : Value) (sz bytes : Nat) (ht : P.underlying t = some (.slice e)) (hinfo : (P.info? e).map (fun i => (i.zero, i.size, i.bytes)) = some (some z, sz, bytes)) (hz : z.cells.size = sz)
    (ao : Option Addr) (c : Ch) (ho : Own e sz ao 0 0 [] c) (h : H W w (c :: L))
    (ao2 : Option Addr) (m k : Nat) (news : List Value) (hl : news.length = m * sz) (hnews : 0 < m → ∃ a, ao2 = some a ∧ ∀ j u, news[j]? = some u → w.cell? (a.add j) = some u)
    (hbytes : m * bytes ≤ 140737488355328) (h63 : m ≤ 9223372036854775807) :
    ∃ ao' cap' w' c', (Builtin.append_ #[t, t] ty #[.slice ao 0 0, .slice ao2 m k]).run P w = .ok (.slice ao' m cap') w' ∧ Own e sz ao' m cap' news c' ∧ H W w' (c' :: L) := by
  obtain ⟨i, hi, hzz⟩ := Option.map_eq_some_iff.1 hinfo
  simp only [Prod.mk.injEq] at hzz
  obtain ⟨hz0, hs, hb⟩ := hzz
  subst hs; subst hb
  by_cases hm : m = 0
  · subst hm
    have hn : news = [] := List.eq_nil_of_length_eq_zero (by simpa using hl)
    subst hn
    refine ⟨ao, 0, w, c, ?_, ho, h⟩
    have hst : ∀ a : Addr, (storeCells a [] 0).run P w = .ok () w := fun a => rfl
    cases ao2 with
    | none => cases ao <;> simp [Builtin.append_, run_underlying ht, sizeOf, typeInfo, hi, Builtin.lenOf, Builtin.firstCells, hst]
    | some a =>
      have hf := run_firstCells_some (P := P) w i.size 0 a 0 k [] (by simp) (fun j u hu => by simp at hu)
      cases ao <;> simp [Builtin.append_, run_underlying ht, sizeOf, typeInfo, hi, Builtin.lenOf, hf, hst]
  · obtain ⟨a, rfl, hn⟩ := hnews (by omega)
    have fresh : ∀ (old : Nat), Own e i.size (some ⟨w.heap.size, 0, none⟩) m (grownCap w m old e) news
        [(w.heap.size, .cells (news.toArray ++ Builtin.zeroCells z.cells (grownCap w m old e - m)) e (0, 0))] := fun old => by
      have hge := grownCap_ge w m old e
      refine ⟨hl, hge, .inr ⟨_, 0, _, rfl, rfl, ?_, ?_⟩⟩
      · simp only [Array.size_append, List.size_toArray, size_zeroCells, hz, hl, ← Nat.add_mul, Nat.zero_add]
        exact Nat.le_of_eq (by congr 1; omega)
      · simp only [Array.toList_append, List.drop_zero]
        rw [← hl]
        exact List.take_left
    have frame : ∀ (o : Obj), H W (w.drew.alloc o) ([(w.heap.size, o)] :: L) := fun o => by
      have h2 : H W w L := h.drop
      exact h2.drew.alloc o
    rcases ho.2.2 with ⟨rfl, _, rfl⟩ | ⟨g, off, cur, rfl, rfl, hsz, htake⟩
    · have hr := run_append_nil (P := P) w t ty e i z ht hi hz0 a m k news hl hn (by omega) (by omega) (by omega)
      exact ⟨_, _, _, _, hr, fresh 0, frame _⟩
    · have hr := run_append_grow (P := P) w t ty e i z ht hi hz0 ⟨g, off, none⟩ 0 0 [] (by simp) (fun j u hu => by simp at hu) a m k news hl hn (by omega) (by omega) (growslice_fits (by omega) (by simpa using hbytes))
      simp only [Nat.zero_add, List.append_toArray, List.nil_append] at hr
      exact ⟨_, _, _, _, hr, fresh 0, frame _⟩

theorem wp_append_fresh {o : Oper} {a : Act} {Q : Exit → Act → World → Prop} {K : Act → World → Prop} (s x : Operand) (t : TypeId)
    (hop : o.op = .call { callee := .builtin .append, args := #[s, x], argTypes := #[t, t] }) (e : TypeId) (z : Value) (sz bytes : Nat) (ht : P.underlying t = some (.slice e)) (hinfo : (P.info? e).map (fun i => (i.zero, i.size, i.bytes)) = some (some z, sz, bytes)) (hz : z.cells.size = sz)
    (ao : Option Addr) (hs : a.eval s = .slice ao 0 0) (ao2 : Option Addr) (m k : Nat) (hx : a.eval x = .slice ao2 m k) (c : Ch) (ho : Own e sz ao 0 0 [] c) (h : H W w (c :: L))
    (news : List Value) (hl : news.length = m * sz) (hnews : 0 < m → ∃ a, ao2 = some a ∧ ∀ j u, news[j]? = some u → w.cell? (a.add j) = some u)
    (hbytes : m * bytes ≤ 140737488355328) (h63 : m ≤ 9223372036854775807)
    (hn : ∀ ao' cap' w' c', Own e sz ao' m cap' news c' → H W w' (c' :: L) → K (a.put o.dst (.slice ao' m cap')) w') : o.wp P a w K Q := by
  obtain ⟨ao', cap', w', c', hr, h2, h3⟩ := run_append_fresh (P := P) t o.type e z sz bytes ht hinfo hz ao c ho h ao2 m k news hl hnews hbytes h63
  unfold Oper.wp execOp
  simp only [hop, resolve, invoke, builtin, Sem.run_bind, Sem.run_pure, Result.andThen_ok, List.map_toArray, List.map_cons, List.map_nil, hs, hx, hr]
  exact hn ao' cap' w' c' h2 h3

theorem wp_append_any {o : Oper} {a : Act} {Q : Exit → Act → World → Prop} {K : Act → World → Prop} (s x : Operand) (t : TypeId)
    (hop : o.op = .call { callee := .builtin .append, args := #[s, x], argTypes := #[t, t] }) (e : TypeId) (z : Value) (sz bytes : Nat) (ht : P.underlying t = some (.slice e)) (hinfo : (P.info? e).map (fun i => (i.zero, i.size, i.bytes)) = some (some z, sz, bytes)) (hz : z.cells.size = sz)
    (ao : Option Addr) (n cap : Nat) (hs : a.eval s = .slice ao n cap) (ao2 : Option Addr) (m k : Nat) (hx : a.eval x = .slice ao2 m k) (xs : List Value) (c : Ch) (ho : Own e sz ao n cap xs c) (h : H W w (c :: L))
    (news : List Value) (hl : news.length = m * sz) (hnews : 0 < m → ∃ ad, ao2 = some ad ∧ ∀ j u, news[j]? = some u → w.cell? (ad.add j) = some u) (h1 : ∀ u ∈ news, u.oneCell' = true)
    (hbytes : (n + m) * bytes ≤ 140737488355328) (h63 : n + m ≤ 9223372036854775807)
    (hn : ∀ ao' cap' w' c', Own e sz ao' (n + m) cap' (xs ++ news) c' → H W w' (c' :: L) → K (a.put o.dst (.slice ao' (n + m) cap')) w') : o.wp P a w K Q := by
  by_cases hm : m = 0
  · subst hm
    have hnil : news = [] := List.eq_nil_of_length_eq_zero (by simpa using hl)
    subst hnil
    obtain ⟨i, hi, hzz⟩ := Option.map_eq_some_iff.1 hinfo
    simp only [Prod.mk.injEq] at hzz
    have hcap := ho.2.1
    have hst : ∀ a : Addr, (storeCells a [] 0).run P w = .ok () w := fun a => rfl
    have hr : (Builtin.append_ #[t, t] o.type #[.slice ao n cap, .slice ao2 0 k]).run P w = .ok (.slice ao n cap) w := by
      cases ao2 with
      | none => cases ao <;> simp [Builtin.append_, run_underlying ht, sizeOf, typeInfo, hi, Builtin.lenOf, Builtin.firstCells, hst, hcap]
      | some a =>
        have hf := run_firstCells_some (P := P) w i.size 0 a 0 k [] (by simp) (fun j u hu => by simp at hu)
        cases ao <;> simp [Builtin.append_, run_underlying ht, sizeOf, typeInfo, hi, Builtin.lenOf, hf, hst, hcap]
    unfold Oper.wp execOp
    simp only [hop, resolve, invoke, builtin, Sem.run_bind, Sem.run_pure, Result.andThen_ok, List.map_toArray, List.map_cons, List.map_nil, hs, hx, hr]
    exact hn ao cap w c (by simpa using ho) h
  · obtain ⟨ad, rfl, hnw⟩ := hnews (by omega)
    exact wp_append_H s x t hop e z sz bytes ht hinfo hz ao n cap hs ad m k hx xs c ho h news hl (by omega) hnw h1 hbytes h63 hn

theorem wpList_append_H {ops : Array Oper} {rest : List Oper} {o : Oper} {a : Act} {Q : Exit → Act → World → Prop} (hg : o.guard = none) (s x : Operand) (t : TypeId)
    (hop : o.op = .call { callee := .builtin .append, args := #[s, x], argTypes := #[t, t] }) (e : TypeId) (z : Value) (sz bytes : Nat) (ht : P.underlying t = some (.slice e)) (hinfo : (P.info? e).map (fun i => (i.zero, i.size, i.bytes)) = some (some z, sz, bytes)) (hz : z.cells.size = sz)
    (ao : Option Addr) (n cap : Nat) (hs : a.eval s = .slice ao n cap) (ad : Addr) (m k : Nat) (hx : a.eval x = .slice (some ad) m k) (xs : List Value) (c : Ch) (ho : Own e sz ao n cap xs c) (h : H W w (c :: L))
    (news : List Value) (hl : news.length = m * sz) (hm : 0 < m) (hnews : ∀ j u, news[j]? = some u → w.cell? (ad.add j) = some u) (h1 : ∀ u ∈ news, u.oneCell' = true)
    (hbytes : (n + m) * bytes ≤ 140737488355328) (h63 : n + m ≤ 9223372036854775807)
    (hn : ∀ ao' cap' w' c', Own e sz ao' (n + m) cap' (xs ++ news) c' → H W w' (c' :: L) → wpList P ops Q rest (a.put o.dst (.slice ao' (n + m) cap')) w') : wpList P ops Q (o :: rest) a w :=
  wpList_plain hg fun _ hK => wp_append_H s x t hop e z sz bytes ht hinfo hz ao n cap hs ad m k hx xs c ho h news hl hm hnews h1 hbytes h63 fun ao' cap' w' c' h2 h3 => hK _ _ (hn ao' cap' w' c' h2 h3)

end
end Go.Proofs.Ytkcmgcoppecfpaa

/- A symbolic executor for the model's code: the symbolic states and what they mean. -/
namespace Go.Proofs.Ytkcmgcoppecfpaa
open Go Go.RowKit
universe u

inductive SV where
  | int (k : IntKind) (n : Int)
  | bool (b : Bool)
  | str (s : ByteArray)
  | ptr (l b off : Nat)
  | eptr (l b base sz i fo : Nat)
  | vec (l : Nat) (ao : Option Addr) (n cap : Nat)
  | sub (l : Nat) (ao : Option Addr) (cap sz lo hi : Nat)
  | map (l r : Nat)
  | func (f : Fn) (first captured : List SV)
  | iface (t : TypeId) (v : SV)
  | agg (cs : List SV)
  | tuple (cs : List SV)
  | raw (v : Value)

mutual
def den : SV → Value
  | .int k n => .int k n
  | .bool b => .bool b
  | .str s => .string s
  | .ptr _ b off => .pointer (some ⟨b, off, none⟩)
  | .eptr _ b base sz i fo => .pointer (some ⟨b, base + (i * sz + fo), none⟩)
  | .vec _ ao n cap => .slice ao n cap
  | .sub _ ao cap sz lo hi => .slice (if cap = lo then ao else ao.map (·.add (lo * sz))) (hi - lo) (cap - lo)
  | .map _ r => .map (some r)
  | .func f a b => .func f (denL a).toArray (denL b).toArray
  | .iface t v => .iface t (den v)
  | .agg cs => .agg (denL cs).toArray
  | .tuple cs => .tuple (denL cs).toArray
  | .raw v => v
def denL : List SV → List Value
  | [] => []
  | v :: l => den v :: denL l
end

theorem denL_eq (l : List SV) : denL l = l.map den := by
  induction l with
  | nil => rfl
  | cons v l ih => rw [denL, ih]; rfl

theorem length_denL (l : List SV) : (denL l).length = l.length := by rw [denL_eq]; simp

inductive Loc where
  | blk (b : Nat)
  | sl (ao : Option Addr) (cap : Nat)

inductive KV where
  | i (k : IntKind) (n : Int)
  | s (b : ByteArray)
def KV.sv : KV → SV
  | .i k n => .int k n
  | .s b => .str b
def kvKind : KV → Option IntKind
  | .i k _ => some k
  | .s _ => none
def kvEq : KV → KV → Bool
  | .i _ a, .i _ b => a == b
  | .s a, .s b => a == b
  | _, _ => false
def kvSvs : List KV → List SV
  | [] => []
  | k :: ks => k.sv :: kvSvs ks
def kvKinds : List KV → List (Option IntKind)
  | [] => []
  | k :: ks => kvKind k :: kvKinds ks
def kvsEq : List KV → List KV → Bool
  | [], [] => true
  | a :: as1, b :: bs => kvEq a b && kvsEq as1 bs
  | _, _ => false
inductive KK where
  | ofInt (k : IntKind)
  | tup (l : List (Option IntKind))
abbrev KK.i64 : KK := .ofInt .i64
inductive Key where
  | i (k : IntKind) (n : Int)
  | s (b : ByteArray)
  | g (ks : List KV)
def Key.sv : Key → SV
  | .i k n => .int k n
  | .s b => .str b
  | .g ks => .agg (kvSvs ks)
def keyKind : Key → Option KK
  | .i k _ => some (.ofInt k)
  | .s _ => none
  | .g ks => some (.tup (kvKinds ks))

def keyEq : Key → Key → Bool
  | .i _ a, .i _ b => a == b
  | .s a, .s b => a == b
  | .g a, .g b => kvsEq a b
  | _, _ => false
def mget {β : Type} : List (Key × β) → Key → Option β
  | [], _ => none
  | (k', v) :: es, k => match keyEq k k' with
    | true => some v
    | false => mget es k
def mset {β : Type} : List (Key × β) → Key → β → List (Key × β)
  | [], k, v => [(k, v)]
  | (k', v') :: es, k, v => match keyEq k k' with
    | true => (k, v) :: es
    | false => (k', v') :: mset es k v
def mdel {β : Type} : List (Key × β) → Key → List (Key × β)
  | [], _ => []
  | (k', v') :: es, k => match keyEq k k' with
    | true => es
    | false => (k', v') :: mdel es k

def Stamped (ents : List MapEntry) (clock : Nat) : Prop := (ents.map (·.born)).Nodup ∧ ∀ e ∈ ents, e.born < clock

inductive SObj : Type 1 where
  | mapL {β : Type} (kd : Option KK) (enc : β → SV) (es : List (Key × β))
  | mapV (kd : Option KK) (es : List (Key × SV))
  | map1 {β : Type} (kd : Option KK) (enc : β → SV) (es : List (Key × β)) (k0 : Key) (r0 : Option SV)
  | mapS {β : Type} (kd : Option KK) (enc : β → SV) (es : List (Key × (Nat × β))) (clk : Nat)
  | iter (lm m clk : Nat) (seen : List Nat)
  | cells (cs : List SV) (T : TypeId)
  | vecL {α : Type} (T : TypeId) (sz : Nat) (enc : α → List SV) (xs : List α) (d : α)
  | vecV (T : TypeId) (sz n : Nat) (cs : List SV)
  | roL {α : Type} (sz : Nat) (enc : α → List SV) (xs : List α) (d : α)
  | raw (o : Obj)
  | pred (p : World → Ch → Prop)
  | adt {σ : Type} (p : σ → Nat → World → Ch → Prop) (s : σ)
  | gone

structure Ent : Type 1 where
  loc : Loc
  obj : SObj

structure Sy : Type 1 where
  tmps : List SV
  heap : List Ent

def nth {α : Type u} : List α → Nat → Option α
  | [], _ => none
  | x :: _, 0 => some x
  | _ :: l, n + 1 => nth l n
def setN {α : Type u} : List α → Nat → α → List α
  | [], _, _ => []
  | _ :: l, 0, v => v :: l
  | x :: l, n + 1, v => x :: setN l n v
def lenN {α : Type u} : List α → Nat
  | [] => 0
  | _ :: l => lenN l + 1
def snoc {α : Type u} : List α → α → List α
  | [], x => [x]
  | y :: l, x => y :: snoc l x

theorem nth_eq {α : Type u} (l : List α) (n : Nat) : nth l n = l[n]? := by
  induction l generalizing n with
  | nil => simp [nth]
  | cons x l ih => cases n <;> simp [nth, ih]
theorem setN_eq {α : Type u} (l : List α) (n : Nat) (v : α) : setN l n v = l.set n v := by
  induction l generalizing n with
  | nil => simp [setN]
  | cons x l ih => cases n <;> simp [setN, ih]
theorem snoc_eq {α : Type u} (l : List α) (v : α) : snoc l v = l ++ [v] := by
  induction l with
  | nil => rfl
  | cons x l ih => simp [snoc, ih]
theorem lenN_eq {α : Type u} (l : List α) : lenN l = l.length := by
  induction l with
  | nil => rfl
  | cons x l ih => simp [lenN, ih]

def flatV {α : Type} (enc : α → List SV) (xs : List α) : List Value := xs.flatMap fun x => denL (enc x)

def has (W : World) : Loc → SObj → Ch → Prop
  | .blk b, .cells cs T, c => c = [(b, .cells (denL cs).toArray T (0, 0))]
  | .sl ao cap, .vecL T sz enc xs _, c => Own T sz ao xs.length cap (flatV enc xs) c ∧ ∀ x, (enc x).length = sz
  | .blk b, .mapV kd es, c => (∀ e ∈ es, keyKind e.1 = kd) ∧ ∃ (ents : List MapEntry) (clock : Nat), c = [(b, .map ents.toArray clock)] ∧ Stamped ents clock ∧ ents.map (fun e => (e.key, e.val)) = es.map fun e => (den e.1.sv, den e.2)
  | .sl ao cap, .vecV T sz n cs, c => Own T sz ao n cap (denL cs) c
  | .sl ao cap, .roL sz enc xs _, c => c = [] ∧ (∀ x, (enc x).length = sz) ∧ xs.length ≤ cap ∧ (xs = [] ∨
      ∃ g off cur T fr, ao = some ⟨g, off, none⟩ ∧ W.heap[g]? = some (.cells cur T fr) ∧ (cur.toList.drop off).take (xs.length * sz) = flatV enc xs)
  | .blk b, .raw o, c => c = [(b, o)]
  | .blk b, .mapL kd enc es, c => (∀ e ∈ es, keyKind e.1 = kd) ∧ ∃ (ents : List MapEntry) (clock : Nat), c = [(b, .map ents.toArray clock)] ∧ Stamped ents clock ∧ ents.map (fun e => (e.key, e.val)) = es.map fun e => (den e.1.sv, den (enc e.2))
  | .blk b, .map1 kd enc es k0 r0, c => (keyKind k0 = kd ∧ (mget es k0).map (fun v => den (enc v)) = r0.map den) ∧ (∀ e ∈ es, keyKind e.1 = kd) ∧ ∃ (ents : List MapEntry) (clock : Nat), c = [(b, .map ents.toArray clock)] ∧ Stamped ents clock ∧ ents.map (fun e => (e.key, e.val)) = es.map fun e => (den e.1.sv, den (enc e.2))
  | .blk b, .mapS kd enc es clk, c => (∀ e ∈ es, keyKind e.1 = kd) ∧ ∃ (ents : List MapEntry), c = [(b, .map ents.toArray clk)] ∧ Stamped ents clk ∧ ents.map (fun e => (e.key, e.born, e.val)) = es.map fun e => (den e.1.sv, e.2.1, den (enc e.2.2))
  | .blk b, .iter _ m clk seen, c => c = [(b, .mapIter (some m) clk seen.toArray clk)]
  | _, .pred p, c => p W c
  | .blk b, .adt p s, c => p s b W c
  | _, .gone, c => c = []
  | _, _, _ => False

def HasAll (W : World) : List Ent → List Ch → Prop
  | [], cs => cs = []
  | e :: es, cs => ∃ c cs', cs = c :: cs' ∧ has W e.loc e.obj c ∧ HasAll W es cs'

def Rep (W : World) (F : List Ch) (h : List Ent) (w : World) : Prop := ∃ cs, HasAll W h cs ∧ H W w (cs ++ F)

section
variable {W : World} {F : List Ch}

theorem HasAll.get : ∀ {h : List Ent} {cs : List Ch} {l : Nat} {e : Ent}, HasAll W h cs → h[l]? = some e →
    ∃ c x y, cs = x ++ c :: y ∧ has W e.loc e.obj c ∧ ∀ (e' : Ent) (c' : Ch), has W e'.loc e'.obj c' → HasAll W (h.set l e') (x ++ c' :: y)
  | [], _, _, _, _, hl => by simp at hl
  | e0 :: h, cs, 0, e, ha, hl => by
    obtain ⟨c, cs', rfl, hc, ha⟩ := ha
    simp only [List.getElem?_cons_zero, Option.some.injEq] at hl
    subst hl
    exact ⟨c, [], cs', rfl, hc, fun e' c' h' => ⟨c', cs', rfl, h', ha⟩⟩
  | e0 :: h, cs, l + 1, e, ha, hl => by
    obtain ⟨c0, cs', rfl, hc0, ha⟩ := ha
    simp only [List.getElem?_cons_succ] at hl
    obtain ⟨c, x, y, rfl, hc, hs⟩ := HasAll.get ha hl
    exact ⟨c, c0 :: x, y, rfl, hc, fun e' c' h' => ⟨c0, _, rfl, hc0, hs e' c' h'⟩⟩

theorem HasAll.snoc : ∀ {h : List Ent} {cs : List Ch} {e : Ent} {c : Ch}, HasAll W h cs → has W e.loc e.obj c → HasAll W (h ++ [e]) (cs ++ [c])
  | [], cs, e, c, ha, hc => by
    have : cs = [] := ha
    subst this
    exact ⟨c, [], rfl, hc, rfl⟩
  | e0 :: h, _, e, c, ha, hc => by
    obtain ⟨c0, cs', rfl, hc0, ha⟩ := ha
    exact ⟨c0, cs' ++ [c], rfl, hc0, HasAll.snoc ha hc⟩

theorem H.mid {W w : World} {x y : List Ch} {c : Ch} (h : H W w (x ++ c :: y)) : H W w (c :: (x ++ y)) := by
  refine h.perm ?_
  simp only [List.flatten_append, List.flatten_cons]
  rw [← List.append_assoc, ← List.append_assoc]
  exact List.Perm.append_right _ List.perm_append_comm

theorem H.unmid {W w : World} {x y : List Ch} {c : Ch} (h : H W w (c :: (x ++ y))) : H W w (x ++ c :: y) := by
  refine h.perm ?_
  simp only [List.flatten_append, List.flatten_cons]
  rw [← List.append_assoc, ← List.append_assoc]
  exact List.Perm.append_right _ List.perm_append_comm

theorem Rep.get {h : List Ent} {w : World} {l : Nat} {e : Ent} (hr : Rep W F h w) (hl : nth h l = some e) :
    ∃ c L, has W e.loc e.obj c ∧ H W w (c :: L) ∧ ∀ (e' : Ent) (c' : Ch) (w' : World), has W e'.loc e'.obj c' → H W w' (c' :: L) → Rep W F (setN h l e') w' := by
  rw [nth_eq] at hl
  obtain ⟨cs, ha, hH⟩ := hr
  obtain ⟨c, x, y, rfl, hc, hs⟩ := ha.get hl
  simp only [List.append_assoc, List.cons_append] at hH
  refine ⟨c, x ++ (y ++ F), hc, hH.mid, fun e' c' w' h' hw' => ?_⟩
  refine ⟨x ++ c' :: y, by rw [setN_eq]; exact hs e' c' h', ?_⟩
  simp only [List.append_assoc, List.cons_append]
  exact hw'.unmid

theorem Rep.new {h : List Ent} {w w' : World} {e : Ent} {c : Ch} (hr : Rep W F h w) (hc : has W e.loc e.obj c) (hw : ∀ L, H W w L → H W w' (c :: L)) : Rep W F (snoc h e) w' := by
  obtain ⟨cs, ha, hH⟩ := hr
  rw [snoc_eq]
  refine ⟨cs ++ [c], ha.snoc hc, ?_⟩
  simp only [List.append_assoc, List.cons_append, List.nil_append]
  exact (hw _ hH).unmid

theorem Rep.move {h : List Ent} {w w' : World} (hr : Rep W F h w) (hw : ∀ L, H W w L → H W w' L) : Rep W F h w' := by
  obtain ⟨cs, ha, hH⟩ := hr
  exact ⟨cs, ha, hw _ hH⟩
end

/-! ### The code that is left -/

inductive Frm where
  | code (c : Code)
  | ops (ops : Array Oper) (l : List Oper)
  | blk (id : Nat)
  | loop (J : Act → World → Prop)
  | un (c : Code) (n : Nat)

def post (P : Program) (Q : Exit → Act → World → Prop) : List Frm → Exit → Act → World → Prop
  | [] => Q
  | .code c :: k => Exit.then (c.wp P (post P Q k)) (post P Q k)
  | .ops ops l :: k => Exit.then (wpList P ops (post P Q k) l) (post P Q k)
  | .blk id :: k => Exit.inBlock id (post P Q k)
  | .loop J :: k => Exit.then J (post P Q k)
  | .un c n :: k => Exit.then (Code.rounds P c (post P Q k) n) (post P Q k)

def swp (P : Program) (Q : Exit → Act → World → Prop) : List Frm → Act → World → Prop
  | [] => Q .normal
  | .code c :: k => c.wp P (post P Q k)
  | .ops ops l :: k => wpList P ops (post P Q k) l
  | .blk _ :: k => post P Q k .normal
  | .loop J :: _ => J
  | .un c n :: k => Code.rounds P c (post P Q k) n

theorem swp_normal {P : Program} {Q : Exit → Act → World → Prop} : ∀ (k : List Frm) (a : Act) (w : World), swp P Q k a w → post P Q k .normal a w
  | [], _, _, h => h
  | .code _ :: _, _, _, h => h
  | .ops .. :: _, _, _, h => h
  | .blk _ :: k, _, _, h => by show Exit.inBlock _ _ _ _ _; exact h
  | .loop _ :: _, _, _, h => h
  | .un _ _ :: _, _, _, h => h

def actOf (st : Sy) : Act := ⟨(denL st.tmps).toArray, []⟩

def G (P : Program) (Q : Exit → Act → World → Prop) (W : World) (F : List Ch) (k : List Frm) (st : Sy) : Prop :=
  ∀ w, Rep W F st.heap w → swp P Q k (actOf st) w

def Fin (Q : Exit → Act → World → Prop) (W : World) (F : List Ch) (st : Sy) : Prop :=
  ∀ w, Rep W F st.heap w → Q .ret (actOf st) w

def Sy.put (st : Sy) : Option Tmp → SV → Sy
  | some d, v => { st with tmps := setN st.tmps d v }
  | none, _ => st

theorem actOf_put (st : Sy) (d : Option Tmp) (v : SV) : actOf (st.put d v) = (actOf st).put d (den v) := by
  cases d with
  | none => rfl
  | some d => simp [Sy.put, actOf, Act.put, denL_eq, setN_eq, List.map_set]

theorem heap_put (st : Sy) (d : Option Tmp) (v : SV) : (st.put d v).heap = st.heap := by cases d <;> rfl

def ofValue : Value → SV
  | .int k n => .int k n
  | .bool b => .bool b
  | .string s => .str s
  | v => .raw v

theorem den_ofValue (v : Value) : den (ofValue v) = v := by cases v <;> rfl

def Sy.eval (st : Sy) : Operand → SV
  | .tmp t => (nth st.tmps t).getD (.raw undef)
  | .const v => ofValue v
  | .global g => .raw (.pointer (some ⟨g, 0, none⟩))
  | .func f => .func (.func f) [] []

theorem den_eval (st : Sy) (x : Operand) : den (st.eval x) = (actOf st).eval x := by
  cases x with
  | tmp t =>
    simp only [Sy.eval, actOf, Act.eval, nth_eq, denL_eq, Array.getD_eq_getD_getElem?, List.getElem?_toArray, List.getElem?_map]
    cases st.tmps[t]? <;> simp [den]
  | const v => exact den_ofValue v
  | global g => rfl
  | func f => simp [Sy.eval, Act.eval, den, denL]

end Go.Proofs.Ytkcmgcoppecfpaa

/- The symbolic executor: one operation. -/
namespace Go.Proofs.Ytkcmgcoppecfpaa
open Go Go.RowKit
universe u

/-! ### What is asked of types: closed facts -/

def tlay (P : Program) (t : TypeId) : Option (Bool × Nat) :=
  match P.underlying t, P.info? t with
  | some (.struct _), some i => some (true, i.size)
  | some (.array _ _), some i => some (true, i.size)
  | some _, some i => some (false, i.size)
  | _, _ => none
def tzero (P : Program) (t : TypeId) : Option (List SV) := ((P.info? t).bind (·.zero)).map fun z => z.cells.toList.map ofValue
def tfield (P : Program) (s f : Nat) : Option Nat :=
  match P.underlying s with
  | some (.struct fs) => (fs[f]?).bind fun fd => match P.info? fd.type with
    | some i => if i.size = 0 then none else some fd.offset
    | none => none
  | _ => none
def tfieldV (P : Program) (s f : Nat) : Option (Nat × Bool × Nat) :=
  match P.underlying s with
  | some (.struct fs) => (fs[f]?).bind fun fd => (tlay P fd.type).map fun x => (fd.offset, x.1, x.2)
  | _ => none
def tslice (P : Program) (t : TypeId) : Option (TypeId × Nat) :=
  match P.underlying t with
  | some (.slice e) => (P.info? e).map fun i => (e, i.size)
  | _ => none

theorem tlay_agg {P : Program} {t : TypeId} {k : Nat} (h : tlay P t = some (true, k)) (w : World) : (isAgg t).run P w = .ok true w ∧ (sizeOf t).run P w = .ok k w := by
  unfold tlay at h
  split at h <;> simp_all [isAgg, sizeOf, typeInfo, underlying]
theorem tlay_one {P : Program} {t : TypeId} {k : Nat} (h : tlay P t = some (false, k)) (w : World) : (isAgg t).run P w = .ok false w ∧ (sizeOf t).run P w = .ok k w := by
  unfold tlay at h
  split at h <;> simp_all [isAgg, sizeOf, typeInfo, underlying]
  all_goals (split <;> simp_all)
theorem tlay_size {P : Program} {t : TypeId} {b : Bool} {k : Nat} (h : tlay P t = some (b, k)) (w : World) : (sizeOf t).run P w = .ok k w := by
  cases b
  · exact (tlay_one h w).2
  · exact (tlay_agg h w).2

section
variable {P : Program} {W w : World} {F : List Ch} {st : Sy} {o : Oper} {Q : Exit → Act → World → Prop} {K : Act → World → Prop} {N : Sy → Prop}

theorem sound_pure (hN : ∀ st', N st' → ∀ w', Rep W F st'.heap w' → K (actOf st') w') (hr : Rep W F st.heap w) (v : SV)
    (hrun : (execOp (actOf st).eval o).run P w = .ok (.value (den v)) w) (hn : N (st.put o.dst v)) : o.wp P (actOf st) w K Q := by
  unfold Oper.wp
  rw [hrun]
  show K ((actOf st).put o.dst (den v)) w
  rw [← actOf_put]
  exact hN _ hn w (by rw [heap_put]; exact hr)
end

def binI (op : BinOp) (k : IntKind) (a b : Int) : Option SV :=
  match op with
  | .add => some (.int k (k.wrap (a + b)))
  | .sub => some (.int k (k.wrap (a - b)))
  | .mul => some (.int k (k.wrap (a * b)))
  | .eql => some (.bool (a == b))
  | .neq => some (.bool (a != b))
  | .lss => some (.bool (decide (a < b)))
  | .leq => some (.bool (decide (a ≤ b)))
  | .gtr => some (.bool (decide (a > b)))
  | .geq => some (.bool (decide (a ≥ b)))
  | _ => none

def divI (op : BinOp) (k : IntKind) (a b : Int) : Option SV :=
  match op with
  | .quo => some (.int k (k.wrap (a.tdiv b)))
  | .rem => some (.int k (a.tmod b))
  | _ => none

def mxI (a b : Int) : Int := if b > a then b else a
def mnI (a b : Int) : Int := if b < a then b else a
def shI (op : BinOp) (k : IntKind) (a b : Int) : Option SV :=
  match op with
  | .shl => some (.int k (k.wrap (a * 2 ^ (min b.toNat k.bits))))
  | .shr => some (.int k (a.fdiv (2 ^ (min b.toNat k.bits))))
  | _ => none

def sEq (a b : ByteArray) : Bool := a.toList == b.toList
def sLt (a b : ByteArray) : Bool := Op.bytesLess a.toList b.toList
def binS (op : BinOp) (a b : ByteArray) : Option SV :=
  match op with
  | .eql => some (.bool (sEq a b))
  | .neq => some (.bool (!sEq a b))
  | .lss => some (.bool (sLt a b))
  | .leq => some (.bool (sLt a b || sEq a b))
  | .gtr => some (.bool (!(sLt a b || sEq a b)))
  | .geq => some (.bool (!sLt a b))
  | _ => none

def takeN {α : Type u} : List α → Nat → List α
  | _, 0 => []
  | [], _ + 1 => []
  | x :: l, n + 1 => x :: takeN l n
def dropN {α : Type u} : List α → Nat → List α
  | l, 0 => l
  | [], _ + 1 => []
  | _ :: l, n + 1 => dropN l n
theorem takeN_eq {α : Type u} (l : List α) (n : Nat) : takeN l n = l.take n := by
  induction l generalizing n with
  | nil => cases n <;> simp [takeN]
  | cons x l ih => cases n <;> simp [takeN, ih]
theorem dropN_eq {α : Type u} (l : List α) (n : Nat) : dropN l n = l.drop n := by
  induction l generalizing n with
  | nil => cases n <;> simp [dropN]
  | cons x l ih => cases n <;> simp [dropN, ih]

def writeN {α : Type u} : List α → Nat → List α → List α
  | l, _, [] => l
  | [], _, _ => []
  | _ :: l, 0, v :: vs => v :: writeN l 0 vs
  | x :: l, n + 1, vs => x :: writeN l n vs

def cellsOf : SV → List SV
  | .agg cs => cs
  | v => [v]

theorem den_cellsOf (v : SV) : (den v).cells = (denL (cellsOf v)).toArray ∨ ∃ c, v = .raw (.agg c) := by
  cases v with
  | raw u => cases u <;> first | (left; rfl) | (right; exact ⟨_, rfl⟩)
  | _ => left; rfl

def oneSV : SV → Bool
  | .agg _ | .tuple _ | .raw (.agg _) | .raw (.tuple _) => false
  | .raw (.int ..) | .raw (.bool _) | .raw (.string _) | .raw (.pointer _) | .raw (.slice ..) | .raw (.map _) | .raw (.func ..) | .raw .nilFunc | .raw (.iface ..) | .raw .nilIface => true
  | .raw _ => false
  | _ => true
def allOne : List SV → Bool
  | [] => true
  | v :: l => oneSV v && allOne l

theorem oneCell_of_oneSV (v : SV) (h : oneSV v = true) : (den v).oneCell' = true := by
  cases v with
  | raw u => cases u <;> simp_all [oneSV, den, Value.oneCell']
  | _ => simp_all [oneSV, den, Value.oneCell']

theorem oneCells_of_allOne (l : List SV) (h : allOne l = true) : ∀ u ∈ denL l, u.oneCell' = true := by
  induction l with
  | nil => intro u hu; cases hu
  | cons v l ih =>
    simp only [allOne, Bool.and_eq_true] at h
    intro u hu
    simp only [denL, List.mem_cons] at hu
    rcases hu with rfl | hu
    · exact oneCell_of_oneSV v h.1
    · exact ih h.2 u hu


inductive Res where
  | ok (v : SV)
  | req (c : Prop) (v : SV)
  | alt {β : Type} (c : Prop) (o : Option β) (f : β → SV) (z : SV)
  | no

def Res.holds (T : SV → Prop) (stop : Prop) : Res → Prop
  | .ok v => T v
  | .req c v => c ∧ T v
  | .alt c o f z => c ∧ match o with
    | some v => T (f v)
    | none => T z
  | .no => stop

def evals (st : Sy) : List Operand → List SV
  | [] => []
  | x :: l => st.eval x :: evals st l

theorem denL_evals (st : Sy) (l : List Operand) : denL (evals st l) = l.map (actOf st).eval := by
  induction l with
  | nil => rfl
  | cons x l ih => simp only [evals, denL, den_eval, ih, List.map_cons]

def sAt (s : ByteArray) (i : Int) : Int := (((s.data[i.toNat]?).map (·.toNat)).getD 0 : Nat)

def lenS : SV → Option Int
  | .str s => some (s.size : Int)
  | _ => none
def lenV : SV → Option Int
  | .vec _ _ n _ => some (n : Int)
  | .sub _ _ _ _ lo hi => some ((hi - lo : Nat) : Int)
  | .raw (.slice _ n _) => some (n : Int)
  | _ => none

def pickV (c : Bool) : SV → SV → SV
  | .bool x, .bool y => .bool (cond c x y)
  | x, y => cond c x y

def partV (P : Program) (t : TypeId) (xs : List SV) (off : Nat) : Option SV :=
  match tlay P t with
  | some (true, k) => some (.agg (takeN (dropN xs off) k))
  | some (false, _) => nth xs off
  | none => none
def eqFs (P : Program) (e : TypeId → SV → SV → Option Bool) (xs ys : List SV) : List Field → Option Bool
  | [] => some true
  | f :: fs => match decide (f.name = "_") with
    | true => eqFs P e xs ys fs
    | false => match partV P f.type xs f.offset, partV P f.type ys f.offset with
      | some a, some b => match e f.type a b, eqFs P e xs ys fs with
        | some r, some rs => some (r && rs)
        | _, _ => none
      | _, _ => none
def eqV (P : Program) : Nat → TypeId → SV → SV → Option Bool
  | 0, _, _, _ => none
  | d + 1, t, x, y => match P.underlying t, x, y with
    | some .bool, .bool a, .bool b => some (a == b)
    | some (.int _), .int k a, .int k' b => if k = k' then some (a == b) else none
    | some .string, .str a, .str b => some (sEq a b)
    | some (.struct fs), .agg xs, .agg ys => match P.stoodInHeld t with
      | true => none
      | false => eqFs P (eqV P d) xs ys fs.toList
    | some (.interface _), .raw .nilIface, .raw .nilIface => some true
    | some (.interface _), .raw .nilIface, .iface _ _ => some false
    | some (.interface _), .iface _ _, .raw .nilIface => some false
    | some (.pointer _), .raw (.pointer none), .raw (.pointer none) => some true
    | some (.pointer _), .raw (.pointer none), .ptr .. => some false
    | some (.pointer _), .ptr .., .raw (.pointer none) => some false
    | some (.pointer _), .raw (.pointer none), .eptr .. => some false
    | some (.pointer _), .eptr .., .raw (.pointer none) => some false
    | some (.func ..), .raw .nilFunc, .raw .nilFunc => some true
    | some (.func ..), .raw .nilFunc, .func .. => some false
    | some (.func ..), .func .., .raw .nilFunc => some false
    | some (.slice _), .vec _ ao _ _, .raw (.slice none _ _) => some ao.isNone
    | some (.slice _), .raw (.slice none _ _), .raw (.slice none _ _) => some true
    | some (.map ..), .raw (.map none), .raw (.map none) => some true
    | some (.map ..), .map .., .raw (.map none) => some false
    | _, _, _ => none
def constB : Operand → Bool
  | .const _ => true
  | _ => false
def eqTop (P : Program) (t : TypeId) (x y : Operand) (vx vy : SV) : Option Bool :=
  match vx, vy with
  | .raw .nilIface, .raw .nilIface => match constB x || constB y with
    | true => eqV P 100 t vx vy
    | false => none
  | .agg _, .agg _ => match P.eqGuardType P.depth t with
    | true => none
    | false => eqV P 100 t vx vy
  | _, _ => eqV P 100 t vx vy

section
variable {P : Program} {w : World}
theorem run_partV (t : TypeId) (xs : List SV) (off : Nat) (v : SV) (h : partV P t xs off = some v) : (part t (denL xs).toArray off).run P w = .ok (den v) w := by
  unfold partV at h
  split at h
  · rename_i k e
    cases h
    simp only [part, Sem.run_bind, (tlay_agg e w).1, (tlay_agg e w).2, Result.andThen_ok, Sem.run_pure, if_true]
    simp [denL_eq, takeN_eq, dropN_eq, List.map_take, List.map_drop, List.extract_eq_take_drop, den]
  · rename_i k e
    rw [nth_eq] at h
    have hg : (denL xs).toArray[off]? = some (den v) := by simp [denL_eq, h]
    simp only [part, Sem.run_bind, (tlay_one e w).1, Result.andThen_ok, Bool.false_eq_true, if_false, hg, Sem.run_pure]
  · cases h

theorem run_eqFs (d : Nat) (e : TypeId → SV → SV → Option Bool) (he : ∀ t x y b, e t x y = some b → (Op.equalIn d t (den x) (den y)).run P w = .ok b w) (xs ys : List SV) : ∀ (fs : List Field) (b : Bool),
    eqFs P e xs ys fs = some b → (Op.eqFields d (denL xs).toArray (denL ys).toArray fs).run P w = .ok b w
  | [], b, h => by simp only [eqFs, Option.some.injEq] at h; subst h; rfl
  | f :: fs, b, h => by
    simp only [eqFs] at h
    split at h
    · rename_i hn
      simp only [decide_eq_true_eq] at hn
      simp only [Op.eqFields, hn, ne_eq, not_true_eq_false, if_false]
      exact run_eqFs d e he xs ys fs b h
    · rename_i hn
      simp only [decide_eq_false_iff_not] at hn
      split at h
      · rename_i a c ea ec
        split at h
        · rename_i r rs er ers
          cases h
          have ih := run_eqFs d e he xs ys fs rs ers
          simp only [Op.eqFields, ne_eq, hn, not_false_eq_true, if_true, Sem.run_bind, run_partV _ _ _ _ ea, run_partV _ _ _ _ ec, Result.andThen_ok, he _ _ _ _ er]
          cases r
          · simp
          · simpa using ih
        · cases h
      · cases h

theorem run_eqV : ∀ (n d : Nat) (t : TypeId) (x y : SV) (b : Bool), n ≤ d → eqV P n t x y = some b → (Op.equalIn d t (den x) (den y)).run P w = .ok b w
  | 0, _, _, _, _, _, _, h => by cases h
  | n + 1, 0, _, _, _, _, hd, _ => by omega
  | n + 1, d + 1, t, x, y, b, hd, h => by
    simp only [eqV] at h
    split at h
    case h_2 => 
      rename_i k k1 a k2 c e1
      split at h
      · rename_i hk
        cases h; subst hk
        exact run_equalIn_int w d t _ _ _ _ e1
      · cases h
    case h_4 =>
      rename_i fs xs ys e1
      split at h
      · cases h
      · rename_i hs
        have hf : P.fieldsOf t = fs := by simp [Program.fieldsOf, e1]
        have := run_equalIn_struct (P := P) w d t (denL xs).toArray (denL ys).toArray (by rw [hf]; exact e1) hs
        simp only [den]
        rw [this, hf]
        exact run_eqFs d (eqV P n) (fun t x y b => run_eqV n d t x y b (by omega)) xs ys _ b h
    case h_1 => rename_i a c e1; cases h; exact run_equalIn_bool' w d t _ _ e1
    case h_3 => rename_i a c e1; cases h; exact run_equalIn_string w d t _ _ e1
    all_goals first
      | (cases h; done)
      | (cases h; rename_i e1; simp [Op.equalIn, run_underlying e1, den]; done)
      | (rename_i ao _ _ _ _ e1; cases ao <;> cases h <;> simp [Op.equalIn, run_underlying e1, den]; done)
      | skip

theorem binOp_eqV (d : Nat) (t : TypeId) (vx vy : SV) (b : Bool) (h : eqV P (d + 1) t vx vy = some b) (he : (Op.equal t (den vx) (den vy)).run P w = .ok b w) :
    (binOp .eql t (den vx) (den vy)).run P w = .ok (.bool b) w ∧ (binOp .neq t (den vx) (den vy)).run P w = .ok (.bool (!b)) w := by
  simp only [eqV] at h
  split at h
  case h_2 =>
    split at h
    · rename_i hk; cases h; subst hk; constructor <;> simp [binOp, den, Op.intCmp]; rfl
    · cases h
  case h_4 => clear h; simp only [den] at he; simp [binOp, den, he]
  all_goals first
    | (cases h; done)
    | (cases h; simp [binOp, den, Op.stringOp, sEq]; done)
    | (clear h; simp only [den] at he; simp [binOp, den, he]; done)
    | skip

theorem eqGuard_eqV (d : Nat) (op : BinOp) (hop : op = .eql ∨ op = .neq) (t : TypeId) (x y : Operand) (vx vy : SV) (b : Bool) (h : eqV P (d + 1) t vx vy = some b) (hn : ∀ (_ : vx = .raw .nilIface) (_ : vy = .raw .nilIface), False) (ha : ∀ xs ys (_ : vx = .agg xs) (_ : vy = .agg ys), False) :
    (eqGuard op t x y (den vx) (den vy)).run P w = .ok () w := by
  simp only [eqV] at h
  split at h <;> first
    | (cases h; done)
    | (clear h; rcases hop with rfl | rfl <;> simp [eqGuard, den]; done)
    | (exact (hn rfl rfl).elim)
    | (exact (ha _ _ rfl rfl).elim)
    | skip

theorem run_eqTop (op : BinOp) (hop : op = .eql ∨ op = .neq) (t : TypeId) (x y : Operand) (vx vy : SV) (b : Bool) (h : eqTop P t x y vx vy = some b) :
    (eqGuard op t x y (den vx) (den vy)).run P w = .ok () w ∧ (binOp .eql t (den vx) (den vy)).run P w = .ok (.bool b) w ∧ (binOp .neq t (den vx) (den vy)).run P w = .ok (.bool (!b)) w := by
  have key : ∀ b, eqV P (99 + 1) t vx vy = some b → (binOp .eql t (den vx) (den vy)).run P w = .ok (.bool b) w ∧ (binOp .neq t (den vx) (den vy)).run P w = .ok (.bool (!b)) w :=
    fun b h => binOp_eqV 99 t vx vy b h (run_eqV 100 10000 t vx vy b (by decide) h)
  unfold eqTop at h
  split at h
  · split at h
    · rename_i hc
      refine ⟨?_, key b h⟩
      clear h key
      rcases hop with rfl | rfl <;> cases x <;> cases y <;> first
        | (simp [eqGuard, den]; done)
        | (simp [constB] at hc; done)
    · cases h
  · split at h
    · cases h
    · rename_i hm
      exact ⟨run_eqGuard_agg w op t x y _ _ hm, key b h⟩
  · rename_i hn ha
    exact ⟨eqGuard_eqV 99 op hop t x y vx vy b h hn ha, key b h⟩
end

def xslice (P : Program) (st : Sy) (t : TypeId) (x : Operand) (lo hi : Option Operand) : Res :=
  match P.underlying t, st.eval x, lo, hi with
    | some .string, .str s, some l, none => match st.eval l with
      | .int _ a => .req (0 ≤ a ∧ a ≤ (s.size : Int)) (.str (s.extract a.toNat s.size))
      | _ => .no
    | some .string, .str s, none, some h => match st.eval h with
      | .int _ b => .req (0 ≤ b ∧ b ≤ (s.size : Int)) (.str (s.extract 0 b.toNat))
      | _ => .no
    | some .string, .str s, some l, some h => match st.eval l, st.eval h with
      | .int _ a, .int _ b => .req (0 ≤ a ∧ a ≤ b ∧ b ≤ (s.size : Int)) (.str (s.extract a.toNat b.toNat))
      | _, _ => .no
    | some (.slice e), .vec l ao n cap, some lo, none => match st.eval lo, tslice P t with
      | .int _ a, some (_, sz) => .req (0 ≤ a ∧ a ≤ (n : Int) ∧ n ≤ cap) (.sub l ao cap sz a.toNat n)
      | _, _ => .no
    | some (.slice e), .vec l ao n cap, none, some hi => match st.eval hi, tslice P t with
      | .int _ b, some (_, sz) => .req (0 ≤ b ∧ b ≤ (cap : Int)) (.sub l ao cap sz 0 b.toNat)
      | _, _ => .no
    | some (.slice e), .vec l ao n cap, some lo, some hi => match st.eval lo, st.eval hi, tslice P t with
      | .int _ a, .int _ b, some (_, sz) => .req (0 ≤ a ∧ a ≤ b ∧ b ≤ (cap : Int)) (.sub l ao cap sz a.toNat b.toNat)
      | _, _, _ => .no
    | _, _, _, _ => .no

def plainT (P : Program) (t : TypeId) : Bool :=
  match P.underlying t with
  | some (.interface _) => false
  | some _ => true
  | none => false

def xpure (P : Program) (st : Sy) (op : Op) : Res :=
  match op with
  | .move x => .ok (st.eval x)
  | .assign x => .ok (st.eval x)
  | .pick c x y => match st.eval c with
    | .bool b => .ok (pickV b (st.eval x) (st.eval y))
    | _ => .no
  | .nilCheck x => match st.eval x with
    | .ptr l b off => .ok (.ptr l b off)
    | .eptr l b base sz i fo => .ok (.eptr l b base sz i fo)
    | .raw (.pointer (some a)) => .ok (.raw (.pointer (some a)))
    | .func (.func f) a b => .ok (.func (.func f) a b)
    | .iface t v => .ok (.iface t v)
    | _ => .no
  | .binOp op t x y _ => match st.eval x, st.eval y with
    | .int k a, .int k' b => match shI op k a b with
      | some v => .req (0 ≤ b) v
      | none => if k = k' then (match binI op k a b with
        | some v => .ok v
        | none => match divI op k a b with
          | some v => .req (b ≠ 0) v
          | none => .no) else .no
    | .str a, .str b => match op with
      | .add => .req ((a.size + b.size : Nat) ≤ 9223372036854775807) (.str (a ++ b))
      | _ => match binS op a b with
        | some v => .ok v
        | none => .no
    | vx, vy => match op with
      | .eql => match eqTop P t x y vx vy with
        | some b => .ok (.bool b)
        | none => .no
      | .neq => match eqTop P t x y vx vy with
        | some b => .ok (.bool (!b))
        | none => .no
      | _ => .no
  | .unOp op _ x => match op, st.eval x with
    | .not, .bool b => .ok (.bool (!b))
    | .neg, .int k n => .ok (.int k (k.wrap (0 - n)))
    | _, _ => .no
  | .convert src dst x => match P.underlying src, P.underlying dst, st.eval x with
    | some (.int _), some (.int k), .int _ n => .ok (.int k (k.wrap n))
    | some .string, some .string, .str s => .ok (.str s)
    | _, _, _ => .no
  | .makeInterface t x => if P.concrete t then .ok (.iface t (st.eval x)) else .no
  | .typeAssert x xt a c => match st.eval x with
    | .iface t v => match plainT P a with
      | true => match Nat.beq t a with
        | true => match c with
          | true => .ok (.tuple [v, .bool true])
          | false => .ok v
        | false => .no
      | false => .no
    | _ => .no
  | .makeFunc fn a b => .ok (.func fn (evals st a.toList) (evals st b.toList))
  | .fieldAddr s x f => match st.eval x, tfield P s f with
    | .ptr l b off, some k => .ok (.ptr l b (off + k))
    | .eptr l b base sz i fo, some k => .ok (.eptr l b base sz i (fo + k))
    | _, _ => .no
  | .extract x i => match st.eval x with
    | .tuple vs => match nth vs i with
      | some v => .ok v
      | none => .no
    | _ => .no
  | .field t x f => match st.eval x, tfieldV P t f with
    | .agg cs, some (off, true, k) => .ok (.agg (takeN (dropN cs off) k))
    | .agg cs, some (off, false, _) => match nth cs off with
      | some v => .ok v
      | none => .no
    | _, _ => .no
  | .index t x i => match P.underlying t, st.eval x, st.eval i with
    | some .string, .str s, .int _ n => .req (0 ≤ n ∧ n < (s.size : Int)) (.int .u8 (sAt s n))
    | some (.array len e), .agg cs, .int _ n => match tlay P e with
      | some (false, k) => match nth cs (n.toNat * k) with
        | some v => .req (0 ≤ n ∧ n < (len : Int)) v
        | none => .no
      | _ => .no
    | _, _, _ => .no
  | .slice t x lo hi mx => match mx with
    | none => xslice P st t x lo hi
    | some _ => .no
  | .call ⟨.builtin .len, args, ts⟩ => match args.toList, ts.toList with
    | [x], [t] => match P.underlying t with
      | some .string => match lenS (st.eval x) with
        | some n => .ok (.int .i64 n)
        | none => .no
      | some (.slice _) => match lenV (st.eval x) with
        | some n => .ok (.int .i64 n)
        | none => .no
      | _ => .no
    | _, _ => .no
  | .call ⟨.builtin .max, args, _⟩ => match evals st args.toList with
    | [.int k a, .int k' b] => if k = k' then .ok (.int k (mxI a b)) else .no
    | _ => .no
  | .call ⟨.builtin .min, args, _⟩ => match evals st args.toList with
    | [.int k a, .int k' b] => if k = k' then .ok (.int k (mnI a b)) else .no
    | _ => .no
  | _ => .no

theorem den_pickV (b : Bool) (x y : SV) : den (pickV b x y) = if b = true then den x else den y := by
  cases b <;> cases x <;> cases y <;> rfl

theorem run_binI {P : Program} {w : World} (op : BinOp) (t : TypeId) (k : IntKind) (a b : Int) (v : SV) (h : binI op k a b = some v) : (binOp op t (.int k a) (.int k b)).run P w = .ok (den v) w := by
  cases op <;> simp only [binI, Option.some.injEq, reduceCtorEq] at h <;> subst h <;> simp [binOp, Op.intArith, Op.intCmp, den]

theorem run_divI {P : Program} {w : World} (op : BinOp) (t : TypeId) (k : IntKind) (a b : Int) (v : SV) (h : divI op k a b = some v) (hb : b ≠ 0) : (binOp op t (.int k a) (.int k b)).run P w = .ok (den v) w := by
  cases op <;> simp only [divI, Option.some.injEq, reduceCtorEq] at h <;> subst h <;> simp [binOp, Op.intDiv, den, hb]

theorem run_binS {P : Program} {w : World} (op : BinOp) (t : TypeId) (a b : ByteArray) (v : SV) (h : binS op a b = some v) : (binOp op t (.string a) (.string b)).run P w = .ok (den v) w := by
  cases op <;> simp only [binS, Option.some.injEq, reduceCtorEq] at h <;> subst h <;> simp [binOp, Op.stringOp, den, sEq, sLt]

theorem run_eqGuard_int {P : Program} {w : World} (op : BinOp) (t : TypeId) (x y : Operand) (k k' : IntKind) (a b : Int) : (eqGuard op t x y (.int k a) (.int k' b)).run P w = .ok () w := by
  unfold eqGuard; cases op <;> simp
theorem run_eqGuard_str {P : Program} {w : World} (op : BinOp) (t : TypeId) (x y : Operand) (a b : ByteArray) : (eqGuard op t x y (.string a) (.string b)).run P w = .ok () w := by
  unfold eqGuard; cases op <;> simp

section
variable {P : Program} {W w : World} {F : List Ch} {st : Sy} {o : Oper} {Q : Exit → Act → World → Prop} {K : Act → World → Prop} {N : Sy → Prop}

theorem yields_xpure {T : SV → Prop} {Goal : Prop} (S : Prop) (fin : ∀ v, (execOp (actOf st).eval o).run P w = .ok (.value (den v)) w → T v → Goal) (hx : (xpure P st o.op).holds T S) (hS : S → Goal) : Goal := by
  obtain ⟨dst, op, type, pos, after, guard⟩ := o
  have E := den_eval st
  cases op <;> simp only [xpure] at hx <;> try exact hS hx
  case move x => exact fin _ (by simp [execOp, E]) hx
  case assign x => exact fin _ (by simp [execOp, E]) hx
  case pick c x y =>
    have hc := E c
    split at hx
    · rename_i b hb
      rw [hb] at hc
      refine fin _ ?_ hx
      simp only [execOp, ← hc, den, asBool, Sem.run_bind, Sem.run_pure, Result.andThen_ok]
      rw [← E x, ← E y, den_pickV]
    · exact hS hx
  case nilCheck x =>
    have hx' := E x
    split at hx
    all_goals first
      | exact hS hx
      | skip
    all_goals
      rename_i heq
      rw [heq] at hx'
      refine fin _ ?_ hx
      simp only [execOp, ← hx', den, Sem.run_pure]
  case binOp op t x y t2 =>
    have h1 := E x
    have h2 := E y
    split at hx
    · rename_i k a k' b e1 e2
      rw [e1] at h1; rw [e2] at h2
      split at hx
      · rename_i v hv
        obtain ⟨hb, hx⟩ := hx
        have hg := run_eqGuard_int (P := P) (w := w) op t x y k k' a b
        have hb' : ¬ b < 0 := by omega
        refine fin _ ?_ hx
        cases op <;> simp only [shI, Option.some.injEq, reduceCtorEq] at hv <;> subst hv
        · simp only [execOp, ← h1, ← h2, den, Sem.run_bind, hg, Result.andThen_ok]
          simp [binOp, Op.shift, hb']
        · simp only [execOp, ← h1, ← h2, den, Sem.run_bind, hg, Result.andThen_ok]
          simp [binOp, Op.shift, hb']
      split at hx
      · rename_i hk; subst hk
        have hg := run_eqGuard_int (P := P) (w := w) op t x y k k a b
        split at hx
        · rename_i v hv
          refine fin _ ?_ hx
          simp only [execOp, ← h1, ← h2, den, Sem.run_bind, hg, Result.andThen_ok, run_binI op t k a b v hv, Sem.run_pure]
        · split at hx
          · rename_i v hv
            refine fin _ ?_ hx.2
            simp only [execOp, ← h1, ← h2, den, Sem.run_bind, hg, Result.andThen_ok, run_divI op t k a b v hv hx.1, Sem.run_pure]
          · exact hS hx
      · exact hS hx
    · rename_i a b e1 e2
      rw [e1] at h1; rw [e2] at h2
      have hg := run_eqGuard_str (P := P) (w := w) op t x y a b
      split at hx
      · refine fin _ ?_ hx.2
        have hle : ¬ (9223372036854775807 < (a.size : Int) + (b.size : Int)) := by have := hx.1; omega
        simp [execOp, ← h1, ← h2, den, hg, binOp, Op.stringOp, hle]
      · split at hx
        · rename_i v hv
          refine fin _ ?_ hx
          simp only [execOp, ← h1, ← h2, den, Sem.run_bind, hg, Result.andThen_ok, run_binS _ t a b v hv, Sem.run_pure]
        · exact hS hx
    · rename_i n1 n2
      split at hx
      · split at hx
        · rename_i b hb
          obtain ⟨hg, he, _⟩ := run_eqTop (w := w) .eql (.inl rfl) t x y _ _ b hb
          refine fin _ ?_ hx
          simp only [execOp, ← h1, ← h2, Sem.run_bind, hg, Result.andThen_ok, he, Sem.run_pure, den]
        · exact hS hx
      · split at hx
        · rename_i b hb
          obtain ⟨hg, _, he⟩ := run_eqTop (w := w) .neq (.inr rfl) t x y _ _ b hb
          refine fin _ ?_ hx
          simp only [execOp, ← h1, ← h2, Sem.run_bind, hg, Result.andThen_ok, he, Sem.run_pure, den]
        · exact hS hx
      · exact hS hx
  case unOp op t x =>
    have h1 := E x
    split at hx
    · rename_i b e1; rw [e1] at h1
      refine fin _ ?_ hx
      simp [execOp, ← h1, den, Op.unary]
    · rename_i k n e1; rw [e1] at h1
      refine fin _ ?_ hx
      simp [execOp, ← h1, den, Op.unary, Op.intArith]
    · exact hS hx
  case convert src dst' x =>
    have h1 := E x
    split at hx
    · rename_i k1 k k2 n e1 e2 e3; rw [e3] at h1
      refine fin _ ?_ hx
      simp [execOp, ← h1, den, convert, underlying, e1, e2, Conv.intToInt]
    · rename_i s e1 e2 e3; rw [e3] at h1
      refine fin _ ?_ hx
      simp [execOp, ← h1, den, convert, underlying, e1, e2]
    · exact hS hx
  case makeInterface t x =>
    split at hx
    · rename_i hc
      refine fin _ ?_ hx
      simp only [execOp, Sem.run_bind, run_makeInterface (P := P) (w := w) t _ hc, Result.andThen_ok, Sem.run_pure, den, E]
    · exact hS hx
  case typeAssert x xt a c =>
    have h1 := E x
    split at hx
    · rename_i t v e1; rw [e1] at h1
      split at hx
      · rename_i hp
        split at hx
        · rename_i ht
          rw [Nat.beq_eq] at ht
          subst ht
          have hrun : ∀ c : Bool, (Instr.typeAssert (.iface t (den v)) xt t c).run P w = .ok (if c then .tuple #[den v, .bool true] else den v) w := by
            intro c
            unfold plainT at hp
            cases hu : P.underlying t with
            | none => rw [hu] at hp; cases hp
            | some d =>
              rw [hu] at hp
              unfold Instr.typeAssert
              simp only [Sem.run_bind, underlying, run_program, Result.andThen_ok, hu, Sem.run_pure]
              cases d <;> first | (cases hp; done) | simp
          split at hx
          · refine fin _ ?_ hx
            simp only [execOp, ← h1, den, Sem.run_bind, hrun, Result.andThen_ok, Sem.run_pure, denL]
            rfl
          · refine fin _ ?_ hx
            simp only [execOp, ← h1, den, Sem.run_bind, hrun, Result.andThen_ok, Sem.run_pure]
            rfl
        · exact hS hx
      · exact hS hx
    · exact hS hx
  case makeFunc fn a b =>
    refine fin _ ?_ hx
    simp only [execOp, Instr.makeFunc, den, denL_evals, Sem.run_bind, Sem.run_pure, Result.andThen_ok]
    congr 3 <;> (apply Array.ext'; simp)
  case extract x i =>
    have h1 := E x
    split at hx
    · rename_i vs e1; rw [e1] at h1
      split at hx
      · rename_i v hv
        refine fin _ ?_ hx
        rw [nth_eq] at hv
        simp [execOp, ← h1, den, Instr.extract, denL_eq, hv]
      · exact hS hx
    · exact hS hx
  case fieldAddr s x f =>
    have h1 := E x
    have hf : ∀ k, tfield P s f = some k → ∀ a : Addr, a.spot = none → (Instr.fieldAt s (.pointer (some a)) f).run P w = .ok (.pointer (some ⟨a.block, a.off + k, none⟩)) w := by
      intro k hk a ha
      unfold tfield at hk
      split at hk
      · rename_i fs hfs
        obtain ⟨fd, hfd, h2⟩ := Option.bind_eq_some_iff.1 hk
        split at h2
        · rename_i i hi
          split at h2
          · cases h2
          · rename_i h0
            simp only [Option.some.injEq] at h2
            subst h2
            have hadd : a.add fd.offset = ⟨a.block, a.off + fd.offset, none⟩ := by
              obtain ⟨b, off, sp⟩ := a
              simp only at ha; subst ha
              exact Addr.add_mid' b off fd.offset
            simp [Instr.fieldAt, underlying, hfs, hfd, Instr.sureAddr, fieldPlace, sizeOf, typeInfo, hi, h0, hadd]
        · cases h2
      · cases hk
    split at hx
    · rename_i l b off k e1 e2; rw [e1] at h1
      refine fin _ ?_ hx
      simp only [execOp, ← h1, den, Sem.run_bind, hf k e2 ⟨b, off, none⟩ rfl, Result.andThen_ok, Sem.run_pure]
    · rename_i l b base sz i fo k e1 e2; rw [e1] at h1
      refine fin _ ?_ hx
      simp only [execOp, ← h1, den, Sem.run_bind, hf k e2 ⟨b, base + (i * sz + fo), none⟩ rfl, Result.andThen_ok, Sem.run_pure, Nat.add_assoc]
    · exact hS hx
  case field t x f =>
    have h1 := E x
    have hf : ∀ off b k, tfieldV P t f = some (off, b, k) → ∀ cs : Array Value, ∃ e, tlay P e = some (b, k) ∧ (Instr.field t (.agg cs) f).run P w = (part e cs off).run P w := by
      intro off b k hk cs
      unfold tfieldV at hk
      split at hk
      · rename_i fs hfs
        obtain ⟨fd, hfd, h2⟩ := Option.bind_eq_some_iff.1 hk
        obtain ⟨x, hx1, hx2⟩ := Option.map_eq_some_iff.1 h2
        simp only [Prod.mk.injEq] at hx2
        obtain ⟨rfl, rfl, rfl⟩ := hx2
        exact ⟨fd.type, hx1, by simp [Instr.field, underlying, hfs, hfd, asAgg]⟩
      · cases hk
    split at hx
    · rename_i cs off k e1 e2; rw [e1] at h1
      obtain ⟨e, he, hrun⟩ := hf off true k e2 (denL cs).toArray
      refine fin _ ?_ hx
      simp only [execOp, ← h1, den, Sem.run_bind, hrun, part, (tlay_agg he w).1, (tlay_agg he w).2, Result.andThen_ok, Sem.run_pure, if_true]
      simp [denL_eq, takeN_eq, dropN_eq, List.map_take, List.map_drop, List.extract_eq_take_drop]
    · rename_i cs off k e1 e2; rw [e1] at h1
      split at hx
      · rename_i v hv
        obtain ⟨e, he, hrun⟩ := hf off false k e2 (denL cs).toArray
        refine fin _ ?_ hx
        rw [nth_eq] at hv
        have hg : (denL cs).toArray[off]? = some (den v) := by simp [denL_eq, hv]
        simp only [execOp, ← h1, den, Sem.run_bind, hrun, part, (tlay_one he w).1, Result.andThen_ok, Bool.false_eq_true, if_false, hg, Sem.run_pure]
      · exact hS hx
    · exact hS hx
  case index t x i =>
    have h1 := E x
    have h2 := E i
    split at hx
    · rename_i s k n e0 e1 e2; rw [e1] at h1; rw [e2] at h2
      refine fin _ ?_ hx.2
      obtain ⟨⟨g1, g2⟩, _⟩ := hx
      have hlt : n.toNat < s.size := by omega
      have hb : s[n.toNat]? = some s[n.toNat] := by simp [hlt]
      have hv : sAt s n = (s[n.toNat].toNat : Int) := by
        unfold sAt
        have : s.data[n.toNat]? = some s[n.toNat] := by
          rw [Array.getElem?_eq_getElem hlt]; rfl
        rw [this]; rfl
      simp [execOp, ← h1, ← h2, den, Instr.index, asIntOf, underlying, e0, g1, hb, hv]
    · rename_i len e cs kk n e0 e1 e2; rw [e1] at h1; rw [e2] at h2
      split at hx
      · rename_i k he
        split at hx
        · rename_i v hv
          refine fin _ ?_ hx.2
          obtain ⟨⟨g1, g2⟩, _⟩ := hx
          rw [nth_eq] at hv
          have hg : (denL cs).toArray[n.toNat * k]? = some (den v) := by simp [denL_eq, hv]
          have hlo := tlay_one he w
          have hgu : 0 ≤ n ∧ n < (len : Int) := ⟨g1, g2⟩
          simp only [execOp, ← h1, ← h2, den, Instr.index, asIntOf, underlying, run_program, e0, Sem.run_bind, Sem.run_pure, Result.andThen_ok, hgu, if_true, and_self, hlo.2, part, hlo.1, Bool.false_eq_true, if_false, hg]
        · exact hS hx
      · exact hS hx
    · exact hS hx
  case call c =>
    obtain ⟨callee, args, ts⟩ := c
    cases callee with
    | builtin b =>
      cases b <;> simp only at hx <;> try exact hS hx
      split at hx
      · rename_i x t e1 e2
        have hx1 := E x
        have ha : args = #[x] := by apply Array.ext'; simpa using e1
        have ht : ts = #[t] := by apply Array.ext'; simpa using e2
        subst ha; subst ht
        have hr1 : (execOp (actOf st).eval ⟨dst, .call ⟨.builtin .len, #[x], #[t]⟩, type, pos, after, guard⟩).run P w = (do pure (Next.value (← Builtin.len_ #[t] type #[den (st.eval x)])) : Sem Next).run P w := by
          rw [hx1]; simp [execOp, resolve, invoke, builtin]
        split at hx
        · rename_i hu
          split at hx
          · rename_i n hn
            refine fin _ ?_ hx
            rw [hr1]
            cases hv : st.eval x <;> rw [hv] at hn <;> simp only [lenS, Option.some.injEq, reduceCtorEq] at hn
            subst hn
            simp [Builtin.len_, underlying, hu, den, goInt]
          · exact hS hx
        · rename_i e hu
          split at hx
          · rename_i n hn
            refine fin _ ?_ hx
            rw [hr1]
            cases hv : st.eval x <;> rw [hv] at hn <;> first
              | (simp only [lenV, reduceCtorEq] at hn; done)
              | (simp only [lenV, Option.some.injEq] at hn; subst hn; simp [Builtin.len_, underlying, hu, den, goInt]; done)
              | skip
            rename_i u
            cases u <;> simp only [lenV, Option.some.injEq, reduceCtorEq] at hn
            subst hn; simp [Builtin.len_, underlying, hu, den, goInt]
          · exact hS hx
        · exact hS hx
      · exact hS hx
      · split at hx
        · rename_i k a k' b e
          have hev := denL_evals st args.toList
          rw [e] at hev
          split at hx
          · rename_i hk; subst hk
            refine fin _ ?_ hx
            have ha : args.map (actOf st).eval = #[.int k a, .int k b] := by apply Array.ext'; simp [← hev, denL, den]
            simp [execOp, resolve, invoke, builtin, ha, Builtin.max_, Builtin.max2, den, mxI]
          · exact hS hx
        · exact hS hx
      · split at hx
        · rename_i k a k' b e
          have hev := denL_evals st args.toList
          rw [e] at hev
          split at hx
          · rename_i hk; subst hk
            refine fin _ ?_ hx
            have ha : args.map (actOf st).eval = #[.int k a, .int k b] := by apply Array.ext'; simp [← hev, denL, den]
            simp [execOp, resolve, invoke, builtin, ha, Builtin.min_, Builtin.min2, den, mnI]
          · exact hS hx
        · exact hS hx
    | _ => exact hS hx
  case slice t x lo hi mx =>
    have h1 := E x
    have sb := @run_sliceBound P w
    cases mx with
    | some m => exact hS hx
    | none =>
      simp only [xslice] at hx
      split at hx
      · rename_i s l e0 e1
        rw [e1] at h1
        have h2 := E l
        split at hx
        · rename_i k a e2
          rw [e2] at h2
          obtain ⟨⟨g1, g2⟩, hx⟩ := hx
          refine fin _ ?_ hx
          simp [execOp, ← h1, ← h2, den, Instr.sliceAt, Instr.slice, Instr.sliceBounds, underlying, e0, sb k a s.size _ g1 g2]
        · exact hS hx
      · rename_i s h e0 e1
        rw [e1] at h1
        have h2 := E h
        split at hx
        · rename_i k b e2
          rw [e2] at h2
          obtain ⟨⟨g1, g2⟩, hx⟩ := hx
          refine fin _ ?_ hx
          simp [execOp, ← h1, ← h2, den, Instr.sliceAt, Instr.slice, Instr.sliceBounds, underlying, e0, sb k b s.size _ g1 g2]
        · exact hS hx
      · rename_i s l h e0 e1
        rw [e1] at h1
        have h2 := E l
        have h3 := E h
        split at hx
        · rename_i k a k2 b e2 e3
          rw [e2] at h2; rw [e3] at h3
          obtain ⟨⟨g1, g2, g3⟩, hx⟩ := hx
          refine fin _ ?_ hx
          have g4 : a ≤ (b.toNat : Int) := by omega
          simp [execOp, ← h1, ← h2, ← h3, den, Instr.sliceAt, Instr.slice, Instr.sliceBounds, underlying, e0, sb k2 b s.size _ (by omega) g3, sb k a b.toNat _ g1 g4]
        · exact hS hx
      · rename_i e l ao n cap lo e0 e1
        rw [e1] at h1
        have h2 := E lo
        split at hx
        · rename_i k a el sz e2 e3
          rw [e2] at h2
          obtain ⟨⟨g1, g2, g3⟩, hx⟩ := hx
          obtain ⟨i, hi, hsz⟩ : ∃ i, P.info? e = some i ∧ i.size = sz := by
            unfold tslice at e3; rw [e0] at e3
            obtain ⟨i, hi, he⟩ := Option.map_eq_some_iff.1 e3
            cases he; exact ⟨i, hi, rfl⟩
          refine fin _ ?_ hx
          simp [execOp, ← h1, ← h2, den, Instr.sliceAt, Instr.slice, Instr.sliceBounds, underlying, e0, sb k a n _ g1 g2, sizeOf, typeInfo, hi, hsz]
        · exact hS hx
      · rename_i e l ao n cap h e0 e1
        rw [e1] at h1
        have h2 := E h
        split at hx
        · rename_i k b el sz e2 e3
          rw [e2] at h2
          obtain ⟨⟨g1, g2⟩, hx⟩ := hx
          obtain ⟨i, hi, hsz⟩ : ∃ i, P.info? e = some i ∧ i.size = sz := by
            unfold tslice at e3; rw [e0] at e3
            obtain ⟨i, hi, he⟩ := Option.map_eq_some_iff.1 e3
            cases he; exact ⟨i, hi, rfl⟩
          refine fin _ ?_ hx
          simp [execOp, ← h1, ← h2, den, Instr.sliceAt, Instr.slice, Instr.sliceBounds, underlying, e0, sb k b cap _ g1 g2, sizeOf, typeInfo, hi]
        · exact hS hx
      · rename_i e l ao n cap lo h e0 e1
        rw [e1] at h1
        have h2 := E lo
        have h3 := E h
        split at hx
        · rename_i k a k2 b el sz e2 e3 e4
          rw [e2] at h2; rw [e3] at h3
          obtain ⟨⟨g1, g2, g3⟩, hx⟩ := hx
          obtain ⟨i, hi, hsz⟩ : ∃ i, P.info? e = some i ∧ i.size = sz := by
            unfold tslice at e4; rw [e0] at e4
            obtain ⟨i, hi, he⟩ := Option.map_eq_some_iff.1 e4
            cases he; exact ⟨i, hi, rfl⟩
          refine fin _ ?_ hx
          have g4 : a ≤ (b.toNat : Int) := by omega
          simp [execOp, ← h1, ← h2, ← h3, den, Instr.sliceAt, Instr.slice, Instr.sliceBounds, underlying, e0, sb k2 b cap _ (by omega) g3, sb k a b.toNat _ g1 g4, sizeOf, typeInfo, hi, hsz]
        · exact hS hx
      · exact hS hx
end
end Go.Proofs.Ytkcmgcoppecfpaa

