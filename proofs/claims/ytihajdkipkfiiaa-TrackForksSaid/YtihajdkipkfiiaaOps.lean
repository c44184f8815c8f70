/- The operations' laws over the small heap logic. -/
import Derived.Test.YtihajdkipkfiiaaHeap
namespace Go.Proofs.Ytihajdkipkfiiaa
open Go Go.RowKit
set_option linter.unusedVariables false
set_option linter.unusedSimpArgs false
set_option linter.unnecessarySimpa false

section
variable {P : Program} {W w : World} {L L' : List Ch} {ops : Array Oper} {rest : List Oper} {o : Oper} {a : Act} {Q : Exit → Act → World → Prop} {K : Act → World → Prop}

/-- A store of a value of n cells into a known block. -/
theorem wp_store_H (t : TypeId) (x y : Operand) (ho : o.op = .store t x y) (b off : Nat) (hx : a.eval x = .pointer (some ⟨b, off, none⟩)) (v : Value) (hy : a.eval y = v)
    (h : H W w L) {cs : Array Value} {T : TypeId} (hu : Upd b (.cells cs T (0, 0)) (.cells (putCells v.cells.toList off cs) T (0, 0)) L L')
    (hsz : (P.info? t).map (·.size) = some v.cells.size) (hlen : off + v.cells.size ≤ cs.size) (h1 : v.cells.all (·.oneCell') = true)
    (hn : ∀ w', H W w' L' → K (a.put o.dst undef) w') : o.wp P a w K Q := by
  obtain ⟨xl, yl, e1, e2⟩ := hu.split
  have hp : H W w ([(b, .cells cs T (0, 0))] :: [xl ++ yl]) := h.perm (by rw [e1]; simpa using List.perm_middle)
  obtain ⟨w', hr, h2⟩ := run_storeCells_H (P := P) b off T v.cells.toList 0 cs w [xl ++ yl] hp (by simpa using hlen) (fun u hu => by
    have := Array.all_eq_true_iff_forall_mem.1 h1 u (by simpa using hu); exact this)
  have h3 : H W w' L' := h2.perm (by rw [e2]; simpa using List.perm_middle.symm)
  have hst : (Instr.storeAt t (.pointer (some ⟨b, off, none⟩)) v).run P w = .ok () w' := by
    obtain ⟨i, hi, hs⟩ := Option.map_eq_some_iff.1 hsz
    simp [Instr.storeAt, Instr.sureAddr, storeVar, sizeOf, typeInfo, hi, hs, hr]
  unfold Oper.wp execOp
  simp only [ho, hx, hy, Sem.run_bind, hst, Result.andThen_ok, Sem.run_pure]
  exact hn w' h3

theorem wpList_store_H (hg : o.guard = none) (t : TypeId) (x y : Operand) (ho : o.op = .store t x y) (b off : Nat) (hx : a.eval x = .pointer (some ⟨b, off, none⟩)) (v : Value) (hy : a.eval y = v)
    (h : H W w L) {cs : Array Value} {T : TypeId} (hu : Upd b (.cells cs T (0, 0)) (.cells (putCells v.cells.toList off cs) T (0, 0)) L L')
    (hsz : (P.info? t).map (·.size) = some v.cells.size) (hlen : off + v.cells.size ≤ cs.size) (h1 : v.cells.all (·.oneCell') = true)
    (hn : ∀ w', H W w' L' → wpList P ops Q rest (a.put o.dst undef) w') : wpList P ops Q (o :: rest) a w :=
  wpList_plain hg fun _ hK => wp_store_H t x y ho b off hx v hy h hu hsz hlen h1 fun w' h' => hK _ _ (hn w' h')

/-- A box for a value. -/
theorem wp_box_H (t : TypeId) (y : Operand) (ho : o.op = .box t y) (v : Value) (hy : a.eval y = v) (h : H W w L)
    (hn : ∀ w' g, H W w' ([(g, .cells v.cells t (0, 0))] :: L) → K (a.put o.dst (.pointer (some ⟨g, 0, none⟩))) w') : o.wp P a w K Q := by
  unfold Oper.wp execOp
  simp only [ho, hy, Instr.box, newVar, newRow, Sem.run_bind, Result.andThen_ok, Sem.run_pure]
  exact hn _ _ (h.alloc _)

theorem wpList_box_H (hg : o.guard = none) (t : TypeId) (y : Operand) (ho : o.op = .box t y) (v : Value) (hy : a.eval y = v) (h : H W w L)
    (hn : ∀ w' g, H W w' ([(g, .cells v.cells t (0, 0))] :: L) → wpList P ops Q rest (a.put o.dst (.pointer (some ⟨g, 0, none⟩))) w') : wpList P ops Q (o :: rest) a w :=
  wpList_plain hg fun _ hK => wp_box_H t y ho v hy h fun w' g h' => hK _ _ (hn w' g h')

/-- A new variable. -/
theorem wp_alloc_H (t : TypeId) (ho : o.op = .alloc t) (z : Value) (hz : (P.info? t).bind (·.zero) = some z) (h : H W w L)
    (hn : ∀ w' g, H W w' ([(g, .cells z.cells t (0, 0))] :: L) → K (a.put o.dst (.pointer (some ⟨g, 0, none⟩))) w') : o.wp P a w K Q := by
  obtain ⟨i, hi, hz'⟩ := Option.bind_eq_some_iff.1 hz
  unfold Oper.wp execOp
  simp [ho, Instr.alloc, zeroValue, typeInfo, hi, hz', newVar, newRow, Sem.run_bind, Result.andThen_ok, Sem.run_pure]
  exact hn _ _ (h.alloc _)

theorem wpList_alloc_H (hg : o.guard = none) (t : TypeId) (ho : o.op = .alloc t) (z : Value) (hz : (P.info? t).bind (·.zero) = some z) (h : H W w L)
    (hn : ∀ w' g, H W w' ([(g, .cells z.cells t (0, 0))] :: L) → wpList P ops Q rest (a.put o.dst (.pointer (some ⟨g, 0, none⟩))) w') : wpList P ops Q (o :: rest) a w :=
  wpList_plain hg fun _ hK => wp_alloc_H t ho z hz h fun w' g h' => hK _ _ (hn w' g h')

theorem step_of_wp {E : Prop} (hg : o.guard = none) (h : o.wp P a w K Q) : if Region.wanted o (yielded ops a.tmps) = true then Oper.wp P o a w K Q else E := by
  rw [if_pos (by simp [Region.wanted, hg])]; exact h

end
end Go.Proofs.Ytihajdkipkfiiaa
