/- Slices that the code owns: append, cut, at whatever place in their row. -/
import Derived.Test.YtihajdkipkfiiaaOps
import Derived.Laws.Append
namespace Go.Proofs.Ytihajdkipkfiiaa
open Go Go.RowKit
set_option linter.unusedVariables false
set_option linter.unusedSimpArgs false
set_option linter.unnecessarySimpa false

/-- '.slice ao n cap' is a slice of n elements (of sz cells each, all cells xs), the only one into its row; c is the row. -/
def Own (e : TypeId) (sz : Nat) (ao : Option Addr) (n cap : Nat) (xs : List Value) (c : Ch) : Prop :=
  xs.length = n * sz ∧ n ≤ cap ∧
  ((ao = none ∧ cap = 0 ∧ c = []) ∨
   ∃ g off cur, ao = some ⟨g, off, none⟩ ∧ c = [(g, .cells cur e (0, 0))] ∧ off + cap * sz ≤ cur.size ∧ (cur.toList.drop off).take (n * sz) = xs)

theorem Own.nil (e : TypeId) (sz : Nat) : Own e sz none 0 0 [] [] := ⟨by simp, Nat.le_refl _, .inl ⟨rfl, rfl, rfl⟩⟩

theorem putCells_toList : ∀ (vs : List Value) (i : Nat) (cs : Array Value), i + vs.length ≤ cs.size →
    (putCells vs i cs).toList = cs.toList.take i ++ vs ++ cs.toList.drop (i + vs.length)
  | [], i, cs, _ => by simp [putCells]
  | v :: vs, i, cs, h => by
    simp only [List.length_cons] at h
    have hi : i < cs.toList.length := by simp; omega
    rw [putCells, putCells_toList vs (i + 1) _ (by simp; omega)]
    have h1 : (cs.toList.set i v).take (i + 1) = cs.toList.take i ++ [v] := by
      rw [List.take_succ_eq_append_getElem (by simpa using hi), List.take_set_of_le (Nat.le_refl _)]
      simp
    have h2 : (cs.toList.set i v).drop (i + 1 + vs.length) = cs.toList.drop (i + (vs.length + 1)) := by
      rw [List.drop_set_of_lt (by omega)]
      congr 1; omega
    simp only [Array.toList_setIfInBounds, List.length_cons, h1, h2, List.append_assoc, List.singleton_append]

theorem size_putCells : ∀ (vs : List Value) (i : Nat) (cs : Array Value), (putCells vs i cs).size = cs.size
  | [], _, _ => rfl
  | v :: vs, i, cs => by rw [putCells, size_putCells vs]; simp

section
variable {P : Program} {W w : World} {L L' : List Ch}

theorem Own.cell {e : TypeId} {sz : Nat} {g off n cap : Nat} {xs : List Value} {c : Ch} (ho : Own e sz (some ⟨g, off, none⟩) n cap xs c) (h : H W w (c :: L))
    (j : Nat) (u : Value) (hu : xs[j]? = some u) : w.cell? ⟨g, off + j, none⟩ = some u := by
  obtain ⟨_, _, ⟨h0, _⟩ | ⟨g', off', cur, hv', rfl, hs, ht⟩⟩ := ho
  · cases h0
  · cases hv'
    rw [h.cells .here]
    rw [← ht, List.getElem?_take] at hu
    split at hu
    · simpa using hu
    · cases hu

/-- An owned slice of some elements has an address. -/
theorem Own.some {e : TypeId} {sz : Nat} {ao : Option Addr} {n cap : Nat} {xs : List Value} {c : Ch} (ho : Own e sz ao n cap xs c) (hn : 0 < n) : ∃ g off, ao = some ⟨g, off, none⟩ := by
  obtain ⟨_, hc, ⟨_, h0, _⟩ | ⟨g', off', cur, hv', _⟩⟩ := ho
  · omega
  · exact ⟨g', off', hv'⟩

/-- append onto an owned slice. -/
theorem run_append_H (t ty e : TypeId) (z : Value) (sz bytes : Nat) (ht : P.underlying t = some (.slice e)) (hinfo : (P.info? e).map (fun i => (i.zero, i.size, i.bytes)) = some (some z, sz, bytes)) (hz : z.cells.size = sz)
    (ao : Option Addr) (n cap : Nat) (xs : List Value) (c : Ch) (ho : Own e sz ao n cap xs c) (h : H W w (c :: L))
    (a : Addr) (m k : Nat) (news : List Value) (hl : news.length = m * sz) (hm : 0 < m) (hnews : ∀ j u, news[j]? = some u → w.cell? (a.add j) = some u) (h1 : ∀ u ∈ news, u.oneCell' = true)
    (hbytes : (n + m) * bytes ≤ 140737488355328) (h63 : n + m ≤ 9223372036854775807) :
    ∃ ao' cap' w' c', (Builtin.append_ #[t, t] ty #[.slice ao n cap, .slice (some a) m k]).run P w = .ok (.slice ao' (n + m) cap') w' ∧ Own e sz ao' (n + m) cap' (xs ++ news) c' ∧ H W w' (c' :: L) := by
  obtain ⟨i, hi, hzz⟩ := Option.map_eq_some_iff.1 hinfo
  simp only [Prod.mk.injEq] at hzz
  obtain ⟨hz0, hs, hb⟩ := hzz
  subst hs; subst hb
  have hlen : (xs ++ news).length = (n + m) * i.size := by rw [List.length_append, ho.1, hl, Nat.add_mul]
  have made : ∀ (old : Nat) , (∃ g cur cap, w.heap.size = g ∧ cur.size = cap * i.size ∧ n + m ≤ cap ∧ cap = grownCap w (n + m) old e ∧ cur = xs.toArray ++ news.toArray ++ Builtin.zeroCells z.cells (cap - (n + m)) ) := fun old => by
    refine ⟨_, _, _, rfl, ?_, grownCap_ge w (n + m) old e, rfl, rfl⟩
    have hge := grownCap_ge w (n + m) old e
    simp only [Array.size_append, List.size_toArray, size_zeroCells, hz, ho.1, hl, ← Nat.add_mul]
    congr 1; omega
  have fresh : ∀ (old : Nat), Own e i.size (some ⟨w.heap.size, 0, none⟩) (n + m) (grownCap w (n + m) old e) (xs ++ news)
      [(w.heap.size, .cells (xs.toArray ++ news.toArray ++ Builtin.zeroCells z.cells (grownCap w (n + m) old e - (n + m))) e (0, 0))] := fun old => by
    obtain ⟨g, cur, cap, rfl, h2, h3, rfl, rfl⟩ := made old
    refine ⟨hlen, h3, .inr ⟨_, 0, _, rfl, rfl, by rw [h2]; omega, ?_⟩⟩
    simp only [Array.toList_append, List.drop_zero]
    rw [← hlen]
    exact List.take_left
  have frame : ∀ (o : Obj), H W (w.drew.alloc o) ([(w.heap.size, o)] :: L) := fun o => by
    have h2 : H W w L := h.drop
    exact h2.drew.alloc o
  have hnc := ho.2.1
  rcases ho.2.2 with ⟨rfl, rfl, rfl⟩ | ⟨g, off, cur, rfl, rfl, hsz, htake⟩
  · obtain rfl : n = 0 := by omega
    have hx : xs = [] := List.eq_nil_of_length_eq_zero (by simpa using ho.1)
    subst hx
    have hr := run_append_nil (P := P) w t ty e i z ht hi hz0 a m k news hl hnews hm (by omega) (by have hb := hbytes; simp only [Nat.zero_add] at hb; omega)
    have hf := fresh 0
    simp only [Nat.zero_add, List.nil_append] at hf ⊢
    refine ⟨_, _, _, _, hr, ?_, frame _⟩
    simpa using hf
  · by_cases hroom : n + m ≤ cap
    · have hf := run_firstCells_some (P := P) w i.size m a m k news hl hnews
      have hfit : off + n * i.size + news.length ≤ cur.size := by
        have : (n + m) * i.size ≤ cap * i.size := Nat.mul_le_mul_right _ hroom
        rw [Nat.add_mul] at this
        omega
      obtain ⟨w', hst, hH⟩ := run_storeCells_H (P := P) g (off + n * i.size) e news 0 cur w L h (by simpa using hfit) h1
      simp only [Nat.add_zero] at hH
      refine ⟨some ⟨g, off, none⟩, cap, w', _, ?_, ⟨hlen, hroom, .inr ⟨g, off, _, rfl, rfl, by rw [size_putCells]; exact hsz, ?_⟩⟩, hH⟩
      · simp [Builtin.append_, run_underlying ht, sizeOf, typeInfo, hi, Builtin.lenOf, hroom, hf, Addr.add_mid', hst]
      · rw [putCells_toList _ _ _ hfit]
        have e0 : (cur.toList.take (off + n * i.size)).length = off + n * i.size := by simp; omega
        rw [List.append_assoc, List.drop_append, List.drop_take, e0]
        have e1 : off - (off + n * i.size) = 0 := by omega
        have e2 : off + n * i.size - off = n * i.size := by omega
        rw [e1, List.drop_zero, e2, htake, ← List.append_assoc, ← hlen]
        exact List.take_left
    · have holds : ∀ j u, xs[j]? = some u → w.cell? ((⟨g, off, none⟩ : Addr).add j) = some u := fun j u hu => by
        rw [Addr.add_mid']; exact ho.cell h j u hu
      have hr := run_append_grow (P := P) w t ty e i z ht hi hz0 ⟨g, off, none⟩ n cap xs ho.1 holds a m k news hl hnews (by omega) (by omega) (growslice_fits (by omega) hbytes)
      exact ⟨_, _, _, _, hr, fresh cap, frame _⟩

theorem wp_append_H {o : Oper} {a : Act} {Q : Exit → Act → World → Prop} {K : Act → World → Prop} (s x : Operand) (t : TypeId)
    (hop : o.op = .call { callee := .builtin .append, args := #[s, x], argTypes := #[t, t] }) (e : TypeId) (z : Value) (sz bytes : Nat) (ht : P.underlying t = some (.slice e)) (hinfo : (P.info? e).map (fun i => (i.zero, i.size, i.bytes)) = some (some z, sz, bytes)) (hz : z.cells.size = sz)
    (ao : Option Addr) (n cap : Nat) (hs : a.eval s = .slice ao n cap) (ad : Addr) (m k : Nat) (hx : a.eval x = .slice (some ad) m k) (xs : List Value) (c : Ch) (ho : Own e sz ao n cap xs c) (h : H W w (c :: L))
    (news : List Value) (hl : news.length = m * sz) (hm : 0 < m) (hnews : ∀ j u, news[j]? = some u → w.cell? (ad.add j) = some u) (h1 : ∀ u ∈ news, u.oneCell' = true)
    (hbytes : (n + m) * bytes ≤ 140737488355328) (h63 : n + m ≤ 9223372036854775807)
    (hn : ∀ ao' cap' w' c', Own e sz ao' (n + m) cap' (xs ++ news) c' → H W w' (c' :: L) → K (a.put o.dst (.slice ao' (n + m) cap')) w') : o.wp P a w K Q := by
  obtain ⟨ao', cap', w', c', hr, h2, h3⟩ := run_append_H (P := P) t o.type e z sz bytes ht hinfo hz ao n cap xs c ho h ad m k news hl hm hnews h1 hbytes h63
  unfold Oper.wp execOp
  simp only [hop, resolve, invoke, builtin, Sem.run_bind, Sem.run_pure, Result.andThen_ok, List.map_toArray, List.map_cons, List.map_nil, hs, hx, hr]
  exact hn ao' cap' w' c' h2 h3

/-- append of a whole slice onto an empty one without room. -/
theorem run_append_fresh (t ty e : TypeId) (z : Value) (sz bytes : Nat) (ht : P.underlying t = some (.slice e)) (hinfo : (P.info? e).map (fun i => (i.zero, i.size, i.bytes)) = some (some z, sz, bytes)) (hz : z.cells.size = sz)
    (ao : Option Addr) (c : Ch) (ho : Own e sz ao 0 0 [] c) (h : H W w (c :: L))
    (ao2 : Option Addr) (m k : Nat) (news : List Value) (hl : news.length = m * sz) (hnews : 0 < m → ∃ a, ao2 = some a ∧ ∀ j u, news[j]? = some u → w.cell? (a.add j) = some u)
    (hbytes : m * bytes ≤ 140737488355328) (h63 : m ≤ 9223372036854775807) :
    ∃ ao' cap' w' c', (Builtin.append_ #[t, t] ty #[.slice ao 0 0, .slice ao2 m k]).run P w = .ok (.slice ao' m cap') w' ∧ Own e sz ao' m cap' news c' ∧ H W w' (c' :: L) := by
  obtain ⟨i, hi, hzz⟩ := Option.map_eq_some_iff.1 hinfo
  simp only [Prod.mk.injEq] at hzz
  obtain ⟨hz0, hs, hb⟩ := hzz
  subst hs; subst hb
  by_cases hm : m = 0
  · subst hm
    have hn : news = [] := List.eq_nil_of_length_eq_zero (by simpa using hl)
    subst hn
    refine ⟨ao, 0, w, c, ?_, ho, h⟩
    have hst : ∀ a : Addr, (storeCells a [] 0).run P w = .ok () w := fun a => rfl
    cases ao2 with
    | none => cases ao <;> simp [Builtin.append_, run_underlying ht, sizeOf, typeInfo, hi, Builtin.lenOf, Builtin.firstCells, hst]
    | some a =>
      have hf := run_firstCells_some (P := P) w i.size 0 a 0 k [] (by simp) (fun j u hu => by simp at hu)
      cases ao <;> simp [Builtin.append_, run_underlying ht, sizeOf, typeInfo, hi, Builtin.lenOf, hf, hst]
  · obtain ⟨a, rfl, hn⟩ := hnews (by omega)
    have fresh : ∀ (old : Nat), Own e i.size (some ⟨w.heap.size, 0, none⟩) m (grownCap w m old e) news
        [(w.heap.size, .cells (news.toArray ++ Builtin.zeroCells z.cells (grownCap w m old e - m)) e (0, 0))] := fun old => by
      have hge := grownCap_ge w m old e
      refine ⟨hl, hge, .inr ⟨_, 0, _, rfl, rfl, ?_, ?_⟩⟩
      · simp only [Array.size_append, List.size_toArray, size_zeroCells, hz, hl, ← Nat.add_mul, Nat.zero_add]
        exact Nat.le_of_eq (by congr 1; omega)
      · simp only [Array.toList_append, List.drop_zero]
        rw [← hl]
        exact List.take_left
    have frame : ∀ (o : Obj), H W (w.drew.alloc o) ([(w.heap.size, o)] :: L) := fun o => by
      have h2 : H W w L := h.drop
      exact h2.drew.alloc o
    rcases ho.2.2 with ⟨rfl, _, rfl⟩ | ⟨g, off, cur, rfl, rfl, hsz, htake⟩
    · have hr := run_append_nil (P := P) w t ty e i z ht hi hz0 a m k news hl hn (by omega) (by omega) (by omega)
      exact ⟨_, _, _, _, hr, fresh 0, frame _⟩
    · have hr := run_append_grow (P := P) w t ty e i z ht hi hz0 ⟨g, off, none⟩ 0 0 [] (by simp) (fun j u hu => by simp at hu) a m k news hl hn (by omega) (by omega) (growslice_fits (by omega) (by simpa using hbytes))
      simp only [Nat.zero_add, List.append_toArray, List.nil_append] at hr
      exact ⟨_, _, _, _, hr, fresh 0, frame _⟩

theorem wp_append_fresh {o : Oper} {a : Act} {Q : Exit → Act → World → Prop} {K : Act → World → Prop} (s x : Operand) (t : TypeId)
    (hop : o.op = .call { callee := .builtin .append, args := #[s, x], argTypes := #[t, t] }) (e : TypeId) (z : Value) (sz bytes : Nat) (ht : P.underlying t = some (.slice e)) (hinfo : (P.info? e).map (fun i => (i.zero, i.size, i.bytes)) = some (some z, sz, bytes)) (hz : z.cells.size = sz)
    (ao : Option Addr) (hs : a.eval s = .slice ao 0 0) (ao2 : Option Addr) (m k : Nat) (hx : a.eval x = .slice ao2 m k) (c : Ch) (ho : Own e sz ao 0 0 [] c) (h : H W w (c :: L))
    (news : List Value) (hl : news.length = m * sz) (hnews : 0 < m → ∃ a, ao2 = some a ∧ ∀ j u, news[j]? = some u → w.cell? (a.add j) = some u)
    (hbytes : m * bytes ≤ 140737488355328) (h63 : m ≤ 9223372036854775807)
    (hn : ∀ ao' cap' w' c', Own e sz ao' m cap' news c' → H W w' (c' :: L) → K (a.put o.dst (.slice ao' m cap')) w') : o.wp P a w K Q := by
  obtain ⟨ao', cap', w', c', hr, h2, h3⟩ := run_append_fresh (P := P) t o.type e z sz bytes ht hinfo hz ao c ho h ao2 m k news hl hnews hbytes h63
  unfold Oper.wp execOp
  simp only [hop, resolve, invoke, builtin, Sem.run_bind, Sem.run_pure, Result.andThen_ok, List.map_toArray, List.map_cons, List.map_nil, hs, hx, hr]
  exact hn ao' cap' w' c' h2 h3

/-- append of any slice, an empty one too, onto an owned one. -/
theorem wp_append_any {o : Oper} {a : Act} {Q : Exit → Act → World → Prop} {K : Act → World → Prop} (s x : Operand) (t : TypeId)
    (hop : o.op = .call { callee := .builtin .append, args := #[s, x], argTypes := #[t, t] }) (e : TypeId) (z : Value) (sz bytes : Nat) (ht : P.underlying t = some (.slice e)) (hinfo : (P.info? e).map (fun i => (i.zero, i.size, i.bytes)) = some (some z, sz, bytes)) (hz : z.cells.size = sz)
    (ao : Option Addr) (n cap : Nat) (hs : a.eval s = .slice ao n cap) (ao2 : Option Addr) (m k : Nat) (hx : a.eval x = .slice ao2 m k) (xs : List Value) (c : Ch) (ho : Own e sz ao n cap xs c) (h : H W w (c :: L))
    (news : List Value) (hl : news.length = m * sz) (hnews : 0 < m → ∃ ad, ao2 = some ad ∧ ∀ j u, news[j]? = some u → w.cell? (ad.add j) = some u) (h1 : ∀ u ∈ news, u.oneCell' = true)
    (hbytes : (n + m) * bytes ≤ 140737488355328) (h63 : n + m ≤ 9223372036854775807)
    (hn : ∀ ao' cap' w' c', Own e sz ao' (n + m) cap' (xs ++ news) c' → H W w' (c' :: L) → K (a.put o.dst (.slice ao' (n + m) cap')) w') : o.wp P a w K Q := by
  by_cases hm : m = 0
  · subst hm
    have hnil : news = [] := List.eq_nil_of_length_eq_zero (by simpa using hl)
    subst hnil
    obtain ⟨i, hi, hzz⟩ := Option.map_eq_some_iff.1 hinfo
    simp only [Prod.mk.injEq] at hzz
    have hcap := ho.2.1
    have hst : ∀ a : Addr, (storeCells a [] 0).run P w = .ok () w := fun a => rfl
    have hr : (Builtin.append_ #[t, t] o.type #[.slice ao n cap, .slice ao2 0 k]).run P w = .ok (.slice ao n cap) w := by
      cases ao2 with
      | none => cases ao <;> simp [Builtin.append_, run_underlying ht, sizeOf, typeInfo, hi, Builtin.lenOf, Builtin.firstCells, hst, hcap]
      | some a =>
        have hf := run_firstCells_some (P := P) w i.size 0 a 0 k [] (by simp) (fun j u hu => by simp at hu)
        cases ao <;> simp [Builtin.append_, run_underlying ht, sizeOf, typeInfo, hi, Builtin.lenOf, hf, hst, hcap]
    unfold Oper.wp execOp
    simp only [hop, resolve, invoke, builtin, Sem.run_bind, Sem.run_pure, Result.andThen_ok, List.map_toArray, List.map_cons, List.map_nil, hs, hx, hr]
    exact hn ao cap w c (by simpa using ho) h
  · obtain ⟨ad, rfl, hnw⟩ := hnews (by omega)
    exact wp_append_H s x t hop e z sz bytes ht hinfo hz ao n cap hs ad m k hx xs c ho h news hl (by omega) hnw h1 hbytes h63 hn

theorem wpList_append_H {ops : Array Oper} {rest : List Oper} {o : Oper} {a : Act} {Q : Exit → Act → World → Prop} (hg : o.guard = none) (s x : Operand) (t : TypeId)
    (hop : o.op = .call { callee := .builtin .append, args := #[s, x], argTypes := #[t, t] }) (e : TypeId) (z : Value) (sz bytes : Nat) (ht : P.underlying t = some (.slice e)) (hinfo : (P.info? e).map (fun i => (i.zero, i.size, i.bytes)) = some (some z, sz, bytes)) (hz : z.cells.size = sz)
    (ao : Option Addr) (n cap : Nat) (hs : a.eval s = .slice ao n cap) (ad : Addr) (m k : Nat) (hx : a.eval x = .slice (some ad) m k) (xs : List Value) (c : Ch) (ho : Own e sz ao n cap xs c) (h : H W w (c :: L))
    (news : List Value) (hl : news.length = m * sz) (hm : 0 < m) (hnews : ∀ j u, news[j]? = some u → w.cell? (ad.add j) = some u) (h1 : ∀ u ∈ news, u.oneCell' = true)
    (hbytes : (n + m) * bytes ≤ 140737488355328) (h63 : n + m ≤ 9223372036854775807)
    (hn : ∀ ao' cap' w' c', Own e sz ao' (n + m) cap' (xs ++ news) c' → H W w' (c' :: L) → wpList P ops Q rest (a.put o.dst (.slice ao' (n + m) cap')) w') : wpList P ops Q (o :: rest) a w :=
  wpList_plain hg fun _ hK => wp_append_H s x t hop e z sz bytes ht hinfo hz ao n cap hs ad m k hx xs c ho h news hl hm hnews h1 hbytes h63 fun ao' cap' w' c' h2 h3 => hK _ _ (hn ao' cap' w' c' h2 h3)

end
end Go.Proofs.Ytihajdkipkfiiaa
