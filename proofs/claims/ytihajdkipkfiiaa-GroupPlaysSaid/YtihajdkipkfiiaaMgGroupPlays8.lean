import Derived.Test.YtihajdkipkfiiaaMgGroupPlays6
import Derived.Test.YtihajdkipkfiiaaMgGroupPlays7
/- YtihajdkipkfiiaaGpP -/
/- GroupPlays: the groups and the document's groups go together (plain law). -/
namespace Go.Proofs.Ytihajdkipkfiiaa
open Go Go.RowKit Go.Maps Go.Sort Go.Shelf
set_option linter.unusedVariables false
set_option linter.unusedSimpArgs false
set_option linter.unnecessarySimpa false
set_option maxHeartbeats 0

/-! ### Texts by their order -/
theorem toListG (x : ByteArray) : x.toList = x.data.toList := ByteArray.toList_eq x
theorem baExt {a b : ByteArray} (h : a.data.toList = b.data.toList) : a = b := by
  cases a; cases b
  simp only [ByteArray.mk.injEq]
  exact Array.ext' h
theorem sEqG (a b : ByteArray) : sEq a b = true ↔ a = b := by
  constructor
  · intro h
    simp only [sEq, beq_iff_eq] at h
    rw [toListG, toListG] at h
    exact baExt h
  · rintro rfl; simp [sEq]
theorem sEqGF (a b : ByteArray) : sEq a b = false ↔ a ≠ b := by rw [← Bool.not_eq_true, sEqG]
theorem bLess : ∀ (x y : List UInt8), Op.bytesLess x y = decide (x < y)
  | [], [] => by simp [Op.bytesLess]
  | _ :: _, [] => by simp [Op.bytesLess]
  | [], _ :: _ => by simp [Op.bytesLess]
  | a :: x, b :: y => by
    rw [Op.bytesLess, bLess x y, Bool.eq_iff_iff]
    simp [List.cons_lt_cons_iff]
theorem sLtG (a b : ByteArray) : sLt a b = decide (a.data.toList < b.data.toList) := by rw [sLt, bLess, toListG, toListG]
theorem sLt_irr (a : ByteArray) : sLt a a = false := by rw [sLtG]; simp [List.lt_irrefl]
theorem sLt_trans {a b c : ByteArray} (h1 : sLt a b = true) (h2 : sLt b c = true) : sLt a c = true := by
  rw [sLtG, decide_eq_true_eq] at *
  exact List.lt_trans h1 h2
theorem sLt_asymm {a b : ByteArray} (h1 : sLt a b = true) : sLt b a = false := by
  cases h : sLt b a with
  | false => rfl
  | true => have := sLt_trans h1 h; rw [sLt_irr] at this; cases this
theorem sLt_tri {a b : ByteArray} (h1 : sLt a b = false) (h2 : sLt b a = false) : a = b := by
  rw [sLtG, decide_eq_false_iff_not] at *
  exact baExt (List.le_antisymm (List.not_lt.1 h2) (List.not_lt.1 h1))
theorem keyS (a b : ByteArray) : keyEq (.s a) (.s b) = decide (a = b) := by
  rw [Bool.eq_iff_iff, decide_eq_true_eq]
  simp only [keyEq]
  exact bytes_beq _ _
theorem mget_str {β : Type} {es : List (Key × β)} (a b : ByteArray) (u : β) : mget (mset es (.s a) u) (.s b) = if b = a then some u else mget es (.s b) := by
  by_cases hab : b = a
  · subst hab; rw [if_pos rfl, mget_mset (keyEq_self _)]
  · rw [if_neg hab, mget_mset_ne (by rw [keyS]; simp [hab])]
theorem mget_strD {β : Type} {es : List (Key × β)} (h : keysOk es) (a b : ByteArray) : mget (mdel es (.s a)) (.s b) = if b = a then none else mget es (.s b) := by
  by_cases hab : b = a
  · subst hab; rw [if_pos rfl, mget_mdel h]
  · rw [if_neg hab, mget_mdel_ne (by rw [keyS]; simp [hab])]

/-! ### Where a name stands -/
def AscN (L : List RGrp) : Prop := L.Pairwise fun a b => sLt a.name b.name = true
theorem rAt_parts (L : List RGrp) (n : ByteArray) : L.take (rAt L n) = L.takeWhile (fun g => sLt g.name n) ∧ L.drop (rAt L n) = L.dropWhile (fun g => sLt g.name n) := by
  have h1 : L.take (rAt L n) = L.takeWhile (fun g => sLt g.name n) := (List.prefix_iff_eq_take.1 (List.takeWhile_prefix _)).symm
  refine ⟨h1, ?_⟩
  have h2 := List.take_append_drop (rAt L n) L
  have h3 := List.takeWhile_append_dropWhile (p := fun g : RGrp => sLt g.name n) (l := L)
  rw [h1] at h2
  exact List.append_cancel_left (h2.trans h3.symm)
theorem tw_all {L : List RGrp} {n : ByteArray} : ∀ g ∈ L.takeWhile (fun g => sLt g.name n), sLt g.name n = true := fun g hg => by
  have h1 : (L.takeWhile fun g => sLt g.name n).all (fun g => sLt g.name n) = true := List.all_takeWhile
  exact List.all_eq_true.1 h1 g hg
theorem dw_ge {n : ByteArray} : ∀ {L : List RGrp}, AscN L → ∀ g ∈ L.dropWhile (fun g => sLt g.name n), sLt g.name n = false
  | [], _, g, h => by cases h
  | x :: L, ha, g, h => by
    rw [List.dropWhile_cons] at h
    split at h
    · exact dw_ge (List.pairwise_cons.1 ha).2 g h
    · rename_i hc
      have hx : sLt x.name n = false := by simpa using hc
      rcases List.mem_cons.1 h with rfl | h
      · exact hx
      · have h1 := (List.pairwise_cons.1 ha).1 g h
        cases hq : sLt g.name n with
        | false => rfl
        | true => rw [sLt_trans h1 hq] at hx; cases hx
theorem rHas_split {L : List RGrp} {n : ByteArray} (ha : AscN L) (h : rHas L n = true) : ∃ L1 g L2, L = L1 ++ g :: L2 ∧ rAt L n = L1.length ∧ g.name = n ∧ (∀ x ∈ L1, x.name ≠ n) ∧ ∀ x ∈ L2, x.name ≠ n := by
  obtain ⟨p1, p2⟩ := rAt_parts L n
  unfold rHas at h
  simp only [Bool.and_eq_true, decide_eq_true_eq] at h
  obtain ⟨h1, h2⟩ := h
  have h3 : L.getD (rAt L n) zR = L[rAt L n] := by simp [List.getD, h1]
  rw [h3, sEqG] at h2
  refine ⟨L.take (rAt L n), L[rAt L n], L.drop (rAt L n + 1), ?_, by simp; omega, h2, fun x hx e => ?_, fun x hx e => ?_⟩
  · rw [List.getElem_cons_drop, List.take_append_drop]
  · rw [p1] at hx
    have := tw_all x hx
    rw [e, sLt_irr] at this; cases this
  · have hd : L.drop (rAt L n) = L[rAt L n] :: L.drop (rAt L n + 1) := (List.getElem_cons_drop h1).symm
    have hp : AscN (L.drop (rAt L n)) := List.Pairwise.sublist (List.drop_sublist _ _) ha
    rw [hd] at hp
    have := (List.pairwise_cons.1 hp).1 x hx
    rw [h2, e, sLt_irr] at this; cases this
theorem rHas_none {L : List RGrp} {n : ByteArray} (ha : AscN L) (h : rHas L n = false) : ∀ g ∈ L, g.name ≠ n := by
  intro g hg e
  obtain ⟨p1, p2⟩ := rAt_parts L n
  rw [← List.take_append_drop (rAt L n) L] at hg
  rcases List.mem_append.1 hg with hg | hg
  · rw [p1] at hg
    have := tw_all g hg
    rw [e, sLt_irr] at this; cases this
  · have hlt : rAt L n < L.length := by
      have := List.length_pos_of_mem hg
      simp at this; omega
    have hd : L.drop (rAt L n) = L[rAt L n] :: L.drop (rAt L n + 1) := (List.getElem_cons_drop hlt).symm
    have h3 : L.getD (rAt L n) zR = L[rAt L n] := by simp [List.getD, hlt]
    unfold rHas at h
    rw [decide_eq_true hlt, h3, Bool.true_and, sEqGF] at h
    have hge := dw_ge (n := n) ha
    rw [← p2] at hge
    have hf := hge L[rAt L n] (by rw [hd]; exact List.mem_cons_self)
    have hp : AscN (L.drop (rAt L n)) := List.Pairwise.sublist (List.drop_sublist _ _) ha
    rw [hd] at hg hp
    rcases List.mem_cons.1 hg with hg | hg
    · rw [hg] at e; exact h e
    · have h4 := (List.pairwise_cons.1 hp).1 g hg
      rw [e, hf] at h4; cases h4
theorem rHas_iff {L : List RGrp} {n : ByteArray} (ha : AscN L) : rHas L n = true ↔ ∃ g ∈ L, g.name = n := by
  constructor
  · intro h
    obtain ⟨L1, g, L2, rfl, _, e, _⟩ := rHas_split ha h
    exact ⟨g, by simp, e⟩
  · rintro ⟨g, hg, e⟩
    cases h : rHas L n with
    | true => rfl
    | false => exact absurd e (rHas_none ha h g hg)
theorem asc_uniq {L : List RGrp} (ha : AscN L) {g g' : RGrp} (h : g ∈ L) (h' : g' ∈ L) (e : g.name = g'.name) : g = g' := by
  induction L with
  | nil => cases h
  | cons x L ih =>
    have hc := List.pairwise_cons.1 ha
    rcases List.mem_cons.1 h with h1 | h1
    · rcases List.mem_cons.1 h' with h2 | h2
      · rw [h1, h2]
      · have := hc.1 g' h2
        rw [← h1, e, sLt_irr] at this; cases this
    · rcases List.mem_cons.1 h' with h2 | h2
      · have := hc.1 g h1
        rw [← h2, e, sLt_irr] at this; cases this
      · exact ih hc.2 h1 h2

/-! ### Members -/
structure MS (l : List Int) (ms : List (Key × Unit)) : Prop where
  ok : keysOk ms
  kd : ∀ e ∈ ms, ∃ p : Int, e.1 = .i .i64 p
  mem : ∀ p : Int, (∃ u, mget ms (.i .i64 p) = some u) ↔ p ∈ l
  asc : l.Pairwise (· < ·)
theorem MS.perm {l : List Int} {ms : List (Key × Unit)} (h : MS l ms) : (ms.map fun e => keyInt e.1).Perm l := by
  have hnd : (ms.map fun e => keyInt e.1).Nodup := by
    unfold List.Nodup
    rw [List.pairwise_map]
    refine List.Pairwise.imp_of_mem ?_ h.ok
    intro a b ha hb hab e
    obtain ⟨p, e1⟩ := h.kd a ha
    obtain ⟨q, e2⟩ := h.kd b hb
    rw [e1, e2, key_int] at hab
    rw [e1, e2] at e
    simp only [keyInt] at e
    simp [e] at hab
  refine (List.perm_ext_iff_of_nodup hnd (h.asc.imp (by intro a b h; omega))).2 fun x => ?_
  rw [← h.mem]
  constructor
  · intro hx
    obtain ⟨e, he, rfl⟩ := List.mem_map.1 hx
    obtain ⟨p, e1⟩ := h.kd e he
    refine ⟨e.2, ?_⟩
    rw [e1]
    simp only [keyInt]
    rw [← e1]
    exact mget_of_mem h.ok he
  · rintro ⟨u, hu⟩
    obtain ⟨k', h2, h3⟩ := mget_mem hu
    refine List.mem_map.2 ⟨(k', u), h2, ?_⟩
    obtain ⟨p', e1⟩ := h.kd _ h2
    dsimp only at e1
    rw [e1, key_int] at h3
    dsimp only
    rw [e1]
    simp only [keyInt]
    simpa [eq_comm] using h3
theorem MS.sort {l : List Int} {ms : List (Key × Unit)} (h : MS l ms) : sortI ms = l := by
  unfold sortI
  rw [mergeSort_of_perm_i h.perm]
  refine List.mergeSort_of_pairwise ?_
  exact h.asc.imp fun {x y} h => by simp [leI]; omega
theorem MS.len {l : List Int} {ms : List (Key × Unit)} (h : MS l ms) : ms.length = l.length := by
  have := h.perm.length_eq
  simpa using this
theorem MS.del {l : List Int} {ms : List (Key × Unit)} (h : MS l ms) (p : Int) : MS (l.filter fun q => q != p) (mdel ms (.i .i64 p)) := by
  refine ⟨keysOk_mdel h.ok, fun e he => h.kd e (mem_mdel he), fun q => ?_, h.asc.sublist List.filter_sublist⟩
  rw [mget_pid h.ok, List.mem_filter, ← h.mem]
  by_cases hq : q = p
  · subst hq; simp
  · rw [if_neg hq]; simp [hq]
theorem insI_asc {l : List Int} (h : l.Pairwise (· < ·)) {p : Int} (hp : p ∉ l) : (insI l p).Pairwise (· < ·) := by
  have hd : ∀ {l : List Int}, l.Pairwise (· < ·) → ∀ y ∈ l.dropWhile (fun x => decide (x < p)), p ≤ y := by
    intro l
    induction l with
    | nil => intro _ y hy; cases hy
    | cons x l ih =>
      intro h y hy
      rw [List.dropWhile_cons] at hy
      split at hy
      · exact ih (List.pairwise_cons.1 h).2 y hy
      · rename_i hc
        have hx : p ≤ x := by simpa using hc
        rcases List.mem_cons.1 hy with rfl | hy
        · exact hx
        · have := (List.pairwise_cons.1 h).1 y hy
          omega
  have ht : ∀ y ∈ l.takeWhile (fun x => decide (x < p)), y < p := fun y hy => by
    have h1 : (l.takeWhile fun x => decide (x < p)).all (fun x => decide (x < p)) = true := List.all_takeWhile
    simpa using List.all_eq_true.1 h1 y hy
  have hd2 : ∀ y ∈ l.dropWhile (fun x => decide (x < p)), p < y := fun y hy => by
    have h1 := hd h y hy
    have h2 : y ≠ p := fun e => hp (e ▸ (List.dropWhile_suffix _).subset hy)
    omega
  unfold insI
  refine List.pairwise_append.2 ⟨h.sublist (List.takeWhile_sublist _), List.pairwise_cons.2 ⟨hd2, h.sublist (List.dropWhile_sublist _)⟩, fun a ha b hb => ?_⟩
  rcases List.mem_cons.1 hb with rfl | hb
  · exact ht a ha
  · have h1 := ht a ha
    have h2 := hd2 b hb
    omega
theorem mem_insI {l : List Int} {p q : Int} : q ∈ insI l p ↔ q = p ∨ q ∈ l := by
  unfold insI
  have h3 := List.takeWhile_append_dropWhile (p := fun x : Int => decide (x < p)) (l := l)
  rw [List.mem_append, List.mem_cons]
  constructor
  · rintro (h | h | h)
    · exact .inr ((List.takeWhile_prefix _).subset h)
    · exact .inl h
    · exact .inr ((List.dropWhile_suffix _).subset h)
  · rintro (h | h)
    · exact .inr (.inl h)
    · rw [← h3] at h
      rcases List.mem_append.1 h with h | h
      · exact .inl h
      · exact .inr (.inr h)
theorem insI_len (l : List Int) (p : Int) : (insI l p).length = l.length + 1 := by
  have := congrArg List.length (List.takeWhile_append_dropWhile (p := fun x : Int => decide (x < p)) (l := l))
  unfold insI
  simp only [List.length_append, List.length_cons] at this ⊢
  omega
theorem MS.ins {l : List Int} {ms : List (Key × Unit)} (h : MS l ms) {p : Int} (hp : p ∉ l) : MS (insI l p) (mset ms (.i .i64 p) ()) := by
  refine ⟨keysOk_mset h.ok, fun e he => ?_, fun q => ?_, insI_asc h.asc hp⟩
  · rcases mem_mset he with rfl | he
    · exact ⟨p, rfl⟩
    · exact h.kd e he
  · rw [mget_pidS, mem_insI, ← h.mem]
    by_cases hq : q = p
    · subst hq; simp
    · rw [if_neg hq]; simp [hq]

/-! ### The groups and the document's -/
structure GL (s : Grp) (r : RG) (k : Nat) : Prop where
  asc : AscN r.L
  ex : ∀ g ∈ r.L, ∃ x, mget s.gs (.s g.name) = some x ∧ MS g.pids x.2
  on : ∀ n x, mget s.gs (.s n) = some x → ∃ g ∈ r.L, g.name = n
  big : ∀ g ∈ r.L, g.name.size ≤ 100 ∧ g.pids.length ≤ k ∧ ∀ p ∈ g.pids, (Lit.int .i64 p).wf = true
  gk : keysOk s.gs
  kd : ∀ e ∈ s.gs, keyKind e.1 = none
  ofk : keysOk s.of
  of : ∀ p n, mget s.of (.i .i64 p) = some n ↔ ∃ g ∈ r.L, g.name = n ∧ p ∈ g.pids
  nt : s.notes = r.notes
  nd : ∀ n ∈ r.notes, ∃ g ∈ r.L, g.name = n
  lens : r.L.length ≤ k ∧ r.notes.length ≤ k
theorem GL.uniq {s : Grp} {r : RG} {k : Nat} (h : GL s r k) {g g' : RGrp} {p : Int} (hg : g ∈ r.L) (hg' : g' ∈ r.L) (hp : p ∈ g.pids) (hp' : p ∈ g'.pids) : g = g' := by
  have h1 := (h.of p g.name).2 ⟨g, hg, rfl, hp⟩
  have h2 := (h.of p g'.name).2 ⟨g', hg', rfl, hp'⟩
  rw [h1] at h2
  exact asc_uniq h.asc hg hg' (Option.some.inj h2)
theorem GL.rof {s : Grp} {r : RG} {k : Nat} (h : GL s r k) (p : Int) : rOf r.L p = mget s.of (.i .i64 p) := by
  unfold rOf
  cases hf : r.L.find? (fun g => g.pids.contains p) with
  | none =>
    rw [List.find?_eq_none] at hf
    cases hm : mget s.of (.i .i64 p) with
    | none => rfl
    | some n =>
      obtain ⟨g, hg, _, hp⟩ := (h.of p n).1 hm
      exact absurd (List.contains_iff_mem.2 hp) (hf g hg)
  | some g =>
    have h1 := List.mem_of_find?_eq_some hf
    have h2 := List.find?_some hf
    exact ((h.of p g.name).2 ⟨g, h1, rfl, List.contains_iff_mem.1 h2⟩).symm
theorem GL.has {s : Grp} {r : RG} {k : Nat} (h : GL s r k) (n : ByteArray) : rHas r.L n = (mget s.gs (.s n)).isSome := by
  rw [Bool.eq_iff_iff, rHas_iff h.asc, Option.isSome_iff_exists]
  constructor
  · rintro ⟨g, hg, rfl⟩
    obtain ⟨x, hx, _⟩ := h.ex g hg
    exact ⟨x, hx⟩
  · rintro ⟨x, hx⟩
    exact h.on n x hx
theorem GL.rok {s : Grp} {r : RG} {k : Nat} (h : GL s r k) (hk : k ≤ 1000) : rOk r := ⟨by have := h.lens; omega, by have := h.lens; omega, fun g hg => by have := (h.big g hg).2.1; omega⟩
theorem GL.ratok {s : Grp} {r : RG} {k : Nat} (h : GL s r k) (p : Int) : rAtOk r.L p := by
  intro n hn
  rw [h.rof p] at hn
  obtain ⟨g, hg, e, _⟩ := (h.of p n).1 hn
  exact (rHas_iff h.asc).2 ⟨g, hg, e⟩
theorem GL.gok {s : Grp} {r : RG} {k : Nat} (h : GL s r k) (hk : k ≤ 1000) (p : Int) : gOk s p := by
  refine ⟨by rw [h.nt]; have := h.lens; omega, fun n hn => ?_⟩
  obtain ⟨g, hg, rfl, _⟩ := (h.of p n).1 hn
  obtain ⟨x, hx, _⟩ := h.ex g hg
  exact ⟨x, hx⟩
theorem GL.empty (bg bo : Nat) : GL ⟨bg, bo, none, 0, [], [], []⟩ ⟨none, 0, [], none, 0, []⟩ 0 := by
  refine ⟨List.Pairwise.nil, ?_, ?_, ?_, List.Pairwise.nil, ?_, List.Pairwise.nil, ?_, rfl, ?_, by simp⟩ <;> simp [mget]
/-- What a group's block is called, and where the rows lie, is of no account. -/
theorem GL.of_same {s : Grp} {r : RG} {k k' : Nat} (h : GL s r k) (hk : k ≤ k') (a : Option Addr) (c : Nat) (aoL : Option Addr) (capL : Nat) (aoN : Option Addr) (capN : Nat) : GL { s with ao := a, cap := c } { r with aoL := aoL, capL := capL, aoN := aoN, capN := capN } k' :=
  ⟨h.asc, h.ex, h.on, fun g hg => ⟨(h.big g hg).1, by have := (h.big g hg).2.1; omega, (h.big g hg).2.2⟩, h.gk, h.kd, h.ofk, h.of, h.nt, h.nd, by have := h.lens; dsimp only; omega⟩
theorem GL.mono {s : Grp} {r : RG} {k k' : Nat} (h : GL s r k) (hk : k ≤ k') : GL s r k' := h.of_same hk s.ao s.cap r.aoL r.capL r.aoN r.capN

/-- Another row of members for one group. -/
theorem GL.upd {s : Grp} {r : RG} {k k' : Nat} (h : GL s r k) (hk : k ≤ k') {L1 L2 : List RGrp} {g : RGrp} (hs : r.L = L1 ++ g :: L2) {x : GSet} (hx : mget s.gs (.s g.name) = some x) {l : List Int} {ms : List (Key × Unit)} (hm : MS l ms)
    (hl : l.length ≤ k' ∧ ∀ p ∈ l, (Lit.int .i64 p).wf = true) {of' : List (Key × ByteArray)} (hofk : keysOk of') (hof : ∀ p n, mget of' (.i .i64 p) = some n ↔ (∃ g' ∈ L1 ++ L2, g'.name = n ∧ p ∈ g'.pids) ∨ (g.name = n ∧ p ∈ l))
    {nt : List ByteArray} (hnd : ∀ n ∈ nt, ∃ g ∈ r.L, g.name = n) (hnl : nt.length ≤ k') (ao ao' : Option Addr) (cap cap' : Nat) (aoN : Option Addr) (capN : Nat) (aoG : Option Addr) (capG : Nat) :
    GL { s with gs := mset s.gs (.s g.name) (x.1, ms), of := of', notes := nt, ao := ao, cap := cap } { r with L := L1 ++ { g with pids := l, ao := aoG, cap := capG } :: L2, notes := nt, aoN := aoN, capN := capN } k' := by
  have hmem : ∀ y, y ∈ L1 ++ { g with pids := l, ao := aoG, cap := capG } :: L2 ↔ y = { g with pids := l, ao := aoG, cap := capG } ∨ y ∈ L1 ++ L2 := fun y => by simp [or_left_comm]
  have hold : ∀ y ∈ L1 ++ L2, y ∈ r.L := fun y hy => by rw [hs]; simp at hy ⊢; rcases hy with h | h <;> simp [h]
  have hga : g ∈ r.L := by rw [hs]; simp
  have hne : ∀ y ∈ L1 ++ L2, y.name ≠ g.name := fun y hy e => by
    have ha := h.asc
    rw [hs] at ha
    have h1 := List.pairwise_append.1 ha
    rcases List.mem_append.1 hy with hy | hy
    · have := h1.2.2 y hy g List.mem_cons_self
      rw [e, sLt_irr] at this; cases this
    · have := (List.pairwise_cons.1 h1.2.1).1 y hy
      rw [e, sLt_irr] at this; cases this
  refine ⟨?_, fun y hy => ?_, fun n z hz => ?_, fun y hy => ?_, keysOk_mset h.gk, fun e he => ?_, hofk, fun p n => ?_, rfl, fun n hn => ?_, ?_⟩
  · have ha := h.asc
    unfold AscN at ha ⊢
    rw [hs] at ha
    simp only [List.pairwise_append, List.pairwise_cons, List.mem_cons, forall_eq_or_imp] at ha ⊢
    exact ha
  · rcases (hmem y).1 hy with rfl | hy
    · exact ⟨(x.1, ms), by dsimp only; rw [mget_str, if_pos rfl], hm⟩
    · obtain ⟨z, hz, hzm⟩ := h.ex y (hold y hy)
      exact ⟨z, by dsimp only; rw [mget_str, if_neg (hne y hy)]; exact hz, hzm⟩
  · dsimp only at hz ⊢
    rw [mget_str] at hz
    by_cases hn : n = g.name
    · exact ⟨_, (hmem _).2 (.inl rfl), hn.symm⟩
    · rw [if_neg hn] at hz
      obtain ⟨y, hy, e⟩ := h.on n z hz
      refine ⟨y, (hmem y).2 (.inr ?_), e⟩
      rw [hs] at hy
      simp only [List.mem_append, List.mem_cons] at hy ⊢
      rcases hy with hy | rfl | hy
      · exact .inl hy
      · exact absurd e.symm hn
      · exact .inr hy
  · rcases (hmem y).1 hy with rfl | hy
    · exact ⟨(h.big g hga).1, hl⟩
    · have := h.big y (hold y hy)
      exact ⟨this.1, by omega, this.2.2⟩
  · rcases mem_mset he with rfl | he
    · rfl
    · exact h.kd e he
  · dsimp only
    rw [hof p n]
    constructor
    · rintro (⟨y, hy, e⟩ | ⟨e, hp⟩)
      · exact ⟨y, (hmem y).2 (.inr hy), e⟩
      · exact ⟨_, (hmem _).2 (.inl rfl), e, hp⟩
    · rintro ⟨y, hy, e, hp⟩
      rcases (hmem y).1 hy with rfl | hy
      · exact .inr ⟨e, hp⟩
      · exact .inl ⟨y, hy, e, hp⟩
  · obtain ⟨y, hy, e⟩ := hnd n hn
    dsimp only
    rw [hs] at hy
    simp only [List.mem_append, List.mem_cons] at hy
    rcases hy with hy | rfl | hy
    · exact ⟨y, by simp [hy], e⟩
    · exact ⟨_, (hmem _).2 (.inl rfl), e⟩
    · exact ⟨y, by simp [hy], e⟩
  · have h1 := h.lens.1
    rw [hs] at h1
    simp only [List.length_append, List.length_cons] at h1 ⊢
    exact ⟨by omega, hnl⟩

theorem any_note {l : List ByteArray} (n : ByteArray) : decide (idxFrom (sEq n) l 0 ≥ 0) = l.any fun x => sEq x n := by
  cases hc : l.any fun x => sEq x n with
  | false =>
    rw [List.any_eq_false] at hc
    have h1 := (idxFrom_none (sEq n) l 0 (by omega)).2 fun x hx => by
      have := hc x hx
      rw [Bool.not_eq_true, sEqGF] at this
      rw [sEqGF]
      exact fun e => this e.symm
    rw [h1]; rfl
  | true =>
    obtain ⟨x, hx, he⟩ := List.any_eq_true.1 hc
    rw [sEqG] at he
    subst he
    have hne : ¬ idxFrom (sEq x) l 0 = -1 := fun e => by
      have := (idxFrom_none (sEq x) l 0 (by omega)).1 e x hx
      rw [sEqGF] at this
      exact this rfl
    rcases idxFrom_lt (sEq x) l 0 with h | ⟨h, _⟩
    · exact absurd h hne
    · exact decide_eq_true h
theorem rSet_split {L1 L2 : List RGrp} {g : RGrp} (l : List Int) (ao : Option Addr) (cap : Nat) : rSet (L1 ++ g :: L2) L1.length l ao cap = L1 ++ { g with pids := l, ao := ao, cap := cap } :: L2 ∧ (L1 ++ g :: L2).getD L1.length zR = g := by
  have h1 : (L1 ++ g :: L2).getD L1.length zR = g := by simp [List.getD]
  refine ⟨?_, h1⟩
  unfold rSet
  rw [h1, List.set_append_right _ _ (Nat.le_refl _)]
  simp

/-- A group leaves that has no members. -/
theorem GL.gone {s : Grp} {r : RG} {k : Nat} (h : GL s r k) (p : Int) (ao : Option Addr) (cap : Nat) (aoG : Option Addr) (capG : Nat) (aoN : Option Addr) (capN : Nat) :
    (gGone s p ao cap).2 = (rGone r p aoG capG aoN capN).2 ∧ GL (gGone s p ao cap).1 (rGone r p aoG capG aoN capN).1 (k + 1) ∧ ((gGone s p ao cap).2 = true → ∀ n, mget (gGone s p ao cap).1.of (.i .i64 p) ≠ some n) ∧ (∀ g ∈ (rGone r p aoG capG aoN capN).1.L, g.pids.length ≤ k) := by
  unfold gGone rGone
  rw [h.rof p]
  cases hm : mget s.of (.i .i64 p) with
  | none => exact ⟨rfl, h.mono (Nat.le_succ k), (fun e => by cases e), fun g hg => (h.big g hg).2.1⟩
  | some n =>
    obtain ⟨g0, hg0, rfl, hp0⟩ := (h.of p n).1 hm
    have hh : rHas r.L g0.name = true := (rHas_iff h.asc).2 ⟨g0, hg0, rfl⟩
    obtain ⟨L1, g, L2, hs, hat, hn, hn1, hn2⟩ := rHas_split h.asc hh
    have hgm : g ∈ r.L := by rw [hs]; simp
    have hge : g0 = g := asc_uniq h.asc hg0 hgm hn.symm
    subst hge
    obtain ⟨x, hx, hms⟩ := h.ex g0 hgm
    obtain ⟨e1, e2⟩ := rSet_split (L1 := L1) (L2 := L2) (g := g0) (g0.pids.filter fun q => q != p) aoG capG
    have hgd : r.L.getD (rAt r.L g0.name) zR = g0 := by rw [hat, hs, e2]
    have hrs : rSet r.L (rAt r.L g0.name) (g0.pids.filter fun q => q != p) aoG capG = L1 ++ { g0 with pids := g0.pids.filter fun q => q != p, ao := aoG, cap := capG } :: L2 := by rw [hat, hs, e1]
    simp only [hx, hgd, hrs]
    have hms' := hms.del p
    have hlen : ((mdel x.2 (.i .i64 p)).length == 0) = ((g0.pids.filter fun q => q != p).length == 0) := by rw [hms'.len]
    rw [hlen, any_note, h.nt]
    have hfl := List.length_filter_le (fun q => q != p) g0.pids
    have hb := h.big g0 hgm
    have other : ∀ y ∈ L1 ++ L2, p ∉ y.pids := fun y hy hpy => by
      have hy' : y ∈ r.L := by rw [hs]; simp at hy ⊢; rcases hy with h | h <;> simp [h]
      have := h.uniq hy' hgm hpy hp0
      subst this
      rcases List.mem_append.1 hy with h1 | h1
      · exact hn1 _ h1 rfl
      · exact hn2 _ h1 rfl
    have main : ∀ (nt : List ByteArray) (ao : Option Addr) (cap : Nat) (aoN : Option Addr) (capN : Nat), (∀ n ∈ nt, ∃ g ∈ r.L, g.name = n) → nt.length ≤ k + 1 →
        GL { s with gs := mset s.gs (.s g0.name) (x.1, mdel x.2 (.i .i64 p)), of := mdel s.of (.i .i64 p), notes := nt, ao := ao, cap := cap } { r with L := L1 ++ { g0 with pids := g0.pids.filter fun q => q != p, ao := aoG, cap := capG } :: L2, notes := nt, aoN := aoN, capN := capN } (k + 1) := fun nt ao cap aoN capN q1 q2 =>
      h.upd (Nat.le_succ k) hs hx hms' ⟨by omega, fun q hq => hb.2.2 q (List.mem_filter.1 hq).1⟩ (keysOk_mdel h.ofk) (fun q n => by
        rw [mget_pid h.ofk]
        by_cases hq : q = p
        · subst hq
          rw [if_pos rfl]
          constructor
          · intro e; cases e
          · rintro (⟨y, hy, _, hpy⟩ | ⟨_, hpy⟩)
            · exact absurd hpy (other y hy)
            · simp at hpy
        · rw [if_neg hq, h.of q n, hs]
          constructor
          · rintro ⟨y, hy, e, hqy⟩
            simp only [List.mem_append, List.mem_cons] at hy
            rcases hy with hy | rfl | hy
            · exact .inl ⟨y, by simp [hy], e, hqy⟩
            · exact .inr ⟨e, by simp [hqy, hq]⟩
            · exact .inl ⟨y, by simp [hy], e, hqy⟩
          · rintro (⟨y, hy, e, hqy⟩ | ⟨e, hqy⟩)
            · exact ⟨y, by simp at hy ⊢; rcases hy with h | h <;> simp [h], e, hqy⟩
            · exact ⟨g0, by simp, e, (List.mem_filter.1 hqy).1⟩) q1 q2 ao none cap 0 aoN capN aoG capG
    have small : ∀ g ∈ L1 ++ { g0 with pids := g0.pids.filter fun q => q != p, ao := aoG, cap := capG } :: L2, g.pids.length ≤ k := fun y hy => by
      simp only [List.mem_append, List.mem_cons] at hy
      rcases hy with hy | rfl | hy
      · exact (h.big y (by rw [hs]; simp [hy])).2.1
      · dsimp only; omega
      · exact (h.big y (by rw [hs]; simp [hy])).2.1
    have gone : ∀ n, mget (mdel s.of (.i .i64 p)) (.i .i64 p) ≠ some n := fun n e => by rw [mget_mdel h.ofk] at e; cases e
    cases hc : ((g0.pids.filter fun q => q != p).length == 0) && !(r.notes.any fun x => sEq x g0.name) with
    | true =>
      refine ⟨rfl, main _ _ _ _ _ (fun n hn => ?_) ?_, fun _ => gone, small⟩
      · rcases List.mem_append.1 hn with hn | hn
        · exact h.nd n hn
        · exact ⟨g0, hgm, (List.mem_singleton.1 hn).symm⟩
      · have := h.lens.2; simp; omega
    | false =>
      refine ⟨rfl, ?_, fun _ => gone, small⟩
      have := main r.notes s.ao s.cap r.aoN r.capN h.nd (by have := h.lens.2; omega)
      dsimp only
      exact this
theorem GL.put {s : Grp} {r : RG} {k : Nat} (h : GL s r k) (p : Int) (hp : (Lit.int .i64 p).wf = true) (n : ByteArray) (ao : Option Addr) (cap : Nat) (ao1 : Option Addr) (cap1 : Nat) (aoN : Option Addr) (capN : Nat) (aoG : Option Addr) (capG : Nat) :
    (gPut s p n ao cap).2 = (rPut r p n ao1 cap1 aoN capN aoG capG).2 ∧ GL (gPut s p n ao cap).1 (rPut r p n ao1 cap1 aoN capN aoG capG).1 (k + 1) := by
  unfold gPut rPut
  rw [h.has n]
  cases hx : mget s.gs (.s n) with
  | none => exact ⟨rfl, h.mono (Nat.le_succ k)⟩
  | some x =>
    simp only [Option.isSome_some, Bool.not_true, Bool.false_or]
    cases hd : decide (p < 2) with
    | true => exact ⟨rfl, h.mono (Nat.le_succ k)⟩
    | false =>
      obtain ⟨g, hg, rfl⟩ := h.on n x hx
      obtain ⟨x', hx', hms⟩ := h.ex g hg
      rw [hx] at hx'
      obtain rfl := Option.some.inj hx'
      have hin : rIn r.L p g.name = true ↔ p ∈ g.pids := by
        unfold rIn
        rw [h.rof p]
        constructor
        · intro e
          split at e
          · rename_i m hm
            rw [sEqG] at e
            subst e
            obtain ⟨g', hg', e', hpg⟩ := (h.of p _).1 hm
            rw [asc_uniq h.asc hg hg' e'.symm]; exact hpg
          · cases e
        · intro hpg
          rw [(h.of p g.name).2 ⟨g, hg, rfl, hpg⟩]
          exact (sEqG _ _).2 rfl
      dsimp only
      cases hm : mget x.2 (.i .i64 p) with
      | some u =>
        rw [hin.2 ((hms.mem p).1 ⟨u, hm⟩)]
        exact ⟨rfl, h.mono (Nat.le_succ k)⟩
      | none =>
        have hnp : p ∉ g.pids := fun e => by
          obtain ⟨u, hu⟩ := (hms.mem p).2 e
          rw [hm] at hu; cases hu
        have hf : rIn r.L p g.name = false := by
          rw [← Bool.not_eq_true, hin]; exact hnp
        rw [hf]
        obtain ⟨_, h1, h2, h3⟩ := h.gone p ao cap ao1 cap1 aoN capN
        have h4 : ∀ n, mget (gGone s p ao cap).1.of (.i .i64 p) ≠ some n := by
          cases hq : (gGone s p ao cap).2 with
          | true => exact h2 hq
          | false =>
            intro n hn
            cases hmo : mget s.of (.i .i64 p) with
            | none =>
              have e : gGone s p ao cap = (s, false) := by simp only [gGone, hmo]
              rw [e, hmo] at hn; cases hn
            | some m =>
              obtain ⟨g', hg', rfl, _⟩ := (h.of p m).1 hmo
              obtain ⟨x', hx', _⟩ := h.ex g' hg'
              have : (gGone s p ao cap).2 = true := by
                simp only [gGone, hmo, hx']
                split <;> rfl
              rw [this] at hq; cases hq
        have hnames : ∃ g' ∈ (rGone r p ao1 cap1 aoN capN).1.L, g'.name = g.name := by
          have : (mget (gGone s p ao cap).1.gs (.s g.name)).isSome = true := by
            have hq := h.gone p ao cap ao1 cap1 aoN capN
            unfold gGone
            cases hmo : mget s.of (.i .i64 p) with
            | none => simp only; rw [hx]; rfl
            | some m =>
              obtain ⟨g', hg', rfl, _⟩ := (h.of p m).1 hmo
              obtain ⟨x', hx', _⟩ := h.ex g' hg'
              simp only [hx']
              have : (mget (mset s.gs (.s g'.name) (x'.1, mdel x'.2 (.i .i64 p))) (.s g.name)).isSome = true := by
                rw [mget_str]
                split
                · rfl
                · rw [hx]; rfl
              split <;> exact this
          rw [← h1.has] at this
          exact (rHas_iff h1.asc).1 this
        generalize (gGone s p ao cap).1 = s1 at h1 h4
        generalize (rGone r p ao1 cap1 aoN capN).1 = r1 at h1 h3 hnames
        have hh : rHas r1.L g.name = true := (rHas_iff h1.asc).2 hnames
        obtain ⟨L1, g1, L2, hs, hat, hn, hn1, hn2⟩ := rHas_split h1.asc hh
        have hgm : g1 ∈ r1.L := by rw [hs]; simp
        obtain ⟨y, hy, hmy⟩ := h1.ex g1 hgm
        rw [hn] at hy
        simp only [hy]
        refine ⟨trivial, ?_⟩
        have hnp1 : p ∉ g1.pids := fun e => h4 g1.name ((h1.of p _).2 ⟨g1, hgm, rfl, e⟩)
        obtain ⟨e1, e2⟩ := rSet_split (L1 := L1) (L2 := L2) (g := g1) (insI g1.pids p) aoG capG
        have hgd : r1.L.getD (rAt r1.L g.name) zR = g1 := by rw [hat, hs, e2]
        unfold rPut2
        rw [hgd, hat, hs, e1]
        have hb := h1.big g1 hgm
        have h3' := h3 g1 hgm
        have hres := h1.upd (k' := k + 1) (Nat.le_refl _) hs (x := y) (by rw [hn]; exact hy) (hmy.ins hnp1) ⟨by rw [insI_len]; omega, fun q hq => by
            rcases mem_insI.1 hq with rfl | hq
            · exact hp
            · exact hb.2.2 q hq⟩ (of' := mset s1.of (.i .i64 p) g.name) (keysOk_mset h1.ofk) (fun q n => by
            rw [mget_pidS]
            by_cases hq : q = p
            · subst hq
              rw [if_pos rfl]
              constructor
              · intro e
                right
                exact ⟨by rw [hn]; exact Option.some.inj e, mem_insI.2 (.inl rfl)⟩
              · rintro (⟨z, hz, _, hpz⟩ | ⟨e, _⟩)
                · exact absurd ((h1.of q z.name).2 ⟨z, by rw [hs]; simp at hz ⊢; rcases hz with h | h <;> simp [h], rfl, hpz⟩) (h4 _)
                · rw [← e, hn]
            · rw [if_neg hq, h1.of q n, hs]
              constructor
              · rintro ⟨z, hz, e, hqz⟩
                simp only [List.mem_append, List.mem_cons] at hz
                rcases hz with hz | rfl | hz
                · exact .inl ⟨z, by simp [hz], e, hqz⟩
                · exact .inr ⟨e, mem_insI.2 (.inr hqz)⟩
                · exact .inl ⟨z, by simp [hz], e, hqz⟩
              · rintro (⟨z, hz, e, hqz⟩ | ⟨e, hqz⟩)
                · exact ⟨z, by simp at hz ⊢; rcases hz with h | h <;> simp [h], e, hqz⟩
                · rcases mem_insI.1 hqz with h | h
                  · exact absurd h hq
                  · exact ⟨g1, by simp, e, h⟩)
          (nt := s1.notes) (by rw [h1.nt]; exact h1.nd) (by rw [h1.nt]; have := h1.lens.2; omega) s1.ao none s1.cap 0 r1.aoN r1.capN aoG capG
        rw [← hn] at hres ⊢
        have e3 : ({ r1 with L := L1 ++ { g1 with pids := insI g1.pids p, ao := aoG, cap := capG } :: L2, notes := s1.notes, aoN := r1.aoN, capN := r1.capN } : RG) = { r1 with L := L1 ++ { g1 with pids := insI g1.pids p, ao := aoG, cap := capG } :: L2 } := by rw [h1.nt]
        rw [e3] at hres
        exact hres
theorem GL.make {s : Grp} {r : RG} {k : Nat} (h : GL s r k) (n : ByteArray) (hn : n.size ≤ 100) (nb : Nat) (ao : Option Addr) (cap : Nat) : (gMake s n nb).2 = (rMake r n ao cap).2 ∧ GL (gMake s n nb).1 (rMake r n ao cap).1 (k + 1) := by
  unfold gMake rMake
  cases he : sEq n ⟨#[]⟩ with
  | true => exact ⟨rfl, h.mono (Nat.le_succ k)⟩
  | false =>
    rw [h.has n]
    cases hx : mget s.gs (.s n) with
    | some x => exact ⟨rfl, h.mono (Nat.le_succ k)⟩
    | none =>
      refine ⟨rfl, ?_⟩
      simp only [Option.isSome_none]
      have hno : ∀ g ∈ r.L, g.name ≠ n := by
        refine rHas_none h.asc ?_
        rw [h.has n, hx]; rfl
      obtain ⟨p1, p2⟩ := rAt_parts r.L n
      have hmem : ∀ y, y ∈ r.L.take (rAt r.L n) ++ ⟨n, none, 0, []⟩ :: r.L.drop (rAt r.L n) ↔ y = ⟨n, none, 0, []⟩ ∨ y ∈ r.L := fun y => by
        have h5 := List.take_append_drop (rAt r.L n) r.L
        rw [← h5, h5]
        constructor
        · intro hy
          rcases List.mem_append.1 hy with hy | hy
          · exact .inr (List.mem_of_mem_take hy)
          · rcases List.mem_cons.1 hy with hy | hy
            · exact .inl hy
            · exact .inr (List.mem_of_mem_drop hy)
        · rintro (hy | hy)
          · simp [hy]
          · rw [← h5] at hy
            rcases List.mem_append.1 hy with hy | hy
            · exact List.mem_append_left _ hy
            · exact List.mem_append_right _ (List.mem_cons_of_mem _ hy)
      have hnil : MS [] ([] : List (Key × Unit)) := ⟨List.Pairwise.nil, by simp, by simp [mget], List.Pairwise.nil⟩
      refine ⟨?_, fun y hy => ?_, fun m z hz => ?_, fun y hy => ?_, keysOk_mset h.gk, fun e he => ?_, h.ofk, fun p m => ?_, h.nt, fun m hm => ?_, ?_⟩
      · unfold AscN
        dsimp only
        rw [p1, p2]
        have ha := h.asc
        unfold AscN at ha
        refine List.pairwise_append.2 ⟨ha.sublist (List.takeWhile_sublist _), List.pairwise_cons.2 ⟨fun y hy => ?_, ha.sublist (List.dropWhile_sublist _)⟩, fun a hA b hb => ?_⟩
        · have h6 := dw_ge h.asc y hy
          cases h7 : sLt n y.name with
          | true => rfl
          | false => exact absurd (sLt_tri h6 h7) (hno y ((List.dropWhile_suffix _).subset hy))
        · have h6 := tw_all a hA
          rcases List.mem_cons.1 hb with rfl | hb
          · exact h6
          · have h8 := dw_ge h.asc b hb
            cases h7 : sLt n b.name with
            | true => exact sLt_trans h6 h7
            | false => exact absurd (sLt_tri h8 h7) (hno b ((List.dropWhile_suffix _).subset hb))
      · rcases (hmem y).1 hy with rfl | hy
        · exact ⟨(nb, []), by dsimp only; rw [mget_str, if_pos rfl], hnil⟩
        · obtain ⟨z, hz, hzm⟩ := h.ex y hy
          exact ⟨z, by dsimp only; rw [mget_str, if_neg (hno y hy)]; exact hz, hzm⟩
      · dsimp only at hz ⊢
        rw [mget_str] at hz
        by_cases hm : m = n
        · exact ⟨_, (hmem _).2 (.inl rfl), hm.symm⟩
        · rw [if_neg hm] at hz
          obtain ⟨y, hy, e⟩ := h.on m z hz
          exact ⟨y, (hmem y).2 (.inr hy), e⟩
      · rcases (hmem y).1 hy with rfl | hy
        · exact ⟨hn, by simp, by simp⟩
        · have := h.big y hy
          exact ⟨this.1, by omega, this.2.2⟩
      · rcases mem_mset he with rfl | he
        · rfl
        · exact h.kd e he
      · dsimp only
        rw [h.of p m]
        constructor
        · rintro ⟨y, hy, e⟩
          exact ⟨y, (hmem y).2 (.inr hy), e⟩
        · rintro ⟨y, hy, e, hp⟩
          rcases (hmem y).1 hy with rfl | hy
          · simp at hp
          · exact ⟨y, hy, e, hp⟩
      · obtain ⟨y, hy, e⟩ := h.nd m hm
        exact ⟨y, (hmem y).2 (.inr hy), e⟩
      · have h5 := congrArg List.length (List.take_append_drop (rAt r.L n) r.L)
        have := h.lens
        simp only [List.length_append, List.length_cons] at h5 ⊢
        omega
theorem GL.remove {s : Grp} {r : RG} {k : Nat} (h : GL s r k) (n : ByteArray) (ao : Option Addr) (cap : Nat) (aoN : Option Addr) (capN : Nat) : (gRemove s n).2 = (rRemove r n ao cap aoN capN).2 ∧ GL (gRemove s n).1 (rRemove r n ao cap aoN capN).1 (k + 1) := by
  unfold gRemove rRemove
  rw [h.has n]
  cases hx : mget s.gs (.s n) with
  | none => exact ⟨rfl, h.mono (Nat.le_succ k)⟩
  | some x =>
    have hh : rHas r.L n = true := by rw [h.has n, hx]; rfl
    obtain ⟨L1, g, L2, hs, hat, rfl, hn1, hn2⟩ := rHas_split h.asc hh
    have hgm : g ∈ r.L := by rw [hs]; simp
    obtain ⟨x', hx', hms⟩ := h.ex g hgm
    rw [hx] at hx'
    obtain rfl := Option.some.inj hx'
    have hgd : r.L.getD (rAt r.L g.name) zR = g := by rw [hat, hs]; simp [List.getD]
    simp only [Option.isSome_some, hgd, hms.len]
    cases hd : decide ((g.pids.length : Int) > 0) with
    | true => exact ⟨rfl, h.mono (Nat.le_succ k)⟩
    | false =>
      refine ⟨rfl, ?_⟩
      have hnil : g.pids = [] := by
        simp only [decide_eq_false_iff_not] at hd
        exact List.eq_nil_of_length_eq_zero (by omega)
      have ht : r.L.take (rAt r.L g.name) ++ r.L.drop (rAt r.L g.name + 1) = L1 ++ L2 := by
        rw [hat, hs, List.take_left, ← List.drop_drop, List.drop_left]; rfl
      rw [ht]
      have hold : ∀ y ∈ L1 ++ L2, y ∈ r.L := fun y hy => by rw [hs]; simp at hy ⊢; rcases hy with h | h <;> simp [h]
      have hne : ∀ y ∈ L1 ++ L2, y.name ≠ g.name := fun y hy => by
        rcases List.mem_append.1 hy with hy | hy
        · exact hn1 y hy
        · exact hn2 y hy
      have hback : ∀ y ∈ r.L, y.name ≠ g.name → y ∈ L1 ++ L2 := fun y hy e => by
        rw [hs] at hy
        simp only [List.mem_append, List.mem_cons] at hy ⊢
        rcases hy with hy | rfl | hy
        · exact .inl hy
        · exact absurd rfl e
        · exact .inr hy
      refine ⟨?_, fun y hy => ?_, fun m z hz => ?_, fun y hy => ?_, keysOk_mdel h.gk, fun e he => h.kd e (mem_mdel he), h.ofk, fun p m => ?_, ?_, fun m hm => ?_, ?_⟩
      · have ha := h.asc
        rw [hs] at ha
        exact ha.sublist (List.Sublist.append (List.Sublist.refl _) (List.sublist_cons_self _ _))
      · obtain ⟨z, hz, hzm⟩ := h.ex y (hold y hy)
        exact ⟨z, by dsimp only; rw [mget_strD h.gk, if_neg (hne y hy)]; exact hz, hzm⟩
      · dsimp only at hz ⊢
        rw [mget_strD h.gk] at hz
        by_cases hm : m = g.name
        · rw [if_pos hm] at hz; cases hz
        · rw [if_neg hm] at hz
          obtain ⟨y, hy, e⟩ := h.on m z hz
          exact ⟨y, hback y hy (by rw [e]; exact hm), e⟩
      · have := h.big y (hold y hy)
        exact ⟨this.1, by omega, this.2.2⟩
      · dsimp only
        rw [h.of p m]
        constructor
        · rintro ⟨y, hy, e, hp⟩
          refine ⟨y, hback y hy fun e2 => ?_, e, hp⟩
          rw [asc_uniq h.asc hy hgm e2, hnil] at hp
          cases hp
        · rintro ⟨y, hy, e⟩
          exact ⟨y, hold y hy, e⟩
      · dsimp only; rw [h.nt]
      · obtain ⟨q1, q2⟩ := List.mem_filter.1 hm
        obtain ⟨y, hy, e⟩ := h.nd m q1
        refine ⟨y, hback y hy ?_, e⟩
        rw [e]
        simpa [sEqGF] using q2
      · have := h.lens
        have h8 := List.length_filter_le (fun x => !sEq x g.name) r.notes
        rw [hs] at this
        simp only [List.length_append, List.length_cons] at this ⊢
        omega
theorem GL.first {s : Grp} {r : RG} {k : Nat} (h : GL s r k) : ∀ l : List ByteArray, (∀ n ∈ l, ∃ g ∈ r.L, g.name = n) → firstEmpty s.gs l = rFirst r.L l
  | [], _ => rfl
  | n :: l, hn => by
    obtain ⟨g0, hg0, rfl⟩ := hn n List.mem_cons_self
    have hh : rHas r.L g0.name = true := (rHas_iff h.asc).2 ⟨g0, hg0, rfl⟩
    obtain ⟨L1, g, L2, hs, hat, e, hn1, hn2⟩ := rHas_split h.asc hh
    have hgm : g ∈ r.L := by rw [hs]; simp
    have := asc_uniq h.asc hg0 hgm e.symm
    subst this
    obtain ⟨x, hx, hms⟩ := h.ex g0 hgm
    have hgd : r.L.getD (rAt r.L g0.name) zR = g0 := by rw [hat, hs]; simp [List.getD]
    have ih := h.first l fun n hm => hn n (List.mem_cons_of_mem _ hm)
    simp only [firstEmpty, rFirst, hx, hh, hgd, Bool.true_and, hms.len]
    cases hl : g0.pids.length with
    | zero => rfl
    | succ m => simpa using ih
theorem rFirst_sub (L : List RGrp) : ∀ l : List ByteArray, (∀ n ∈ (rFirst L l).1, n ∈ l) ∧ (rFirst L l).1.length ≤ l.length
  | [] => ⟨fun n h => h, Nat.le_refl _⟩
  | n :: l => by
    have ih := rFirst_sub L l
    unfold rFirst
    split
    · exact ⟨fun m h => List.mem_cons_of_mem _ h, by simp⟩
    · exact ⟨fun m h => List.mem_cons_of_mem _ (ih.1 m h), by have := ih.2; simp only [List.length_cons]; omega⟩
theorem GL.emptied {s : Grp} {r : RG} {k : Nat} (h : GL s r k) (ao : Option Addr) (cap : Nat) (aoN : Option Addr) (capN : Nat) : (gEmptied s ao cap).2 = (rFirst r.L r.notes).2 ∧ GL (gEmptied s ao cap).1 { r with notes := (rFirst r.L r.notes).1, aoN := aoN, capN := capN } (k + 1) := by
  have e := h.first r.notes h.nd
  unfold gEmptied
  rw [h.nt, e]
  refine ⟨rfl, h.asc, h.ex, h.on, fun g hg => ⟨(h.big g hg).1, by have := (h.big g hg).2.1; omega, (h.big g hg).2.2⟩, h.gk, h.kd, h.ofk, h.of, rfl, fun n hn => h.nd n ((rFirst_sub _ _).1 n hn), ?_⟩
  have := h.lens
  have h2 := (rFirst_sub r.L r.notes).2
  dsimp only
  omega
theorem GL.mem {s : Grp} {r : RG} {k : Nat} (h : GL s r k) (n : ByteArray) : memG s n = rMem r.L n := by
  unfold memG rMem
  rw [h.has n]
  cases hx : mget s.gs (.s n) with
  | none => rfl
  | some x =>
    have hh : rHas r.L n = true := by rw [h.has n, hx]; rfl
    obtain ⟨L1, g, L2, hs, hat, rfl, hn1, hn2⟩ := rHas_split h.asc hh
    have hgm : g ∈ r.L := by rw [hs]; simp
    obtain ⟨x', hx', hms⟩ := h.ex g hgm
    rw [hx] at hx'
    obtain rfl := Option.some.inj hx'
    have hgd : r.L.getD (rAt r.L g.name) zR = g := by rw [hat, hs]; simp [List.getD]
    simp only [Option.isSome_some, hgd, hms.sort]
theorem GL.memg {s : Grp} {r : RG} {k : Nat} (h : GL s r k) {g : RGrp} (hg : g ∈ r.L) : memG s g.name = g.pids := by
  obtain ⟨x, hx, hms⟩ := h.ex g hg
  unfold memG
  rw [hx]
  exact hms.sort
theorem GL.memok {s : Grp} {r : RG} {k : Nat} (h : GL s r k) (hk : k ≤ 1000) (n : ByteArray) : ∀ x, mget s.gs (.s n) = some x → wfI x.2 := by
  intro x hx
  obtain ⟨g, hg, rfl⟩ := h.on n x hx
  obtain ⟨x', hx', hms⟩ := h.ex g hg
  rw [hx] at hx'
  obtain rfl := Option.some.inj hx'
  have hb := h.big g hg
  refine ⟨hms.ok, by rw [hms.len]; omega, fun e he => ?_⟩
  obtain ⟨p, e1⟩ := hms.kd e he
  have hp : p ∈ g.pids := (hms.mem p).1 ⟨e.2, by rw [← e1]; exact mget_of_mem hms.ok he⟩
  rw [e1]
  exact hb.2.2 p hp
theorem keyS_of {k : Key} (h : keyKind k = none) : ∃ n, k = .s n := by
  cases k with
  | i a b => cases h
  | s n => exact ⟨n, rfl⟩
theorem ofB_data (n : ByteArray) : ofB n.data.toList = n := by
  unfold ofB
  simp
theorem GL.names {s : Grp} {r : RG} {k : Nat} (h : GL s r k) : sortS s.gs = r.L.map (·.name) := by
  have hnd : (s.gs.map fun e => keyStr e.1).Nodup := by
    unfold List.Nodup
    rw [List.pairwise_map]
    refine List.Pairwise.imp_of_mem ?_ h.gk
    intro a b ha hb hab e
    obtain ⟨p, e1⟩ := keyS_of (h.kd a ha)
    obtain ⟨q, e2⟩ := keyS_of (h.kd b hb)
    rw [e1, e2, keyS] at hab
    rw [e1, e2] at e
    simp only [keyStr] at e
    simp [baExt e] at hab
  have hasc : (r.L.map fun g => g.name.data.toList).Pairwise (· < ·) := by
    rw [List.pairwise_map]
    exact h.asc.imp fun {a b} hq => by rw [sLtG, decide_eq_true_eq] at hq; exact hq
  have hperm : (s.gs.map fun e => keyStr e.1).Perm (r.L.map fun g => g.name.data.toList) := by
    refine (List.perm_ext_iff_of_nodup hnd (hasc.imp fun {a b} hq e => by subst e; exact List.lt_irrefl _ hq)).2 fun x => ?_
    constructor
    · intro hx
      obtain ⟨e, he, rfl⟩ := List.mem_map.1 hx
      obtain ⟨n, e1⟩ := keyS_of (h.kd e he)
      obtain ⟨g, hg, rfl⟩ := h.on n e.2 (by rw [← e1]; exact mget_of_mem h.gk he)
      refine List.mem_map.2 ⟨g, hg, ?_⟩
      rw [e1]; rfl
    · intro hx
      obtain ⟨g, hg, rfl⟩ := List.mem_map.1 hx
      obtain ⟨x, hx, _⟩ := h.ex g hg
      obtain ⟨k', h2, h3⟩ := mget_mem hx
      refine List.mem_map.2 ⟨(k', x), h2, ?_⟩
      obtain ⟨n, e1⟩ := keyS_of (h.kd _ h2)
      dsimp only at e1 ⊢
      rw [e1, keyS, decide_eq_true_eq] at h3
      rw [e1, h3]; rfl
  unfold sortS
  rw [mergeSort_of_perm hperm, List.mergeSort_of_pairwise, List.map_map]
  · refine List.map_congr_left fun g _ => ?_
    exact ofB_data _
  · exact hasc.imp fun {x y} hq => by
      show leB x y = true
      simp only [leB, decide_eq_true_eq]
      exact List.le_of_lt hq
theorem GL.wfs {s : Grp} {r : RG} {k : Nat} (h : GL s r k) (hk : k ≤ 1000) : wfS s.gs := by
  have hl : s.gs.length = r.L.length := by
    have h1 := congrArg List.length h.names
    unfold sortS at h1
    simp only [List.length_map, List.length_mergeSort] at h1
    exact h1
  refine ⟨h.gk, by have := h.lens; omega, fun e he => ?_⟩
  obtain ⟨n, e1⟩ := keyS_of (h.kd e he)
  obtain ⟨g, hg, rfl⟩ := h.on n e.2 (by rw [← e1]; exact mget_of_mem h.gk he)
  have := (h.big g hg).1
  rw [e1]
  simp only [keyStr]
  unfold maxLen
  have e2 : g.name.data.toList.length = g.name.size := by rw [Array.length_toList]; rfl
  rw [e2]
  omega
end Go.Proofs.Ytihajdkipkfiiaa

/- YtihajdkipkfiiaaGoC -/
/- GroupOne: the functions that it calls. -/
namespace Go.Proofs.Ytihajdkipkfiiaa
open Go Go.RowKit
set_option linter.unusedVariables false
set_option linter.unusedSimpArgs false
set_option linter.unnecessarySimpa false
set_option maxHeartbeats 0

/-- A group's members, rising. -/
def memL (s : Grp) (name : ByteArray) : List Int := match mget s.gs (.s name) with
  | some x => sortI x.2
  | none => []
def memOk (s : Grp) (name : ByteArray) : Prop := ∃ x, mget s.gs (.s name) = some x ∧ wfI x.2
/-- Members, of a group that is there. -/
def membersC : Ctr := fun args hs N => match args with
  | [.ptr l b 0, .str name] => match nth hs l with
    | some ⟨.blk b', .adt (σ := σ') p s⟩ => b' = b ∧ ∃ h : σ' = Grp, AdtIs p grpE ∧ memOk (cast h s) name ∧
        ∀ ao cap, N (snoc hs ⟨.sl ao cap, .vecL 3 1 encI1 (memL (cast h s) name) 0⟩) (.vec (lenN hs) ao (memL (cast h s) name).length cap)
    | _ => False
  | _ => False
def gTm0 : Tbl := [(96, inl Try.prog [] true Try.f96 100), (80, srtIC 110 3)]
def gTm : Tbl := (73, inl Try.prog gTm0 true Try.f73 200) :: gTm0
/-- reveillehelp.Ints, where both rows are the same. -/
def intsC : Ctr := fun args hs N => match args with
  | [.vec l ao n cap, .vec l' ao' n' cap'] => ∃ xs : List Int, nth hs l = some ⟨.sl ao cap, .vecL 3 1 encI1 xs 0⟩ ∧ nth hs l' = some ⟨.sl ao' cap', .vecL 3 1 encI1 xs 0⟩ ∧ (Nat.beq l l' = false ∧ n = xs.length ∧ n' = xs.length ∧ xs.length ≤ 1000000) ∧ N hs (.bool true)
  | _ => False
def goT : Tbl := (12, trueC) :: (18, membersC) :: (17, intsC) :: gTb
end Go.Proofs.Ytihajdkipkfiiaa

/- YtihajdkipkfiiaaGpC -/
/- GroupPlays: its calls. -/
namespace Go.Proofs.Ytihajdkipkfiiaa
open Go Go.RowKit
set_option linter.unusedVariables false
set_option linter.unusedSimpArgs false
set_option linter.unnecessarySimpa false
set_option maxHeartbeats 0

/-- A call of the groups. -/
structure Step9 where
  (what pid : Int) (name : ByteArray)
def encStep9 (s : Step9) : List SV := [.int .i64 s.what, .int .i64 s.pid, .str s.name]
def Step9.zero : Step9 := ⟨0, 0, ⟨#[]⟩⟩
/-- What is known of a row. -/
def good9 (W : World) (x : Step9) : Prop := (Lit.int .i64 x.pid).wf = true
def facts9 (bs : List Step9) : Ent := ⟨.blk 0, .pred fun W c => c = [] ∧ ∀ x ∈ bs, good9 W x⟩
/-- The walk through the groups, held against the document's. -/
def allGC : Ctr := fun args hs N => match args with
  | [.func (.func g) [] [.ptr lo bo 0, .ptr la ba 0, .ptr lr br 0], .ptr lb bx 0] => g = 69 ∧ ∃ (s : Grp) (r : RG) (k lg bg lR bR : Nat), nth hs lo = some ⟨.blk bo, .cells [.bool true] 4⟩ ∧ nth hs la = some ⟨.blk ba, .cells [.int .i64 0] 3⟩ ∧ nth hs lr = some ⟨.blk br, .cells [.ptr lR bR 0] 100⟩ ∧
      nth hs lR = some (pkA bR rgE r) ∧ nth hs lb = some ⟨.blk bx, .cells [.ptr lg bg 0] 25⟩ ∧ nth hs lg = some (pkA bg grpE s) ∧ distinct [lg, lb, lo, la, lr, lR] = true ∧ (GL s r k ∧ k ≤ 1000) ∧ N (setN hs la ⟨.blk ba, .cells [.int .i64 (r.L.length : Int)] 3⟩) (.tuple [])
  | _ => False
def gpT : Tbl := (12, trueC) :: (17, intsC) :: (59, adtC rgE rmakeM) :: (61, adtC rgE rremoveM) :: (62, adtC rgE rputM) :: (63, adtC rgE rgoneM) :: (64, adtC rgE remptiedM) :: (66, adtC rgE rofM) :: (67, rmembersC) :: (65, adtC grpE gofM) :: (18, membersNC) :: (68, inl Try.prog [] true Try.f68 100) :: (93, allGC) :: gTb
end Go.Proofs.Ytihajdkipkfiiaa

