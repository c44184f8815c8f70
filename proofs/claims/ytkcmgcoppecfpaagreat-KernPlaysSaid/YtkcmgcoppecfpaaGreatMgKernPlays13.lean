import Derived.Test.YtkcmgcoppecfpaaGreatMgKernPlays9
import Derived.Test.YtkcmgcoppecfpaaGreatMgKernPlays6
import Derived.Test.YtkcmgcoppecfpaaGreatMgKernPlays12
import Derived.Test.YtkcmgcoppecfpaaGreatMgKernPlays7
import Derived.Test.YtkcmgcoppecfpaaGreatMgKernPlays11
set_option linter.unusedVariables false
set_option linter.unusedSimpArgs false
set_option linter.unnecessarySimpa false
set_option maxHeartbeats 0
set_option maxRecDepth 100000
/- GroupPlays: the groups and the document's groups go together (plain law). -/
namespace Go.Proofs.YtkcmgcoppecfpaaGreat
open Go Go.RowKit Go.Maps Go.Sort Go.Shelf

/-! ### Texts by their order -/
theorem toListG (x : ByteArray) : x.toList = x.data.toList := ByteArray.toList_eq x
theorem baExt {a b : ByteArray} (h : a.data.toList = b.data.toList) : a = b := by
  cases a; cases b
  simp only [ByteArray.mk.injEq]
  exact Array.ext' h
theorem sEqG (a b : ByteArray) : sEq a b = true ↔ a = b := by
  constructor
  · intro h
    simp only [sEq, beq_iff_eq] at h
    rw [toListG, toListG] at h
    exact baExt h
  · rintro rfl; simp [sEq]
theorem sEqGF (a b : ByteArray) : sEq a b = false ↔ a ≠ b := by rw [← Bool.not_eq_true, sEqG]
theorem bLess : ∀ (x y : List UInt8), Op.bytesLess x y = decide (x < y)
  | [], [] => by simp [Op.bytesLess]
  | _ :: _, [] => by simp [Op.bytesLess]
  | [], _ :: _ => by simp [Op.bytesLess]
  | a :: x, b :: y => by
    rw [Op.bytesLess, bLess x y, Bool.eq_iff_iff]
    simp [List.cons_lt_cons_iff]
theorem sLtG (a b : ByteArray) : sLt a b = decide (a.data.toList < b.data.toList) := by rw [sLt, bLess, toListG, toListG]
theorem sLt_irr (a : ByteArray) : sLt a a = false := by rw [sLtG]; simp [List.lt_irrefl]
theorem sLt_trans {a b c : ByteArray} (h1 : sLt a b = true) (h2 : sLt b c = true) : sLt a c = true := by
  rw [sLtG, decide_eq_true_eq] at *
  exact List.lt_trans h1 h2
theorem sLt_tri {a b : ByteArray} (h1 : sLt a b = false) (h2 : sLt b a = false) : a = b := by
  rw [sLtG, decide_eq_false_iff_not] at *
  exact baExt (List.le_antisymm (List.not_lt.1 h2) (List.not_lt.1 h1))
theorem keyS (a b : ByteArray) : keyEq (.s a) (.s b) = decide (a = b) := by
  rw [Bool.eq_iff_iff, decide_eq_true_eq]
  simp only [keyEq]
  exact bytes_beq _ _
theorem mget_str {β : Type} {es : List (Key × β)} (a b : ByteArray) (u : β) : mget (mset es (.s a) u) (.s b) = if b = a then some u else mget es (.s b) := by
  by_cases hab : b = a
  · subst hab; rw [if_pos rfl, mget_mset (keyEq_self _)]
  · rw [if_neg hab, mget_mset_ne (by rw [keyS]; simp [hab])]
/-! ### Where a name stands -/
def AscN (L : List RGrp) : Prop := L.Pairwise fun a b => sLt a.name b.name = true
theorem rAt_parts (L : List RGrp) (n : ByteArray) : L.take (rAt L n) = L.takeWhile (fun g => sLt g.name n) ∧ L.drop (rAt L n) = L.dropWhile (fun g => sLt g.name n) := by
  have h1 : L.take (rAt L n) = L.takeWhile (fun g => sLt g.name n) := (List.prefix_iff_eq_take.1 (List.takeWhile_prefix _)).symm
  refine ⟨h1, ?_⟩
  have h2 := List.take_append_drop (rAt L n) L
  have h3 := List.takeWhile_append_dropWhile (p := fun g : RGrp => sLt g.name n) (l := L)
  rw [h1] at h2
  exact List.append_cancel_left (h2.trans h3.symm)
theorem tw_all {L : List RGrp} {n : ByteArray} : ∀ g ∈ L.takeWhile (fun g => sLt g.name n), sLt g.name n = true := fun g hg => by
  have h1 : (L.takeWhile fun g => sLt g.name n).all (fun g => sLt g.name n) = true := List.all_takeWhile
  exact List.all_eq_true.1 h1 g hg
theorem dw_ge {n : ByteArray} : ∀ {L : List RGrp}, AscN L → ∀ g ∈ L.dropWhile (fun g => sLt g.name n), sLt g.name n = false
  | [], _, g, h => by cases h
  | x :: L, ha, g, h => by
    rw [List.dropWhile_cons] at h
    split at h
    · exact dw_ge (List.pairwise_cons.1 ha).2 g h
    · rename_i hc
      have hx : sLt x.name n = false := by simpa using hc
      rcases List.mem_cons.1 h with rfl | h
      · exact hx
      · have h1 := (List.pairwise_cons.1 ha).1 g h
        cases hq : sLt g.name n with
        | false => rfl
        | true => rw [sLt_trans h1 hq] at hx; cases hx
theorem rHas_split {L : List RGrp} {n : ByteArray} (ha : AscN L) (h : rHas L n = true) : ∃ L1 g L2, L = L1 ++ g :: L2 ∧ rAt L n = L1.length ∧ g.name = n ∧ (∀ x ∈ L1, x.name ≠ n) ∧ ∀ x ∈ L2, x.name ≠ n := by
  obtain ⟨p1, p2⟩ := rAt_parts L n
  unfold rHas at h
  simp only [Bool.and_eq_true, decide_eq_true_eq] at h
  obtain ⟨h1, h2⟩ := h
  have h3 : L.getD (rAt L n) zR = L[rAt L n] := by simp [List.getD, h1]
  rw [h3, sEqG] at h2
  refine ⟨L.take (rAt L n), L[rAt L n], L.drop (rAt L n + 1), ?_, by simp; omega, h2, fun x hx e => ?_, fun x hx e => ?_⟩
  · rw [List.getElem_cons_drop, List.take_append_drop]
  · rw [p1] at hx
    have := tw_all x hx
    rw [e, sLt_irr] at this; cases this
  · have hd : L.drop (rAt L n) = L[rAt L n] :: L.drop (rAt L n + 1) := (List.getElem_cons_drop h1).symm
    have hp : AscN (L.drop (rAt L n)) := List.Pairwise.sublist (List.drop_sublist _ _) ha
    rw [hd] at hp
    have := (List.pairwise_cons.1 hp).1 x hx
    rw [h2, e, sLt_irr] at this; cases this
theorem rHas_none {L : List RGrp} {n : ByteArray} (ha : AscN L) (h : rHas L n = false) : ∀ g ∈ L, g.name ≠ n := by
  intro g hg e
  obtain ⟨p1, p2⟩ := rAt_parts L n
  rw [← List.take_append_drop (rAt L n) L] at hg
  rcases List.mem_append.1 hg with hg | hg
  · rw [p1] at hg
    have := tw_all g hg
    rw [e, sLt_irr] at this; cases this
  · have hlt : rAt L n < L.length := by
      have := List.length_pos_of_mem hg
      simp at this; omega
    have hd : L.drop (rAt L n) = L[rAt L n] :: L.drop (rAt L n + 1) := (List.getElem_cons_drop hlt).symm
    have h3 : L.getD (rAt L n) zR = L[rAt L n] := by simp [List.getD, hlt]
    unfold rHas at h
    rw [decide_eq_true hlt, h3, Bool.true_and, sEqGF] at h
    have hge := dw_ge (n := n) ha
    rw [← p2] at hge
    have hf := hge L[rAt L n] (by rw [hd]; exact List.mem_cons_self)
    have hp : AscN (L.drop (rAt L n)) := List.Pairwise.sublist (List.drop_sublist _ _) ha
    rw [hd] at hg hp
    rcases List.mem_cons.1 hg with hg | hg
    · rw [hg] at e; exact h e
    · have h4 := (List.pairwise_cons.1 hp).1 g hg
      rw [e, hf] at h4; cases h4
theorem rHas_iff {L : List RGrp} {n : ByteArray} (ha : AscN L) : rHas L n = true ↔ ∃ g ∈ L, g.name = n := by
  constructor
  · intro h
    obtain ⟨L1, g, L2, rfl, _, e, _⟩ := rHas_split ha h
    exact ⟨g, by simp, e⟩
  · rintro ⟨g, hg, e⟩
    cases h : rHas L n with
    | true => rfl
    | false => exact absurd e (rHas_none ha h g hg)
theorem asc_uniq {L : List RGrp} (ha : AscN L) {g g' : RGrp} (h : g ∈ L) (h' : g' ∈ L) (e : g.name = g'.name) : g = g' := by
  induction L with
  | nil => cases h
  | cons x L ih =>
    have hc := List.pairwise_cons.1 ha
    rcases List.mem_cons.1 h with h1 | h1
    · rcases List.mem_cons.1 h' with h2 | h2
      · rw [h1, h2]
      · have := hc.1 g' h2
        rw [← h1, e, sLt_irr] at this; cases this
    · rcases List.mem_cons.1 h' with h2 | h2
      · have := hc.1 g h1
        rw [← h2, e, sLt_irr] at this; cases this
      · exact ih hc.2 h1 h2

/-! ### Members -/
structure MS (l : List Int) (ms : List (Key × Unit)) : Prop where
  ok : keysOk ms
  kd : ∀ e ∈ ms, ∃ p : Int, e.1 = .i .i64 p
  mem : ∀ p : Int, (∃ u, mget ms (.i .i64 p) = some u) ↔ p ∈ l
  asc : l.Pairwise (· < ·)
theorem MS.perm {l : List Int} {ms : List (Key × Unit)} (h : MS l ms) : (ms.map fun e => keyInt e.1).Perm l := by
  have hnd : (ms.map fun e => keyInt e.1).Nodup := by
    unfold List.Nodup
    rw [List.pairwise_map]
    refine List.Pairwise.imp_of_mem ?_ h.ok
    intro a b ha hb hab e
    obtain ⟨p, e1⟩ := h.kd a ha
    obtain ⟨q, e2⟩ := h.kd b hb
    rw [e1, e2, key_int] at hab
    rw [e1, e2] at e
    simp only [keyInt] at e
    simp [e] at hab
  refine (List.perm_ext_iff_of_nodup hnd (h.asc.imp (by intro a b h; omega))).2 fun x => ?_
  rw [← h.mem]
  constructor
  · intro hx
    obtain ⟨e, he, rfl⟩ := List.mem_map.1 hx
    obtain ⟨p, e1⟩ := h.kd e he
    refine ⟨e.2, ?_⟩
    rw [e1]
    simp only [keyInt]
    rw [← e1]
    exact mget_of_mem h.ok he
  · rintro ⟨u, hu⟩
    obtain ⟨k', h2, h3⟩ := mget_mem hu
    refine List.mem_map.2 ⟨(k', u), h2, ?_⟩
    obtain ⟨p', e1⟩ := h.kd _ h2
    dsimp only at e1
    rw [e1, key_int] at h3
    dsimp only
    rw [e1]
    simp only [keyInt]
    simpa [eq_comm] using h3
theorem MS.sort {l : List Int} {ms : List (Key × Unit)} (h : MS l ms) : sortI ms = l := by
  unfold sortI
  rw [mergeSort_of_perm_i h.perm]
  refine List.mergeSort_of_pairwise ?_
  exact h.asc.imp fun {x y} h => by simp [leI]; omega
theorem MS.len {l : List Int} {ms : List (Key × Unit)} (h : MS l ms) : ms.length = l.length := by
  have := h.perm.length_eq
  simpa using this
theorem MS.del {l : List Int} {ms : List (Key × Unit)} (h : MS l ms) (p : Int) : MS (l.filter fun q => q != p) (mdel ms (.i .i64 p)) := by
  refine ⟨keysOk_mdel h.ok, fun e he => h.kd e (mem_mdel he), fun q => ?_, h.asc.sublist List.filter_sublist⟩
  rw [mget_pid h.ok, List.mem_filter, ← h.mem]
  by_cases hq : q = p
  · subst hq; simp
  · rw [if_neg hq]; simp [hq]
theorem insI_asc {l : List Int} (h : l.Pairwise (· < ·)) {p : Int} (hp : p ∉ l) : (insI l p).Pairwise (· < ·) := by
  have hd : ∀ {l : List Int}, l.Pairwise (· < ·) → ∀ y ∈ l.dropWhile (fun x => decide (x < p)), p ≤ y := by
    intro l
    induction l with
    | nil => intro _ y hy; cases hy
    | cons x l ih =>
      intro h y hy
      rw [List.dropWhile_cons] at hy
      split at hy
      · exact ih (List.pairwise_cons.1 h).2 y hy
      · rename_i hc
        have hx : p ≤ x := by simpa using hc
        rcases List.mem_cons.1 hy with rfl | hy
        · exact hx
        · have := (List.pairwise_cons.1 h).1 y hy
          omega
  have ht : ∀ y ∈ l.takeWhile (fun x => decide (x < p)), y < p := fun y hy => by
    have h1 : (l.takeWhile fun x => decide (x < p)).all (fun x => decide (x < p)) = true := List.all_takeWhile
    simpa using List.all_eq_true.1 h1 y hy
  have hd2 : ∀ y ∈ l.dropWhile (fun x => decide (x < p)), p < y := fun y hy => by
    have h1 := hd h y hy
    have h2 : y ≠ p := fun e => hp (e ▸ (List.dropWhile_suffix _).subset hy)
    omega
  unfold insI
  refine List.pairwise_append.2 ⟨h.sublist (List.takeWhile_sublist _), List.pairwise_cons.2 ⟨hd2, h.sublist (List.dropWhile_sublist _)⟩, fun a ha b hb => ?_⟩
  rcases List.mem_cons.1 hb with rfl | hb
  · exact ht a ha
  · have h1 := ht a ha
    have h2 := hd2 b hb
    omega
theorem mem_insI {l : List Int} {p q : Int} : q ∈ insI l p ↔ q = p ∨ q ∈ l := by
  unfold insI
  have h3 := List.takeWhile_append_dropWhile (p := fun x : Int => decide (x < p)) (l := l)
  rw [List.mem_append, List.mem_cons]
  constructor
  · rintro (h | h | h)
    · exact .inr ((List.takeWhile_prefix _).subset h)
    · exact .inl h
    · exact .inr ((List.dropWhile_suffix _).subset h)
  · rintro (h | h)
    · exact .inr (.inl h)
    · rw [← h3] at h
      rcases List.mem_append.1 h with h | h
      · exact .inl h
      · exact .inr (.inr h)
theorem insI_len (l : List Int) (p : Int) : (insI l p).length = l.length + 1 := by
  have := congrArg List.length (List.takeWhile_append_dropWhile (p := fun x : Int => decide (x < p)) (l := l))
  unfold insI
  simp only [List.length_append, List.length_cons] at this ⊢
  omega
theorem MS.ins {l : List Int} {ms : List (Key × Unit)} (h : MS l ms) {p : Int} (hp : p ∉ l) : MS (insI l p) (mset ms (.i .i64 p) ()) := by
  refine ⟨keysOk_mset h.ok, fun e he => ?_, fun q => ?_, insI_asc h.asc hp⟩
  · rcases mem_mset he with rfl | he
    · exact ⟨p, rfl⟩
    · exact h.kd e he
  · rw [mget_pidS, mem_insI, ← h.mem]
    by_cases hq : q = p
    · subst hq; simp
    · rw [if_neg hq]; simp [hq]

/-! ### The groups and the document's -/
structure GL (s : Grp) (r : RG) (k : Nat) : Prop where
  asc : AscN r.L
  ex : ∀ g ∈ r.L, ∃ x, mget s.gs (.s g.name) = some x ∧ MS g.pids x.2
  on : ∀ n x, mget s.gs (.s n) = some x → ∃ g ∈ r.L, g.name = n
  big : ∀ g ∈ r.L, g.name.size ≤ 100 ∧ g.pids.length ≤ k ∧ ∀ p ∈ g.pids, (Lit.int .i64 p).wf = true
  gk : keysOk s.gs
  kd : ∀ e ∈ s.gs, keyKind e.1 = none
  ofk : keysOk s.of
  of : ∀ p n, mget s.of (.i .i64 p) = some n ↔ ∃ g ∈ r.L, g.name = n ∧ p ∈ g.pids
  nt : s.notes = r.notes
  nd : ∀ n ∈ r.notes, ∃ g ∈ r.L, g.name = n
  lens : r.L.length ≤ k ∧ r.notes.length ≤ k
theorem GL.uniq {s : Grp} {r : RG} {k : Nat} (h : GL s r k) {g g' : RGrp} {p : Int} (hg : g ∈ r.L) (hg' : g' ∈ r.L) (hp : p ∈ g.pids) (hp' : p ∈ g'.pids) : g = g' := by
  have h1 := (h.of p g.name).2 ⟨g, hg, rfl, hp⟩
  have h2 := (h.of p g'.name).2 ⟨g', hg', rfl, hp'⟩
  rw [h1] at h2
  exact asc_uniq h.asc hg hg' (Option.some.inj h2)
theorem GL.rof {s : Grp} {r : RG} {k : Nat} (h : GL s r k) (p : Int) : rOf r.L p = mget s.of (.i .i64 p) := by
  unfold rOf
  cases hf : r.L.find? (fun g => g.pids.contains p) with
  | none =>
    rw [List.find?_eq_none] at hf
    cases hm : mget s.of (.i .i64 p) with
    | none => rfl
    | some n =>
      obtain ⟨g, hg, _, hp⟩ := (h.of p n).1 hm
      exact absurd (List.contains_iff_mem.2 hp) (hf g hg)
  | some g =>
    have h1 := List.mem_of_find?_eq_some hf
    have h2 := List.find?_some hf
    exact ((h.of p g.name).2 ⟨g, h1, rfl, List.contains_iff_mem.1 h2⟩).symm
theorem GL.has {s : Grp} {r : RG} {k : Nat} (h : GL s r k) (n : ByteArray) : rHas r.L n = (mget s.gs (.s n)).isSome := by
  rw [Bool.eq_iff_iff, rHas_iff h.asc, Option.isSome_iff_exists]
  constructor
  · rintro ⟨g, hg, rfl⟩
    obtain ⟨x, hx, _⟩ := h.ex g hg
    exact ⟨x, hx⟩
  · rintro ⟨x, hx⟩
    exact h.on n x hx
theorem GL.rok {s : Grp} {r : RG} {k : Nat} (h : GL s r k) (hk : k ≤ 1000) : rOk r := ⟨by have := h.lens; omega, by have := h.lens; omega, fun g hg => by have := (h.big g hg).2.1; omega⟩
theorem GL.ratok {s : Grp} {r : RG} {k : Nat} (h : GL s r k) (p : Int) : rAtOk r.L p := by
  intro n hn
  rw [h.rof p] at hn
  obtain ⟨g, hg, e, _⟩ := (h.of p n).1 hn
  exact (rHas_iff h.asc).2 ⟨g, hg, e⟩
theorem GL.gok {s : Grp} {r : RG} {k : Nat} (h : GL s r k) (hk : k ≤ 1000) (p : Int) : gOk s p := by
  refine ⟨by rw [h.nt]; have := h.lens; omega, fun n hn => ?_⟩
  obtain ⟨g, hg, rfl, _⟩ := (h.of p n).1 hn
  obtain ⟨x, hx, _⟩ := h.ex g hg
  exact ⟨x, hx⟩
theorem GL.empty (bg bo : Nat) : GL ⟨bg, bo, none, 0, [], [], []⟩ ⟨none, 0, [], none, 0, []⟩ 0 := by
  refine ⟨List.Pairwise.nil, ?_, ?_, ?_, List.Pairwise.nil, ?_, List.Pairwise.nil, ?_, rfl, ?_, by simp⟩ <;> simp [mget]
theorem GL.of_same {s : Grp} {r : RG} {k k' : Nat} (h : GL s r k) (hk : k ≤ k') (a : Option Addr) (c : Nat) (aoL : Option Addr) (capL : Nat) (aoN : Option Addr) (capN : Nat) : GL { s with ao := a, cap := c } { r with aoL := aoL, capL := capL, aoN := aoN, capN := capN } k' :=
  ⟨h.asc, h.ex, h.on, fun g hg => ⟨(h.big g hg).1, by have := (h.big g hg).2.1; omega, (h.big g hg).2.2⟩, h.gk, h.kd, h.ofk, h.of, h.nt, h.nd, by have := h.lens; dsimp only; omega⟩
theorem GL.mono {s : Grp} {r : RG} {k k' : Nat} (h : GL s r k) (hk : k ≤ k') : GL s r k' := h.of_same hk s.ao s.cap r.aoL r.capL r.aoN r.capN

theorem GL.upd {s : Grp} {r : RG} {k k' : Nat} (h : GL s r k) (hk : k ≤ k') {L1 L2 : List RGrp} {g : RGrp} (hs : r.L = L1 ++ g :: L2) {x : GSet} (hx : mget s.gs (.s g.name) = some x) {l : List Int} {ms : List (Key × Unit)} (hm : MS l ms)
    (hl : l.length ≤ k' ∧ ∀ p ∈ l, (Lit.int .i64 p).wf = true) {of' : List (Key × ByteArray)} (hofk : keysOk of') (hof : ∀ p n, mget of' (.i .i64 p) = some n ↔ (∃ g' ∈ L1 ++ L2, g'.name = n ∧ p ∈ g'.pids) ∨ (g.name = n ∧ p ∈ l))
    {nt : List ByteArray} (hnd : ∀ n ∈ nt, ∃ g ∈ r.L, g.name = n) (hnl : nt.length ≤ k') (ao ao' : Option Addr) (cap cap' : Nat) (aoN : Option Addr) (capN : Nat) (aoG : Option Addr) (capG : Nat) :
    GL { s with gs := mset s.gs (.s g.name) (x.1, ms), of := of', notes := nt, ao := ao, cap := cap } { r with L := L1 ++ { g with pids := l, ao := aoG, cap := capG } :: L2, notes := nt, aoN := aoN, capN := capN } k' := by
  have hmem : ∀ y, y ∈ L1 ++ { g with pids := l, ao := aoG, cap := capG } :: L2 ↔ y = { g with pids := l, ao := aoG, cap := capG } ∨ y ∈ L1 ++ L2 := fun y => by simp [or_left_comm]
  have hold : ∀ y ∈ L1 ++ L2, y ∈ r.L := fun y hy => by rw [hs]; simp at hy ⊢; rcases hy with h | h <;> simp [h]
  have hga : g ∈ r.L := by rw [hs]; simp
  have hne : ∀ y ∈ L1 ++ L2, y.name ≠ g.name := fun y hy e => by
    have ha := h.asc
    rw [hs] at ha
    have h1 := List.pairwise_append.1 ha
    rcases List.mem_append.1 hy with hy | hy
    · have := h1.2.2 y hy g List.mem_cons_self
      rw [e, sLt_irr] at this; cases this
    · have := (List.pairwise_cons.1 h1.2.1).1 y hy
      rw [e, sLt_irr] at this; cases this
  refine ⟨?_, fun y hy => ?_, fun n z hz => ?_, fun y hy => ?_, keysOk_mset h.gk, fun e he => ?_, hofk, fun p n => ?_, rfl, fun n hn => ?_, ?_⟩
  · have ha := h.asc
    unfold AscN at ha ⊢
    rw [hs] at ha
    simp only [List.pairwise_append, List.pairwise_cons, List.mem_cons, forall_eq_or_imp] at ha ⊢
    exact ha
  · rcases (hmem y).1 hy with rfl | hy
    · exact ⟨(x.1, ms), by dsimp only; rw [mget_str, if_pos rfl], hm⟩
    · obtain ⟨z, hz, hzm⟩ := h.ex y (hold y hy)
      exact ⟨z, by dsimp only; rw [mget_str, if_neg (hne y hy)]; exact hz, hzm⟩
  · dsimp only at hz ⊢
    rw [mget_str] at hz
    by_cases hn : n = g.name
    · exact ⟨_, (hmem _).2 (.inl rfl), hn.symm⟩
    · rw [if_neg hn] at hz
      obtain ⟨y, hy, e⟩ := h.on n z hz
      refine ⟨y, (hmem y).2 (.inr ?_), e⟩
      rw [hs] at hy
      simp only [List.mem_append, List.mem_cons] at hy ⊢
      rcases hy with hy | rfl | hy
      · exact .inl hy
      · exact absurd e.symm hn
      · exact .inr hy
  · rcases (hmem y).1 hy with rfl | hy
    · exact ⟨(h.big g hga).1, hl⟩
    · have := h.big y (hold y hy)
      exact ⟨this.1, by omega, this.2.2⟩
  · rcases mem_mset he with rfl | he
    · rfl
    · exact h.kd e he
  · dsimp only
    rw [hof p n]
    constructor
    · rintro (⟨y, hy, e⟩ | ⟨e, hp⟩)
      · exact ⟨y, (hmem y).2 (.inr hy), e⟩
      · exact ⟨_, (hmem _).2 (.inl rfl), e, hp⟩
    · rintro ⟨y, hy, e, hp⟩
      rcases (hmem y).1 hy with rfl | hy
      · exact .inr ⟨e, hp⟩
      · exact .inl ⟨y, hy, e, hp⟩
  · obtain ⟨y, hy, e⟩ := hnd n hn
    dsimp only
    rw [hs] at hy
    simp only [List.mem_append, List.mem_cons] at hy
    rcases hy with hy | rfl | hy
    · exact ⟨y, by simp [hy], e⟩
    · exact ⟨_, (hmem _).2 (.inl rfl), e⟩
    · exact ⟨y, by simp [hy], e⟩
  · have h1 := h.lens.1
    rw [hs] at h1
    simp only [List.length_append, List.length_cons] at h1 ⊢
    exact ⟨by omega, hnl⟩

theorem any_note {l : List ByteArray} (n : ByteArray) : decide (idxFrom (sEq n) l 0 ≥ 0) = l.any fun x => sEq x n := by
  cases hc : l.any fun x => sEq x n with
  | false =>
    rw [List.any_eq_false] at hc
    have h1 := (idxFrom_none (sEq n) l 0 (by omega)).2 fun x hx => by
      have := hc x hx
      rw [Bool.not_eq_true, sEqGF] at this
      rw [sEqGF]
      exact fun e => this e.symm
    rw [h1]; rfl
  | true =>
    obtain ⟨x, hx, he⟩ := List.any_eq_true.1 hc
    rw [sEqG] at he
    subst he
    have hne : ¬ idxFrom (sEq x) l 0 = -1 := fun e => by
      have := (idxFrom_none (sEq x) l 0 (by omega)).1 e x hx
      rw [sEqGF] at this
      exact this rfl
    rcases idxFrom_lt (sEq x) l 0 with h | ⟨h, _⟩
    · exact absurd h hne
    · exact decide_eq_true h
theorem rSet_split {L1 L2 : List RGrp} {g : RGrp} (l : List Int) (ao : Option Addr) (cap : Nat) : rSet (L1 ++ g :: L2) L1.length l ao cap = L1 ++ { g with pids := l, ao := ao, cap := cap } :: L2 ∧ (L1 ++ g :: L2).getD L1.length zR = g := by
  have h1 : (L1 ++ g :: L2).getD L1.length zR = g := by simp [List.getD]
  refine ⟨?_, h1⟩
  unfold rSet
  rw [h1, List.set_append_right _ _ (Nat.le_refl _)]
  simp

theorem GL.gone {s : Grp} {r : RG} {k : Nat} (h : GL s r k) (p : Int) (ao : Option Addr) (cap : Nat) (aoG : Option Addr) (capG : Nat) (aoN : Option Addr) (capN : Nat) :
    (gGone s p ao cap).2 = (rGone r p aoG capG aoN capN).2 ∧ GL (gGone s p ao cap).1 (rGone r p aoG capG aoN capN).1 (k + 1) ∧ ((gGone s p ao cap).2 = true → ∀ n, mget (gGone s p ao cap).1.of (.i .i64 p) ≠ some n) ∧ (∀ g ∈ (rGone r p aoG capG aoN capN).1.L, g.pids.length ≤ k) := by
  unfold gGone rGone
  rw [h.rof p]
  cases hm : mget s.of (.i .i64 p) with
  | none => exact ⟨rfl, h.mono (Nat.le_succ k), (fun e => by cases e), fun g hg => (h.big g hg).2.1⟩
  | some n =>
    obtain ⟨g0, hg0, rfl, hp0⟩ := (h.of p n).1 hm
    have hh : rHas r.L g0.name = true := (rHas_iff h.asc).2 ⟨g0, hg0, rfl⟩
    obtain ⟨L1, g, L2, hs, hat, hn, hn1, hn2⟩ := rHas_split h.asc hh
    have hgm : g ∈ r.L := by rw [hs]; simp
    have hge : g0 = g := asc_uniq h.asc hg0 hgm hn.symm
    subst hge
    obtain ⟨x, hx, hms⟩ := h.ex g0 hgm
    obtain ⟨e1, e2⟩ := rSet_split (L1 := L1) (L2 := L2) (g := g0) (g0.pids.filter fun q => q != p) aoG capG
    have hgd : r.L.getD (rAt r.L g0.name) zR = g0 := by rw [hat, hs, e2]
    have hrs : rSet r.L (rAt r.L g0.name) (g0.pids.filter fun q => q != p) aoG capG = L1 ++ { g0 with pids := g0.pids.filter fun q => q != p, ao := aoG, cap := capG } :: L2 := by rw [hat, hs, e1]
    simp only [hx, hgd, hrs]
    have hms' := hms.del p
    have hlen : ((mdel x.2 (.i .i64 p)).length == 0) = ((g0.pids.filter fun q => q != p).length == 0) := by rw [hms'.len]
    rw [hlen, any_note, h.nt]
    have hfl := List.length_filter_le (fun q => q != p) g0.pids
    have hb := h.big g0 hgm
    have other : ∀ y ∈ L1 ++ L2, p ∉ y.pids := fun y hy hpy => by
      have hy' : y ∈ r.L := by rw [hs]; simp at hy ⊢; rcases hy with h | h <;> simp [h]
      have := h.uniq hy' hgm hpy hp0
      subst this
      rcases List.mem_append.1 hy with h1 | h1
      · exact hn1 _ h1 rfl
      · exact hn2 _ h1 rfl
    have main : ∀ (nt : List ByteArray) (ao : Option Addr) (cap : Nat) (aoN : Option Addr) (capN : Nat), (∀ n ∈ nt, ∃ g ∈ r.L, g.name = n) → nt.length ≤ k + 1 →
        GL { s with gs := mset s.gs (.s g0.name) (x.1, mdel x.2 (.i .i64 p)), of := mdel s.of (.i .i64 p), notes := nt, ao := ao, cap := cap } { r with L := L1 ++ { g0 with pids := g0.pids.filter fun q => q != p, ao := aoG, cap := capG } :: L2, notes := nt, aoN := aoN, capN := capN } (k + 1) := fun nt ao cap aoN capN q1 q2 =>
      h.upd (Nat.le_succ k) hs hx hms' ⟨by omega, fun q hq => hb.2.2 q (List.mem_filter.1 hq).1⟩ (keysOk_mdel h.ofk) (fun q n => by
        rw [mget_pid h.ofk]
        by_cases hq : q = p
        · subst hq
          rw [if_pos rfl]
          constructor
          · intro e; cases e
          · rintro (⟨y, hy, _, hpy⟩ | ⟨_, hpy⟩)
            · exact absurd hpy (other y hy)
            · simp at hpy
        · rw [if_neg hq, h.of q n, hs]
          constructor
          · rintro ⟨y, hy, e, hqy⟩
            simp only [List.mem_append, List.mem_cons] at hy
            rcases hy with hy | rfl | hy
            · exact .inl ⟨y, by simp [hy], e, hqy⟩
            · exact .inr ⟨e, by simp [hqy, hq]⟩
            · exact .inl ⟨y, by simp [hy], e, hqy⟩
          · rintro (⟨y, hy, e, hqy⟩ | ⟨e, hqy⟩)
            · exact ⟨y, by simp at hy ⊢; rcases hy with h | h <;> simp [h], e, hqy⟩
            · exact ⟨g0, by simp, e, (List.mem_filter.1 hqy).1⟩) q1 q2 ao none cap 0 aoN capN aoG capG
    have small : ∀ g ∈ L1 ++ { g0 with pids := g0.pids.filter fun q => q != p, ao := aoG, cap := capG } :: L2, g.pids.length ≤ k := fun y hy => by
      simp only [List.mem_append, List.mem_cons] at hy
      rcases hy with hy | rfl | hy
      · exact (h.big y (by rw [hs]; simp [hy])).2.1
      · dsimp only; omega
      · exact (h.big y (by rw [hs]; simp [hy])).2.1
    have gone : ∀ n, mget (mdel s.of (.i .i64 p)) (.i .i64 p) ≠ some n := fun n e => by rw [mget_mdel h.ofk] at e; cases e
    cases hc : ((g0.pids.filter fun q => q != p).length == 0) && !(r.notes.any fun x => sEq x g0.name) with
    | true =>
      refine ⟨rfl, main _ _ _ _ _ (fun n hn => ?_) ?_, fun _ => gone, small⟩
      · rcases List.mem_append.1 hn with hn | hn
        · exact h.nd n hn
        · exact ⟨g0, hgm, (List.mem_singleton.1 hn).symm⟩
      · have := h.lens.2; simp; omega
    | false =>
      refine ⟨rfl, ?_, fun _ => gone, small⟩
      have := main r.notes s.ao s.cap r.aoN r.capN h.nd (by have := h.lens.2; omega)
      dsimp only
      exact this
theorem GL.put {s : Grp} {r : RG} {k : Nat} (h : GL s r k) (p : Int) (hp : (Lit.int .i64 p).wf = true) (n : ByteArray) (ao : Option Addr) (cap : Nat) (ao1 : Option Addr) (cap1 : Nat) (aoN : Option Addr) (capN : Nat) (aoG : Option Addr) (capG : Nat) :
    (gPut s p n ao cap).2 = (rPut r p n ao1 cap1 aoN capN aoG capG).2 ∧ GL (gPut s p n ao cap).1 (rPut r p n ao1 cap1 aoN capN aoG capG).1 (k + 1) := by
  unfold gPut rPut
  rw [h.has n]
  cases hx : mget s.gs (.s n) with
  | none => exact ⟨rfl, h.mono (Nat.le_succ k)⟩
  | some x =>
    simp only [Option.isSome_some, Bool.not_true, Bool.false_or]
    cases hd : decide (p < 2) with
    | true => exact ⟨rfl, h.mono (Nat.le_succ k)⟩
    | false =>
      obtain ⟨g, hg, rfl⟩ := h.on n x hx
      obtain ⟨x', hx', hms⟩ := h.ex g hg
      rw [hx] at hx'
      obtain rfl := Option.some.inj hx'
      have hin : rIn r.L p g.name = true ↔ p ∈ g.pids := by
        unfold rIn
        rw [h.rof p]
        constructor
        · intro e
          split at e
          · rename_i m hm
            rw [sEqG] at e
            subst e
            obtain ⟨g', hg', e', hpg⟩ := (h.of p _).1 hm
            rw [asc_uniq h.asc hg hg' e'.symm]; exact hpg
          · cases e
        · intro hpg
          rw [(h.of p g.name).2 ⟨g, hg, rfl, hpg⟩]
          exact (sEqG _ _).2 rfl
      dsimp only
      cases hm : mget x.2 (.i .i64 p) with
      | some u =>
        rw [hin.2 ((hms.mem p).1 ⟨u, hm⟩)]
        exact ⟨rfl, h.mono (Nat.le_succ k)⟩
      | none =>
        have hnp : p ∉ g.pids := fun e => by
          obtain ⟨u, hu⟩ := (hms.mem p).2 e
          rw [hm] at hu; cases hu
        have hf : rIn r.L p g.name = false := by
          rw [← Bool.not_eq_true, hin]; exact hnp
        rw [hf]
        obtain ⟨_, h1, h2, h3⟩ := h.gone p ao cap ao1 cap1 aoN capN
        have h4 : ∀ n, mget (gGone s p ao cap).1.of (.i .i64 p) ≠ some n := by
          cases hq : (gGone s p ao cap).2 with
          | true => exact h2 hq
          | false =>
            intro n hn
            cases hmo : mget s.of (.i .i64 p) with
            | none =>
              have e : gGone s p ao cap = (s, false) := by simp only [gGone, hmo]
              rw [e, hmo] at hn; cases hn
            | some m =>
              obtain ⟨g', hg', rfl, _⟩ := (h.of p m).1 hmo
              obtain ⟨x', hx', _⟩ := h.ex g' hg'
              have : (gGone s p ao cap).2 = true := by
                simp only [gGone, hmo, hx']
                split <;> rfl
              rw [this] at hq; cases hq
        have hnames : ∃ g' ∈ (rGone r p ao1 cap1 aoN capN).1.L, g'.name = g.name := by
          have : (mget (gGone s p ao cap).1.gs (.s g.name)).isSome = true := by
            have hq := h.gone p ao cap ao1 cap1 aoN capN
            unfold gGone
            cases hmo : mget s.of (.i .i64 p) with
            | none => simp only; rw [hx]; rfl
            | some m =>
              obtain ⟨g', hg', rfl, _⟩ := (h.of p m).1 hmo
              obtain ⟨x', hx', _⟩ := h.ex g' hg'
              simp only [hx']
              have : (mget (mset s.gs (.s g'.name) (x'.1, mdel x'.2 (.i .i64 p))) (.s g.name)).isSome = true := by
                rw [mget_str]
                split
                · rfl
                · rw [hx]; rfl
              split <;> exact this
          rw [← h1.has] at this
          exact (rHas_iff h1.asc).1 this
        generalize (gGone s p ao cap).1 = s1 at h1 h4
        generalize (rGone r p ao1 cap1 aoN capN).1 = r1 at h1 h3 hnames
        have hh : rHas r1.L g.name = true := (rHas_iff h1.asc).2 hnames
        obtain ⟨L1, g1, L2, hs, hat, hn, hn1, hn2⟩ := rHas_split h1.asc hh
        have hgm : g1 ∈ r1.L := by rw [hs]; simp
        obtain ⟨y, hy, hmy⟩ := h1.ex g1 hgm
        rw [hn] at hy
        simp only [hy]
        refine ⟨trivial, ?_⟩
        have hnp1 : p ∉ g1.pids := fun e => h4 g1.name ((h1.of p _).2 ⟨g1, hgm, rfl, e⟩)
        obtain ⟨e1, e2⟩ := rSet_split (L1 := L1) (L2 := L2) (g := g1) (insI g1.pids p) aoG capG
        have hgd : r1.L.getD (rAt r1.L g.name) zR = g1 := by rw [hat, hs, e2]
        unfold rPut2
        rw [hgd, hat, hs, e1]
        have hb := h1.big g1 hgm
        have h3' := h3 g1 hgm
        have hres := h1.upd (k' := k + 1) (Nat.le_refl _) hs (x := y) (by rw [hn]; exact hy) (hmy.ins hnp1) ⟨by rw [insI_len]; omega, fun q hq => by
            rcases mem_insI.1 hq with rfl | hq
            · exact hp
            · exact hb.2.2 q hq⟩ (of' := mset s1.of (.i .i64 p) g.name) (keysOk_mset h1.ofk) (fun q n => by
            rw [mget_pidS]
            by_cases hq : q = p
            · subst hq
              rw [if_pos rfl]
              constructor
              · intro e
                right
                exact ⟨by rw [hn]; exact Option.some.inj e, mem_insI.2 (.inl rfl)⟩
              · rintro (⟨z, hz, _, hpz⟩ | ⟨e, _⟩)
                · exact absurd ((h1.of q z.name).2 ⟨z, by rw [hs]; simp at hz ⊢; rcases hz with h | h <;> simp [h], rfl, hpz⟩) (h4 _)
                · rw [← e, hn]
            · rw [if_neg hq, h1.of q n, hs]
              constructor
              · rintro ⟨z, hz, e, hqz⟩
                simp only [List.mem_append, List.mem_cons] at hz
                rcases hz with hz | rfl | hz
                · exact .inl ⟨z, by simp [hz], e, hqz⟩
                · exact .inr ⟨e, mem_insI.2 (.inr hqz)⟩
                · exact .inl ⟨z, by simp [hz], e, hqz⟩
              · rintro (⟨z, hz, e, hqz⟩ | ⟨e, hqz⟩)
                · exact ⟨z, by simp at hz ⊢; rcases hz with h | h <;> simp [h], e, hqz⟩
                · rcases mem_insI.1 hqz with h | h
                  · exact absurd h hq
                  · exact ⟨g1, by simp, e, h⟩)
          (nt := s1.notes) (by rw [h1.nt]; exact h1.nd) (by rw [h1.nt]; have := h1.lens.2; omega) s1.ao none s1.cap 0 r1.aoN r1.capN aoG capG
        rw [← hn] at hres ⊢
        have e3 : ({ r1 with L := L1 ++ { g1 with pids := insI g1.pids p, ao := aoG, cap := capG } :: L2, notes := s1.notes, aoN := r1.aoN, capN := r1.capN } : RG) = { r1 with L := L1 ++ { g1 with pids := insI g1.pids p, ao := aoG, cap := capG } :: L2 } := by rw [h1.nt]
        rw [e3] at hres
        exact hres
theorem GL.make {s : Grp} {r : RG} {k : Nat} (h : GL s r k) (n : ByteArray) (hn : n.size ≤ 100) (nb : Nat) (ao : Option Addr) (cap : Nat) : (gMake s n nb).2 = (rMake r n ao cap).2 ∧ GL (gMake s n nb).1 (rMake r n ao cap).1 (k + 1) := by
  unfold gMake rMake
  cases he : sEq n ⟨#[]⟩ with
  | true => exact ⟨rfl, h.mono (Nat.le_succ k)⟩
  | false =>
    rw [h.has n]
    cases hx : mget s.gs (.s n) with
    | some x => exact ⟨rfl, h.mono (Nat.le_succ k)⟩
    | none =>
      refine ⟨rfl, ?_⟩
      simp only [Option.isSome_none]
      have hno : ∀ g ∈ r.L, g.name ≠ n := by
        refine rHas_none h.asc ?_
        rw [h.has n, hx]; rfl
      obtain ⟨p1, p2⟩ := rAt_parts r.L n
      have hmem : ∀ y, y ∈ r.L.take (rAt r.L n) ++ ⟨n, none, 0, []⟩ :: r.L.drop (rAt r.L n) ↔ y = ⟨n, none, 0, []⟩ ∨ y ∈ r.L := fun y => by
        have h5 := List.take_append_drop (rAt r.L n) r.L
        rw [← h5, h5]
        constructor
        · intro hy
          rcases List.mem_append.1 hy with hy | hy
          · exact .inr (List.mem_of_mem_take hy)
          · rcases List.mem_cons.1 hy with hy | hy
            · exact .inl hy
            · exact .inr (List.mem_of_mem_drop hy)
        · rintro (hy | hy)
          · simp [hy]
          · rw [← h5] at hy
            rcases List.mem_append.1 hy with hy | hy
            · exact List.mem_append_left _ hy
            · exact List.mem_append_right _ (List.mem_cons_of_mem _ hy)
      have hnil : MS [] ([] : List (Key × Unit)) := ⟨List.Pairwise.nil, by simp, by simp [mget], List.Pairwise.nil⟩
      refine ⟨?_, fun y hy => ?_, fun m z hz => ?_, fun y hy => ?_, keysOk_mset h.gk, fun e he => ?_, h.ofk, fun p m => ?_, h.nt, fun m hm => ?_, ?_⟩
      · unfold AscN
        dsimp only
        rw [p1, p2]
        have ha := h.asc
        unfold AscN at ha
        refine List.pairwise_append.2 ⟨ha.sublist (List.takeWhile_sublist _), List.pairwise_cons.2 ⟨fun y hy => ?_, ha.sublist (List.dropWhile_sublist _)⟩, fun a hA b hb => ?_⟩
        · have h6 := dw_ge h.asc y hy
          cases h7 : sLt n y.name with
          | true => rfl
          | false => exact absurd (sLt_tri h6 h7) (hno y ((List.dropWhile_suffix _).subset hy))
        · have h6 := tw_all a hA
          rcases List.mem_cons.1 hb with rfl | hb
          · exact h6
          · have h8 := dw_ge h.asc b hb
            cases h7 : sLt n b.name with
            | true => exact sLt_trans h6 h7
            | false => exact absurd (sLt_tri h8 h7) (hno b ((List.dropWhile_suffix _).subset hb))
      · rcases (hmem y).1 hy with rfl | hy
        · exact ⟨(nb, []), by dsimp only; rw [mget_str, if_pos rfl], hnil⟩
        · obtain ⟨z, hz, hzm⟩ := h.ex y hy
          exact ⟨z, by dsimp only; rw [mget_str, if_neg (hno y hy)]; exact hz, hzm⟩
      · dsimp only at hz ⊢
        rw [mget_str] at hz
        by_cases hm : m = n
        · exact ⟨_, (hmem _).2 (.inl rfl), hm.symm⟩
        · rw [if_neg hm] at hz
          obtain ⟨y, hy, e⟩ := h.on m z hz
          exact ⟨y, (hmem y).2 (.inr hy), e⟩
      · rcases (hmem y).1 hy with rfl | hy
        · exact ⟨hn, by simp, by simp⟩
        · have := h.big y hy
          exact ⟨this.1, by omega, this.2.2⟩
      · rcases mem_mset he with rfl | he
        · rfl
        · exact h.kd e he
      · dsimp only
        rw [h.of p m]
        constructor
        · rintro ⟨y, hy, e⟩
          exact ⟨y, (hmem y).2 (.inr hy), e⟩
        · rintro ⟨y, hy, e, hp⟩
          rcases (hmem y).1 hy with rfl | hy
          · simp at hp
          · exact ⟨y, hy, e, hp⟩
      · obtain ⟨y, hy, e⟩ := h.nd m hm
        exact ⟨y, (hmem y).2 (.inr hy), e⟩
      · have h5 := congrArg List.length (List.take_append_drop (rAt r.L n) r.L)
        have := h.lens
        simp only [List.length_append, List.length_cons] at h5 ⊢
        omega
theorem GL.first {s : Grp} {r : RG} {k : Nat} (h : GL s r k) : ∀ l : List ByteArray, (∀ n ∈ l, ∃ g ∈ r.L, g.name = n) → firstEmpty s.gs l = rFirst r.L l
  | [], _ => rfl
  | n :: l, hn => by
    obtain ⟨g0, hg0, rfl⟩ := hn n List.mem_cons_self
    have hh : rHas r.L g0.name = true := (rHas_iff h.asc).2 ⟨g0, hg0, rfl⟩
    obtain ⟨L1, g, L2, hs, hat, e, hn1, hn2⟩ := rHas_split h.asc hh
    have hgm : g ∈ r.L := by rw [hs]; simp
    have := asc_uniq h.asc hg0 hgm e.symm
    subst this
    obtain ⟨x, hx, hms⟩ := h.ex g0 hgm
    have hgd : r.L.getD (rAt r.L g0.name) zR = g0 := by rw [hat, hs]; simp [List.getD]
    have ih := h.first l fun n hm => hn n (List.mem_cons_of_mem _ hm)
    simp only [firstEmpty, rFirst, hx, hh, hgd, Bool.true_and, hms.len]
    cases hl : g0.pids.length with
    | zero => rfl
    | succ m => simpa using ih
theorem rFirst_sub (L : List RGrp) : ∀ l : List ByteArray, (∀ n ∈ (rFirst L l).1, n ∈ l) ∧ (rFirst L l).1.length ≤ l.length
  | [] => ⟨fun n h => h, Nat.le_refl _⟩
  | n :: l => by
    have ih := rFirst_sub L l
    unfold rFirst
    split
    · exact ⟨fun m h => List.mem_cons_of_mem _ h, by simp⟩
    · exact ⟨fun m h => List.mem_cons_of_mem _ (ih.1 m h), by have := ih.2; simp only [List.length_cons]; omega⟩
theorem GL.emptied {s : Grp} {r : RG} {k : Nat} (h : GL s r k) (ao : Option Addr) (cap : Nat) (aoN : Option Addr) (capN : Nat) : (gEmptied s ao cap).2 = (rFirst r.L r.notes).2 ∧ GL (gEmptied s ao cap).1 { r with notes := (rFirst r.L r.notes).1, aoN := aoN, capN := capN } (k + 1) := by
  have e := h.first r.notes h.nd
  unfold gEmptied
  rw [h.nt, e]
  refine ⟨rfl, h.asc, h.ex, h.on, fun g hg => ⟨(h.big g hg).1, by have := (h.big g hg).2.1; omega, (h.big g hg).2.2⟩, h.gk, h.kd, h.ofk, h.of, rfl, fun n hn => h.nd n ((rFirst_sub _ _).1 n hn), ?_⟩
  have := h.lens
  have h2 := (rFirst_sub r.L r.notes).2
  dsimp only
  omega
theorem GL.mem {s : Grp} {r : RG} {k : Nat} (h : GL s r k) (n : ByteArray) : memG s n = rMem r.L n := by
  unfold memG rMem
  rw [h.has n]
  cases hx : mget s.gs (.s n) with
  | none => rfl
  | some x =>
    have hh : rHas r.L n = true := by rw [h.has n, hx]; rfl
    obtain ⟨L1, g, L2, hs, hat, rfl, hn1, hn2⟩ := rHas_split h.asc hh
    have hgm : g ∈ r.L := by rw [hs]; simp
    obtain ⟨x', hx', hms⟩ := h.ex g hgm
    rw [hx] at hx'
    obtain rfl := Option.some.inj hx'
    have hgd : r.L.getD (rAt r.L g.name) zR = g := by rw [hat, hs]; simp [List.getD]
    simp only [Option.isSome_some, hgd, hms.sort]
theorem GL.memok {s : Grp} {r : RG} {k : Nat} (h : GL s r k) (hk : k ≤ 1000) (n : ByteArray) : ∀ x, mget s.gs (.s n) = some x → wfI x.2 := by
  intro x hx
  obtain ⟨g, hg, rfl⟩ := h.on n x hx
  obtain ⟨x', hx', hms⟩ := h.ex g hg
  rw [hx] at hx'
  obtain rfl := Option.some.inj hx'
  have hb := h.big g hg
  refine ⟨hms.ok, by rw [hms.len]; omega, fun e he => ?_⟩
  obtain ⟨p, e1⟩ := hms.kd e he
  have hp : p ∈ g.pids := (hms.mem p).1 ⟨e.2, by rw [← e1]; exact mget_of_mem hms.ok he⟩
  rw [e1]
  exact hb.2.2 p hp
theorem keyS_of {k : Key} (h : keyKind k = none) : ∃ n, k = .s n := by
  cases k with
  | i a b => cases h
  | s n => exact ⟨n, rfl⟩
theorem ofB_data (n : ByteArray) : ofB n.data.toList = n := by
  unfold ofB
  simp
theorem GL.names {s : Grp} {r : RG} {k : Nat} (h : GL s r k) : sortS s.gs = r.L.map (·.name) := by
  have hnd : (s.gs.map fun e => keyStr e.1).Nodup := by
    unfold List.Nodup
    rw [List.pairwise_map]
    refine List.Pairwise.imp_of_mem ?_ h.gk
    intro a b ha hb hab e
    obtain ⟨p, e1⟩ := keyS_of (h.kd a ha)
    obtain ⟨q, e2⟩ := keyS_of (h.kd b hb)
    rw [e1, e2, keyS] at hab
    rw [e1, e2] at e
    simp only [keyStr] at e
    simp [baExt e] at hab
  have hasc : (r.L.map fun g => g.name.data.toList).Pairwise (· < ·) := by
    rw [List.pairwise_map]
    exact h.asc.imp fun {a b} hq => by rw [sLtG, decide_eq_true_eq] at hq; exact hq
  have hperm : (s.gs.map fun e => keyStr e.1).Perm (r.L.map fun g => g.name.data.toList) := by
    refine (List.perm_ext_iff_of_nodup hnd (hasc.imp fun {a b} hq e => by subst e; exact List.lt_irrefl _ hq)).2 fun x => ?_
    constructor
    · intro hx
      obtain ⟨e, he, rfl⟩ := List.mem_map.1 hx
      obtain ⟨n, e1⟩ := keyS_of (h.kd e he)
      obtain ⟨g, hg, rfl⟩ := h.on n e.2 (by rw [← e1]; exact mget_of_mem h.gk he)
      refine List.mem_map.2 ⟨g, hg, ?_⟩
      rw [e1]; rfl
    · intro hx
      obtain ⟨g, hg, rfl⟩ := List.mem_map.1 hx
      obtain ⟨x, hx, _⟩ := h.ex g hg
      obtain ⟨k', h2, h3⟩ := mget_mem hx
      refine List.mem_map.2 ⟨(k', x), h2, ?_⟩
      obtain ⟨n, e1⟩ := keyS_of (h.kd _ h2)
      dsimp only at e1 ⊢
      rw [e1, keyS, decide_eq_true_eq] at h3
      rw [e1, h3]; rfl
  unfold sortS
  rw [mergeSort_of_perm hperm, List.mergeSort_of_pairwise, List.map_map]
  · refine List.map_congr_left fun g _ => ?_
    exact ofB_data _
  · exact hasc.imp fun {x y} hq => by
      show leB x y = true
      simp only [leB, decide_eq_true_eq]
      exact List.le_of_lt hq
theorem GL.wfs {s : Grp} {r : RG} {k : Nat} (h : GL s r k) (hk : k ≤ 1000) : wfS s.gs := by
  have hl : s.gs.length = r.L.length := by
    have h1 := congrArg List.length h.names
    unfold sortS at h1
    simp only [List.length_map, List.length_mergeSort] at h1
    exact h1
  refine ⟨h.gk, by have := h.lens; omega, fun e he => ?_⟩
  obtain ⟨n, e1⟩ := keyS_of (h.kd e he)
  obtain ⟨g, hg, rfl⟩ := h.on n e.2 (by rw [← e1]; exact mget_of_mem h.gk he)
  have := (h.big g hg).1
  rw [e1]
  simp only [keyStr]
  unfold maxLen
  have e2 : g.name.data.toList.length = g.name.size := by rw [Array.length_toList]; rfl
  rw [e2]
  omega
end Go.Proofs.YtkcmgcoppecfpaaGreat

/- The kernel's processes and groups go together (plain law). -/
namespace Go.Proofs.YtkcmgcoppecfpaaGreat
open Go Go.RowKit

theorem getP_mem {ps : List (Nat × PR)} (ha : ps.Pairwise fun x y => x.2.pid < y.2.pid) {x : Nat × PR} (hx : x ∈ ps) : getP ps x.2.pid = some x := by
  obtain ⟨l1, l2, rfl⟩ := List.append_of_mem hx
  unfold getP
  rw [List.find?_eq_some_iff_append]
  refine ⟨by simp, l1, l2, rfl, fun y hy => ?_⟩
  have := (List.pairwise_append.1 ha).2.2 y hy x List.mem_cons_self
  simp; omega
theorem getP_of {ps : List (Nat × PR)} {p : Int} {x : Nat × PR} (h : getP ps p = some x) : x ∈ ps ∧ x.2.pid = p := by
  unfold getP at h
  exact ⟨List.mem_of_find?_eq_some h, by simpa using List.find?_some h⟩
theorem pGet_mem {pt : PT} (ho : pOk pt) {x : Nat × PR} (hx : x ∈ pt.ps) : pGet pt x.2.pid = x.2 ∧ pHas pt x.2.pid = true := by
  unfold pGet pHas
  rw [getP_mem ho.asc hx]
  exact ⟨rfl, rfl⟩
theorem pLive_iff {pt : PT} (ho : pOk pt) (p : Int) : pLive pt p = true ↔ ∃ x ∈ pt.ps, x.2.pid = p ∧ x.2.zombie = false := by
  unfold pLive
  rw [Bool.and_eq_true, Bool.not_eq_true']
  constructor
  · rintro ⟨h1, h2⟩
    unfold pHas at h1
    obtain ⟨x, hx⟩ := Option.isSome_iff_exists.1 h1
    obtain ⟨q1, q2⟩ := getP_of hx
    refine ⟨x, q1, q2, ?_⟩
    unfold pGet at h2
    rw [hx] at h2
    exact h2
  · rintro ⟨x, hx, rfl, hz⟩
    obtain ⟨q1, q2⟩ := pGet_mem ho hx
    rw [q1]
    exact ⟨q2, hz⟩

structure KH (pt : PT) (gr : Grp) (r : RG) (k : Nat) : Prop where
  gl : GL gr r k
  pi : PI pt (k + 1)
  ne : ∀ g ∈ r.L, g.name ≠ ⟨#[]⟩
  mem : ∀ g ∈ r.L, ∀ p ∈ g.pids, p ≠ 1 ∧ ∃ x ∈ pt.ps, x.2.pid = p ∧ x.2.zombie = false ∧ x.2.group = g.name
  liv : ∀ x ∈ pt.ps, x.2.zombie = false → x.2.pid ≠ 1 → ∃ g ∈ r.L, g.name = x.2.group ∧ x.2.pid ∈ g.pids
theorem KH.up {pt : PT} {gr : Grp} {r : RG} {k k' : Nat} (h : KH pt gr r k) (hk : k ≤ k') : KH pt gr r k' := ⟨h.gl.mono hk, h.pi.up (by omega), h.ne, h.mem, h.liv⟩
theorem sE_ne {n : ByteArray} (h : n ≠ ⟨#[]⟩) : sEq n ⟨#[]⟩ = false := (sEqGF _ _).2 h

theorem put_fresh {s : Grp} {r : RG} {k : Nat} (h : GL s r k) {p : Int} {n : ByteArray} (hf : ∀ g ∈ r.L, p ∉ g.pids) (hn : ∃ g ∈ r.L, g.name = n) (hp : 2 ≤ p) (ao1 : Option Addr) (cap1 : Nat) (aoN : Option Addr) (capN : Nat) (aoG : Option Addr) (capG : Nat) :
    (rPut r p n ao1 cap1 aoN capN aoG capG).2 = 0 ∧ (rPut r p n ao1 cap1 aoN capN aoG capG).1.notes = r.notes ∧
    ∃ L1 g L2, r.L = L1 ++ g :: L2 ∧ g.name = n ∧ (rPut r p n ao1 cap1 aoN capN aoG capG).1.L = L1 ++ { g with pids := insI g.pids p, ao := aoG, cap := capG } :: L2 := by
  have hof : rOf r.L p = none := by
    unfold rOf
    rw [List.find?_eq_none.2 fun g hg hc => hf g hg (List.contains_iff_mem.1 hc)]
    rfl
  have hh : rHas r.L n = true := (rHas_iff h.asc).2 hn
  have hin : rIn r.L p n = false := by unfold rIn; rw [hof]
  have hg : (rGone r p ao1 cap1 aoN capN).1 = r := by unfold rGone; rw [hof]
  have hd : decide (p < 2) = false := decide_eq_false (by omega)
  unfold rPut
  rw [hh, hd, hin, hg]
  obtain ⟨L1, g, L2, hs, hat, e, _⟩ := rHas_split h.asc hh
  obtain ⟨e1, e2⟩ := rSet_split (L1 := L1) (L2 := L2) (g := g) (insI g.pids p) aoG capG
  refine ⟨rfl, rfl, L1, g, L2, hs, e, ?_⟩
  show (rPut2 r p n aoG capG).L = _
  unfold rPut2
  have hgd : r.L.getD (rAt r.L n) zR = g := by rw [hat, hs, e2]
  rw [hgd, hat, hs, e1]
theorem gone_in {s : Grp} {r : RG} {k : Nat} (h : GL s r k) {p : Int} {g : RGrp} (hg : g ∈ r.L) (hp : p ∈ g.pids) (ao : Option Addr) (cap : Nat) (aoN : Option Addr) (capN : Nat) :
    ∃ L1 L2, r.L = L1 ++ g :: L2 ∧ (rGone r p ao cap aoN capN).1.L = L1 ++ { g with pids := g.pids.filter fun q => q != p, ao := ao, cap := cap } :: L2 ∧
    (rGone r p ao cap aoN capN).1.notes = match ((g.pids.filter fun q => q != p).length == 0) && !(r.notes.any fun x => sEq x g.name) with | true => r.notes ++ [g.name] | false => r.notes := by
  have hof : rOf r.L p = some g.name := by rw [h.rof p]; exact (h.of p g.name).2 ⟨g, hg, rfl, hp⟩
  have hh : rHas r.L g.name = true := (rHas_iff h.asc).2 ⟨g, hg, rfl⟩
  obtain ⟨L1, g', L2, hs, hat, e, _⟩ := rHas_split h.asc hh
  have : g' = g := asc_uniq h.asc (by rw [hs]; simp) hg e
  subst this
  obtain ⟨e1, e2⟩ := rSet_split (L1 := L1) (L2 := L2) (g := g') (g'.pids.filter fun q => q != p) ao cap
  have hgd : r.L.getD (rAt r.L g'.name) zR = g' := by rw [hat, hs, e2]
  have hrs : rSet r.L (rAt r.L g'.name) (g'.pids.filter fun q => q != p) ao cap = L1 ++ { g' with pids := g'.pids.filter fun q => q != p, ao := ao, cap := cap } :: L2 := by rw [hat, hs, e1]
  refine ⟨L1, L2, hs, ?_⟩
  unfold rGone
  rw [hof]
  dsimp only
  rw [hgd, hrs]
  cases ((g'.pids.filter fun q => q != p).length == 0) && !(r.notes.any fun x => sEq x g'.name) <;> exact ⟨rfl, rfl⟩
theorem KH.add {pt : PT} {gr : Grp} {r : RG} {k : Nat} (h : KH pt gr r k) (hk : k < 900) {x : PR} {nb : Nat} (hx : x.zombie = false) (hg : ∃ g ∈ r.L, g.name = x.group) (ao : Option Addr) (cap : Nat) :
    (gPut gr (pt.last + 1) x.group ao cap).2 = 0 ∧ KH { pt with ps := pt.ps ++ [(nb, { x with pid := pt.last + 1 })], last := pt.last + 1 } (gPut gr (pt.last + 1) x.group ao cap).1 (rPut r (pt.last + 1) x.group none 0 none 0 none 0).1 (k + 1) ∧
    (rPut r (pt.last + 1) x.group none 0 none 0 none 0).1.notes = r.notes ∧
    ∃ L1 g L2, r.L = L1 ++ g :: L2 ∧ g.name = x.group ∧ (rPut r (pt.last + 1) x.group none 0 none 0 none 0).1.L = L1 ++ { g with pids := insI g.pids (pt.last + 1), ao := none, cap := 0 } :: L2 := by
  have hl1 := h.pi.last1
  have hl2 := h.pi.last
  have hl3 := h.pi.len
  have hfr : ∀ g ∈ r.L, pt.last + 1 ∉ g.pids := fun g hg hp => by
    obtain ⟨_, y, hy, e, _⟩ := h.mem g hg _ hp
    have := (h.pi.ok.le y hy).2
    omega
  have hwf : (Lit.int .i64 (pt.last + 1)).wf = true := by
    simp only [Lit.wf, Bool.and_eq_true]
    exact ⟨decide_eq_true (show (-9223372036854775808 : Int) ≤ _ by omega), decide_eq_true (show _ ≤ (9223372036854775807 : Int) by omega)⟩
  obtain ⟨q1, q2⟩ := h.gl.put (pt.last + 1) hwf x.group ao cap none 0 none 0 none 0
  obtain ⟨p1, p2, L1, g, L2, hs, he, hL⟩ := put_fresh h.gl hfr hg (by omega) none 0 none 0 none 0
  refine ⟨by rw [q1, p1], ⟨q2, ?_, ?_, ?_, ?_⟩, p2, L1, g, L2, hs, he, hL⟩
  · have h0 := h.pi
    obtain ⟨y, hy, e1, e2⟩ := h.pi.root
    exact ⟨h.pi.ok.add (by omega) (by omega) (by omega) rfl nb, ⟨y, List.mem_append_left _ hy, e1, e2⟩, by dsimp only; omega, by simp; omega⟩
  · intro y hy
    rw [hL] at hy
    simp only [List.mem_append, List.mem_cons] at hy
    rcases hy with hy | rfl | hy
    · exact h.ne y (by rw [hs]; simp [hy])
    · exact h.ne g (by rw [hs]; simp)
    · exact h.ne y (by rw [hs]; simp [hy])
  · intro y hy p hp
    rw [hL] at hy
    simp only [List.mem_append, List.mem_cons] at hy
    have old : ∀ y ∈ r.L, ∀ p ∈ y.pids, p ≠ 1 ∧ ∃ z ∈ pt.ps ++ [(nb, { x with pid := pt.last + 1 })], z.2.pid = p ∧ z.2.zombie = false ∧ z.2.group = y.name := fun y hy p hp => by
      obtain ⟨a, z, hz, b⟩ := h.mem y hy p hp
      exact ⟨a, z, List.mem_append_left _ hz, b⟩
    rcases hy with hy | rfl | hy
    · exact old y (by rw [hs]; simp [hy]) p hp
    · rcases mem_insI.1 hp with rfl | hp
      · exact ⟨by omega, _, List.mem_append_right _ (List.mem_singleton.2 rfl), rfl, hx, he.symm⟩
      · exact old g (by rw [hs]; simp) p hp
    · exact old y (by rw [hs]; simp [hy]) p hp
  · intro z hz hzz hz1
    dsimp only at hz
    rw [hL]
    rcases List.mem_append.1 hz with hz | hz
    · obtain ⟨y, hy, e1, e2⟩ := h.liv z hz hzz hz1
      rw [hs] at hy
      simp only [List.mem_append, List.mem_cons] at hy
      rcases hy with hy | rfl | hy
      · exact ⟨y, by simp [hy], e1, e2⟩
      · exact ⟨{ y with pids := insI y.pids (pt.last + 1), ao := none, cap := 0 }, by simp, e1, mem_insI.2 (.inr e2)⟩
      · exact ⟨y, by simp [hy], e1, e2⟩
    · rw [List.mem_singleton.1 hz]
      exact ⟨{ g with pids := insI g.pids (pt.last + 1), ao := none, cap := 0 }, by simp, he, mem_insI.2 (.inl rfl)⟩
theorem KH.mapP {pt : PT} {gr : Grp} {r : RG} {k : Nat} (h : KH pt gr r k) (f : Nat × PR → Nat × PR) (hf : ∀ z, (f z).2.pid = z.2.pid ∧ (f z).2.zombie = z.2.zombie ∧ (f z).2.group = z.2.group) : KH { pt with ps := pt.ps.map f } gr r k := by
  refine ⟨h.gl, h.pi.mapP f (fun z => (hf z).1) (fun z h1 h2 => by rw [(hf z).2.1]; exact h2), h.ne, fun g hg p hp => ?_, fun z hz h1 h2 => ?_⟩
  · obtain ⟨a, z, hz, b1, b2, b3⟩ := h.mem g hg p hp
    exact ⟨a, f z, List.mem_map.2 ⟨z, hz, rfl⟩, by rw [(hf z).1]; exact b1, by rw [(hf z).2.1]; exact b2, by rw [(hf z).2.2]; exact b3⟩
  · obtain ⟨y, hy, rfl⟩ := List.mem_map.1 hz
    rw [(hf y).2.1] at h1
    rw [(hf y).1] at h2 ⊢
    rw [(hf y).2.2]
    exact h.liv y hy h1 h2
theorem KH.kill {pt : PT} {gr : Grp} {r : RG} {k : Nat} (h : KH pt gr r k) (p sig : Int) : KH (pKill pt p sig).1 gr r k := by
  have hs : ∀ g : PR → PR, (∀ r, (g r).pid = r.pid ∧ (g r).zombie = r.zombie ∧ (g r).group = r.group) → KH { pt with ps := setP pt.ps p g } gr r k := fun g hg => by
    unfold setP
    refine h.mapP _ fun z => ?_
    simp only [setOne]
    cases z.2.pid == p
    · exact ⟨rfl, rfl, rfl⟩
    · exact hg _
  unfold pKill
  cases pLive pt p && !(p == 1) with
  | false => exact h
  | true =>
    dsimp only
    cases sig == 15 with
    | true => exact hs _ fun r => ⟨rfl, rfl, rfl⟩
    | false =>
      cases sig == 9 with
      | true => exact hs _ fun r => ⟨rfl, rfl, rfl⟩
      | false => exact h
theorem KH.killAll {gr : Grp} {r : RG} {k : Nat} (sig : Int) : ∀ (ms : List Int) {pt : PT} (n : Int), KH pt gr r k → KH (ms.foldl (kgF sig) (pt, n)).1 gr r k
  | [], _, _, h => h
  | p :: ms, _, _, h => KH.killAll sig ms _ (h.kill p sig)
theorem pExit_live {pt : PT} {p st : Int} (h : (pLive pt p && !(p == 1)) = true) : pExit pt p st = ({ pt with ps := pt.ps.map fun x => ((setOne p (fun r => { r with zombie := true, status := stOf st }) x).1, orphan p (setOne p (fun r => { r with zombie := true, status := stOf st }) x).2) }, 0) := by
  unfold pExit
  rw [h]
  unfold setP
  dsimp only
  rw [List.map_map]
  rfl
theorem orph (p : Int) (r : PR) : (orphan p r).pid = r.pid ∧ (orphan p r).zombie = r.zombie ∧ (orphan p r).group = r.group ∧ (orphan p r).kill = r.kill := by
  unfold orphan
  cases r.parent == p <;> exact ⟨rfl, rfl, rfl, rfl⟩
theorem KH.exit {pt : PT} {gr : Grp} {r : RG} {k : Nat} (h : KH pt gr r k) {p : Int} (st : Int) (hl : (pLive pt p && !(p == 1)) = true) (ao : Option Addr) (cap : Nat) :
    KH (pExit pt p st).1 (gGone gr p ao cap).1 (rGone r p none 0 none 0).1 (k + 1) := by
  have hl2 := hl
  simp only [Bool.and_eq_true, Bool.not_eq_true', beq_eq_false_iff_ne, ne_eq] at hl2
  obtain ⟨x, hx, rfl, hz⟩ := (pLive_iff h.pi.ok p).1 hl2.1
  obtain ⟨g, hg, e1, e2⟩ := h.liv x hx hz hl2.2
  obtain ⟨_, q2, _⟩ := h.gl.gone x.2.pid ao cap none 0 none 0
  obtain ⟨L1, L2, hs, hL, _⟩ := gone_in h.gl hg e2 none 0 none 0
  have other : ∀ y ∈ r.L, x.2.pid ∈ y.pids → y = g := fun y hy hp => h.gl.uniq hy hg hp e2
  have hpi := (h.pi.up (m := k + 1 + 1) (by omega)).exit x.2.pid st
  rw [pExit_live hl] at hpi ⊢
  generalize hf : (fun z : Nat × PR => ((setOne x.2.pid (fun r => { r with zombie := true, status := stOf st }) z).1, orphan x.2.pid (setOne x.2.pid (fun r => { r with zombie := true, status := stOf st }) z).2)) = f at hpi ⊢
  have hfz : ∀ z, (f z).2.pid = z.2.pid ∧ (f z).2.group = z.2.group ∧ (f z).2.zombie = (z.2.zombie || z.2.pid == x.2.pid) := fun z => by
    subst hf
    dsimp only
    rw [(orph _ _).1, (orph _ _).2.1, (orph _ _).2.2.1]
    simp only [setOne]
    cases z.2.pid == x.2.pid
    · exact ⟨rfl, rfl, by simp⟩
    · exact ⟨rfl, rfl, by simp⟩
  refine ⟨q2, hpi, ?_, ?_, ?_⟩
  · intro y hy
    rw [hL] at hy
    simp only [List.mem_append, List.mem_cons] at hy
    rcases hy with hy | rfl | hy
    · exact h.ne y (by rw [hs]; simp [hy])
    · exact h.ne g hg
    · exact h.ne y (by rw [hs]; simp [hy])
  · intro y hy p hp
    rw [hL] at hy
    simp only [List.mem_append, List.mem_cons] at hy
    have old : ∀ y ∈ r.L, ∀ p ∈ y.pids, p ≠ x.2.pid → p ≠ 1 ∧ ∃ z ∈ pt.ps.map f, z.2.pid = p ∧ z.2.zombie = false ∧ z.2.group = y.name := fun y hy p hp hne => by
      obtain ⟨a, z, hz, b1, b2, b3⟩ := h.mem y hy p hp
      refine ⟨a, f z, List.mem_map.2 ⟨z, hz, rfl⟩, by rw [(hfz z).1]; exact b1, ?_, by rw [(hfz z).2.1]; exact b3⟩
      rw [(hfz z).2.2, b2, b1]
      simpa using hne
    have ha := h.gl.asc
    rcases hy with hy | rfl | hy
    · have hy' : y ∈ r.L := by rw [hs]; simp [hy]
      refine old y hy' p hp fun e => ?_
      subst e
      have e5 := other y hy' hp
      subst e5
      rw [hs] at ha
      have := (List.pairwise_append.1 ha).2.2 y hy y List.mem_cons_self
      rw [sLt_irr] at this; cases this
    · have h3 := List.mem_filter.1 hp
      exact old g hg p h3.1 (by simpa using h3.2)
    · have hy' : y ∈ r.L := by rw [hs]; simp [hy]
      refine old y hy' p hp fun e => ?_
      subst e
      have e5 := other y hy' hp
      subst e5
      rw [hs] at ha
      have := (List.pairwise_cons.1 (List.pairwise_append.1 ha).2.1).1 y hy
      rw [sLt_irr] at this; cases this
  · intro z hz h1 h2
    obtain ⟨y, hy, rfl⟩ := List.mem_map.1 hz
    rw [(hfz y).2.2, Bool.or_eq_false_iff] at h1
    rw [(hfz y).1] at h2 ⊢
    rw [(hfz y).2.1, hL]
    have hne : y.2.pid ≠ x.2.pid := by simpa using h1.2
    obtain ⟨u, hu, a1, a2⟩ := h.liv y hy h1.1 h2
    rw [hs] at hu
    simp only [List.mem_append, List.mem_cons] at hu
    rcases hu with hu | rfl | hu
    · exact ⟨u, by simp [hu], a1, a2⟩
    · exact ⟨{ u with pids := u.pids.filter fun q => q != x.2.pid, ao := none, cap := 0 }, by simp, a1, by simp [a2, hne]⟩
    · exact ⟨u, by simp [hu], a1, a2⟩
theorem KH.reap {pt : PT} {gr : Grp} {r : RG} {k : Nat} (h : KH pt gr r k) (p : Int) : KH (pReap pt p).1 gr r k := by
  have hpi := h.pi.reap p
  unfold pReap at hpi ⊢
  cases hd : deadOf pt p with
  | none => rw [hd] at hpi; exact h
  | some x =>
    rw [hd] at hpi
    dsimp only at hpi ⊢
    have h1 := List.find?_some hd
    have hx := List.mem_of_find?_eq_some hd
    simp only [Bool.and_eq_true] at h1
    refine ⟨h.gl, hpi, h.ne, fun g hg q hq => ?_, fun z hz => h.liv z (List.mem_filter.1 hz).1⟩
    obtain ⟨a, z, hz, b1, b2, b3⟩ := h.mem g hg q hq
    refine ⟨a, z, List.mem_filter.2 ⟨hz, ?_⟩, b1, b2, b3⟩
    rw [Bool.not_eq_true', beq_eq_false_iff_ne]
    intro e
    have e1 := getP_mem h.pi.ok.asc hz
    have e2 := getP_mem h.pi.ok.asc hx
    rw [e, e2] at e1
    have := Option.some.inj e1
    rw [← this, h1.1] at b2
    cases b2
theorem KH.of_iff {pt : PT} {gr : Grp} {r : RG} {k : Nat} (h : KH pt gr r k) {p : Int} (hp : p ≠ 1) : (mget gr.of (.i .i64 p)).isSome = (pHas pt p && !(pGet pt p).zombie) ∧ ∀ n, mget gr.of (.i .i64 p) = some n → n = (pGet pt p).group := by
  have hl : (pHas pt p && !(pGet pt p).zombie) = pLive pt p := rfl
  constructor
  · rw [hl, Bool.eq_iff_iff, pLive_iff h.pi.ok, Option.isSome_iff_exists]
    constructor
    · rintro ⟨n, hn⟩
      obtain ⟨g, hg, _, hq⟩ := (h.gl.of p n).1 hn
      obtain ⟨_, x, hx, e1, e2, _⟩ := h.mem g hg p hq
      exact ⟨x, hx, e1, e2⟩
    · rintro ⟨x, hx, rfl, hz⟩
      obtain ⟨g, hg, e1, e2⟩ := h.liv x hx hz hp
      exact ⟨g.name, (h.gl.of _ _).2 ⟨g, hg, rfl, e2⟩⟩
  · intro n hn
    obtain ⟨g, hg, e0, hq⟩ := (h.gl.of p n).1 hn
    obtain ⟨_, x, hx, e1, e2, e3⟩ := h.mem g hg p hq
    subst e1
    rw [(pGet_mem h.pi.ok hx).1, e3, e0]
theorem KH.gsok {pt : PT} {gr : Grp} {r : RG} {k : Nat} (h : KH pt gr r k) (hk : k ≤ 1000) : gsOk gr := by
  have hl : gr.gs.length = r.L.length := by
    have h1 := congrArg List.length h.gl.names
    unfold sortS at h1
    simp only [List.length_map, List.length_mergeSort] at h1
    exact h1
  refine ⟨h.gl.wfs hk, by have := h.gl.lens; omega, h.gl.kd, fun n x hx => ⟨h.gl.memok hk n x hx, ?_⟩⟩
  obtain ⟨g, hg, rfl⟩ := h.gl.on n x hx
  obtain ⟨x', hx', hms⟩ := h.gl.ex g hg
  rw [hx] at hx'
  obtain rfl := Option.some.inj hx'
  rw [hms.len]
  have := (h.gl.big g hg).2.1
  omega
theorem KH.there {pt : PT} {gr : Grp} {r : RG} {k : Nat} (h : KH pt gr r k) {n : ByteArray} (hn : ∃ g ∈ r.L, g.name = n) : (mget gr.gs (.s n)).isSome = true := by
  obtain ⟨g, hg, rfl⟩ := hn
  obtain ⟨x, hx, _⟩ := h.gl.ex g hg
  rw [hx]; rfl
theorem KH.root {pt : PT} {gr : Grp} {r : RG} {k : Nat} (h : KH pt gr r k) : pLive pt 1 = true := by
  obtain ⟨x, hx, e1, e2⟩ := h.pi.root
  exact (pLive_iff h.pi.ok 1).2 ⟨x, hx, e1, e2⟩
end Go.Proofs.YtkcmgcoppecfpaaGreat

/- KernPlays: what its calls keep (plain law). -/
namespace Go.Proofs.YtkcmgcoppecfpaaGreat
open Go Go.RowKit
theorem KH.addG {pt : PT} {gr : Grp} {r : RG} {k : Nat} (h : KH pt gr r k) (hk : k < 900) {x : PR} {nb : Nat} (hx : x.zombie = false) (hg : ∃ g ∈ r.L, g.name = x.group) (ao : Option Addr) (cap : Nat) (aA : Option Addr) (cA : Nat) (aN : Option Addr) (cN : Nat) (aG : Option Addr) (cG : Nat) :
    (gPut gr (pt.last + 1) x.group ao cap).2 = 0 ∧ KH { pt with ps := pt.ps ++ [(nb, { x with pid := pt.last + 1 })], last := pt.last + 1 } (gPut gr (pt.last + 1) x.group ao cap).1 (rPut r (pt.last + 1) x.group aA cA aN cN aG cG).1 (k + 1) ∧
    (rPut r (pt.last + 1) x.group aA cA aN cN aG cG).1.notes = r.notes ∧
    ∃ L1 g L2, r.L = L1 ++ g :: L2 ∧ g.name = x.group ∧ (rPut r (pt.last + 1) x.group aA cA aN cN aG cG).1.L = L1 ++ { g with pids := insI g.pids (pt.last + 1), ao := aG, cap := cG } :: L2 := by
  have hl1 := h.pi.last1
  have hl2 := h.pi.last
  have hl3 := h.pi.len
  have hfr : ∀ g ∈ r.L, pt.last + 1 ∉ g.pids := fun g hg hp => by
    obtain ⟨_, y, hy, e, _⟩ := h.mem g hg _ hp
    have := (h.pi.ok.le y hy).2
    omega
  have hwf : (Lit.int .i64 (pt.last + 1)).wf = true := by
    simp only [Lit.wf, Bool.and_eq_true]
    exact ⟨decide_eq_true (show (-9223372036854775808 : Int) ≤ _ by omega), decide_eq_true (show _ ≤ (9223372036854775807 : Int) by omega)⟩
  obtain ⟨q1, q2⟩ := h.gl.put (pt.last + 1) hwf x.group ao cap aA cA aN cN aG cG
  obtain ⟨p1, p2, L1, g, L2, hs, he, hL⟩ := put_fresh h.gl hfr hg (by omega) aA cA aN cN aG cG
  refine ⟨by rw [q1, p1], ⟨q2, ?_, ?_, ?_, ?_⟩, p2, L1, g, L2, hs, he, hL⟩
  · have h0 := h.pi
    obtain ⟨y, hy, e1, e2⟩ := h.pi.root
    exact ⟨h.pi.ok.add (by omega) (by omega) (by omega) rfl nb, ⟨y, List.mem_append_left _ hy, e1, e2⟩, by dsimp only; omega, by simp; omega⟩
  · intro y hy
    rw [hL] at hy
    simp only [List.mem_append, List.mem_cons] at hy
    rcases hy with hy | rfl | hy
    · exact h.ne y (by rw [hs]; simp [hy])
    · exact h.ne g (by rw [hs]; simp)
    · exact h.ne y (by rw [hs]; simp [hy])
  · intro y hy p hp
    rw [hL] at hy
    simp only [List.mem_append, List.mem_cons] at hy
    have old : ∀ y ∈ r.L, ∀ p ∈ y.pids, p ≠ 1 ∧ ∃ z ∈ pt.ps ++ [(nb, { x with pid := pt.last + 1 })], z.2.pid = p ∧ z.2.zombie = false ∧ z.2.group = y.name := fun y hy p hp => by
      obtain ⟨a, z, hz, b⟩ := h.mem y hy p hp
      exact ⟨a, z, List.mem_append_left _ hz, b⟩
    rcases hy with hy | rfl | hy
    · exact old y (by rw [hs]; simp [hy]) p hp
    · rcases mem_insI.1 hp with rfl | hp
      · exact ⟨by omega, _, List.mem_append_right _ (List.mem_singleton.2 rfl), rfl, hx, he.symm⟩
      · exact old g (by rw [hs]; simp) p hp
    · exact old y (by rw [hs]; simp [hy]) p hp
  · intro z hz hzz hz1
    dsimp only at hz
    rw [hL]
    rcases List.mem_append.1 hz with hz | hz
    · obtain ⟨y, hy, e1, e2⟩ := h.liv z hz hzz hz1
      rw [hs] at hy
      simp only [List.mem_append, List.mem_cons] at hy
      rcases hy with hy | rfl | hy
      · exact ⟨y, by simp [hy], e1, e2⟩
      · exact ⟨{ y with pids := insI y.pids (pt.last + 1), ao := aG, cap := cG }, by simp, e1, mem_insI.2 (.inr e2)⟩
      · exact ⟨y, by simp [hy], e1, e2⟩
    · rw [List.mem_singleton.1 hz]
      exact ⟨{ g with pids := insI g.pids (pt.last + 1), ao := aG, cap := cG }, by simp, he, mem_insI.2 (.inl rfl)⟩
theorem KH.exitG {pt : PT} {gr : Grp} {r : RG} {k : Nat} (h : KH pt gr r k) {p : Int} (st : Int) (hl : (pLive pt p && !(p == 1)) = true) (ao : Option Addr) (cap : Nat) (aA : Option Addr) (cA : Nat) (aN : Option Addr) (cN : Nat) :
    KH (pExit pt p st).1 (gGone gr p ao cap).1 (rGone r p aA cA aN cN).1 (k + 1) := by
  have hl2 := hl
  simp only [Bool.and_eq_true, Bool.not_eq_true', beq_eq_false_iff_ne, ne_eq] at hl2
  obtain ⟨x, hx, rfl, hz⟩ := (pLive_iff h.pi.ok p).1 hl2.1
  obtain ⟨g, hg, e1, e2⟩ := h.liv x hx hz hl2.2
  obtain ⟨_, q2, _⟩ := h.gl.gone x.2.pid ao cap aA cA aN cN
  obtain ⟨L1, L2, hs, hL, _⟩ := gone_in h.gl hg e2 aA cA aN cN
  have other : ∀ y ∈ r.L, x.2.pid ∈ y.pids → y = g := fun y hy hp => h.gl.uniq hy hg hp e2
  have hpi := (h.pi.up (m := k + 1 + 1) (by omega)).exit x.2.pid st
  rw [pExit_live hl] at hpi ⊢
  generalize hf : (fun z : Nat × PR => ((setOne x.2.pid (fun r => { r with zombie := true, status := stOf st }) z).1, orphan x.2.pid (setOne x.2.pid (fun r => { r with zombie := true, status := stOf st }) z).2)) = f at hpi ⊢
  have hfz : ∀ z, (f z).2.pid = z.2.pid ∧ (f z).2.group = z.2.group ∧ (f z).2.zombie = (z.2.zombie || z.2.pid == x.2.pid) := fun z => by
    subst hf
    dsimp only
    rw [(orph _ _).1, (orph _ _).2.1, (orph _ _).2.2.1]
    simp only [setOne]
    cases z.2.pid == x.2.pid
    · exact ⟨rfl, rfl, by simp⟩
    · exact ⟨rfl, rfl, by simp⟩
  refine ⟨q2, hpi, ?_, ?_, ?_⟩
  · intro y hy
    rw [hL] at hy
    simp only [List.mem_append, List.mem_cons] at hy
    rcases hy with hy | rfl | hy
    · exact h.ne y (by rw [hs]; simp [hy])
    · exact h.ne g hg
    · exact h.ne y (by rw [hs]; simp [hy])
  · intro y hy p hp
    rw [hL] at hy
    simp only [List.mem_append, List.mem_cons] at hy
    have old : ∀ y ∈ r.L, ∀ p ∈ y.pids, p ≠ x.2.pid → p ≠ 1 ∧ ∃ z ∈ pt.ps.map f, z.2.pid = p ∧ z.2.zombie = false ∧ z.2.group = y.name := fun y hy p hp hne => by
      obtain ⟨a, z, hz, b1, b2, b3⟩ := h.mem y hy p hp
      refine ⟨a, f z, List.mem_map.2 ⟨z, hz, rfl⟩, by rw [(hfz z).1]; exact b1, ?_, by rw [(hfz z).2.1]; exact b3⟩
      rw [(hfz z).2.2, b2, b1]
      simpa using hne
    have ha := h.gl.asc
    rcases hy with hy | rfl | hy
    · have hy' : y ∈ r.L := by rw [hs]; simp [hy]
      refine old y hy' p hp fun e => ?_
      subst e
      have e5 := other y hy' hp
      subst e5
      rw [hs] at ha
      have := (List.pairwise_append.1 ha).2.2 y hy y List.mem_cons_self
      rw [sLt_irr] at this; cases this
    · have h3 := List.mem_filter.1 hp
      exact old g hg p h3.1 (by simpa using h3.2)
    · have hy' : y ∈ r.L := by rw [hs]; simp [hy]
      refine old y hy' p hp fun e => ?_
      subst e
      have e5 := other y hy' hp
      subst e5
      rw [hs] at ha
      have := (List.pairwise_cons.1 (List.pairwise_append.1 ha).2.1).1 y hy
      rw [sLt_irr] at this; cases this
  · intro z hz h1 h2
    obtain ⟨y, hy, rfl⟩ := List.mem_map.1 hz
    rw [(hfz y).2.2, Bool.or_eq_false_iff] at h1
    rw [(hfz y).1] at h2 ⊢
    rw [(hfz y).2.1, hL]
    have hne : y.2.pid ≠ x.2.pid := by simpa using h1.2
    obtain ⟨u, hu, a1, a2⟩ := h.liv y hy h1.1 h2
    rw [hs] at hu
    simp only [List.mem_append, List.mem_cons] at hu
    rcases hu with hu | rfl | hu
    · exact ⟨u, by simp [hu], a1, a2⟩
    · exact ⟨{ u with pids := u.pids.filter fun q => q != x.2.pid, ao := aA, cap := cA }, by simp, a1, by simp [a2, hne]⟩
    · exact ⟨u, by simp [hu], a1, a2⟩
theorem pBegins_or2 (s : PT) (r : PR) (nb : Nat) : pBegins s r nb = (s, 0, 81) ∨ pBegins s r nb = ({ s with ps := s.ps ++ [(nb, { r with pid := s.last + 1 })], last := s.last + 1 }, s.last + 1, 0) := by
  unfold pBegins
  cases decide ((s.ps.length : Int) - 1 ≥ s.room)
  · exact .inr rfl
  · exact .inl rfl

theorem KH.spawnG {pt : PT} {gr : Grp} {r : RG} {k : Nat} (h : KH pt gr r k) (hk : k < 900) {n : ByteArray} (hn : rHas r.L n = true) (c : ByteArray) (nb : Nat) :
    pSpawn pt 1 n c nb = (pt, 0, 81) ∨ ∃ pt', pSpawn pt 1 n c nb = (pt', pt.last + 1, 0) ∧ ∀ ao cap aA cA aN cN aG cG, (gPut gr (pt.last + 1) n ao cap).2 = 0 ∧ KH pt' (gPut gr (pt.last + 1) n ao cap).1 (rPut r (pt.last + 1) n aA cA aN cN aG cG).1 (k + 1) := by
  unfold pSpawn
  rw [h.root]
  dsimp only
  rcases pBegins_or2 pt { PR.zero with parent := 1, group := n, cmd := c } nb with e | e
  · exact .inl e
  · refine .inr ⟨_, e, fun ao cap aA cA aN cN aG cG => ?_⟩
    obtain ⟨q1, q2, _⟩ := h.addG (x := { PR.zero with parent := 1, group := n, cmd := c }) (nb := nb) hk rfl ((rHas_iff h.gl.asc).1 hn) ao cap aA cA aN cN aG cG
    exact ⟨q1, q2⟩
theorem KH.forkG {pt : PT} {gr : Grp} {r : RG} {k : Nat} (h : KH pt gr r k) (hk : k < 900) (p : Int) (nb : Nat) :
    (∃ e, e ≠ 0 ∧ pFork pt p nb = (pt, 0, e)) ∨ ∃ pt' n, pFork pt p nb = (pt', pt.last + 1, 0) ∧ mget gr.of (.i .i64 p) = some n ∧ sEq n ⟨#[]⟩ = false ∧ (pGet pt' (pt.last + 1)).group = n ∧ ∀ ao cap aA cA aN cN aG cG, (gPut gr (pt.last + 1) n ao cap).2 = 0 ∧ KH pt' (gPut gr (pt.last + 1) n ao cap).1 (rPut r (pt.last + 1) n aA cA aN cN aG cG).1 (k + 1) := by
  unfold pFork
  cases hc : pLive pt p && !(p == 1) && !(pGet pt p).kill with
  | false => exact .inl ⟨80, by decide, rfl⟩
  | true =>
    dsimp only
    simp only [Bool.and_eq_true, Bool.not_eq_true', beq_eq_false_iff_ne, ne_eq] at hc
    obtain ⟨⟨h1, h2⟩, h3⟩ := hc
    have hi := h.of_iff h2
    have hl : (mget gr.of (.i .i64 p)).isSome = true := hi.1.trans h1
    obtain ⟨n, hn⟩ := Option.isSome_iff_exists.1 hl
    have hng := hi.2 n hn
    obtain ⟨g, hg, e0, hq⟩ := (h.gl.of p n).1 hn
    rcases pBegins_or2 pt { PR.zero with parent := p, group := (pGet pt p).group, cmd := (pGet pt p).cmd } nb with e | e
    · exact .inl ⟨81, by decide, e⟩
    · have key := fun ao cap aA cA aN cN aG cG => h.addG (x := { PR.zero with parent := p, group := (pGet pt p).group, cmd := (pGet pt p).cmd }) (nb := nb) hk rfl ⟨g, hg, e0.trans hng⟩ ao cap aA cA aN cN aG cG
      refine .inr ⟨_, n, e, hn, ?_, ?_, fun ao cap aA cA aN cN aG cG => ?_⟩
      · rw [← e0]; exact sE_ne (h.ne g hg)
      · have ho := (key none 0 none 0 none 0 none 0).2.1.pi.ok
        have := (pGet_mem ho (x := (nb, { ({ PR.zero with parent := p, group := (pGet pt p).group, cmd := (pGet pt p).cmd } : PR) with pid := pt.last + 1 })) (List.mem_append_right _ (List.mem_singleton.2 rfl))).1
        dsimp only at this
        rw [this, hng]
      · obtain ⟨q1, q2, _⟩ := key ao cap aA cA aN cN aG cG
        rw [hng]
        exact ⟨q1, q2⟩
theorem KH.exitO {pt : PT} {gr : Grp} {r : RG} {k : Nat} (h : KH pt gr r k) (p st : Int) :
    pExit pt p st = (pt, 80) ∨ ∃ pt', pExit pt p st = (pt', 0) ∧ ∀ ao cap aA cA aN cN, KH pt' (gGone gr p ao cap).1 (rGone r p aA cA aN cN).1 (k + 1) := by
  cases hl : pLive pt p && !(p == 1) with
  | false =>
    left
    unfold pExit
    rw [hl]
  | true =>
    right
    have e := pExit_live (st := st) hl
    refine ⟨_, e, fun ao cap aA cA aN cN => ?_⟩
    have hK := h.exitG st hl ao cap aA cA aN cN
    rw [e] at hK
    exact hK
theorem KH.makeG {pt : PT} {gr : Grp} {r : RG} {k : Nat} (h : KH pt gr r k) (n : ByteArray) (hn : n.size ≤ 100) (nb : Nat) (ao : Option Addr) (cap : Nat) : (gMake gr n nb).2 = (rMake r n ao cap).2 ∧ KH pt (gMake gr n nb).1 (rMake r n ao cap).1 (k + 1) := by
  obtain ⟨q1, q2⟩ := h.gl.make n hn nb ao cap
  have hL : (rMake r n ao cap).1.L = r.L ∨ (n ≠ ⟨#[]⟩ ∧ ∃ L1 L2, r.L = L1 ++ L2 ∧ (rMake r n ao cap).1.L = L1 ++ ⟨n, none, 0, []⟩ :: L2) := by
    unfold rMake
    cases he : sEq n ⟨#[]⟩ with
    | true => exact .inl rfl
    | false =>
      cases hh : rHas r.L n with
      | true => exact .inl rfl
      | false => exact .inr ⟨(sEqGF _ _).1 he, r.L.take (rAt r.L n), r.L.drop (rAt r.L n), (List.take_append_drop _ _).symm, rfl⟩
  refine ⟨q1, q2, h.pi.up (by omega), ?_, ?_, ?_⟩
  · rcases hL with e | ⟨hne, L1, L2, e1, e2⟩
    · rw [e]; exact h.ne
    · intro g hg
      rw [e2] at hg
      rcases List.mem_append.1 hg with hg | hg
      · exact h.ne g (by rw [e1]; exact List.mem_append_left _ hg)
      · rcases List.mem_cons.1 hg with rfl | hg
        · exact hne
        · exact h.ne g (by rw [e1]; exact List.mem_append_right _ hg)
  · rcases hL with e | ⟨hne, L1, L2, e1, e2⟩
    · rw [e]; exact h.mem
    · intro g hg p hp
      rw [e2] at hg
      rcases List.mem_append.1 hg with hg | hg
      · exact h.mem g (by rw [e1]; exact List.mem_append_left _ hg) p hp
      · rcases List.mem_cons.1 hg with rfl | hg
        · cases hp
        · exact h.mem g (by rw [e1]; exact List.mem_append_right _ hg) p hp
  · intro x hx h1 h2
    obtain ⟨g, hg, a1, a2⟩ := h.liv x hx h1 h2
    refine ⟨g, ?_, a1, a2⟩
    rcases hL with e | ⟨hne, L1, L2, e1, e2⟩
    · rw [e]; exact hg
    · rw [e2]
      rw [e1] at hg
      rcases List.mem_append.1 hg with hg | hg
      · exact List.mem_append_left _ hg
      · exact List.mem_append_right _ (List.mem_cons_of_mem _ hg)
theorem KH0 (room : Int) (bm bp bg bo : Nat) : KH (pNew room bm bp) ⟨bg, bo, none, 0, [], [], []⟩ ⟨none, 0, [], none, 0, []⟩ 0 := by
  refine ⟨GL.empty bg bo, PI.new room bm bp, ?_, ?_, ?_⟩
  · intro g hg; cases hg
  · intro g hg; cases hg
  · intro x hx _ h1
    rw [List.mem_singleton.1 hx] at h1
    exact absurd rfl h1
end Go.Proofs.YtkcmgcoppecfpaaGreat

/- The document's table: Exit. -/
namespace Go.Proofs.YtkcmgcoppecfpaaGreat
open Go Go.RowKit

def curX (pid : Int) (xs : List PR) (i : Nat) : List PR := (xs.take i).map (orphan pid) ++ xs.drop i
theorem curX_len (pid : Int) (xs : List PR) (i : Nat) : (curX pid xs i).length = xs.length := by
  simp [curX]; omega
theorem curX_at (pid : Int) {xs : List PR} {i : Nat} (h : i < xs.length) (d : PR) : (curX pid xs i).getD i d = xs[i] ∧ (∀ v, (curX pid xs i).set i v = (xs.take i).map (orphan pid) ++ v :: xs.drop (i + 1)) ∧ curX pid xs (i + 1) = (xs.take i).map (orphan pid) ++ orphan pid xs[i] :: xs.drop (i + 1) := by
  have e : curX pid xs i = (xs.take i).map (orphan pid) ++ xs[i] :: xs.drop (i + 1) := by unfold curX; rw [← List.drop_eq_getElem_cons h]
  have hl : ((xs.take i).map (orphan pid)).length = i := by simp; omega
  refine ⟨?_, fun v => ?_, ?_⟩
  · rw [e]
    have := getD_mid ((xs.take i).map (orphan pid)) xs[i] (xs.drop (i + 1)) d
    rwa [hl] at this
  · rw [e]
    have := set_mid ((xs.take i).map (orphan pid)) xs[i] v (xs.drop (i + 1))
    rwa [hl] at this
  · unfold curX
    rw [List.take_succ_eq_append_getElem h, List.map_append, List.append_assoc]
    rfl
theorem rtExit_loop {W : World} {F : List Ch} {N : List Ent → SV → Prop} {room last pid : Int} {b : Nat} {ao : Option Addr} {cap : Nat} {xs : List PR} (hx : xs.length ≤ 1000000) {tm : List SV} (h1 : lenN tm = 69) (h2 : liveOk tm [(0, .ptr 0 b 0), (1, .int .i64 pid), (8, .int .i64 (0 : Int))]) (hN : N [⟨.blk b, .cells [.vec 1 ao (xs.map (orphan pid)).length cap, .int .i64 room, .int .i64 last] 137⟩, ⟨.sl ao cap, .vecL 134 8 encR (xs.map (orphan pid)) PR.zero⟩] (.int .i64 0)) :
    G Tryz.prog (endQ Tryz.prog Tryz.f70 W F N) W F (frm [] (bodyOf Tryz.f70) [1, 1, 1, 1, 1, 0, 1, 0] []) ⟨tm, [⟨.blk b, .cells [.vec 1 ao (xs).length cap, .int .i64 room, .int .i64 last] 137⟩, ⟨.sl ao cap, .vecL 134 8 encR (xs) PR.zero⟩]⟩ := by
  refine G_loopAt (ι := Nat × List PR) [] (bodyOf Tryz.f70) [1, 1, 1, 1, 1, 0, 1, 0] 69 (fun x => [(0, .ptr 0 b 0), (1, .int .i64 pid), (8, .int .i64 ((x.1 : Nat) : Int))]) (fun x => [⟨.blk b, .cells [.vec 1 ao (x.2).length cap, .int .i64 room, .int .i64 last] 137⟩, ⟨.sl ao cap, .vecL 134 8 encR (x.2) PR.zero⟩]) (fun x => x.1 ≤ xs.length ∧ x.2 = curX pid xs x.1) (fun x => xs.length - x.1) (0, xs) (by kernel_rfl) (fun J => by kernel_rfl) ⟨Nat.zero_le _, rfl⟩ h1 h2 (fun w hw => hw) ?_
  rintro ⟨i, ys⟩ ⟨hi, hv⟩ u
  dsimp only at hi hv
  try dsimp only
  simp only [List.nil_append, List.cons_append]
  refine G_run (kc := false) (ss := []) (Cs := []) trivial hmP 900 ?_
  rw [rt_exit1]
  have hyl : ys.length = xs.length := by rw [hv]; exact curX_len _ _ _
  cases hlt : decide ((i : Int) < (ys.length : Int)) with
  | false =>
    simp only [decide_eq_false_iff_not] at hlt
    have e : ys = xs.map (orphan pid) := by
      rw [hv]
      unfold curX
      rw [List.take_of_length_le (by omega), List.drop_of_length_le (by omega), List.append_nil]
    rw [e]
    exact ⟨rfl, hN⟩
  | true =>
    simp only [decide_eq_true_eq] at hlt
    have hi2 : i < xs.length := by omega
    obtain ⟨q1, q2, q3⟩ := curX_at pid hi2 PR.zero
    rw [← hv] at q1 q2
    have w1 : IntKind.wrap .i64 ((i : Int) + 1) = ((i + 1 : Nat) : Int) := IntWalk.i64_in _ (by omega)
    rw [Int.toNat_natCast, q1]
    (repeat first | refine And.intro rfl ?_ | refine And.intro ⟨rfl, rfl, rfl, by omega, by omega⟩ ?_ | refine And.intro ⟨rfl, rfl, rfl, by omega⟩ ?_ | refine And.intro ⟨rfl, rfl, rfl, by omega, rfl⟩ ?_)
    cases hc : xs[i].parent == pid with
    | false =>
      have e : orphan pid xs[i] = xs[i] := by simp only [orphan, hc]
      refine G_back (i + 1, ys) ⟨by dsimp only; omega, ?_⟩ (by dsimp only; omega) rfl ⟨rfl, rfl, congrArg (Value.int .i64) w1, trivial⟩ (fun w hw => hw)
      dsimp only
      rw [q3, e, ← q2, ← q1]
      exact (set_sameR (by omega)).symm
    | true =>
      have e : orphan pid xs[i] = { xs[i] with parent := 1 } := by simp only [orphan, hc]
      have hyi : i < ys.length := by omega
      have hln : (ys.set i { xs[i] with parent := 1 }).length = ys.length := List.length_set
      have fin : ∀ (tm : List SV) (e' : PR), e' = { xs[i] with parent := 1 } → lenN tm = 69 → liveOk tm [(0, .ptr 0 b 0), (1, .int .i64 pid), (8, .int .i64 (((i + 1 : Nat) : Int) : Int))] → G Tryz.prog (endQ Tryz.prog Tryz.f70 W F N) W F (.loop (Back W F 69 (fun x : Nat × List PR => [(0, .ptr 0 b 0), (1, .int .i64 pid), (8, .int .i64 ((x.1 : Nat) : Int))]) (fun x => [⟨.blk b, .cells [.vec 1 ao (x.2).length cap, .int .i64 room, .int .i64 last] 137⟩, ⟨.sl ao cap, .vecL 134 8 encR (x.2) PR.zero⟩]) (fun x => x.1 ≤ xs.length ∧ x.2 = curX pid xs x.1) (fun x => xs.length - x.1) (xs.length - i)) :: .blk 0 :: frm [] (bodyOf Tryz.f70) [1, 1, 1, 1, 1, 1] []) ⟨tm, [⟨.blk b, .cells [.vec 1 ao ys.length cap, .int .i64 room, .int .i64 last] 137⟩, ⟨.sl ao cap, .vecL 134 8 encR (ys.set i e') PR.zero⟩]⟩ := fun tm e' he g1 g2 => by
        subst he
        refine G_back (i + 1, ys.set i { xs[i] with parent := 1 }) ⟨by dsimp only; omega, ?_⟩ (by dsimp only; omega) g1 g2 (fun w hw => ?_)
        · dsimp only
          rw [q3, e, ← q2]
        · dsimp only
          rw [hln]
          exact hw
      repeat' first
        | exact rfl
        | exact hyi
        | exact fin _ _ rfl rfl ⟨rfl, rfl, congrArg (Value.int .i64) w1, trivial⟩
        | (refine ⟨{ xs[i] with parent := 1 }, rfl, ?_⟩)
        | apply And.intro
        | (show _ ≤ _; omega)
        | (show _ < _; omega)
        | fail
theorem rtExit_spec {t : PT} (ho : pOk t) (b : Nat) (ao : Option Addr) (cap : Nat) (pid status : Int) : Spec Tryz.prog 70 [⟨.blk b, .cells [.vec 1 ao (rL t).length cap, .int .i64 t.room, .int .i64 t.last] 137⟩, ⟨.sl ao cap, .vecL 134 8 encR (rL t) PR.zero⟩] [.ptr 0 b 0, .int .i64 pid, .int .i64 status] (fun h' r => h' = rtE ⟨(pExit t pid status).1, ao, cap⟩ b ∧ r = .int .i64 (pExit t pid status).2) := by
  refine Spec.up ?_
  refine Spec.of_G 69 Tryz.func70 (c := bodyOf Tryz.f70) (by kernel_rfl) (by kernel_rfl) (Nat.le_of_ble_eq_true rfl) fun W F => ?_
  refine G_run (kc := false) (ss := []) rtLv_ok hmP 900 ?_
  rw [rt_exit]
  refine ⟨rfl, t, 1, ao, cap, rfl, rfl, ⟨rfl, ho⟩, ?_⟩
  have bad : pExit t pid status = (t, 80) → up (fun h' r => h' = rtE ⟨(pExit t pid status).1, ao, cap⟩ b ∧ r = .int .i64 (pExit t pid status).2) (rtE ⟨t, ao, cap⟩ b) (.int .i64 80) := fun h => by
    rw [h]; exact ⟨rtE ⟨t, ao, cap⟩ b, .int .i64 80, fun W F w hr => hr, rfl, rfl, rfl⟩
  cases hl : pLive t pid with
  | false =>
    rw [rLives_dead hl]
    have := bad (by simp only [pExit, hl, Bool.false_and])
    first
      | exact this
      | exact ⟨rfl, this⟩
      | exact ⟨rfl, rfl, this⟩
  | true =>
    obtain ⟨k, ⟨xb, r⟩, h1, h2, h3, h4, h5, h6⟩ := rLives_live ho hl
    have hd : decide (((k : Nat) : Int) < 0) = false := decide_eq_false (by omega)
    dsimp only at h3 h4 h6
    have hlen : (rL t).length ≤ 1000000 := by rw [rL_len]; exact ho.len
    rw [h1, hd, Int.toNat_natCast, h3]
    cases hp1 : pid == 1 with
    | true =>
      have := bad (by simp [pExit, hp1])
      first
        | exact this
        | exact ⟨rfl, this⟩
        | exact ⟨rfl, rfl, this⟩
    | false =>
      have good : ∀ (st : Int), stOf status = st → ∀ (tm : List SV) (e e' : PR), e' = { r with zombie := true, status := st } → lenN tm = 69 → liveOk tm [(0, .ptr 0 b 0), (1, .int .i64 pid), (8, .int .i64 (0 : Int))] → G Tryz.prog (endQ Tryz.prog Tryz.f70 W F (up fun h' r => h' = rtE ⟨(pExit t pid status).1, ao, cap⟩ b ∧ r = .int .i64 (pExit t pid status).2)) W F (frm [] (bodyOf Tryz.f70) [1, 1, 1, 1, 1, 0, 1, 0] []) ⟨tm, [⟨.blk b, .cells [.vec 1 ao (rL t).length cap, .int .i64 t.room, .int .i64 t.last] 137⟩, ⟨.sl ao cap, .vecL 134 8 encR (((rL t).set k e).set k e') PR.zero⟩]⟩ := fun st hst tm e e' he g1 g2 => by
        rw [List.set_set, he]
        have hl2 : (rL t).length = ((rL t).set k { r with zombie := true, status := st }).length := List.length_set.symm
        rw [hl2]
        refine rtExit_loop (by rw [List.length_set]; exact hlen) g1 g2 ?_
        have hsp : pExit t pid status = ({ t with ps := (setP t.ps pid fun r => { r with zombie := true, status := stOf status }).map fun x => (x.1, orphan pid x.2) }, 0) := by simp only [pExit, hl, hp1]; rfl
        have hL : rL (pExit t pid status).1 = ((rL t).set k { r with zombie := true, status := st }).map (orphan pid) := by
          rw [hsp]
          have := h6 (fun r => { r with zombie := true, status := stOf status })
          rw [hst] at this
          rw [← this, hst]
          simp [rL]
        refine ⟨rtE ⟨(pExit t pid status).1, ao, cap⟩ b, .int .i64 0, fun W F w hr => ?_, rfl, rfl, by rw [hsp]⟩
        have e1 : rtE ⟨(pExit t pid status).1, ao, cap⟩ b = [⟨.blk b, .cells [.vec 1 ao (((rL t).set k { r with zombie := true, status := st }).map (orphan pid)).length cap, .int .i64 t.room, .int .i64 t.last] 137⟩, ⟨.sl ao cap, .vecL 134 8 encR (((rL t).set k { r with zombie := true, status := st }).map (orphan pid)) PR.zero⟩] := by
          have hr1 : (pExit t pid status).1.room = t.room := by rw [hsp]
          have hr2 : (pExit t pid status).1.last = t.last := by rw [hsp]
          unfold rtE
          dsimp only
          rw [hL, hr1, hr2]
        rw [e1]
        exact hr
      obtain ⟨p1, p2, p3, p4, p5, p6, p7, p8⟩ := r
      cases c1 : decide (status < -64) with
      | true =>
        have hst : stOf status = 255 := by simp only [stOf, c1, Bool.true_or]
        have hk := good _ hst
        repeat' first
          | exact rfl
          | exact h2
          | exact hk _ _ _ rfl rfl ⟨rfl, rfl, rfl, trivial⟩
          | (rw [getD_set_self h2])
          | (refine ⟨⟨p1, p2, p3, true, p5, p6, p7, p8⟩, rfl, ?_⟩)
          | (refine ⟨⟨p1, p2, p3, true, 255, p6, p7, p8⟩, rfl, ?_⟩)
          | apply And.intro
          | (rw [List.length_set])
          | (show _ ≤ _; omega)
          | (show _ < _; omega)
          | fail
      | false =>
        cases c2 : decide (status > 255) with
        | true =>
          have hst : stOf status = 255 := by simp only [stOf, c1, c2, Bool.or_true]
          have hk := good _ hst
          repeat' first
            | exact rfl
            | exact h2
            | exact hk _ _ _ rfl rfl ⟨rfl, rfl, rfl, trivial⟩
            | (rw [getD_set_self h2])
            | (refine ⟨⟨p1, p2, p3, true, p5, p6, p7, p8⟩, rfl, ?_⟩)
            | (refine ⟨⟨p1, p2, p3, true, 255, p6, p7, p8⟩, rfl, ?_⟩)
            | apply And.intro
            | (rw [List.length_set])
            | (show _ ≤ _; omega)
            | (show _ < _; omega)
            | fail
        | false =>
          have hst : stOf status = status := by simp only [stOf, c1, c2, Bool.or_false]
          have hk := good _ hst
          repeat' first
            | exact rfl
            | exact h2
            | exact hk _ _ _ rfl rfl ⟨rfl, rfl, rfl, trivial⟩
            | (rw [getD_set_self h2])
            | (refine ⟨⟨p1, p2, p3, true, p5, p6, p7, p8⟩, rfl, ?_⟩)
            | (refine ⟨⟨p1, p2, p3, true, status, p6, p7, p8⟩, rfl, ?_⟩)
            | apply And.intro
            | (rw [List.length_set])
            | (show _ ≤ _; omega)
            | (show _ < _; omega)
            | fail
theorem raExit_ok : CtrOk Tryz.prog 70 (adtC rtE raExitM) := adt_ok fun b s rest N h => by
  obtain ⟨t, ao, cap⟩ := s
  unfold raExitM at h
  split at h
  case h_2 => exact h.elim
  rename_i pid status
  obtain ⟨ho, h⟩ := h
  intro W F w hr
  refine Calls.mono (rtExit_spec ho b ao cap pid status W F w hr) ?_
  rintro e w' ⟨h', r, ⟨rfl, rfl⟩, rfl, hr'⟩
  exact ⟨_, _, ⟨_, fun W F w hr => hr, h⟩, rfl, hr'⟩

end Go.Proofs.YtkcmgcoppecfpaaGreat

/- The document's table: Reap. -/
namespace Go.Proofs.YtkcmgcoppecfpaaGreat
open Go Go.RowKit

def deadB (parent : Int) (r : PR) : Bool := r.zombie && r.parent == parent
theorem rtReap_spec {t : PT} (ho : pOk t) (b : Nat) (ao : Option Addr) (cap : Nat) (parent : Int) : Spec Tryz.prog 28 [⟨.blk b, .cells [.vec 1 ao (rL t).length cap, .int .i64 t.room, .int .i64 t.last] 137⟩, ⟨.sl ao cap, .vecL 134 8 encR (rL t) PR.zero⟩] [.ptr 0 b 0, .int .i64 parent] (fun h' r => ∃ ao' cap', h' = rtE ⟨(pReap t parent).1, ao', cap'⟩ b ∧ r = .tuple [.agg (encP6 (pReap t parent).2.1), .int .i64 (pReap t parent).2.2]) := by
  refine Spec.up ?_
  refine Spec.of_G 53 Tryz.func28 (c := bodyOf Tryz.f28) (by kernel_rfl) (by kernel_rfl) (Nat.le_of_ble_eq_true rfl) fun W F => ?_
  refine G_run (kc := false) (ss := []) (Cs := []) trivial hmP 900 ?_
  rw [rt_reap]
  refine fun b1 => ?_
  have hlen : (rL t).length ≤ 1000000 := by rw [rL_len]; exact ho.len
  refine G_loopAt (ι := Nat) [] (bodyOf Tryz.f28) [1, 0, 1, 0] 53 (fun i => [(0, .ptr 0 b 0), (1, .int .i64 parent), (4, .ptr 2 b1 0), (5, .int .i64 0), (6, .int .i64 (i : Int))]) (fun _ => [⟨.blk b, .cells [.vec 1 ao (rL t).length cap, .int .i64 t.room, .int .i64 t.last] 137⟩, ⟨.sl ao cap, .vecL 134 8 encR (rL t) PR.zero⟩, ⟨.blk b1, .cells [.int .i64 0, .int .i64 0, .str ⟨#[]⟩, .bool false, .int .i64 0, .str ⟨#[]⟩] 38⟩]) (fun i => i ≤ (rL t).length ∧ ∀ r ∈ (rL t).take i, deadB parent r = false) (fun i => (rL t).length - i) 0 (by kernel_rfl) (fun J => by kernel_rfl) ⟨Nat.zero_le _, by simp⟩ rfl ⟨rfl, rfl, rfl, rfl, rfl, trivial⟩ (fun w hw => hw) ?_
  rintro i ⟨hi, hv⟩ u
  try dsimp only at hi hv ⊢
  simp only [List.nil_append, List.cons_append]
  refine G_vec (l := 1) rfl fun hcap _ => ?_
  refine G_run (kc := false) (ss := []) (Cs := []) trivial hmP 900 ?_
  rw [rt_reap1]
  have hdead : deadOf t parent = t.ps.find? fun x => deadB parent x.2 := rfl
  cases hlt : decide ((i : Int) < ((rL t).length : Int)) with
  | false =>
    simp only [decide_eq_false_iff_not] at hlt
    rw [List.take_of_length_le (by omega)] at hv
    have hn : deadOf t parent = none := by
      rw [hdead, List.find?_eq_none]
      intro x hx
      have := hv x.2 (List.mem_map.2 ⟨x, hx, rfl⟩)
      rw [this]; simp
    have hsp : pReap t parent = (t, PR.zero, 80) := by simp only [pReap, hn]
    have fin : ∀ h', (∀ W F w, Rep W F h' w → Rep W F (rtE ⟨t, ao, cap⟩ b) w) → up (fun h' r => ∃ ao' cap', h' = rtE ⟨(pReap t parent).1, ao', cap'⟩ b ∧ r = .tuple [.agg (encP6 (pReap t parent).2.1), .int .i64 (pReap t parent).2.2]) h' (.tuple [.agg (encP6 PR.zero), .int .i64 80]) := fun h' hh => by
      rw [hsp]; exact ⟨rtE ⟨t, ao, cap⟩ b, _, hh, rfl, ao, cap, rfl, rfl⟩
    repeat' first
      | exact rfl
      | exact fin _ fun W F w hr => Rep.dropR (h := rtE ⟨t, ao, cap⟩ b) hr
      | apply And.intro
      | (show _ ≤ _; omega)
      | (show _ < _; omega)
      | fail
  | true =>
    simp only [decide_eq_true_eq] at hlt
    have hi2 : i < (rL t).length := by omega
    have hip : i < t.ps.length := by rw [← rL_len]; exact hi2
    have hget : (rL t).getD i PR.zero = t.ps[i].2 := by rw [getD_ltR _ _ _ hi2]; simp [rL]
    have w1 : IntKind.wrap .i64 ((i : Int) + 1) = ((i + 1 : Nat) : Int) := IntWalk.i64_in _ (by omega)
    rw [Int.toNat_natCast, hget, w1, Int.toNat_natCast]
    have hsplit : t.ps = t.ps.take i ++ t.ps[i] :: t.ps.drop (i + 1) := by rw [List.getElem_cons_drop, List.take_append_drop]
    have next : deadB parent t.ps[i].2 = false → ∀ r ∈ (rL t).take (i + 1), deadB parent r = false := fun h r hr => by
      rw [List.take_succ_eq_append_getElem hi2] at hr
      rcases List.mem_append.1 hr with hr | hr
      · exact hv r hr
      · simp only [List.mem_singleton] at hr
        subst hr
        rw [← getD_ltR _ PR.zero _ hi2, hget]
        exact h
    have back : deadB parent t.ps[i].2 = false → ∀ (tm : List SV) (x : List Ent), lenN tm = 53 → liveOk tm [(0, .ptr 0 b 0), (1, .int .i64 parent), (4, .ptr 2 b1 0), (5, .int .i64 0), (6, .int .i64 (((i + 1 : Nat) : Int) : Int))] → G Tryz.prog (endQ Tryz.prog Tryz.f28 W F (up fun h' r => ∃ ao' cap', h' = rtE ⟨(pReap t parent).1, ao', cap'⟩ b ∧ r = .tuple [.agg (encP6 (pReap t parent).2.1), .int .i64 (pReap t parent).2.2])) W F (.loop (Back W F 53 (fun i : Nat => [(0, .ptr 0 b 0), (1, .int .i64 parent), (4, .ptr 2 b1 0), (5, .int .i64 0), (6, .int .i64 (i : Int))]) (fun _ => [⟨.blk b, .cells [.vec 1 ao (rL t).length cap, .int .i64 t.room, .int .i64 t.last] 137⟩, ⟨.sl ao cap, .vecL 134 8 encR (rL t) PR.zero⟩, ⟨.blk b1, .cells [.int .i64 0, .int .i64 0, .str ⟨#[]⟩, .bool false, .int .i64 0, .str ⟨#[]⟩] 38⟩]) (fun i => i ≤ (rL t).length ∧ ∀ r ∈ (rL t).take i, deadB parent r = false) (fun i => (rL t).length - i) ((rL t).length - i)) :: .blk 0 :: frm [] (bodyOf Tryz.f28) [1, 1] []) ⟨tm, [⟨.blk b, .cells [.vec 1 ao (rL t).length cap, .int .i64 t.room, .int .i64 t.last] 137⟩, ⟨.sl ao cap, .vecL 134 8 encR (rL t) PR.zero⟩, ⟨.blk b1, .cells [.int .i64 0, .int .i64 0, .str ⟨#[]⟩, .bool false, .int .i64 0, .str ⟨#[]⟩] 38⟩] ++ x⟩ := fun h tm x g1 g2 =>
      G_back (i + 1) ⟨by omega, next h⟩ (by omega) g1 g2 (fun w hw => Rep.dropR hw)
    (repeat first | refine And.intro rfl ?_ | refine And.intro ⟨rfl, rfl, rfl, by omega, by omega⟩ ?_ | refine And.intro ⟨rfl, rfl, rfl, by omega⟩ ?_ | refine And.intro ⟨rfl, rfl, rfl, by omega, rfl⟩ ?_)
    refine fun bx => ?_
    (repeat first | refine And.intro rfl ?_ | refine And.intro ⟨rfl, rfl, rfl, by omega, by omega⟩ ?_ | refine And.intro ⟨rfl, rfl, rfl, by omega⟩ ?_ | refine And.intro ⟨rfl, rfl, rfl, by omega, rfl⟩ ?_)
    cases hz : t.ps[i].2.zombie with
    | false => exact back (by simp [deadB, hz]) _ [_] rfl ⟨rfl, rfl, rfl, rfl, rfl, trivial⟩
    | true =>
      try refine ⟨rfl, ?_⟩
      cases hpp : t.ps[i].2.parent == parent with
      | false => exact back (by simp [deadB, hpp]) _ [_] rfl ⟨rfl, rfl, rfl, rfl, rfl, trivial⟩
      | true =>
        have hd1 : deadOf t parent = some t.ps[i] := by
          rw [hdead, List.find?_eq_some_iff_append]
          refine ⟨by simp [deadB, hz, hpp], t.ps.take i, t.ps.drop (i + 1), hsplit, fun y hy => ?_⟩
          have := hv y.2 (by
            have e : (rL t).take i = (t.ps.take i).map (·.2) := by simp [rL]
            rw [e]
            exact List.mem_map.2 ⟨y, hy, rfl⟩)
          simp [this]
        have hfil : (t.ps.filter fun y => !(y.2.pid == t.ps[i].2.pid)) = t.ps.take i ++ t.ps.drop (i + 1) := by
          have ha := ho.asc
          have n1 : ∀ y ∈ t.ps.take i, y.2.pid < t.ps[i].2.pid := fun y hy => by
            rw [hsplit, List.pairwise_append] at ha
            exact ha.2.2 y hy _ List.mem_cons_self
          have n2 : ∀ y ∈ t.ps.drop (i + 1), t.ps[i].2.pid < y.2.pid := fun y hy => by
            rw [hsplit, List.pairwise_append, List.pairwise_cons] at ha
            exact ha.2.1.1 y hy
          have key : ∀ p : Int, t.ps[i].2.pid = p → (t.ps.filter fun y => !(y.2.pid == p)) = t.ps.take i ++ t.ps.drop (i + 1) := fun p hp => by
            conv => lhs; rw [hsplit]
            rw [List.filter_append, List.filter_cons, List.filter_eq_self.2 fun y hy => by have := n1 y hy; simp; omega, List.filter_eq_self.2 fun y hy => by have := n2 y hy; simp; omega]
            simp [hp]
          exact key _ rfl
        have hsp : pReap t parent = ({ t with ps := t.ps.take i ++ t.ps.drop (i + 1) }, t.ps[i].2, 0) := by simp only [pReap, hd1, hfil]
        obtain ⟨t', ht'⟩ : ∃ t' : PT, t' = { t with ps := t.ps.take i ++ t.ps.drop (i + 1) } := ⟨_, rfl⟩
        have hL : rL t' = (rL t).take i ++ (rL t).drop (i + 1) := by rw [ht']; simp [rL]
        have hL2 : (rL t').length = i + ((rL t).length - (i + 1)) := by rw [hL]; simp; omega
        have fin : ∀ (v : SV), den v = den (.tuple [.agg (encP6 t.ps[i].2), .int .i64 0]) → ∀ (ao2 : Option Addr) (cap2 j : Nat) (e1 e2 e3 : Ent), up (fun h' r => ∃ ao' cap', h' = rtE ⟨(pReap t parent).1, ao', cap'⟩ b ∧ r = .tuple [.agg (encP6 (pReap t parent).2.1), .int .i64 (pReap t parent).2.2]) [⟨.blk b, .cells [.vec j ao2 (i - 0 + ((rL t).length - (i + 1))) cap2, .int .i64 t.room, .int .i64 t.last] 137⟩, e1, e2, e3, ⟨.sl ao2 cap2, .vecL 134 8 encR (((rL t).drop 0).take (i - 0) ++ ((rL t).drop (i + 1)).take ((rL t).length - (i + 1))) PR.zero⟩] v := fun v hvd ao2 cap2 j e1 e2 e3 => by
          rw [hsp, ← ht']
          refine ⟨rtE ⟨t', ao2, cap2⟩ b, _, fun W F w hr => ?_, hvd, ao2, cap2, rfl, rfl⟩
          have g1 := Rep.pick (π := [0, 4]) (by decide) rfl hr
          have g2 := Rep.cellsEq (l := 0) (cs' := [.vec 1 ao2 (i + ((rL t).length - (i + 1))) cap2, .int .i64 t.room, .int .i64 t.last]) rfl (by rfl) g1
          have e : rtE ⟨t', ao2, cap2⟩ b = [⟨.blk b, .cells [.vec 1 ao2 (i + ((rL t).length - (i + 1))) cap2, .int .i64 t.room, .int .i64 t.last] 137⟩, ⟨.sl ao2 cap2, .vecL 134 8 encR (((rL t).drop 0).take (i - 0) ++ ((rL t).drop (i + 1)).take ((rL t).length - (i + 1))) PR.zero⟩] := by
            have hdr : ((rL t).drop (i + 1)).take ((rL t).length - (i + 1)) = (rL t).drop (i + 1) := List.take_of_length_le (by simp)
            unfold rtE
            dsimp only
            rw [hL2, hL, hdr, ht']
            rfl
          rw [e]
          exact g2
        repeat' first
          | exact rfl
          | exact hi2
          | exact fin _ (by simp [encP6, hz]) _ _ _ _ _ _
          | (refine ⟨((rL t).drop (i + 1)).take ((rL t).length - (i + 1)), ?_, rfl, fun ao2 cap2 _ => ?_⟩)
          | (refine fun y => rfl)
          | apply And.intro
          | (show _ ≤ _; omega)
          | (show _ < _; omega)
          | (refine fun ao2 cap2 _ => ?_)
          | (simp; done)
          | (simp; omega)
          | fail
theorem raReap_ok : CtrOk Tryz.prog 28 (adtC rtE raReapM) := adt_ok fun b s rest N h => by
  obtain ⟨t, ao, cap⟩ := s
  unfold raReapM at h
  split at h
  case h_2 => exact h.elim
  rename_i parent
  obtain ⟨ho, h⟩ := h
  intro W F w hr
  refine Calls.mono (rtReap_spec ho b ao cap parent W F w hr) ?_
  rintro e w' ⟨h', r, ⟨ao', cap', rfl, rfl⟩, rfl, hr'⟩
  exact ⟨_, _, ⟨_, fun W F w hr => hr, h ao' cap'⟩, rfl, hr'⟩
end Go.Proofs.YtkcmgcoppecfpaaGreat

