/- QueueTexts: the loops. -/
import Derived.Test.YtjnkfgigpapeaaaQTRun
namespace Go.Proofs.Ytjnkfgigpapeaaa
open Go Go.RowKit
set_option linter.unusedVariables false
set_option linter.unusedSimpArgs false
set_option linter.unnecessarySimpa false
set_option maxHeartbeats 0

theorem lessS {a b : ByteArray × Int} : (lessI fun a b : ByteArray => decide ((a.size : Int) < (b.size : Int))) a b = true ↔ (a.1.size < b.1.size ∨ (¬ b.1.size < a.1.size ∧ a.2 < b.2)) := by
  simp only [lessI, Bool.or_eq_true, Bool.and_eq_true, Bool.not_eq_true', decide_eq_true_eq, decide_eq_false_iff_not, Int.ofNat_lt]
theorem lessS' {a b : ByteArray × Int} : (lessI fun a b : ByteArray => decide ((a.size : Int) < (b.size : Int))) a b = false ↔ ¬ (a.1.size < b.1.size ∨ (¬ b.1.size < a.1.size ∧ a.2 < b.2)) := by
  rw [← lessS]; simp
theorem ordS : Ordered (lessI fun a b : ByteArray => decide ((a.size : Int) < (b.size : Int))) := by
  constructor
  · intro a b h
    rw [lessS] at h
    rw [lessS']
    omega
  · intro a b c h1 h2
    rw [lessS'] at h1 h2 ⊢
    omega

/-- What was pushed, in order. -/
def itemsS (bs : List ByteArray) : List (ByteArray × Int) := bs.zipIdx.map fun p => (p.1, (p.2 : Int))
theorem length_itemsS (bs : List ByteArray) : (itemsS bs).length = bs.length := by simp [itemsS]
theorem get_itemsS (bs : List ByteArray) (i : Nat) (h : i < (itemsS bs).length) : (itemsS bs)[i] = (bs[i]'(by rw [length_itemsS] at h; exact h), (i : Int)) := by
  simp [itemsS]
theorem fst_itemsS (bs : List ByteArray) : (itemsS bs).map Prod.fst = bs := by
  apply List.ext_getElem?
  intro i
  simp [itemsS, List.getElem?_map, List.getElem?_zipIdx]
  cases bs[i]? <;> rfl
theorem pw_itemsS (bs : List ByteArray) : (itemsS bs).Pairwise fun a b => a.2 < b.2 := by
  rw [List.pairwise_iff_getElem]
  intro i j hi hj hij
  rw [get_itemsS, get_itemsS]
  show (i : Int) < (j : Int)
  omega

/-- The first of its length is the one that goes ahead of all. -/
theorem first_is {its : List (ByteArray × Int)} {t : ByteArray × Int} (hpw : its.Pairwise fun a b => a.2 < b.2) (hm : t ∈ its) (hmin : ∀ y ∈ its, (lessI fun a b : ByteArray => decide ((a.size : Int) < (b.size : Int))) y t = false) {a : Nat} (ha : a < its.length) (hs : its[a].1.size = t.1.size)
    (hf : ∀ j (hj : j < its.length), j < a → its[j].1.size ≠ t.1.size) : its[a] = t := by
  obtain ⟨j, hj, rfl⟩ := List.mem_iff_getElem.1 hm
  rcases Nat.lt_trichotomy a j with h | h | h
  · have h1 := List.pairwise_iff_getElem.1 hpw a j ha hj h
    have h2 := hmin _ (List.getElem_mem ha)
    rw [lessS'] at h2
    omega
  · subst h; rfl
  · exact absurd rfl (hf j hj h)

structure QTI where
  (xs : List (ByteArray × Int)) (i : Nat) (capa : Nat) (aoa : Option Addr)
structure QTI.ok (bs : List ByteArray) (s : QTI) : Prop where
  i : s.i ≤ bs.length
  pm : s.xs.Perm ((itemsS bs).take s.i)
  hp : heapN (lessI fun a b : ByteArray => decide ((a.size : Int) < (b.size : Int))) (ByteArray.empty, (0 : Int)) s.xs s.xs.length
structure QTJ where
  (its xs : List (ByteArray × Int)) (last : ByteArray) (na : Int) (capa capl : Nat) (aoa aol : Option Addr)
structure QTJ.ok (s : QTJ) : Prop where
  pw : s.its.Pairwise fun a b => a.2 < b.2
  pm : s.xs.Perm s.its
  hp : heapN (lessI fun a b : ByteArray => decide ((a.size : Int) < (b.size : Int))) (ByteArray.empty, (0 : Int)) s.xs s.xs.length
  mn : ∀ p ∈ s.its, s.last.size ≤ p.1.size
  l : s.its.length ≤ 60
/-- The search: what was found behind place k. -/
structure QTK (ls : List ByteArray) (s : ByteArray) (q : Int × Int) : Prop where
  k0 : -1 ≤ q.2
  k1 : q.2 < ls.length
  c : (q.1 = -1 ∧ ∀ j : Nat, q.2 < j → j < ls.length → (ls.getD j .empty).size ≠ s.size) ∨
    (q.2 < q.1 ∧ 0 ≤ q.1 ∧ q.1 < ls.length ∧ (ls.getD q.1.toNat .empty).size = s.size ∧ ∀ j : Nat, q.2 < j → (j : Int) < q.1 → (ls.getD j .empty).size ≠ s.size)
section
variable (ao : Option Addr) (cap : Nat) (bs : List ByteArray) (qa : Nat)
def QTI.live (s : QTI) : List (Nat × SV) := [(0, .vec 0 ao bs.length cap), (2, .bool false), (3, .ptr 1 qa 0), (4, .int .i64 (s.i : Int))]
def QTI.heap (s : QTI) : List Ent := qtHeap ao cap bs qa s.aoa s.capa s.xs (s.i : Int)
def QTJ.live (s : QTJ) : List (Nat × SV) := [(2, .bool false), (3, .ptr 1 qa 0), (5, .str s.last), (6, .vec 3 s.aol (s.its.map Prod.fst).length s.capl), (7, .int .i64 (s.its.length : Int))]
def QTJ.heap (s : QTJ) : List Ent := qtHeap2 ao cap bs qa s.aoa s.capa s.xs s.na s.aol s.capl (s.its.map Prod.fst)
def QTKlive (s : ByteArray) (aol : Option Addr) (ls : List ByteArray) (capl : Nat) (n : Int) (q : Int × Int) : List (Nat × SV) := [(2, .bool false), (3, .ptr 1 qa 0), (5, .str s), (6, .vec 3 aol ls.length capl), (7, .int .i64 n), (8, .str s), (10, .int .i64 q.1), (11, .int .i64 q.2)]
end

section
variable {W : World} {F : List Ch} {N : List Ent → SV → Prop} {ao : Option Addr} {cap : Nat} {bs : List ByteArray} {qa : Nat}

theorem qt_r3_G (its xs : List (ByteArray × Int)) (t : ByteArray × Int) (na : Int) (capa capl : Nat) (aoa aol : Option Addr) (hpw : its.Pairwise fun a b => a.2 < b.2) (ht : (t :: xs).Perm its) (hmin : ∀ y ∈ its, (lessI fun a b : ByteArray => decide ((a.size : Int) < (b.size : Int))) y t = false) (hp : heapN (lessI fun a b : ByteArray => decide ((a.size : Int) < (b.size : Int))) (ByteArray.empty, (0 : Int)) xs xs.length) (hl : its.length ≤ 60) (q : Int × Int) (hq : QTK (its.map Prod.fst) t.1 q) (u : Nat → Value) :
    G Try.prog (endQ Try.prog Try.f9 W F N) W F (frm [Back W F 110 (QTJ.live qa) (QTJ.heap ao cap bs qa) QTJ.ok (fun s => s.its.length) its.length, Back W F 110 (QTKlive qa t.1 aol (its.map Prod.fst) capl (its.length : Int)) (fun _ => qtHeap2 ao cap bs qa aoa capa xs na aol capl (its.map Prod.fst)) (QTK (its.map Prod.fst) t.1) (fun q => (q.2 + 1).toNat) (q.2 + 1).toNat] (bodyOf Try.f9) [1, 1, 1, 1, 1, 1, 1, 0, 1, 0, 0, 1, 0, 0, 1, 1, 1, 1, 0, 1, 0, 0] []) ⟨mkT u 110 0 (QTKlive qa t.1 aol (its.map Prod.fst) capl (its.length : Int) q), qtHeap2 ao cap bs qa aoa capa xs na aol capl (its.map Prod.fst)⟩ := by
  obtain ⟨at', k⟩ := q
  obtain ⟨k0, k1, hc⟩ := hq
  dsimp only at k0 k1 hc
  refine G_vec (xs := its.map Prod.fst) (ao := aol) (cap := capl) 3 rfl fun hcl _ => ?_
  refine G_run (kc := false) (ss := []) qTS5_ok hmQS 1500 ?_
  unfold QTKlive
  dsimp only
  rw [qt_r3]
  have hll : (its.map Prod.fst).length = its.length := by simp
  generalize hls : its.map Prod.fst = ls at *
  have hget : ∀ j (hj : j < its.length), its[j].1 = ls.getD j .empty := fun j hj => by rw [← hls]; simp [List.getD, hj]
  have hwk : IntKind.wrap .i64 (k - 1) = k - 1 := IntWalk.i64_in _ (by omega)
  split <;> rename_i h1
  · have h1' : 0 ≤ k := by simpa using h1
    refine ⟨⟨rfl, rfl, rfl, h1', k1⟩, ⟨rfl, rfl, rfl, by omega⟩, ?_⟩
    split <;> rename_i h2
    · have h2' : (ls.getD k.toNat .empty).size = t.1.size := by have := beq_iff_eq.1 h2; omega
      exact G_back (ι := Int × Int) (k, k - 1) ⟨by dsimp only; omega, by dsimp only; omega, .inr ⟨by dsimp only; omega, h1', k1, h2', fun j q1 q2 => by dsimp only at q1 q2; omega⟩⟩ (by dsimp only; omega) rfl ⟨rfl, rfl, rfl, rfl, rfl, rfl, rfl, congrArg (Value.int .i64) hwk, trivial⟩ fun w hw => hw
    · have h2' : (ls.getD k.toNat .empty).size ≠ t.1.size := by
        have := beq_eq_false_iff_ne.1 h2
        omega
      refine G_back (ι := Int × Int) (at', k - 1) ⟨by dsimp only; omega, by dsimp only; omega, ?_⟩ (by dsimp only; omega) rfl ⟨rfl, rfl, rfl, rfl, rfl, rfl, rfl, congrArg (Value.int .i64) hwk, trivial⟩ fun w hw => hw
      rcases hc with ⟨c1, c2⟩ | ⟨c1, c2, c3, c4, c5⟩
      · refine .inl ⟨c1, fun j q1 q2 => ?_⟩
        dsimp only at q1
        by_cases e : (j : Int) = k
        · have : j = k.toNat := by omega
          rw [this]; exact h2'
        · exact c2 j (by omega) q2
      · refine .inr ⟨by dsimp only; omega, c2, c3, c4, fun j q1 q2 => ?_⟩
        dsimp only at q1
        by_cases e : (j : Int) = k
        · have : j = k.toNat := by omega
          rw [this]; exact h2'
        · exact c5 j (by omega) q2
  · have h1' : k = -1 := by simp at h1; omega
    subst h1'
    have hm : t ∈ its := ht.mem_iff.1 List.mem_cons_self
    rcases hc with ⟨c1, c2⟩ | ⟨c1, c2, c3, c4, c5⟩
    · exfalso
      obtain ⟨j, hj, e⟩ := List.mem_iff_getElem.1 hm
      have := c2 j (by omega) (by omega)
      rw [← hget j hj, e] at this
      exact this rfl
    · obtain ⟨a, rfl⟩ := Int.eq_ofNat_of_zero_le c2
      have ha : a < its.length := by omega
      simp only [Int.toNat_natCast] at c4
      have hta : its[a] = t := first_is hpw hm hmin ha (by rw [hget a ha]; exact c4) fun j hj hja => by rw [hget j hj]; exact c5 j (by omega) (by omega)
      have hsa : ls.getD a .empty = t.1 := by rw [← hget a ha, hta]
      have hwa : IntKind.wrap .i64 ((a : Int) + 1) = ((a + 1 : Nat) : Int) := by rw [IntWalk.i64_in _ (by omega)]; omega
      rw [hwa]
      split <;> rename_i h2
      · simp at h2; omega
      · refine ⟨⟨rfl, rfl, rfl, by omega, by omega⟩, ⟨rfl, rfl, rfl, by omega⟩, ?_⟩
        split <;> rename_i h3
        · exfalso
          simp only [Int.toNat_natCast, hsa, sEq_self] at h3
          cases h3
        · have hd : (ls.drop (a + 1)).length = ls.length - (a + 1) := by simp
          refine ⟨⟨by omega, by omega⟩, ⟨by omega, by omega, by omega⟩, ⟨rfl, rfl, rfl, rfl, by omega, by omega, by omega, by omega⟩, fun ao2 cap2 q1 => ⟨⟨rfl, rfl, by simp only [Int.toNat_natCast, List.length_take, List.length_drop]; omega, rfl, rfl, rfl, rfl, rfl, rfl, by omega, Nat.le_refl _, fun _ => rfl, by omega, by omega⟩, ls.drop (a + 1), hd, congrArg (fun l => List.flatMap encStr l) (List.take_of_length_le (by simp)).symm, fun ao3 cap3 q2 => ?_⟩⟩
          have hsplit : its = its.take a ++ its[a] :: its.drop (a + 1) := by rw [← List.drop_eq_getElem_cons ha, List.take_append_drop]
          have hpe : (its[a] :: its.eraseIdx a).Perm its := by
            rw [List.eraseIdx_eq_take_drop_succ]
            exact List.perm_middle.symm.trans (List.Perm.of_eq hsplit.symm)
          rw [hta] at hpe
          have hpx : xs.Perm (its.eraseIdx a) := List.Perm.cons_inv (ht.trans hpe.symm)
          have hle : (its.eraseIdx a).length = its.length - 1 := by rw [List.length_eraseIdx]; simp [ha]
          have hmap : (its.eraseIdx a).map Prod.fst = ls.take a ++ ls.drop (a + 1) := by
            rw [← hls, List.eraseIdx_eq_take_drop_succ, List.map_append, List.map_take, List.map_drop]
          have hnn : IntKind.wrap .i64 ((its.length : Int) - 1) = ((its.eraseIdx a).length : Int) := by rw [IntWalk.i64_in _ (by omega), hle]; omega
          refine G_back (ι := QTJ) ⟨its.eraseIdx a, xs, t.1, na, capa, cap3, aoa, ao3⟩ ⟨hpw.sublist (List.eraseIdx_sublist _ _), hpx, hp, fun p hpp => ?_, by dsimp only; omega⟩ (by dsimp only; omega) rfl ⟨rfl, rfl, rfl, ?_, congrArg (Value.int .i64) hnn, trivial⟩ fun w hw => ?_
          · have := hmin p (hpe.mem_iff.1 (List.mem_cons_of_mem _ hpp))
            rw [lessS'] at this
            dsimp only
            omega
          · show den (.vec 4 ao3 (a + (ls.length - (a + 1))) cap3) = den (.vec 3 ao3 ((its.eraseIdx a).map Prod.fst).length cap3)
            have : ((its.eraseIdx a).map Prod.fst).length = a + (ls.length - (a + 1)) := by rw [hmap]; simp; omega
            rw [this]; rfl
          · have h5 := Rep.pick (π := [0, 1, 2, 4]) (by decide) rfl hw
            unfold QTJ.heap
            dsimp only
            rw [hmap]
            exact h5

theorem qt_r2_G (hN : ∀ l, N l (.bool true)) (its xs : List (ByteArray × Int)) (last : ByteArray) (na : Int) (capa capl : Nat) (aoa aol : Option Addr) (hpw : its.Pairwise fun a b => a.2 < b.2) (hpm : xs.Perm its) (hp : heapN (lessI fun a b : ByteArray => decide ((a.size : Int) < (b.size : Int))) (ByteArray.empty, (0 : Int)) xs xs.length) (hmn : ∀ p ∈ its, last.size ≤ p.1.size) (hl : its.length ≤ 60) (u : Nat → Value) :
    G Try.prog (endQ Try.prog Try.f9 W F N) W F (frm [Back W F 110 (QTJ.live qa) (QTJ.heap ao cap bs qa) QTJ.ok (fun s => s.its.length) its.length] (bodyOf Try.f9) [1, 1, 1, 1, 1, 1, 1, 0, 1, 0, 0] []) ⟨mkT u 110 0 [(2, .bool false), (3, .ptr 1 qa 0), (5, .str last), (6, .vec 3 aol (its.map Prod.fst).length capl), (7, .int .i64 (its.length : Int))], qtHeap2 ao cap bs qa aoa capa xs na aol capl (its.map Prod.fst)⟩ := by
  refine G_run (kc := false) (ss := []) qTS5_ok hmQS 1500 ?_
  rw [qt_r2]
  have hxl := hpm.length_eq
  generalize hJ : Back W F 110 (QTJ.live qa) (QTJ.heap ao cap bs qa) QTJ.ok (fun s => s.its.length) its.length = J
  generalize hK : G Try.prog (endQ Try.prog Try.f9 W F N) W F = K
  have hpl : (popL (lessI fun a b : ByteArray => decide ((a.size : Int) < (b.size : Int))) (ByteArray.empty, (0 : Int)) xs).length = xs.length - 1 := length_popL xs
  have hwn : 0 < xs.length → IntKind.wrap .i64 ((its.length : Int) - 1) = ((xs.length - 1 : Nat) : Int) := fun h0 => by rw [IntWalk.i64_in _ (by omega)]; omega
  have htop : 0 < xs.length → xs.getD 0 (ByteArray.empty, (0 : Int)) ∈ its := fun h0 => hpm.mem_iff.1 ((perm_popL (lt := (lessI fun a b : ByteArray => decide ((a.size : Int) < (b.size : Int)))) (d := (ByteArray.empty, (0 : Int))) h0).mem_iff.1 List.mem_cons_self)
  repeat' first
    | (refine ⟨_, ⟨rfl, rfl, rfl, rfl⟩, ?_⟩)
    | (refine ⟨_, RS_1, ?_⟩)
    | exact rfl
    | exact trivial
    | assumption
    | apply And.intro
    | intro _
    | (refine ⟨[(_, _)], rfl, rfl, ?_⟩)
    | (refine ⟨[_], rfl, rfl, ?_⟩)
    | (split <;> rename_i hh <;> try simp only [Bool.not_eq_true', Bool.not_eq_false', Bool.not_true, Bool.not_false, beq_iff_eq, beq_eq_false_iff_ne, decide_eq_true_eq, decide_eq_false_iff_not, Bool.true_eq, Bool.false_eq, Bool.not_eq_true, Bool.not_eq_false, bne_iff_ne, bne_eq_false_iff_eq, ne_eq, Decidable.not_not] at hh)
    | decide
    | omega
    | (exfalso; omega)
    | exact absurd trivial hh
    | exact ⟨_, rfl⟩
    | exact hN _
    | (exfalso; have h9 := hmn _ (htop (by omega)); omega)
    | (exfalso; rw [hpl, hwn (by omega)] at hh; exact hh rfl)
    | fail
  have h0 : 0 < xs.length := by omega
  subst hK; subst hJ
  have hpp := perm_popL (lt := (lessI fun a b : ByteArray => decide ((a.size : Int) < (b.size : Int)))) (d := (ByteArray.empty, (0 : Int))) h0
  have hmin : ∀ y ∈ its, (lessI fun a b : ByteArray => decide ((a.size : Int) < (b.size : Int))) y (xs.getD 0 (ByteArray.empty, (0 : Int))) = false := by
    intro y hy
    obtain ⟨j, hj, rfl⟩ := List.mem_iff_getElem.1 (hpm.mem_iff.2 hy)
    have := heap_top ordS hp j hj
    simpa [List.getD, hj] using this
  refine G_loopAt [_] (bodyOf Try.f9) [1, 1, 1, 1, 1, 1, 1, 0, 1, 0, 0, 1, 0, 0, 1, 1, 1, 1, 0, 1, 0] 110 (QTKlive qa (xs.getD 0 (ByteArray.empty, (0 : Int))).1 aol (its.map Prod.fst) capl (its.length : Int)) (fun _ => qtHeap2 ao cap bs qa aoa capa (popL (lessI fun a b : ByteArray => decide ((a.size : Int) < (b.size : Int))) (ByteArray.empty, (0 : Int)) xs) na aol capl (its.map Prod.fst)) (QTK (its.map Prod.fst) (xs.getD 0 (ByteArray.empty, (0 : Int))).1) (fun q => (q.2 + 1).toNat) (-1, ((its.map Prod.fst).length : Int) - 1) (by kernel_rfl) (fun J => by kernel_rfl) ⟨by dsimp only; omega, by dsimp only; omega, .inl ⟨rfl, fun j q1 q2 => by dsimp only at q1; omega⟩⟩ rfl ⟨rfl, rfl, rfl, rfl, rfl, rfl, rfl, congrArg (Value.int .i64) (IntWalk.i64_in _ (by simp; omega)), trivial⟩ (fun w hw => hw) fun q hq u => ?_
  exact qt_r3_G its (popL (lessI fun a b : ByteArray => decide ((a.size : Int) < (b.size : Int))) (ByteArray.empty, (0 : Int)) xs) (xs.getD 0 (ByteArray.empty, (0 : Int))) na capa capl aoa aol hpw (hpp.trans hpm) hmin (heap_popL ordS hp) hl q hq u

theorem qt_r1_G (hN : ∀ l, N l (.bool true)) (s : QTI) (h : s.ok bs) (hb : bs.length ≤ 60) (u : Nat → Value) :
    G Try.prog (endQ Try.prog Try.f9 W F N) W F (frm [Back W F 110 (QTI.live ao cap bs qa) (QTI.heap ao cap bs qa) (QTI.ok bs) (fun s => bs.length - s.i) (bs.length - s.i)] (bodyOf Try.f9) [1, 1, 1, 1, 0, 1, 0, 0] []) ⟨mkT u 110 0 (QTI.live ao cap bs qa s), QTI.heap ao cap bs qa s⟩ := by
  obtain ⟨xs, i, capa, aoa⟩ := s
  obtain ⟨hi, hpm, hp⟩ := h
  dsimp only at hi hpm hp ⊢
  unfold QTI.live QTI.heap
  dsimp only
  refine G_run (kc := false) (ss := []) qTS5_ok hmQS 1500 ?_
  rw [qt_r1]
  have hxl : xs.length = i := by rw [hpm.length_eq, List.length_take, length_itemsS]; omega
  have hpl : (pushL (lessI fun a b : ByteArray => decide ((a.size : Int) < (b.size : Int))) (ByteArray.empty, (0 : Int)) xs (bs.getD i .empty, (i : Int))).length = xs.length + 1 := length_pushL _ _
  have hwi : IntKind.wrap .i64 ((i : Int) + 1) = ((i + 1 : Nat) : Int) := by rw [IntWalk.i64_in _ (by omega)]; omega
  rw [hwi]
  split <;> rename_i h1
  · have hlt : i < bs.length := by simpa using h1
    have h9 : (i : Int) < bs.length := by omega
    refine ⟨⟨rfl, rfl, rfl, by omega, h9⟩, ⟨rfl, rfl, rfl, hlt⟩, ?_⟩
    split <;> rename_i h2
    · exact hN _
    · refine ⟨⟨rfl, rfl, rfl, by omega, h9⟩, ⟨rfl, rfl, rfl, hlt⟩, rfl, rfl, ⟨rfl, rfl⟩, rfl, xs, ⟨rfl, rfl, rfl, rfl⟩, (bs.getD i .empty, (i : Int)), ⟨rfl, rfl, rfl, by omega, by omega⟩, _, RS_1, fun ao2 cap2 => ⟨rfl, ⟨rfl, rfl, rfl, by decide⟩, ?_⟩⟩
      refine G_back (ι := QTI) ⟨pushL (lessI fun a b : ByteArray => decide ((a.size : Int) < (b.size : Int))) (ByteArray.empty, (0 : Int)) xs (bs.getD i .empty, (i : Int)), i + 1, cap2, ao2⟩ ⟨by dsimp only; omega, ?_, heap_pushL ordS _ hp⟩ (by dsimp only; omega) rfl ⟨rfl, rfl, rfl, rfl, trivial⟩ fun w hw => hw
      dsimp only
      have h3 : i < (itemsS bs).length := by rw [length_itemsS]; exact hlt
      rw [List.take_succ_eq_append_getElem h3, get_itemsS]
      have h4 : bs.getD i .empty = bs[i] := by simp [List.getD, hlt]
      rw [← h4]
      exact ((perm_pushL _ _).trans (hpm.cons _)).trans (List.perm_append_comm (l₁ := [_]) (l₂ := (itemsS bs).take i))
  · have hge : i = bs.length := by simp at h1; omega
    refine ⟨⟨rfl, rfl, rfl, by omega, by omega⟩, fun ao2 cap2 h2 => ?_⟩
    have htk : (itemsS bs).take i = itemsS bs := List.take_of_length_le (by rw [length_itemsS]; omega)
    rw [htk] at hpm
    have hle : (itemsS bs).length = bs.length := length_itemsS bs
    refine G_loopAt [] (bodyOf Try.f9) [1, 1, 1, 1, 1, 1, 1, 0, 1, 0] 110 (QTJ.live qa) (QTJ.heap ao cap bs qa) QTJ.ok (fun s => s.its.length) ⟨itemsS bs, xs, .empty, (i : Int), capa, cap2, aoa, ao2⟩ (by kernel_rfl) (fun J => by kernel_rfl) ⟨pw_itemsS bs, hpm, hp, fun p _ => Nat.zero_le _, by dsimp only; omega⟩ rfl ⟨rfl, rfl, rfl, ?_, ?_, trivial⟩ (fun w hw => ?_) fun s hs u => qt_r2_G hN s.its s.xs s.last s.na s.capa s.capl s.aoa s.aol hs.pw hs.pm hs.hp hs.mn hs.l u
    · show den (.vec 3 ao2 bs.length cap2) = den (.vec 3 ao2 ((itemsS bs).map Prod.fst).length cap2)
      rw [fst_itemsS]
    · show den (.int .i64 (bs.length : Int)) = den (.int .i64 ((itemsS bs).length : Int))
      rw [hle]
    · unfold QTJ.heap
      dsimp only
      rw [fst_itemsS]
      exact hw
end

theorem qt_ok (ao : Option Addr) (cap : Nat) (bs : List ByteArray) : Spec Try.prog 9 [⟨.sl ao cap, .roL 1 encStr bs .empty⟩] [.vec 0 ao bs.length cap] fun _ r => r = .bool true := by
  refine Spec.of_G 110 Try.func9 (c := bodyOf Try.f9) (by kernel_rfl) (by kernel_rfl) (Nat.le_of_ble_eq_true rfl) fun W F => ?_
  refine G_run (kc := false) (ss := []) qTS5_ok hmQS 900 ?_
  rw [qt_start]
  generalize hK : G Try.prog (endQ Try.prog Try.f9 W F fun _ r => r = .bool true) W F = K
  repeat' first
    | exact rfl
    | exact trivial
    | assumption
    | apply And.intro
    | intro _
    | (refine ⟨[(_, _)], rfl, rfl, ?_⟩)
    | (refine ⟨[_], rfl, rfl, ?_⟩)
    | (split <;> rename_i hh <;> try simp only [Bool.not_eq_true', Bool.not_eq_false', Bool.not_true, Bool.not_false, beq_iff_eq, beq_eq_false_iff_ne, decide_eq_true_eq, decide_eq_false_iff_not, Bool.true_eq, Bool.false_eq, Bool.not_eq_true, Bool.not_eq_false, bne_iff_ne, bne_eq_false_iff_eq, ne_eq, Decidable.not_not] at hh)
    | decide
    | omega
    | (exfalso; omega)
    | exact absurd trivial hh
    | exact ⟨_, rfl⟩
    | fail
  rename_i qa
  subst hK
  refine G_loopAt [] (bodyOf Try.f9) [1, 1, 1, 1, 0, 1, 0] 110 (QTI.live ao cap bs qa) (QTI.heap ao cap bs qa) (QTI.ok bs) (fun s => bs.length - s.i) ⟨[], 0, 0, none⟩ (by kernel_rfl) (fun J => by kernel_rfl) ⟨Nat.zero_le _, by simp, fun k k0 kn => by simp at kn⟩ rfl ⟨rfl, rfl, rfl, rfl, trivial⟩ (fun w hw => ?_) fun s hs u => qt_r1_G (N := fun _ r => r = .bool true) (fun l => rfl) s hs (by omega) u
  have a1 := Rep.cellsEq (l := 1) (cs' := [.vec 2 none 0 0, .func (.func 36) [] [], .int .i64 0]) rfl (by rfl) hw
  exact Rep.nilvec 140 (sz := 2) (enc := encItS) (ByteArray.empty, (0 : Int)) (fun _ => rfl) a1
end Go.Proofs.Ytjnkfgigpapeaaa
