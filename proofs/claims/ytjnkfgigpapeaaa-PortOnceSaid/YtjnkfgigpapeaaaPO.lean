/- PortOnce: the loop. -/
import Derived.Test.YtjnkfgigpapeaaaPO2Run
import Derived.Test.YtjnkfgigpapeaaaAid
namespace Go.Proofs.Ytjnkfgigpapeaaa
open Go Go.RowKit
set_option linter.unusedVariables false
set_option linter.unusedSimpArgs false
set_option linter.unnecessarySimpa false
set_option maxHeartbeats 0

structure POI where
  (gs : List Int) (cs : List (Int × ByteArray)) (i last : Int) (cap1 cap2 b3 : Nat) (ao1 ao2 : Option Addr)
def POI.live (ao : Option Addr) (bs : List Int) (cap b2 : Nat) (s : POI) : List (Nat × SV) := poLive ao bs cap b2 s.gs s.ao1 s.cap1 s.last s.i
def POI.heap (c0 : Ch) (ao : Option Addr) (bs : List Int) (cap b1 b2 : Nat) (s : POI) : List Ent := poHeap c0 ao bs cap b1 b2 s.b3 s.gs s.ao1 s.cap1 s.cs s.ao2 s.cap2 s.last
structure POI.ok (bs : List Int) (s : POI) : Prop where
  gs : s.gs = s.cs.map Prod.fst
  le : s.cs.length ≤ 16
  l0 : 0 ≤ s.last
  l1 : s.last ≤ s.i
  i1 : s.i ≤ bs.length
def POI.mu (bs : List Int) (s : POI) : Nat := (bs.length - s.i).toNat
/-- What the round hands on. -/
def POI.J (W : World) (F : List Ch) (c0 : Ch) (ao : Option Addr) (bs : List Int) (cap b1 b2 m : Nat) : Act → World → Prop := Back W F 103 (POI.live ao bs cap b2) (POI.heap c0 ao bs cap b1 b2) (POI.ok bs) (POI.mu bs) m

section
variable {W : World} {F : List Ch} {N : List Ent → SV → Prop} {c0 : Ch} {ao : Option Addr} {bs : List Int} {cap b1 b2 : Nat}

theorem po_tail_G (gs : List Int) (cs : List (Int × ByteArray)) (i last : Int) (cap1 cap2 b3 : Nat) (ao1 ao2 : Option Addr) (h1 : gs = cs.map Prod.fst) (h2 : cs.length ≤ 16) (h3 : 0 ≤ last) (h4 : last ≤ i + 1) (h5 : i < bs.length) (hb : bs.length ≤ 100) (u : Nat → Value) :
    G Try.prog (endQ Try.prog Try.f8 W F N) W F (frmR [POI.J W F c0 ao bs cap b1 b2 (bs.length - i).toNat] (bodyOf Try.f8) 39) ⟨mkT u 103 0 (poLive ao bs cap b2 gs ao1 cap1 last i), poHeap c0 ao bs cap b1 b2 b3 gs ao1 cap1 cs ao2 cap2 last⟩ := by
  refine G_vec (xs := cs) (ao := ao2) (cap := cap2) 5 rfl fun hc2 hn2 => ?_
  refine G_vec (xs := gs) (ao := ao1) (cap := cap1) 4 rfl fun hc1 hn1 => ?_
  refine G_run (kc := false) (ss := []) port4_ok hmP 900 ?_
  rw [po_tail]
  generalize hJ : POI.J W F c0 ao bs cap b1 b2 (bs.length - i).toNat = J
  generalize hK : G Try.prog (endQ Try.prog Try.f8 W F N) W F = K
  have hl1 : gs.length = cs.length := by rw [h1]; simp
  repeat' first
    | exact rfl
    | exact trivial
    | assumption
    | apply And.intro
    | intro _
    | (refine ⟨[(_, _)], rfl, rfl, ?_⟩)
    | (refine ⟨[_], rfl, rfl, ?_⟩)
    | (split <;> rename_i hh <;> try simp only [Bool.not_eq_true', Bool.not_eq_false', Bool.not_true, Bool.not_false, beq_iff_eq, beq_eq_false_iff_ne, decide_eq_true_eq, decide_eq_false_iff_not, Bool.true_eq, Bool.false_eq, Bool.not_eq_true, Bool.not_eq_false, bne_iff_ne, bne_eq_false_iff_eq, ne_eq, Decidable.not_not] at hh)
    | decide
    | omega
    | (exfalso; omega)
    | exact absurd trivial hh
    | (exfalso; have h0 : ¬ 0 < cs.length := (fun h0 => by rw [hn2 h0] at *; simp_all); omega)
    | (subst hK; subst hJ
       exact G_back (ι := POI) ⟨gs, cs, i + 1, last, cap1, cap2, b3, ao1, ao2⟩ ⟨h1, h2, h3, by dsimp only; omega, by dsimp only; omega⟩ (by simp only [POI.mu]; omega) rfl ⟨rfl, rfl, rfl, rfl, rfl, congrArg (Value.int .i64) (IntWalk.i64_in _ (by omega)), trivial⟩ fun w hw => hw.front ⟨rfl, rfl, rfl, rfl, rfl, rfl, trivial⟩)
    | fail

theorem po_close_G (gs : List Int) (cs : List (Int × ByteArray)) (i last : Int) (cap1 cap2 b3 : Nat) (ao1 ao2 : Option Addr) (h1 : gs = cs.map Prod.fst) (h2 : cs.length ≤ 16) (h3 : 0 ≤ last) (h4 : last ≤ i) (h5 : i < bs.length) (hb : bs.length ≤ 100) (u : Nat → Value) :
    G Try.prog (endQ Try.prog Try.f8 W F N) W F (frmR [POI.J W F c0 ao bs cap b1 b2 (bs.length - i).toNat] (bodyOf Try.f8) 14) ⟨mkT u 103 0 (poLive ao bs cap b2 gs ao1 cap1 last i), poHeap c0 ao bs cap b1 b2 b3 gs ao1 cap1 cs ao2 cap2 last⟩ := by
  refine G_vec (xs := cs) (ao := ao2) (cap := cap2) 5 rfl fun hc2 hn2 => ?_
  refine G_vec (xs := gs) (ao := ao1) (cap := cap1) 4 rfl fun hc1 hn1 => ?_
  refine G_run (kc := false) (ss := [39]) port4_ok hmP 900 ?_
  rw [po_close]
  generalize hJ : POI.J W F c0 ao bs cap b1 b2 (bs.length - i).toNat = J
  generalize hK : G Try.prog (endQ Try.prog Try.f8 W F N) W F = K
  have hl1 : gs.length = cs.length := by rw [h1]; simp
  repeat' first
    | exact rfl
    | exact trivial
    | assumption
    | apply And.intro
    | intro _
    | (refine ⟨[(_, _)], rfl, rfl, ?_⟩)
    | (refine ⟨[_], rfl, rfl, ?_⟩)
    | (split <;> rename_i hh <;> try simp only [Bool.not_eq_true', Bool.not_eq_false', Bool.not_true, Bool.not_false, beq_iff_eq, beq_eq_false_iff_ne, decide_eq_true_eq, decide_eq_false_iff_not, Bool.true_eq, Bool.false_eq, Bool.not_eq_true, Bool.not_eq_false, bne_iff_ne, bne_eq_false_iff_eq, ne_eq, Decidable.not_not] at hh)
    | decide
    | omega
    | (exfalso; omega)
    | exact absurd trivial hh
    | fail
  · rename_i b
    subst hK; subst hJ
    refine G_live 103 (poLive ao bs cap b2 [] none 0 last i) (poHeap c0 ao bs cap b1 b2 b [] none 0 [] none 0 last) rfl ⟨rfl, rfl, rfl, rfl, rfl, rfl, trivial⟩ (fun w hw => ?_) (po_tail_G [] [] i last 0 0 b none none rfl (by decide) h3 (by omega) h5 hb)
    have a1 := Rep.mapEq (l := 1) (es' := [(.s ⟨#[115]⟩, .ptr 3 b 0)]) rfl (by simp [keyKind]) (by rfl) hw
    have a2 := Rep.cellsEq (l := 6) (cs' := [.vec 5 none 0 0]) rfl (by rfl) a1
    have a3 := Rep.pick (π := [0, 1, 2, 6]) (by decide) rfl a2
    exact Rep.nilvec 52 (sz := 2) (enc := encDg) (0, .empty) (fun _ => rfl) (Rep.nilvec 3 (sz := 1) (enc := encInt) 0 (fun _ => rfl) a3)
theorem po_conn_G (gs : List Int) (cs : List (Int × ByteArray)) (i last : Int) (cap1 cap2 b3 : Nat) (ao1 ao2 : Option Addr) (h1 : gs = cs.map Prod.fst) (h2 : cs.length ≤ 16) (h3 : 0 ≤ last) (h4 : last ≤ i) (h5 : i < bs.length) (hb : bs.length ≤ 100) (u : Nat → Value) :
    G Try.prog (endQ Try.prog Try.f8 W F N) W F (frmR [POI.J W F c0 ao bs cap b1 b2 (bs.length - i).toNat] (bodyOf Try.f8) 21) ⟨mkT u 103 0 (poLive ao bs cap b2 gs ao1 cap1 last i), poHeap c0 ao bs cap b1 b2 b3 gs ao1 cap1 cs ao2 cap2 last⟩ := by
  refine G_vec (xs := cs) (ao := ao2) (cap := cap2) 5 rfl fun hc2 hn2 => ?_
  refine G_vec (xs := gs) (ao := ao1) (cap := cap1) 4 rfl fun hc1 hn1 => ?_
  refine G_run (kc := false) (ss := [39]) port4_ok hmP 900 ?_
  rw [po_conn]
  generalize hJ : POI.J W F c0 ao bs cap b1 b2 (bs.length - i).toNat = J
  generalize hK : G Try.prog (endQ Try.prog Try.f8 W F N) W F = K
  have hl1 : gs.length = cs.length := by rw [h1]; simp
  have hwr : IntKind.wrap .i64 (last + 1) = last + 1 := IntWalk.i64_in _ (by omega)
  repeat' first
    | (refine ⟨[(IntKind.wrap .i64 (last + 1), _)], rfl, rfl, ?_⟩)
    | (refine ⟨[IntKind.wrap .i64 (last + 1)], rfl, rfl, ?_⟩)
    | exact rfl
    | exact trivial
    | assumption
    | apply And.intro
    | intro _
    | (refine ⟨[(_, _)], rfl, rfl, ?_⟩)
    | (refine ⟨[_], rfl, rfl, ?_⟩)
    | (split <;> rename_i hh <;> try simp only [Bool.not_eq_true', Bool.not_eq_false', Bool.not_true, Bool.not_false, beq_iff_eq, beq_eq_false_iff_ne, decide_eq_true_eq, decide_eq_false_iff_not, Bool.true_eq, Bool.false_eq, Bool.not_eq_true, Bool.not_eq_false, bne_iff_ne, bne_eq_false_iff_eq, ne_eq, Decidable.not_not] at hh)
    | decide
    | omega
    | (exfalso; omega)
    | exact absurd trivial hh
    | (subst hK; subst hJ
       exact G_back (ι := POI) ⟨gs, cs, i + 1, last, cap1, cap2, b3, ao1, ao2⟩ ⟨h1, h2, h3, by dsimp only; omega, by dsimp only; omega⟩ (by simp only [POI.mu]; omega) rfl ⟨rfl, rfl, rfl, rfl, rfl, congrArg (Value.int .i64) (IntWalk.i64_in _ (by omega)), trivial⟩ fun w hw => hw.front ⟨rfl, rfl, rfl, rfl, rfl, rfl, trivial⟩)
    | fail
  · rename_i ao2' cap2' hc2' _ _ _ _ ao1' cap1' hc1'
    subst hK; subst hJ
    refine G_live 103 (poLive ao bs cap b2 (gs ++ [last + 1]) ao1' cap1' (last + 1) i) (poHeap c0 ao bs cap b1 b2 b3 (gs ++ [last + 1]) ao1' cap1' (cs ++ [(last + 1, ⟨#[116]⟩)]) ao2' cap2' (last + 1)) rfl ⟨rfl, rfl, rfl, by dsimp only; rw [List.length_append]; rfl, congrArg (Value.int .i64) hwr, rfl, trivial⟩ (fun w hw => ?_) (po_tail_G (gs ++ [last + 1]) (cs ++ [(last + 1, ⟨#[116]⟩)]) i (last + 1) cap1' cap2' b3 ao1' ao2' (by simp [h1]) (by simp; omega) (by omega) (by omega) h5 hb)
    unfold poHeap
    simp only [List.length_append, List.length_cons, List.length_nil]
    simp only [hwr] at hw
    exact hw.front ⟨rfl, rfl, rfl, rfl, rfl, rfl, trivial⟩

theorem po_acc_G (gs : List Int) (cs : List (Int × ByteArray)) (i last : Int) (cap1 cap2 b3 : Nat) (ao1 ao2 : Option Addr) (h1 : gs = cs.map Prod.fst) (h2 : cs.length ≤ 16) (h3 : 0 ≤ last) (h4 : last ≤ i) (h5 : i < bs.length) (hb : bs.length ≤ 100) (u : Nat → Value) :
    G Try.prog (endQ Try.prog Try.f8 W F N) W F (frmR [POI.J W F c0 ao bs cap b1 b2 (bs.length - i).toNat] (bodyOf Try.f8) 32) ⟨mkT u 103 0 (poLive ao bs cap b2 gs ao1 cap1 last i), poHeap c0 ao bs cap b1 b2 b3 gs ao1 cap1 cs ao2 cap2 last⟩ := by
  refine G_vec (xs := cs) (ao := ao2) (cap := cap2) 5 rfl fun hc2 hn2 => ?_
  refine G_vec (xs := gs) (ao := ao1) (cap := cap1) 4 rfl fun hc1 hn1 => ?_
  refine G_run (kc := false) (ss := [39]) port4_ok hmP 900 ?_
  rw [po_acc]
  generalize hJ : POI.J W F c0 ao bs cap b1 b2 (bs.length - i).toNat = J
  generalize hK : G Try.prog (endQ Try.prog Try.f8 W F N) W F = K
  have hl1 : gs.length = cs.length := by rw [h1]; simp
  have hd0 : (cs.getD 0 (0, ByteArray.empty)).1 = gs.getD 0 0 := by rw [h1]; cases cs <;> rfl
  repeat' first
    | exact rfl
    | exact trivial
    | assumption
    | apply And.intro
    | intro _
    | (refine ⟨[(_, _)], rfl, rfl, ?_⟩)
    | (refine ⟨[_], rfl, rfl, ?_⟩)
    | (split <;> rename_i hh <;> try simp only [Bool.not_eq_true', Bool.not_eq_false', Bool.not_true, Bool.not_false, beq_iff_eq, beq_eq_false_iff_ne, decide_eq_true_eq, decide_eq_false_iff_not, Bool.true_eq, Bool.false_eq, Bool.not_eq_true, Bool.not_eq_false, bne_iff_ne, bne_eq_false_iff_eq, ne_eq, Decidable.not_not] at hh)
    | decide
    | omega
    | (exfalso; omega)
    | exact absurd trivial hh
    | (subst hK; subst hJ
       exact G_back (ι := POI) ⟨gs, cs, i + 1, last, cap1, cap2, b3, ao1, ao2⟩ ⟨h1, h2, h3, by dsimp only; omega, by dsimp only; omega⟩ (by simp only [POI.mu]; omega) rfl ⟨rfl, rfl, rfl, rfl, rfl, congrArg (Value.int .i64) (IntWalk.i64_in _ (by omega)), trivial⟩ fun w hw => hw.front ⟨rfl, rfl, rfl, rfl, rfl, rfl, trivial⟩)
    | (exfalso; exact absurd hd0 (by assumption))
    | (subst hK; subst hJ
       refine G_live 103 (poLive ao bs cap b2 (gs.drop 1) (cutA ao1 cap1 1 1) (cap1 - 1) last i) (poHeap c0 ao bs cap b1 b2 b3 (gs.drop 1) (cutA ao1 cap1 1 1) (cap1 - 1) (cs.drop 1) (cutA ao2 cap2 2 1) (cap2 - 1) last) rfl ⟨rfl, rfl, rfl, by dsimp only; rw [List.length_drop]; rfl, rfl, rfl, trivial⟩ (fun w hw => ?_) (po_tail_G (gs.drop 1) (cs.drop 1) i last (cap1 - 1) (cap2 - 1) b3 (cutA ao1 cap1 1 1) (cutA ao2 cap2 2 1) (by rw [h1, List.map_drop]) (by simp; omega) h3 (by omega) h5 hb)
       have a1 := Rep.cut (l := 4) (k := 1) rfl (by omega) hw
       have a2 := Rep.cut (l := 5) (k := 1) rfl (by omega) a1
       have a3 := Rep.cellsEq (l := 3) (cs' := [.vec 5 (cutA ao2 cap2 2 1) (cs.drop 1).length (cap2 - 1)]) rfl (by simp [denL, den_cut]) a2
       exact a3.front ⟨rfl, rfl, rfl, rfl, rfl, rfl, trivial⟩)
    | fail

theorem po_head_G (hN : ∀ l, N (⟨.sl ao cap, .roL c0 1 encByte bs 0⟩ :: l) (.bool true)) (gs : List Int) (cs : List (Int × ByteArray)) (i last : Int) (cap1 cap2 b3 : Nat) (ao1 ao2 : Option Addr) (h1 : gs = cs.map Prod.fst) (h2 : cs.length ≤ 16) (h3 : 0 ≤ last) (h4 : last ≤ i) (h5 : i ≤ bs.length) (hb : bs.length ≤ 100) (u : Nat → Value) :
    G Try.prog (endQ Try.prog Try.f8 W F N) W F (frm [POI.J W F c0 ao bs cap b1 b2 (bs.length - i).toNat] (bodyOf Try.f8) [1, 1, 1, 1, 1, 1, 1, 0, 1, 0, 0] []) ⟨mkT u 103 0 (poLive ao bs cap b2 gs ao1 cap1 last i), poHeap c0 ao bs cap b1 b2 b3 gs ao1 cap1 cs ao2 cap2 last⟩ := by
  refine G_run (kc := false) (ss := [21, 32, 14, 39]) port4_ok hmP 900 ?_
  rw [po_head]
  generalize hJ : POI.J W F c0 ao bs cap b1 b2 (bs.length - i).toNat = J
  generalize hK : G Try.prog (endQ Try.prog Try.f8 W F N) W F = K
  have hl1 : gs.length = cs.length := by rw [h1]; simp
  repeat' first
    | exact rfl
    | exact trivial
    | assumption
    | apply And.intro
    | intro _
    | (refine ⟨[(_, _)], rfl, rfl, ?_⟩)
    | (refine ⟨[_], rfl, rfl, ?_⟩)
    | (split <;> rename_i hh <;> try simp only [Bool.not_eq_true', Bool.not_eq_false', Bool.not_true, Bool.not_false, beq_iff_eq, beq_eq_false_iff_ne, decide_eq_true_eq, decide_eq_false_iff_not, Bool.true_eq, Bool.false_eq, Bool.not_eq_true, Bool.not_eq_false, bne_iff_ne, bne_eq_false_iff_eq, ne_eq, Decidable.not_not] at hh)
    | decide
    | omega
    | (exfalso; omega)
    | exact absurd trivial hh
    | exact hN _
    | (subst hK; subst hJ
       exact G_live 103 (poLive ao bs cap b2 gs ao1 cap1 last i) (poHeap c0 ao bs cap b1 b2 b3 gs ao1 cap1 cs ao2 cap2 last) rfl ⟨rfl, rfl, rfl, rfl, rfl, rfl, trivial⟩ (fun w hw => hw) (po_conn_G gs cs i last cap1 cap2 b3 ao1 ao2 h1 h2 h3 h4 (by omega) hb))
    | (subst hK; subst hJ
       exact G_live 103 (poLive ao bs cap b2 gs ao1 cap1 last i) (poHeap c0 ao bs cap b1 b2 b3 gs ao1 cap1 cs ao2 cap2 last) rfl ⟨rfl, rfl, rfl, rfl, rfl, rfl, trivial⟩ (fun w hw => hw) (po_acc_G gs cs i last cap1 cap2 b3 ao1 ao2 h1 h2 h3 h4 (by omega) hb))
    | (subst hK; subst hJ
       exact G_live 103 (poLive ao bs cap b2 gs ao1 cap1 last i) (poHeap c0 ao bs cap b1 b2 b3 gs ao1 cap1 cs ao2 cap2 last) rfl ⟨rfl, rfl, rfl, rfl, rfl, rfl, trivial⟩ (fun w hw => hw) (po_close_G gs cs i last cap1 cap2 b3 ao1 ao2 h1 h2 h3 h4 (by omega) hb))
    | fail
end

theorem po_ok (c0 : Ch) (ao : Option Addr) (bs : List Int) (cap : Nat) : Spec Try.prog 8 [⟨.sl ao cap, .roL c0 1 encByte bs 0⟩] [.vec 0 ao bs.length cap] fun h' r => r = .bool true ∧ ∃ l, h' = ⟨.sl ao cap, .roL c0 1 encByte bs 0⟩ :: l := by
  refine Spec.of_G 103 Try.func8 (c := bodyOf Try.f8) (by kernel_rfl) (by kernel_rfl) (Nat.le_of_ble_eq_true rfl) fun W F => ?_
  refine G_run (kc := false) (ss := []) port4_ok hmP 600 ?_
  rw [po_start]
  generalize hK : G Try.prog (endQ Try.prog Try.f8 W F fun h' r => r = .bool true ∧ ∃ l, h' = ⟨.sl ao cap, .roL c0 1 encByte bs 0⟩ :: l) W F = K
  repeat' first
    | exact rfl
    | exact trivial
    | assumption
    | apply And.intro
    | intro _
    | (refine ⟨[(_, _)], rfl, rfl, ?_⟩)
    | (refine ⟨[_], rfl, rfl, ?_⟩)
    | (split <;> rename_i hh <;> try simp only [Bool.not_eq_true', Bool.not_eq_false', Bool.not_true, Bool.not_false, beq_iff_eq, beq_eq_false_iff_ne, decide_eq_true_eq, decide_eq_false_iff_not, Bool.true_eq, Bool.false_eq, Bool.not_eq_true, Bool.not_eq_false, bne_iff_ne, bne_eq_false_iff_eq, ne_eq, Decidable.not_not] at hh)
    | decide
    | omega
    | (exfalso; omega)
    | exact absurd trivial hh
    | exact ⟨_, rfl⟩
    | fail
  rename_i b1 b2 b3
  subst hK
  refine G_loopAt [] (bodyOf Try.f8) [1, 1, 1, 1, 1, 1, 1, 0, 1, 0] 103 (POI.live ao bs cap b2) (POI.heap c0 ao bs cap b1 b2) (POI.ok bs) (POI.mu bs) ⟨[], [], 0, 0, 0, 0, b3, none, none⟩ (by kernel_rfl) (fun J => by kernel_rfl) ⟨rfl, Nat.zero_le _, Int.le_refl _, Int.le_refl _, by dsimp only; omega⟩ rfl ⟨rfl, rfl, rfl, rfl, rfl, rfl, trivial⟩ (fun w hw => ?_) fun s hs u => po_head_G (fun l => ⟨rfl, l, rfl⟩) s.gs s.cs s.i s.last s.cap1 s.cap2 s.b3 s.ao1 s.ao2 hs.gs hs.le hs.l0 hs.l1 hs.i1 (by omega) u
  have a1 := Rep.cellsEq (l := 3) (cs' := [.vec 5 none 0 0]) rfl (by rfl) hw
  exact Rep.nilvec 52 (sz := 2) (enc := encDg) (0, .empty) (fun _ => rfl) (Rep.nilvec 3 (sz := 1) (enc := encInt) 0 (fun _ => rfl) a1)
end Go.Proofs.Ytjnkfgigpapeaaa
