/- PortSockets: the loop. -/
import Derived.Test.YtjnkfgigpapeaaaPS2Run
import Derived.Test.YtjnkfgigpapeaaaAid
namespace Go.Proofs.Ytjnkfgigpapeaaa
open Go Go.RowKit
set_option linter.unusedVariables false
set_option linter.unusedSimpArgs false
set_option linter.unnecessarySimpa false
set_option maxHeartbeats 0

structure PSI where
  (x y z : PSL) (i next last : Int)
structure PSL.ok (nm : ByteArray) (x : PSL) : Prop where
  ws : x.ws = x.cs.map Prod.fst
  tx : ∀ d ∈ x.cs, d.2 = nm
  le : x.cs.length ≤ 16
theorem PSL.ok.len {nm : ByteArray} {x : PSL} (h : x.ok nm) : x.ws.length = x.cs.length := by rw [h.ws]; simp
theorem PSL.ok.hd {nm : ByteArray} {x : PSL} (h : x.ok nm) : (x.cs.getD 0 (0, ByteArray.empty)).1 = x.ws.getD 0 0 := by rw [h.ws]; cases x.cs <;> rfl
theorem PSL.ok.eq {nm : ByteArray} {x : PSL} (h : x.ok nm) (h0 : 0 < x.cs.length) : sEq (x.cs.getD 0 (0, ByteArray.empty)).2 nm = true := by
  cases hc : x.cs with
  | nil => rw [hc] at h0; simp at h0
  | cons d l =>
    have : d.2 = nm := h.tx d (by rw [hc]; exact List.mem_cons_self)
    show sEq d.2 nm = true
    rw [this, sEq_self]
theorem PSL.ok.push {nm : ByteArray} {x : PSL} (h : x.ok nm) (n : Int) (c1 c2 : Nat) (a1 a2 : Option Addr) (h0 : x.cs.length < 16) : PSL.ok nm ⟨x.ws ++ [n], x.cs ++ [(n, nm)], c1, c2, a1, a2⟩ := by
  refine ⟨by simp [h.ws], ?_, by simp; omega⟩
  intro d hd
  rcases List.mem_append.1 hd with hd | hd
  · exact h.tx d hd
  · simp at hd; rw [hd]
theorem PSL.ok.pop {nm : ByteArray} {x : PSL} (h : x.ok nm) (c1 c2 : Nat) (a1 a2 : Option Addr) : PSL.ok nm ⟨x.ws.drop 1, x.cs.drop 1, c1, c2, a1, a2⟩ := by
  refine ⟨by simp [h.ws, List.map_drop], fun d hd => h.tx d (List.mem_of_mem_drop hd), ?_⟩
  have := h.le
  simp; omega
structure PSI.ok (bs : List Int) (s : PSI) : Prop where
  x : s.x.ok ⟨#[97]⟩
  y : s.y.ok ⟨#[98]⟩
  z : s.z.ok ⟨#[99]⟩
  n : s.next = s.last + 1
  l0 : 0 ≤ s.last
  l1 : s.last ≤ s.i
  i1 : s.i ≤ bs.length
def PSI.mu (bs : List Int) (s : PSI) : Nat := (bs.length - s.i).toNat
def PSI.live (ao : Option Addr) (bs : List Int) (cap bn b2 bw : Nat) (s : PSI) : List (Nat × SV) := [(0, .vec 0 ao bs.length cap), (2, .bool false), (3, .ptr 1 bn 0), (4, .ptr 3 b2 0), (6, .ptr 7 bw 0), (7, .int .i64 s.next), (8, .int .i64 s.i)]
def PSI.heap (c0 : Ch) (ao : Option Addr) (bs : List Int) (cap bn b1 b2 q0 q1 q2 bw : Nat) (s : PSI) : List Ent := psHeap c0 ao bs cap bn b1 b2 q0 q1 q2 bw s.x s.y s.z s.last
def PSI.J (W : World) (F : List Ch) (c0 : Ch) (ao : Option Addr) (bs : List Int) (cap bn b1 b2 q0 q1 q2 bw m : Nat) : Act → World → Prop := Back W F 144 (PSI.live ao bs cap bn b2 bw) (PSI.heap c0 ao bs cap bn b1 b2 q0 q1 q2 bw) (PSI.ok bs) (PSI.mu bs) m

section
variable {W : World} {F : List Ch} {N : List Ent → SV → Prop} {c0 : Ch} {ao : Option Addr} {bs : List Int} {cap bn b1 b2 q0 q1 q2 bw : Nat}

theorem ps_tail_G (x y z : PSL) (i next last : Int) (hx : x.ok ⟨#[97]⟩) (hy : y.ok ⟨#[98]⟩) (hz : z.ok ⟨#[99]⟩) (h1 : next = last + 1) (h2 : 0 ≤ last) (h3 : last ≤ i + 1) (h4 : i < bs.length) (hb : bs.length ≤ 45) (h0 : 0 ≤ i) (u : Nat → Value) :
    G Try.prog (endQ Try.prog Try.f6 W F N) W F (frmR [PSI.J W F c0 ao bs cap bn b1 b2 q0 q1 q2 bw (bs.length - i).toNat] (bodyOf Try.f6) 29) ⟨mkT u 144 0 [(0, .vec 0 ao bs.length cap), (2, .bool false), (3, .ptr 1 bn 0), (4, .ptr 3 b2 0), (6, .ptr 7 bw 0), (7, .int .i64 next), (8, .int .i64 i)], psHeap c0 ao bs cap bn b1 b2 q0 q1 q2 bw x y z last⟩ := by
  have hlx := hx.len
  have hly := hy.len
  have hlz := hz.len
  have hex := hx.le
  have hey := hy.le
  have hez := hz.le
  refine G_run (kc := true) (ss := [100030]) port5_ok hmP 1500 ?_
  rw [ps_tail]
  generalize hJ : PSI.J W F c0 ao bs cap bn b1 b2 q0 q1 q2 bw (bs.length - i).toNat = J
  generalize hK : G Try.prog (endQ Try.prog Try.f6 W F N) W F = K
  repeat' first
    | exact rfl
    | exact trivial
    | assumption
    | apply And.intro
    | intro _
    | (refine ⟨[(_, _)], rfl, rfl, ?_⟩)
    | (refine ⟨[_], rfl, rfl, ?_⟩)
    | (split <;> rename_i hh <;> try simp only [Bool.not_eq_true', Bool.not_eq_false', Bool.not_true, Bool.not_false, beq_iff_eq, beq_eq_false_iff_ne, decide_eq_true_eq, decide_eq_false_iff_not, Bool.true_eq, Bool.false_eq, Bool.not_eq_true, Bool.not_eq_false, bne_iff_ne, bne_eq_false_iff_eq, ne_eq, Decidable.not_not] at hh)
    | decide
    | omega
    | (exfalso; omega)
    | exact absurd trivial hh
    | exact ⟨_, rfl⟩
    | (subst hK; subst hJ
       exact G_back (ι := PSI) ⟨x, y, z, i + 1, next, last⟩ ⟨hx, hy, hz, h1, h2, h3, by dsimp only; omega⟩ (by simp only [PSI.mu]; omega) rfl ⟨rfl, rfl, rfl, rfl, rfl, rfl, congrArg (Value.int .i64) (IntWalk.i64_in _ (by omega)), trivial⟩ fun w hw => hw.front ⟨rfl, rfl, rfl, rfl, rfl, rfl, rfl, rfl, rfl, rfl, rfl, rfl, rfl, rfl, trivial⟩)
    | fail

theorem ps_b0_G (x y z : PSL) (i next last : Int) (hx : x.ok ⟨#[97]⟩) (hy : y.ok ⟨#[98]⟩) (hz : z.ok ⟨#[99]⟩) (h1 : next = last + 1) (h2 : 0 ≤ last) (h3 : last ≤ i + 1) (h4 : i < bs.length) (hb : bs.length ≤ 45) (h0 : 0 ≤ i) (u : Nat → Value) :
    G Try.prog (endQ Try.prog Try.f6 W F N) W F (frmR [PSI.J W F c0 ao bs cap bn b1 b2 q0 q1 q2 bw (bs.length - i).toNat] (bodyOf Try.f6) 24) ⟨mkT u 144 0 [(0, .vec 0 ao bs.length cap), (2, .bool false), (3, .ptr 1 bn 0), (4, .ptr 3 b2 0), (6, .ptr 7 bw 0), (7, .int .i64 next), (8, .int .i64 i), (9, .int .i64 0)], psHeap c0 ao bs cap bn b1 b2 q0 q1 q2 bw x y z last⟩ := by
  have hlx := hx.len
  have hly := hy.len
  have hlz := hz.len
  have hex := hx.le
  have hey := hy.le
  have hez := hz.le
  refine G_vec (xs := x.ws) (ao := x.ao1) (cap := x.cap1) 8 rfl fun hc1 _ => ?_
  refine G_vec (xs := x.cs) (ao := x.ao2) (cap := x.cap2) 11 rfl fun hc2 _ => ?_
  refine G_run (kc := false) (ss := [29]) port5_ok hmP 1500 ?_
  rw [ps_b0]
  generalize hJ : PSI.J W F c0 ao bs cap bn b1 b2 q0 q1 q2 bw (bs.length - i).toNat = J
  generalize hK : G Try.prog (endQ Try.prog Try.f6 W F N) W F = K
  repeat' first
    | exact rfl
    | exact trivial
    | assumption
    | apply And.intro
    | intro _
    | (refine ⟨[(_, _)], rfl, rfl, ?_⟩)
    | (refine ⟨[_], rfl, rfl, ?_⟩)
    | (split <;> rename_i hh <;> try simp only [Bool.not_eq_true', Bool.not_eq_false', Bool.not_true, Bool.not_false, beq_iff_eq, beq_eq_false_iff_ne, decide_eq_true_eq, decide_eq_false_iff_not, Bool.true_eq, Bool.false_eq, Bool.not_eq_true, Bool.not_eq_false, bne_iff_ne, bne_eq_false_iff_eq, ne_eq, Decidable.not_not] at hh)
    | decide
    | omega
    | (exfalso; omega)
    | exact absurd trivial hh
    | exact ⟨_, rfl⟩
    | (exfalso; rw [hx.hd, hx.eq (by omega)] at hh; simp at hh; done)
    | (subst hK; subst hJ
       exact G_live 144 [(0, .vec 0 ao bs.length cap), (2, .bool false), (3, .ptr 1 bn 0), (4, .ptr 3 b2 0), (6, .ptr 7 bw 0), (7, .int .i64 next), (8, .int .i64 i)] (psHeap c0 ao bs cap bn b1 b2 q0 q1 q2 bw x y z last) rfl ⟨rfl, rfl, rfl, rfl, rfl, rfl, rfl, trivial⟩ (fun w hw => hw.front ⟨rfl, rfl, rfl, rfl, rfl, rfl, rfl, rfl, rfl, rfl, rfl, rfl, rfl, rfl, trivial⟩) (ps_tail_G x y z i next last hx hy hz h1 h2 (by omega) h4 hb h0))
    | (subst hK; subst hJ
       refine G_live 144 [(0, .vec 0 ao bs.length cap), (2, .bool false), (3, .ptr 1 bn 0), (4, .ptr 3 b2 0), (6, .ptr 7 bw 0), (7, .int .i64 next), (8, .int .i64 i)] (psHeap c0 ao bs cap bn b1 b2 q0 q1 q2 bw ⟨x.ws.drop 1, x.cs.drop 1, x.cap1 - 1, x.cap2 - 1, cutA x.ao1 x.cap1 1 1, cutA x.ao2 x.cap2 2 1⟩ y z last) rfl ⟨rfl, rfl, rfl, rfl, rfl, rfl, rfl, trivial⟩ (fun w hw => ?_) (ps_tail_G ⟨x.ws.drop 1, x.cs.drop 1, x.cap1 - 1, x.cap2 - 1, cutA x.ao1 x.cap1 1 1, cutA x.ao2 x.cap2 2 1⟩ y z i next last (hx.pop _ _ _ _) hy hz h1 h2 h3 h4 hb h0)
       have a1 := Rep.cut (l := 8) (k := 1) rfl (by omega) hw
       have a2 := Rep.cut (l := 11) (k := 1) rfl (by omega) a1
       have a3 := Rep.cellsEq (l := 4) (cs' := [.vec 11 (cutA x.ao2 x.cap2 2 1) (x.cs.drop 1).length (x.cap2 - 1)]) rfl (by simp [denL, den_cut]) a2
       have a4 := Rep.cellsEq (l := 7) (cs' := [.vec 8 (cutA x.ao1 x.cap1 1 1) (x.ws.drop 1).length (x.cap1 - 1), .vec 9 y.ao1 y.ws.length y.cap1, .vec 10 z.ao1 z.ws.length z.cap1]) rfl (by simp [denL, den_cut]) a3
       exact a4.front ⟨rfl, rfl, rfl, rfl, rfl, rfl, rfl, rfl, rfl, rfl, rfl, rfl, rfl, rfl, trivial⟩)
    | fail

theorem ps_a0_G (x y z : PSL) (i next last : Int) (hx : x.ok ⟨#[97]⟩) (hy : y.ok ⟨#[98]⟩) (hz : z.ok ⟨#[99]⟩) (h1 : next = last + 1) (h2 : 0 ≤ last) (h3 : last ≤ i) (h4 : i < bs.length) (hb : bs.length ≤ 45) (h0 : 0 ≤ i) (u : Nat → Value) :
    G Try.prog (endQ Try.prog Try.f6 W F N) W F (frmR [PSI.J W F c0 ao bs cap bn b1 b2 q0 q1 q2 bw (bs.length - i).toNat] (bodyOf Try.f6) 18) ⟨mkT u 144 0 [(0, .vec 0 ao bs.length cap), (2, .bool false), (3, .ptr 1 bn 0), (4, .ptr 3 b2 0), (6, .ptr 7 bw 0), (7, .int .i64 next), (8, .int .i64 i), (9, .int .i64 0)], psHeap c0 ao bs cap bn b1 b2 q0 q1 q2 bw x y z last⟩ := by
  have hlx := hx.len
  have hly := hy.len
  have hlz := hz.len
  have hex := hx.le
  have hey := hy.le
  have hez := hz.le
  refine G_run (kc := false) (ss := [24]) port5_ok hmP 1500 ?_
  rw [ps_a0]
  generalize hJ : PSI.J W F c0 ao bs cap bn b1 b2 q0 q1 q2 bw (bs.length - i).toNat = J
  generalize hK : G Try.prog (endQ Try.prog Try.f6 W F N) W F = K
  have hwr : IntKind.wrap .i64 (last + 1) = last + 1 := IntWalk.i64_in _ (by omega)
  have hwn : IntKind.wrap .i64 (next + 1) = next + 1 := IntWalk.i64_in _ (by omega)
  repeat' first
    | (refine ⟨[(IntKind.wrap .i64 (last + 1), _)], rfl, rfl, ?_⟩)
    | (refine ⟨[IntKind.wrap .i64 (last + 1)], rfl, rfl, ?_⟩)
    | exact rfl
    | exact trivial
    | assumption
    | apply And.intro
    | intro _
    | (refine ⟨[(_, _)], rfl, rfl, ?_⟩)
    | (refine ⟨[_], rfl, rfl, ?_⟩)
    | (split <;> rename_i hh <;> try simp only [Bool.not_eq_true', Bool.not_eq_false', Bool.not_true, Bool.not_false, beq_iff_eq, beq_eq_false_iff_ne, decide_eq_true_eq, decide_eq_false_iff_not, Bool.true_eq, Bool.false_eq, Bool.not_eq_true, Bool.not_eq_false, bne_iff_ne, bne_eq_false_iff_eq, ne_eq, Decidable.not_not] at hh)
    | decide
    | omega
    | (exfalso; omega)
    | exact absurd trivial hh
    | exact ⟨_, rfl⟩
    | exact absurd (by rw [h1]; assumption) hh
    | (subst hK; subst hJ
       exact G_live 144 [(0, .vec 0 ao bs.length cap), (2, .bool false), (3, .ptr 1 bn 0), (4, .ptr 3 b2 0), (6, .ptr 7 bw 0), (7, .int .i64 next), (8, .int .i64 i), (9, .int .i64 0)] (psHeap c0 ao bs cap bn b1 b2 q0 q1 q2 bw x y z last) rfl ⟨rfl, rfl, rfl, rfl, rfl, rfl, rfl, rfl, trivial⟩ (fun w hw => hw.front ⟨rfl, rfl, rfl, rfl, rfl, rfl, rfl, rfl, rfl, rfl, rfl, rfl, rfl, rfl, trivial⟩) (ps_b0_G x y z i next last hx hy hz h1 h2 (by omega) h4 hb h0))
    | (rename_i ao2' cap2' hc2' _ _ ao1' cap1' hc1'
       subst hK; subst hJ
       refine G_live 144 [(0, .vec 0 ao bs.length cap), (2, .bool false), (3, .ptr 1 bn 0), (4, .ptr 3 b2 0), (6, .ptr 7 bw 0), (7, .int .i64 (next + 1)), (8, .int .i64 i), (9, .int .i64 0)] (psHeap c0 ao bs cap bn b1 b2 q0 q1 q2 bw ⟨x.ws ++ [last + 1], x.cs ++ [(last + 1, ⟨#[97]⟩)], cap1', cap2', ao1', ao2'⟩ y z (last + 1)) rfl ⟨rfl, rfl, rfl, rfl, rfl, congrArg (Value.int .i64) hwn, rfl, rfl, trivial⟩ (fun w hw => ?_) (ps_b0_G ⟨x.ws ++ [last + 1], x.cs ++ [(last + 1, ⟨#[97]⟩)], cap1', cap2', ao1', ao2'⟩ y z i (next + 1) (last + 1) (hx.push _ _ _ _ _ (by omega)) hy hz (by omega) (by omega) (by omega) h4 hb h0)
       unfold psHeap
       simp only [List.length_append, List.length_cons, List.length_nil]
       simp only [hwr] at hw
       exact hw.front ⟨rfl, rfl, rfl, rfl, rfl, rfl, rfl, rfl, rfl, rfl, rfl, rfl, rfl, rfl, trivial⟩)
    | fail

theorem ps_b1_G (x y z : PSL) (i next last : Int) (hx : x.ok ⟨#[97]⟩) (hy : y.ok ⟨#[98]⟩) (hz : z.ok ⟨#[99]⟩) (h1 : next = last + 1) (h2 : 0 ≤ last) (h3 : last ≤ i + 1) (h4 : i < bs.length) (hb : bs.length ≤ 45) (h0 : 0 ≤ i) (u : Nat → Value) :
    G Try.prog (endQ Try.prog Try.f6 W F N) W F (frmR [PSI.J W F c0 ao bs cap bn b1 b2 q0 q1 q2 bw (bs.length - i).toNat] (bodyOf Try.f6) 24) ⟨mkT u 144 0 [(0, .vec 0 ao bs.length cap), (2, .bool false), (3, .ptr 1 bn 0), (4, .ptr 3 b2 0), (6, .ptr 7 bw 0), (7, .int .i64 next), (8, .int .i64 i), (9, .int .i64 1)], psHeap c0 ao bs cap bn b1 b2 q0 q1 q2 bw x y z last⟩ := by
  have hlx := hx.len
  have hly := hy.len
  have hlz := hz.len
  have hex := hx.le
  have hey := hy.le
  have hez := hz.le
  refine G_vec (xs := y.ws) (ao := y.ao1) (cap := y.cap1) 9 rfl fun hc1 _ => ?_
  refine G_vec (xs := y.cs) (ao := y.ao2) (cap := y.cap2) 12 rfl fun hc2 _ => ?_
  refine G_run (kc := false) (ss := [29]) port5_ok hmP 1500 ?_
  rw [ps_b1]
  generalize hJ : PSI.J W F c0 ao bs cap bn b1 b2 q0 q1 q2 bw (bs.length - i).toNat = J
  generalize hK : G Try.prog (endQ Try.prog Try.f6 W F N) W F = K
  repeat' first
    | exact rfl
    | exact trivial
    | assumption
    | apply And.intro
    | intro _
    | (refine ⟨[(_, _)], rfl, rfl, ?_⟩)
    | (refine ⟨[_], rfl, rfl, ?_⟩)
    | (split <;> rename_i hh <;> try simp only [Bool.not_eq_true', Bool.not_eq_false', Bool.not_true, Bool.not_false, beq_iff_eq, beq_eq_false_iff_ne, decide_eq_true_eq, decide_eq_false_iff_not, Bool.true_eq, Bool.false_eq, Bool.not_eq_true, Bool.not_eq_false, bne_iff_ne, bne_eq_false_iff_eq, ne_eq, Decidable.not_not] at hh)
    | decide
    | omega
    | (exfalso; omega)
    | exact absurd trivial hh
    | exact ⟨_, rfl⟩
    | (exfalso; rw [hy.hd, hy.eq (by omega)] at hh; simp at hh; done)
    | (subst hK; subst hJ
       exact G_live 144 [(0, .vec 0 ao bs.length cap), (2, .bool false), (3, .ptr 1 bn 0), (4, .ptr 3 b2 0), (6, .ptr 7 bw 0), (7, .int .i64 next), (8, .int .i64 i)] (psHeap c0 ao bs cap bn b1 b2 q0 q1 q2 bw x y z last) rfl ⟨rfl, rfl, rfl, rfl, rfl, rfl, rfl, trivial⟩ (fun w hw => hw.front ⟨rfl, rfl, rfl, rfl, rfl, rfl, rfl, rfl, rfl, rfl, rfl, rfl, rfl, rfl, trivial⟩) (ps_tail_G x y z i next last hx hy hz h1 h2 (by omega) h4 hb h0))
    | (subst hK; subst hJ
       refine G_live 144 [(0, .vec 0 ao bs.length cap), (2, .bool false), (3, .ptr 1 bn 0), (4, .ptr 3 b2 0), (6, .ptr 7 bw 0), (7, .int .i64 next), (8, .int .i64 i)] (psHeap c0 ao bs cap bn b1 b2 q0 q1 q2 bw x ⟨y.ws.drop 1, y.cs.drop 1, y.cap1 - 1, y.cap2 - 1, cutA y.ao1 y.cap1 1 1, cutA y.ao2 y.cap2 2 1⟩ z last) rfl ⟨rfl, rfl, rfl, rfl, rfl, rfl, rfl, trivial⟩ (fun w hw => ?_) (ps_tail_G x ⟨y.ws.drop 1, y.cs.drop 1, y.cap1 - 1, y.cap2 - 1, cutA y.ao1 y.cap1 1 1, cutA y.ao2 y.cap2 2 1⟩ z i next last hx (hy.pop _ _ _ _) hz h1 h2 h3 h4 hb h0)
       have a1 := Rep.cut (l := 9) (k := 1) rfl (by omega) hw
       have a2 := Rep.cut (l := 12) (k := 1) rfl (by omega) a1
       have a3 := Rep.cellsEq (l := 5) (cs' := [.vec 12 (cutA y.ao2 y.cap2 2 1) (y.cs.drop 1).length (y.cap2 - 1)]) rfl (by simp [denL, den_cut]) a2
       have a4 := Rep.cellsEq (l := 7) (cs' := [.vec 8 x.ao1 x.ws.length x.cap1, .vec 9 (cutA y.ao1 y.cap1 1 1) (y.ws.drop 1).length (y.cap1 - 1), .vec 10 z.ao1 z.ws.length z.cap1]) rfl (by simp [denL, den_cut]) a3
       exact a4.front ⟨rfl, rfl, rfl, rfl, rfl, rfl, rfl, rfl, rfl, rfl, rfl, rfl, rfl, rfl, trivial⟩)
    | fail

theorem ps_a1_G (x y z : PSL) (i next last : Int) (hx : x.ok ⟨#[97]⟩) (hy : y.ok ⟨#[98]⟩) (hz : z.ok ⟨#[99]⟩) (h1 : next = last + 1) (h2 : 0 ≤ last) (h3 : last ≤ i) (h4 : i < bs.length) (hb : bs.length ≤ 45) (h0 : 0 ≤ i) (u : Nat → Value) :
    G Try.prog (endQ Try.prog Try.f6 W F N) W F (frmR [PSI.J W F c0 ao bs cap bn b1 b2 q0 q1 q2 bw (bs.length - i).toNat] (bodyOf Try.f6) 18) ⟨mkT u 144 0 [(0, .vec 0 ao bs.length cap), (2, .bool false), (3, .ptr 1 bn 0), (4, .ptr 3 b2 0), (6, .ptr 7 bw 0), (7, .int .i64 next), (8, .int .i64 i), (9, .int .i64 1)], psHeap c0 ao bs cap bn b1 b2 q0 q1 q2 bw x y z last⟩ := by
  have hlx := hx.len
  have hly := hy.len
  have hlz := hz.len
  have hex := hx.le
  have hey := hy.le
  have hez := hz.le
  refine G_run (kc := false) (ss := [24]) port5_ok hmP 1500 ?_
  rw [ps_a1]
  generalize hJ : PSI.J W F c0 ao bs cap bn b1 b2 q0 q1 q2 bw (bs.length - i).toNat = J
  generalize hK : G Try.prog (endQ Try.prog Try.f6 W F N) W F = K
  have hwr : IntKind.wrap .i64 (last + 1) = last + 1 := IntWalk.i64_in _ (by omega)
  have hwn : IntKind.wrap .i64 (next + 1) = next + 1 := IntWalk.i64_in _ (by omega)
  repeat' first
    | (refine ⟨[(IntKind.wrap .i64 (last + 1), _)], rfl, rfl, ?_⟩)
    | (refine ⟨[IntKind.wrap .i64 (last + 1)], rfl, rfl, ?_⟩)
    | exact rfl
    | exact trivial
    | assumption
    | apply And.intro
    | intro _
    | (refine ⟨[(_, _)], rfl, rfl, ?_⟩)
    | (refine ⟨[_], rfl, rfl, ?_⟩)
    | (split <;> rename_i hh <;> try simp only [Bool.not_eq_true', Bool.not_eq_false', Bool.not_true, Bool.not_false, beq_iff_eq, beq_eq_false_iff_ne, decide_eq_true_eq, decide_eq_false_iff_not, Bool.true_eq, Bool.false_eq, Bool.not_eq_true, Bool.not_eq_false, bne_iff_ne, bne_eq_false_iff_eq, ne_eq, Decidable.not_not] at hh)
    | decide
    | omega
    | (exfalso; omega)
    | exact absurd trivial hh
    | exact ⟨_, rfl⟩
    | exact absurd (by rw [h1]; assumption) hh
    | (subst hK; subst hJ
       exact G_live 144 [(0, .vec 0 ao bs.length cap), (2, .bool false), (3, .ptr 1 bn 0), (4, .ptr 3 b2 0), (6, .ptr 7 bw 0), (7, .int .i64 next), (8, .int .i64 i), (9, .int .i64 1)] (psHeap c0 ao bs cap bn b1 b2 q0 q1 q2 bw x y z last) rfl ⟨rfl, rfl, rfl, rfl, rfl, rfl, rfl, rfl, trivial⟩ (fun w hw => hw.front ⟨rfl, rfl, rfl, rfl, rfl, rfl, rfl, rfl, rfl, rfl, rfl, rfl, rfl, rfl, trivial⟩) (ps_b1_G x y z i next last hx hy hz h1 h2 (by omega) h4 hb h0))
    | (rename_i ao2' cap2' hc2' _ _ ao1' cap1' hc1'
       subst hK; subst hJ
       refine G_live 144 [(0, .vec 0 ao bs.length cap), (2, .bool false), (3, .ptr 1 bn 0), (4, .ptr 3 b2 0), (6, .ptr 7 bw 0), (7, .int .i64 (next + 1)), (8, .int .i64 i), (9, .int .i64 1)] (psHeap c0 ao bs cap bn b1 b2 q0 q1 q2 bw x ⟨y.ws ++ [last + 1], y.cs ++ [(last + 1, ⟨#[98]⟩)], cap1', cap2', ao1', ao2'⟩ z (last + 1)) rfl ⟨rfl, rfl, rfl, rfl, rfl, congrArg (Value.int .i64) hwn, rfl, rfl, trivial⟩ (fun w hw => ?_) (ps_b1_G x ⟨y.ws ++ [last + 1], y.cs ++ [(last + 1, ⟨#[98]⟩)], cap1', cap2', ao1', ao2'⟩ z i (next + 1) (last + 1) hx (hy.push _ _ _ _ _ (by omega)) hz (by omega) (by omega) (by omega) h4 hb h0)
       unfold psHeap
       simp only [List.length_append, List.length_cons, List.length_nil]
       simp only [hwr] at hw
       exact hw.front ⟨rfl, rfl, rfl, rfl, rfl, rfl, rfl, rfl, rfl, rfl, rfl, rfl, rfl, rfl, trivial⟩)
    | fail

theorem ps_b2_G (x y z : PSL) (i next last : Int) (hx : x.ok ⟨#[97]⟩) (hy : y.ok ⟨#[98]⟩) (hz : z.ok ⟨#[99]⟩) (h1 : next = last + 1) (h2 : 0 ≤ last) (h3 : last ≤ i + 1) (h4 : i < bs.length) (hb : bs.length ≤ 45) (h0 : 0 ≤ i) (u : Nat → Value) :
    G Try.prog (endQ Try.prog Try.f6 W F N) W F (frmR [PSI.J W F c0 ao bs cap bn b1 b2 q0 q1 q2 bw (bs.length - i).toNat] (bodyOf Try.f6) 24) ⟨mkT u 144 0 [(0, .vec 0 ao bs.length cap), (2, .bool false), (3, .ptr 1 bn 0), (4, .ptr 3 b2 0), (6, .ptr 7 bw 0), (7, .int .i64 next), (8, .int .i64 i), (9, .int .i64 2)], psHeap c0 ao bs cap bn b1 b2 q0 q1 q2 bw x y z last⟩ := by
  have hlx := hx.len
  have hly := hy.len
  have hlz := hz.len
  have hex := hx.le
  have hey := hy.le
  have hez := hz.le
  refine G_vec (xs := z.ws) (ao := z.ao1) (cap := z.cap1) 10 rfl fun hc1 _ => ?_
  refine G_vec (xs := z.cs) (ao := z.ao2) (cap := z.cap2) 13 rfl fun hc2 _ => ?_
  refine G_run (kc := false) (ss := [29]) port5_ok hmP 1500 ?_
  rw [ps_b2]
  generalize hJ : PSI.J W F c0 ao bs cap bn b1 b2 q0 q1 q2 bw (bs.length - i).toNat = J
  generalize hK : G Try.prog (endQ Try.prog Try.f6 W F N) W F = K
  repeat' first
    | exact rfl
    | exact trivial
    | assumption
    | apply And.intro
    | intro _
    | (refine ⟨[(_, _)], rfl, rfl, ?_⟩)
    | (refine ⟨[_], rfl, rfl, ?_⟩)
    | (split <;> rename_i hh <;> try simp only [Bool.not_eq_true', Bool.not_eq_false', Bool.not_true, Bool.not_false, beq_iff_eq, beq_eq_false_iff_ne, decide_eq_true_eq, decide_eq_false_iff_not, Bool.true_eq, Bool.false_eq, Bool.not_eq_true, Bool.not_eq_false, bne_iff_ne, bne_eq_false_iff_eq, ne_eq, Decidable.not_not] at hh)
    | decide
    | omega
    | (exfalso; omega)
    | exact absurd trivial hh
    | exact ⟨_, rfl⟩
    | (exfalso; rw [hz.hd, hz.eq (by omega)] at hh; simp at hh; done)
    | (subst hK; subst hJ
       exact G_live 144 [(0, .vec 0 ao bs.length cap), (2, .bool false), (3, .ptr 1 bn 0), (4, .ptr 3 b2 0), (6, .ptr 7 bw 0), (7, .int .i64 next), (8, .int .i64 i)] (psHeap c0 ao bs cap bn b1 b2 q0 q1 q2 bw x y z last) rfl ⟨rfl, rfl, rfl, rfl, rfl, rfl, rfl, trivial⟩ (fun w hw => hw.front ⟨rfl, rfl, rfl, rfl, rfl, rfl, rfl, rfl, rfl, rfl, rfl, rfl, rfl, rfl, trivial⟩) (ps_tail_G x y z i next last hx hy hz h1 h2 (by omega) h4 hb h0))
    | (subst hK; subst hJ
       refine G_live 144 [(0, .vec 0 ao bs.length cap), (2, .bool false), (3, .ptr 1 bn 0), (4, .ptr 3 b2 0), (6, .ptr 7 bw 0), (7, .int .i64 next), (8, .int .i64 i)] (psHeap c0 ao bs cap bn b1 b2 q0 q1 q2 bw x y ⟨z.ws.drop 1, z.cs.drop 1, z.cap1 - 1, z.cap2 - 1, cutA z.ao1 z.cap1 1 1, cutA z.ao2 z.cap2 2 1⟩ last) rfl ⟨rfl, rfl, rfl, rfl, rfl, rfl, rfl, trivial⟩ (fun w hw => ?_) (ps_tail_G x y ⟨z.ws.drop 1, z.cs.drop 1, z.cap1 - 1, z.cap2 - 1, cutA z.ao1 z.cap1 1 1, cutA z.ao2 z.cap2 2 1⟩ i next last hx hy (hz.pop _ _ _ _) h1 h2 h3 h4 hb h0)
       have a1 := Rep.cut (l := 10) (k := 1) rfl (by omega) hw
       have a2 := Rep.cut (l := 13) (k := 1) rfl (by omega) a1
       have a3 := Rep.cellsEq (l := 6) (cs' := [.vec 13 (cutA z.ao2 z.cap2 2 1) (z.cs.drop 1).length (z.cap2 - 1)]) rfl (by simp [denL, den_cut]) a2
       have a4 := Rep.cellsEq (l := 7) (cs' := [.vec 8 x.ao1 x.ws.length x.cap1, .vec 9 y.ao1 y.ws.length y.cap1, .vec 10 (cutA z.ao1 z.cap1 1 1) (z.ws.drop 1).length (z.cap1 - 1)]) rfl (by simp [denL, den_cut]) a3
       exact a4.front ⟨rfl, rfl, rfl, rfl, rfl, rfl, rfl, rfl, rfl, rfl, rfl, rfl, rfl, rfl, trivial⟩)
    | fail

theorem ps_a2_G (x y z : PSL) (i next last : Int) (hx : x.ok ⟨#[97]⟩) (hy : y.ok ⟨#[98]⟩) (hz : z.ok ⟨#[99]⟩) (h1 : next = last + 1) (h2 : 0 ≤ last) (h3 : last ≤ i) (h4 : i < bs.length) (hb : bs.length ≤ 45) (h0 : 0 ≤ i) (u : Nat → Value) :
    G Try.prog (endQ Try.prog Try.f6 W F N) W F (frmR [PSI.J W F c0 ao bs cap bn b1 b2 q0 q1 q2 bw (bs.length - i).toNat] (bodyOf Try.f6) 18) ⟨mkT u 144 0 [(0, .vec 0 ao bs.length cap), (2, .bool false), (3, .ptr 1 bn 0), (4, .ptr 3 b2 0), (6, .ptr 7 bw 0), (7, .int .i64 next), (8, .int .i64 i), (9, .int .i64 2)], psHeap c0 ao bs cap bn b1 b2 q0 q1 q2 bw x y z last⟩ := by
  have hlx := hx.len
  have hly := hy.len
  have hlz := hz.len
  have hex := hx.le
  have hey := hy.le
  have hez := hz.le
  refine G_run (kc := false) (ss := [24]) port5_ok hmP 1500 ?_
  rw [ps_a2]
  generalize hJ : PSI.J W F c0 ao bs cap bn b1 b2 q0 q1 q2 bw (bs.length - i).toNat = J
  generalize hK : G Try.prog (endQ Try.prog Try.f6 W F N) W F = K
  have hwr : IntKind.wrap .i64 (last + 1) = last + 1 := IntWalk.i64_in _ (by omega)
  have hwn : IntKind.wrap .i64 (next + 1) = next + 1 := IntWalk.i64_in _ (by omega)
  repeat' first
    | (refine ⟨[(IntKind.wrap .i64 (last + 1), _)], rfl, rfl, ?_⟩)
    | (refine ⟨[IntKind.wrap .i64 (last + 1)], rfl, rfl, ?_⟩)
    | exact rfl
    | exact trivial
    | assumption
    | apply And.intro
    | intro _
    | (refine ⟨[(_, _)], rfl, rfl, ?_⟩)
    | (refine ⟨[_], rfl, rfl, ?_⟩)
    | (split <;> rename_i hh <;> try simp only [Bool.not_eq_true', Bool.not_eq_false', Bool.not_true, Bool.not_false, beq_iff_eq, beq_eq_false_iff_ne, decide_eq_true_eq, decide_eq_false_iff_not, Bool.true_eq, Bool.false_eq, Bool.not_eq_true, Bool.not_eq_false, bne_iff_ne, bne_eq_false_iff_eq, ne_eq, Decidable.not_not] at hh)
    | decide
    | omega
    | (exfalso; omega)
    | exact absurd trivial hh
    | exact ⟨_, rfl⟩
    | exact absurd (by rw [h1]; assumption) hh
    | (subst hK; subst hJ
       exact G_live 144 [(0, .vec 0 ao bs.length cap), (2, .bool false), (3, .ptr 1 bn 0), (4, .ptr 3 b2 0), (6, .ptr 7 bw 0), (7, .int .i64 next), (8, .int .i64 i), (9, .int .i64 2)] (psHeap c0 ao bs cap bn b1 b2 q0 q1 q2 bw x y z last) rfl ⟨rfl, rfl, rfl, rfl, rfl, rfl, rfl, rfl, trivial⟩ (fun w hw => hw.front ⟨rfl, rfl, rfl, rfl, rfl, rfl, rfl, rfl, rfl, rfl, rfl, rfl, rfl, rfl, trivial⟩) (ps_b2_G x y z i next last hx hy hz h1 h2 (by omega) h4 hb h0))
    | (rename_i ao2' cap2' hc2' _ _ ao1' cap1' hc1'
       subst hK; subst hJ
       refine G_live 144 [(0, .vec 0 ao bs.length cap), (2, .bool false), (3, .ptr 1 bn 0), (4, .ptr 3 b2 0), (6, .ptr 7 bw 0), (7, .int .i64 (next + 1)), (8, .int .i64 i), (9, .int .i64 2)] (psHeap c0 ao bs cap bn b1 b2 q0 q1 q2 bw x y ⟨z.ws ++ [last + 1], z.cs ++ [(last + 1, ⟨#[99]⟩)], cap1', cap2', ao1', ao2'⟩ (last + 1)) rfl ⟨rfl, rfl, rfl, rfl, rfl, congrArg (Value.int .i64) hwn, rfl, rfl, trivial⟩ (fun w hw => ?_) (ps_b2_G x y ⟨z.ws ++ [last + 1], z.cs ++ [(last + 1, ⟨#[99]⟩)], cap1', cap2', ao1', ao2'⟩ i (next + 1) (last + 1) hx hy (hz.push _ _ _ _ _ (by omega)) (by omega) (by omega) (by omega) h4 hb h0)
       unfold psHeap
       simp only [List.length_append, List.length_cons, List.length_nil]
       simp only [hwr] at hw
       exact hw.front ⟨rfl, rfl, rfl, rfl, rfl, rfl, rfl, rfl, rfl, rfl, rfl, rfl, rfl, rfl, trivial⟩)
    | fail

theorem ps_head_G (i : Int) (hN : ∀ l, N (⟨.sl ao cap, .roL c0 1 encByte bs 0⟩ :: l) (.bool true)) (hm : (bs.getD i.toNat 0).tmod 3 = 0 ∨ (bs.getD i.toNat 0).tmod 3 = 1 ∨ (bs.getD i.toNat 0).tmod 3 = 2) (x y z : PSL) (next last : Int) (hx : x.ok ⟨#[97]⟩) (hy : y.ok ⟨#[98]⟩) (hz : z.ok ⟨#[99]⟩) (h1 : next = last + 1) (h2 : 0 ≤ last) (h3 : last ≤ i) (h4 : i ≤ bs.length) (hb : bs.length ≤ 45) (h0 : 0 ≤ i) (u : Nat → Value) :
    G Try.prog (endQ Try.prog Try.f6 W F N) W F (frm [PSI.J W F c0 ao bs cap bn b1 b2 q0 q1 q2 bw (bs.length - i).toNat] (bodyOf Try.f6) [1, 1, 1, 1, 1, 1, 1, 1, 0, 1, 0, 0] []) ⟨mkT u 144 0 [(0, .vec 0 ao bs.length cap), (2, .bool false), (3, .ptr 1 bn 0), (4, .ptr 3 b2 0), (6, .ptr 7 bw 0), (7, .int .i64 next), (8, .int .i64 i)], psHeap c0 ao bs cap bn b1 b2 q0 q1 q2 bw x y z last⟩ := by
  have hlx := hx.len
  have hly := hy.len
  have hlz := hz.len
  have hex := hx.le
  have hey := hy.le
  have hez := hz.le
  refine G_run (kc := false) (ss := [18]) port5_ok hmP 1500 ?_
  rw [ps_head]
  generalize hJ : PSI.J W F c0 ao bs cap bn b1 b2 q0 q1 q2 bw (bs.length - i).toNat = J
  generalize hK : G Try.prog (endQ Try.prog Try.f6 W F N) W F = K
  repeat' first
    | exact rfl
    | exact trivial
    | assumption
    | apply And.intro
    | intro _
    | (refine ⟨[(_, _)], rfl, rfl, ?_⟩)
    | (refine ⟨[_], rfl, rfl, ?_⟩)
    | (split <;> rename_i hh <;> try simp only [Bool.not_eq_true', Bool.not_eq_false', Bool.not_true, Bool.not_false, beq_iff_eq, beq_eq_false_iff_ne, decide_eq_true_eq, decide_eq_false_iff_not, Bool.true_eq, Bool.false_eq, Bool.not_eq_true, Bool.not_eq_false, bne_iff_ne, bne_eq_false_iff_eq, ne_eq, Decidable.not_not] at hh)
    | decide
    | omega
    | (exfalso; omega)
    | exact absurd trivial hh
    | exact ⟨_, rfl⟩
    | exact hN _
    | (subst hK; subst hJ
       rcases hm with hk | hk | hk
       · have e9 : IntKind.wrap .i64 ((bs.getD i.toNat 0).tmod 3) = 0 := by rw [hk]; rfl
         exact G_live 144 [(0, .vec 0 ao bs.length cap), (2, .bool false), (3, .ptr 1 bn 0), (4, .ptr 3 b2 0), (6, .ptr 7 bw 0), (7, .int .i64 next), (8, .int .i64 i), (9, .int .i64 0)] (psHeap c0 ao bs cap bn b1 b2 q0 q1 q2 bw x y z last) rfl ⟨rfl, rfl, rfl, rfl, rfl, rfl, rfl, by first | exact congrArg (Value.int .i64) e9 | exact congrArg (Value.int .i64) hk, trivial⟩ (fun w hw => hw) (ps_a0_G x y z i next last hx hy hz h1 h2 h3 (by omega) hb (by omega))
       · have e9 : IntKind.wrap .i64 ((bs.getD i.toNat 0).tmod 3) = 1 := by rw [hk]; rfl
         exact G_live 144 [(0, .vec 0 ao bs.length cap), (2, .bool false), (3, .ptr 1 bn 0), (4, .ptr 3 b2 0), (6, .ptr 7 bw 0), (7, .int .i64 next), (8, .int .i64 i), (9, .int .i64 1)] (psHeap c0 ao bs cap bn b1 b2 q0 q1 q2 bw x y z last) rfl ⟨rfl, rfl, rfl, rfl, rfl, rfl, rfl, by first | exact congrArg (Value.int .i64) e9 | exact congrArg (Value.int .i64) hk, trivial⟩ (fun w hw => hw) (ps_a1_G x y z i next last hx hy hz h1 h2 h3 (by omega) hb (by omega))
       · have e9 : IntKind.wrap .i64 ((bs.getD i.toNat 0).tmod 3) = 2 := by rw [hk]; rfl
         exact G_live 144 [(0, .vec 0 ao bs.length cap), (2, .bool false), (3, .ptr 1 bn 0), (4, .ptr 3 b2 0), (6, .ptr 7 bw 0), (7, .int .i64 next), (8, .int .i64 i), (9, .int .i64 2)] (psHeap c0 ao bs cap bn b1 b2 q0 q1 q2 bw x y z last) rfl ⟨rfl, rfl, rfl, rfl, rfl, rfl, rfl, by first | exact congrArg (Value.int .i64) e9 | exact congrArg (Value.int .i64) hk, trivial⟩ (fun w hw => hw) (ps_a2_G x y z i next last hx hy hz h1 h2 h3 (by omega) hb (by omega)))
    | fail

end

theorem ps_ok (c0 : Ch) (ao : Option Addr) (bs : List Int) (cap : Nat) (hbs : ∀ z ∈ bs, (Lit.int .u8 z).wf = true) : Spec Try.prog 6 [⟨.sl ao cap, .roL c0 1 encByte bs 0⟩] [.vec 0 ao bs.length cap] fun h' r => r = .bool true ∧ ∃ l, h' = ⟨.sl ao cap, .roL c0 1 encByte bs 0⟩ :: l := by
  have hm : ∀ i : Int, (bs.getD i.toNat 0).tmod 3 = 0 ∨ (bs.getD i.toNat 0).tmod 3 = 1 ∨ (bs.getD i.toNat 0).tmod 3 = 2 := by
    intro i
    have h0 : 0 ≤ bs.getD i.toNat 0 := by
      by_cases h : i.toNat < bs.length
      · have e : bs.getD i.toNat 0 = bs[i.toNat] := by simp [List.getD, h]
        have := hbs _ (List.getElem_mem h)
        rw [e]
        simp only [Lit.wf, Bool.and_eq_true, decide_eq_true_eq] at this
        exact this.1
      · simp [List.getD, h]
    rw [Int.tmod_eq_emod_of_nonneg h0]
    omega
  refine Spec.of_G 144 Try.func6 (c := bodyOf Try.f6) (by kernel_rfl) (by kernel_rfl) (Nat.le_of_ble_eq_true rfl) fun W F => ?_
  refine G_run (kc := false) (ss := [100008]) port5_ok hmP 2000 ?_
  rw [ps_start]
  generalize hK : G Try.prog (endQ Try.prog Try.f6 W F fun h' r => r = .bool true ∧ ∃ l, h' = ⟨.sl ao cap, .roL c0 1 encByte bs 0⟩ :: l) W F = K
  repeat' first
    | exact rfl
    | exact trivial
    | assumption
    | apply And.intro
    | intro _
    | (refine ⟨[(_, _)], rfl, rfl, ?_⟩)
    | (refine ⟨[_], rfl, rfl, ?_⟩)
    | (split <;> rename_i hh <;> try simp only [Bool.not_eq_true', Bool.not_eq_false', Bool.not_true, Bool.not_false, beq_iff_eq, beq_eq_false_iff_ne, decide_eq_true_eq, decide_eq_false_iff_not, Bool.true_eq, Bool.false_eq, Bool.not_eq_true, Bool.not_eq_false, bne_iff_ne, bne_eq_false_iff_eq, ne_eq, Decidable.not_not] at hh)
    | decide
    | omega
    | (exfalso; omega)
    | exact absurd trivial hh
    | exact ⟨_, rfl⟩
    | fail
  rename_i bn b1 b2 q0 q1 q2 bw
  subst hK
  refine G_loopAt [] (bodyOf Try.f6) [1, 1, 1, 1, 1, 1, 1, 1, 0, 1, 0] 144 (PSI.live ao bs cap bn b2 bw) (PSI.heap c0 ao bs cap bn b1 b2 q0 q1 q2 bw) (PSI.ok bs) (PSI.mu bs) ⟨⟨[], [], 0, 0, none, none⟩, ⟨[], [], 0, 0, none, none⟩, ⟨[], [], 0, 0, none, none⟩, 0, 1, 0⟩ (by kernel_rfl) (fun J => by kernel_rfl) ⟨⟨rfl, (fun d hd => by cases hd), Nat.zero_le _⟩, ⟨rfl, (fun d hd => by cases hd), Nat.zero_le _⟩, ⟨rfl, (fun d hd => by cases hd), Nat.zero_le _⟩, rfl, Int.le_refl _, Int.le_refl _, by dsimp only; omega⟩ rfl ⟨rfl, rfl, rfl, rfl, rfl, rfl, rfl, trivial⟩ (fun w hw => ?_) fun s hs u => ps_head_G s.i (fun l => ⟨rfl, l, rfl⟩) (hm s.i) s.x s.y s.z s.next s.last hs.x hs.y hs.z hs.n hs.l0 hs.l1 hs.i1 (by omega) (by have := hs.l0; have := hs.l1; omega) u
  have a1 := Rep.cellsEq (l := 4) (cs' := [.vec 11 none 0 0]) rfl (by rfl) hw
  have a2 := Rep.cellsEq (l := 5) (cs' := [.vec 12 none 0 0]) rfl (by rfl) a1
  have a3 := Rep.cellsEq (l := 6) (cs' := [.vec 13 none 0 0]) rfl (by rfl) a2
  have a4 := Rep.cellsEq (l := 7) (cs' := [.vec 8 none 0 0, .vec 9 none 0 0, .vec 10 none 0 0]) rfl (by rfl) a3
  have n1 := fun {h : List Ent} (hr : Rep W F h w) => Rep.nilvec 3 (sz := 1) (enc := encInt) 0 (fun _ => rfl) hr
  have n2 := fun {h : List Ent} (hr : Rep W F h w) => Rep.nilvec 52 (sz := 2) (enc := encDg) (0, .empty) (fun _ => rfl) hr
  exact n2 (n2 (n2 (n1 (n1 (n1 a4)))))
end Go.Proofs.Ytjnkfgigpapeaaa
