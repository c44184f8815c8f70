/- PortDatagrams: the loop. -/
import Derived.Test.YtjnkfgigpapeaaaPD2Run
import Derived.Test.YtjnkfgigpapeaaaPort
namespace Go.Proofs.Ytjnkfgigpapeaaa
open Go Go.RowKit
set_option linter.unusedVariables false
set_option linter.unusedSimpArgs false
set_option linter.unnecessarySimpa false
set_option maxHeartbeats 0

structure PDI where
  (gs : List Int) (ds : List (Int × ByteArray)) (i : Int) (cap1 cap2 : Nat) (ao1 ao2 : Option Addr)
def PDI.live (ao : Option Addr) (bs : List Int) (cap b2 : Nat) (s : PDI) : List (Nat × SV) := [(0, .vec 0 ao bs.length cap), (2, .bool false), (3, .ptr 2 b2 0), (4, .vec 3 s.ao1 s.gs.length s.cap1), (5, .int .i64 s.i)]
def PDI.heap (c0 : Ch) (ao : Option Addr) (bs : List Int) (cap b1 b2 : Nat) (s : PDI) : List Ent := [⟨.sl ao cap, .roL c0 1 encByte bs 0⟩, ⟨.blk b1, .mapV none []⟩, ⟨.blk b2, .cells [.map 1 b1, .vec 4 s.ao2 s.ds.length s.cap2, .int .i64 0] 120⟩, ⟨.sl s.ao1 s.cap1, .vecL 3 1 encInt s.gs 0⟩, ⟨.sl s.ao2 s.cap2, .vecL 42 2 encDg s.ds (0, .empty)⟩]
structure PDI.ok (bs : List Int) (s : PDI) : Prop where
  gs : s.gs = s.ds.map Prod.fst
  tx : ∀ d ∈ s.ds, d.2 = ⟨#[116]⟩
  le : s.ds.length ≤ 16
  c1 : s.gs.length ≤ s.cap1
  c2 : s.ds.length ≤ s.cap2
  i0 : 0 ≤ s.i
  i1 : s.i ≤ bs.length
def PDI.mu (bs : List Int) (s : PDI) : Nat := (bs.length - s.i).toNat

theorem pd_round {W : World} {F : List Ch} {N : List Ent → SV → Prop} (c0 : Ch) (ao : Option Addr) (bs : List Int) (cap b1 b2 : Nat) (hb : bs.length ≤ 80) (hN : ∀ l, N (⟨.sl ao cap, .roL c0 1 encByte bs 0⟩ :: l) (.bool true)) (s : PDI) (h : s.ok bs) (u : Nat → Value) :
    G Try.prog (endQ Try.prog Try.f5 W F N) W F (.code (codeAt (bodyOf Try.f5) [1, 1, 1, 1, 1, 0, 1, 0, 0]) :: .loop (Back W F 84 (PDI.live ao bs cap b2) (PDI.heap c0 ao bs cap b1 b2) (PDI.ok bs) (PDI.mu bs) (PDI.mu bs s)) :: [.blk 0, .code (codeAt (bodyOf Try.f5) [1, 1, 1, 1, 1, 1])]) ⟨mkT u 84 0 (PDI.live ao bs cap b2 s), PDI.heap c0 ao bs cap b1 b2 s⟩ := by
  obtain ⟨gs, ds, i, cap1, cap2, ao1, ao2⟩ := s
  obtain ⟨h1, h2, h3, h4, h5, h6, h7⟩ := h
  dsimp only at h1 h2 h3 h4 h5 h6 h7
  refine G_run (kc := false) (ss := []) port3_ok hmP 900 ?_
  simp only [PDI.live, PDI.heap]
  rw [pd_loop]
  generalize hJ : (Back W F 84 (PDI.live ao bs cap b2) (PDI.heap c0 ao bs cap b1 b2) (PDI.ok bs) (PDI.mu bs) (PDI.mu bs ⟨gs, ds, i, cap1, cap2, ao1, ao2⟩)) = J
  generalize hK : G Try.prog (endQ Try.prog Try.f5 W F N) W F = K
  have hl1 : gs.length = ds.length := by rw [h1]; simp
  have hd0 : (ds.getD 0 (0, ByteArray.empty)).1 = gs.getD 0 0 := by rw [h1]; cases ds <;> rfl
  have hd1 : ¬ (ds.length : Int) = 0 → (ds.getD 0 (0, ByteArray.empty)).2 = ⟨#[116]⟩ := by
    intro hne
    cases ds with
    | nil => exact (hne rfl).elim
    | cons d ds => exact h2 d List.mem_cons_self
  have hd2 : ∀ d ∈ ds.drop 1, d.2 = ⟨#[116]⟩ := fun d hd => h2 d (List.mem_of_mem_drop hd)
  have hd3 : gs.drop 1 = (ds.drop 1).map Prod.fst := by rw [h1, List.map_drop]
  repeat' first
    | exact rfl
    | exact trivial
    | assumption
    | apply And.intro
    | intro _
    | (refine ⟨[(_, _)], rfl, rfl, ?_⟩)
    | (refine ⟨[_], rfl, rfl, ?_⟩)
    | (split <;> rename_i hh <;> simp only [Bool.not_eq_true', Bool.not_eq_false', Bool.not_true, Bool.not_false, beq_iff_eq, beq_eq_false_iff_ne, decide_eq_true_eq, decide_eq_false_iff_not, Bool.true_eq, Bool.false_eq, Bool.not_eq_true, Bool.not_eq_false, bne_iff_ne, bne_eq_false_iff_eq, ne_eq, Decidable.not_not] at hh)
    | decide
    | omega
    | exact hN _
    | (exfalso; omega)
    | (exfalso; exact absurd hd0 (by assumption))
    | (exfalso; rw [hd1 (by assumption), sEq_self] at hh; exact Bool.noConfusion hh)
    | (subst hK; subst hJ
       exact G_back ⟨gs, ds, i + 1, cap1, cap2, ao1, ao2⟩ ⟨h1, h2, h3, h4, h5, by dsimp only; omega, by dsimp only; omega⟩ (by simp only [PDI.mu]; omega) rfl ⟨rfl, rfl, rfl, rfl, congrArg (Value.int .i64) (IntWalk.i64_in _ (by omega)), trivial⟩ fun w hw => hw.front ⟨rfl, rfl, rfl, rfl, rfl, trivial⟩)
    | fail
  · rename_i ao2' cap2' hc2 _ _ ao1' cap1' hc1
    subst hK; subst hJ
    refine G_back ⟨gs ++ [i], ds ++ [(i, ⟨#[116]⟩)], i + 1, cap1', cap2', ao1', ao2'⟩ ⟨by simp [h1], by intro d hd; rcases List.mem_append.1 hd with hd | hd; exact h2 d hd; simp at hd; rw [hd], by simp; omega, by simpa using hc1, by simpa using hc2, by dsimp only; omega, by dsimp only; omega⟩ (by simp only [PDI.mu]; omega) rfl ⟨rfl, rfl, rfl, by dsimp only; rw [List.length_append]; rfl, congrArg (Value.int .i64) (IntWalk.i64_in _ (by omega)), trivial⟩ fun w hw => ?_
    simp only [PDI.heap, List.length_append, List.length_cons, List.length_nil]
    exact hw.front ⟨rfl, rfl, rfl, rfl, rfl, trivial⟩
  · subst hK; subst hJ
    refine G_back ⟨gs.drop 1, ds.drop 1, i + 1, cap1 - 1, cap2 - 1, cutA ao1 cap1 1 1, cutA ao2 cap2 2 1⟩ ⟨hd3, hd2, by simp; omega, by simp; omega, by simp; omega, by dsimp only; omega, by dsimp only; omega⟩ (by simp only [PDI.mu]; omega) rfl ⟨rfl, rfl, rfl, by dsimp only; rw [List.length_drop]; rfl, congrArg (Value.int .i64) (IntWalk.i64_in _ (by omega)), trivial⟩ fun w hw => ?_
    have a1 := Rep.cut (l := 3) (k := 1) rfl (by omega) hw
    have a2 := Rep.cut (l := 4) (k := 1) rfl (by omega) a1
    have a3 := Rep.cellsEq (l := 2) (cs' := [.map 1 b1, .vec 4 (cutA ao2 cap2 2 1) (ds.drop 1).length (cap2 - 1), .int .i64 0]) rfl (by simp [denL, den_cut]) a2
    exact a3.front ⟨rfl, rfl, rfl, rfl, rfl, trivial⟩
  · subst hK; subst hJ
    refine G_back ⟨gs.drop 1, ds.drop 1, i + 1, cap1 - 1, cap2 - 1, cutA ao1 cap1 1 1, cutA ao2 cap2 2 1⟩ ⟨hd3, hd2, by simp; omega, by simp; omega, by simp; omega, by dsimp only; omega, by dsimp only; omega⟩ (by simp only [PDI.mu]; omega) rfl ⟨rfl, rfl, rfl, by dsimp only; rw [List.length_drop]; rfl, congrArg (Value.int .i64) (IntWalk.i64_in _ (by omega)), trivial⟩ fun w hw => ?_
    have a1 := Rep.cut (l := 3) (k := 1) rfl (by omega) hw
    have a2 := Rep.cut (l := 4) (k := 1) rfl (by omega) a1
    have a3 := Rep.cellsEq (l := 2) (cs' := [.map 1 b1, .vec 4 (cutA ao2 cap2 2 1) (ds.drop 1).length (cap2 - 1), .int .i64 0]) rfl (by simp [denL, den_cut]) a2
    exact a3.front ⟨rfl, rfl, rfl, rfl, rfl, trivial⟩
  · rw [hl1]; simp only [BEq.rfl]; exact hN _

theorem pd_ok (c0 : Ch) (ao : Option Addr) (bs : List Int) (cap : Nat) : Spec Try.prog 5 [⟨.sl ao cap, .roL c0 1 encByte bs 0⟩] [.vec 0 ao bs.length cap] fun h' r => r = .bool true ∧ ∃ l, h' = ⟨.sl ao cap, .roL c0 1 encByte bs 0⟩ :: l := by
  refine Spec.of_G 84 Try.func5 (c := bodyOf Try.f5) (by kernel_rfl) (by kernel_rfl) (Nat.le_of_ble_eq_true rfl) fun W F => ?_
  refine G_run (kc := false) (ss := []) port3_ok hmP 600 ?_
  rw [pd_start]
  generalize hK : G Try.prog (endQ Try.prog Try.f5 W F fun h' r => r = .bool true ∧ ∃ l, h' = ⟨.sl ao cap, .roL c0 1 encByte bs 0⟩ :: l) W F = K
  refine ⟨rfl, ?_⟩
  split <;> rename_i hb <;> simp only [decide_eq_true_eq, decide_eq_false_iff_not] at hb
  · exact ⟨rfl, _, rfl⟩
  · refine ⟨rfl, fun b1 => ⟨⟨rfl, rfl⟩, rfl, fun b2 => ?_⟩⟩
    subst hK
    have e : codeAt (bodyOf Try.f5) [1, 1, 1, 1, 1, 0, 1, 0] = .loop (codeAt (bodyOf Try.f5) [1, 1, 1, 1, 1, 0, 1, 0, 0]) := by kernel_rfl
    rw [e]
    refine G_loop 84 (PDI.live ao bs cap b2) (PDI.heap c0 ao bs cap b1 b2) (PDI.ok bs) (PDI.mu bs) ⟨[], [], 0, 0, 0, none, none⟩ ⟨rfl, (fun d hd => by cases hd), by decide, by decide, by decide, by decide, by dsimp only; omega⟩ rfl ⟨rfl, rfl, rfl, rfl, rfl, trivial⟩ (fun w hw => ?_) fun s hs u => pd_round c0 ao bs cap b1 b2 (by omega) (fun l => ⟨rfl, l, rfl⟩) s hs u
    have a1 := Rep.cellsEq (l := 2) (cs' := [.map 1 b1, .vec 4 none 0 0, .int .i64 0]) rfl (by rfl) hw
    exact Rep.nilvec 42 (sz := 2) (enc := encDg) (0, .empty) (fun _ => rfl) (Rep.nilvec 3 (sz := 1) (enc := encInt) 0 (fun _ => rfl) a1)
end Go.Proofs.Ytjnkfgigpapeaaa
