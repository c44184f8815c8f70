/- GroupOne: its loops. -/
import Derived.Test.YtihajdkipkfiiaaGo1
import Derived.Test.YtihajdkipkfiiaaGo2Run
namespace Go.Proofs.Ytihajdkipkfiiaa
open Go Go.RowKit
set_option linter.unusedVariables false
set_option linter.unusedSimpArgs false
set_option linter.unnecessarySimpa false
set_option maxHeartbeats 0

section
variable {W : World} {F : List Ch} {ao : Option Addr} {cap : Nat} {bs : List Int} {b b1 d : Nat} {s : Grp} {arr : List Int} {i : Nat}
theorem go_ii {k : Nat} (hi : i < bs.length) (hb : bs.length ≤ 150) (h : GO s arr) (hk : k < 4) {tm : List SV} (h1 : lenN tm = 131) (h2 : liveOk tm [(0, .vec 0 ao bs.length cap), (3, .ptr 1 b 0), (4, .ptr 2 b1 0), (6, .ptr 3 d 0), (7, .int .i64 (i : Int)), (10, .int .i64 (k : Int)), (11, .vec 4 none 0 0), (12, .int .i64 2)]) {st : List Ent} (hh : ∀ w, Rep W F st w → Rep W F ((fun x : Nat × Option Addr × Nat × List Int => [⟨.sl ao cap, .roL 1 encU8 bs 0⟩, ⟨.sl (some ⟨b, 0, none⟩) 4, .vecL 24 1 encS names4 ByteArray.empty⟩, pkA b1 grpE s, ⟨.sl (some ⟨d, 0, none⟩) 10, .vecL 29 1 encI1 arr 0⟩, ⟨.sl x.2.1 x.2.2.1, .vecL 3 1 encI1 x.2.2.2 0⟩]) (2, none, 0, [])) w) : G Try.prog (endQ Try.prog Try.f3 W F fun _ r => r = .bool true) W F (frm [(Back W F 131 (fun x : Nat × Grp × List Int => [(0, .vec 0 ao bs.length cap), (3, .ptr 1 b 0), (4, .ptr 2 b1 0), (6, .ptr 3 d 0), (7, .int .i64 (x.1 : Int))]) (fun x : Nat × Grp × List Int => [⟨.sl ao cap, .roL 1 encU8 bs 0⟩, ⟨.sl (some ⟨b, 0, none⟩) 4, .vecL 24 1 encS names4 ByteArray.empty⟩, pkA b1 grpE x.2.1, ⟨.sl (some ⟨d, 0, none⟩) 10, .vecL 29 1 encI1 x.2.2 0⟩]) (fun x : Nat × Grp × List Int => x.1 ≤ bs.length ∧ GO x.2.1 x.2.2) (fun x : Nat × Grp × List Int => bs.length - x.1) (bs.length - i)), (Back W F 131 (fun k : Nat => [(0, .vec 0 ao bs.length cap), (3, .ptr 1 b 0), (4, .ptr 2 b1 0), (6, .ptr 3 d 0), (7, .int .i64 (i : Int)), (10, .int .i64 (k : Int))]) (fun _ : Nat => [⟨.sl ao cap, .roL 1 encU8 bs 0⟩, ⟨.sl (some ⟨b, 0, none⟩) 4, .vecL 24 1 encS names4 ByteArray.empty⟩, pkA b1 grpE s, ⟨.sl (some ⟨d, 0, none⟩) 10, .vecL 29 1 encI1 arr 0⟩]) (fun k : Nat => k ≤ 4) (fun k : Nat => 4 - k) (4 - k))] (bodyOf Try.f3) [1, 1, 1, 1, 1, 1, 1, 0, 1, 0, 0, 1, 0, 0, 1, 1, 1, 0, 0, 1, 0, 0, 1, 0, 1, 0] []) ⟨tm, st⟩ := by
  refine G_loopAt (ι := Nat × Option Addr × Nat × List Int) [(Back W F 131 (fun x : Nat × Grp × List Int => [(0, .vec 0 ao bs.length cap), (3, .ptr 1 b 0), (4, .ptr 2 b1 0), (6, .ptr 3 d 0), (7, .int .i64 (x.1 : Int))]) (fun x : Nat × Grp × List Int => [⟨.sl ao cap, .roL 1 encU8 bs 0⟩, ⟨.sl (some ⟨b, 0, none⟩) 4, .vecL 24 1 encS names4 ByteArray.empty⟩, pkA b1 grpE x.2.1, ⟨.sl (some ⟨d, 0, none⟩) 10, .vecL 29 1 encI1 x.2.2 0⟩]) (fun x : Nat × Grp × List Int => x.1 ≤ bs.length ∧ GO x.2.1 x.2.2) (fun x : Nat × Grp × List Int => bs.length - x.1) (bs.length - i)), (Back W F 131 (fun k : Nat => [(0, .vec 0 ao bs.length cap), (3, .ptr 1 b 0), (4, .ptr 2 b1 0), (6, .ptr 3 d 0), (7, .int .i64 (i : Int)), (10, .int .i64 (k : Int))]) (fun _ : Nat => [⟨.sl ao cap, .roL 1 encU8 bs 0⟩, ⟨.sl (some ⟨b, 0, none⟩) 4, .vecL 24 1 encS names4 ByteArray.empty⟩, pkA b1 grpE s, ⟨.sl (some ⟨d, 0, none⟩) 10, .vecL 29 1 encI1 arr 0⟩]) (fun k : Nat => k ≤ 4) (fun k : Nat => 4 - k) (4 - k))] (bodyOf Try.f3) [1, 1, 1, 1, 1, 1, 1, 0, 1, 0, 0, 1, 0, 0, 1, 1, 1, 0, 0, 1, 0, 0, 1, 0, 1, 0] 131 (fun x : Nat × Option Addr × Nat × List Int => [(0, .vec 0 ao bs.length cap), (3, .ptr 1 b 0), (4, .ptr 2 b1 0), (6, .ptr 3 d 0), (7, .int .i64 (i : Int)), (10, .int .i64 (k : Int)), (11, .vec 4 x.2.1 x.2.2.2.length x.2.2.1), (12, .int .i64 (x.1 : Int))]) (fun x : Nat × Option Addr × Nat × List Int => [⟨.sl ao cap, .roL 1 encU8 bs 0⟩, ⟨.sl (some ⟨b, 0, none⟩) 4, .vecL 24 1 encS names4 ByteArray.empty⟩, pkA b1 grpE s, ⟨.sl (some ⟨d, 0, none⟩) 10, .vecL 29 1 encI1 arr 0⟩, ⟨.sl x.2.1 x.2.2.1, .vecL 3 1 encI1 x.2.2.2 0⟩]) (fun x : Nat × Option Addr × Nat × List Int => 2 ≤ x.1 ∧ x.1 ≤ 10 ∧ x.2.2.2 = wantL arr k (x.1 - 2)) (fun x : Nat × Option Addr × Nat × List Int => 10 - x.1) (2, none, 0, []) (by kernel_rfl) (fun J => by kernel_rfl) ⟨Nat.le_refl _, by dsimp only; omega, rfl⟩ h1 h2 hh ?_
  rintro ⟨q, aw, cw, want⟩ ⟨hq2, hq, hw⟩ u
  dsimp only at hq2 hq hw
  try dsimp only
  simp only [List.nil_append, List.cons_append]
  refine G_run (kc := true) (ss := []) goT_ok hmG 1500 ?_
  rw [go_l3]
  have w1 : IntKind.wrap .i64 ((q : Int) + 1) = ((q + 1 : Nat) : Int) := IntWalk.i64_in _ (by omega)
  have w2 : IntKind.wrap .i64 ((k : Int) + 1) = ((k + 1 : Nat) : Int) := IntWalk.i64_in _ (by omega)
  have hal := h.len
  have hqe : q - 2 + 2 = q := by omega
  have hwl : want.length ≤ 8 := by
    rw [hw]
    have : ∀ n, (wantL arr k n).length ≤ n := fun n => by
      induction n with
      | zero => exact Nat.le_refl _
      | succ n ih => rw [wantL, List.length_append]; split <;> simp <;> omega
    have := this (q - 2)
    omega
  cases hlt : decide ((q : Int) < 10) with
  | true =>
    simp only [decide_eq_true_eq] at hlt
    have hsucc : q + 1 - 2 = (q - 2) + 1 := by omega
    rw [Int.toNat_natCast, w2]
    have hback : ∀ (tm : List SV) (ao2 : Option Addr) (cap2 : Nat) (l : List Int) (x : List Ent), l = wantL arr k (q + 1 - 2) → lenN tm = 131 → liveOk tm [(0, .vec 0 ao bs.length cap), (3, .ptr 1 b 0), (4, .ptr 2 b1 0), (6, .ptr 3 d 0), (7, .int .i64 (i : Int)), (10, .int .i64 (k : Int)), (11, .vec 4 ao2 l.length cap2), (12, .int .i64 ((q + 1 : Nat) : Int))] → G Try.prog (endQ Try.prog Try.f3 W F fun _ r => r = .bool true) W F (.loop (Back W F 131 (fun x : Nat × Option Addr × Nat × List Int => [(0, .vec 0 ao bs.length cap), (3, .ptr 1 b 0), (4, .ptr 2 b1 0), (6, .ptr 3 d 0), (7, .int .i64 (i : Int)), (10, .int .i64 (k : Int)), (11, .vec 4 x.2.1 x.2.2.2.length x.2.2.1), (12, .int .i64 (x.1 : Int))]) (fun x : Nat × Option Addr × Nat × List Int => [⟨.sl ao cap, .roL 1 encU8 bs 0⟩, ⟨.sl (some ⟨b, 0, none⟩) 4, .vecL 24 1 encS names4 ByteArray.empty⟩, pkA b1 grpE s, ⟨.sl (some ⟨d, 0, none⟩) 10, .vecL 29 1 encI1 arr 0⟩, ⟨.sl x.2.1 x.2.2.1, .vecL 3 1 encI1 x.2.2.2 0⟩]) (fun x : Nat × Option Addr × Nat × List Int => 2 ≤ x.1 ∧ x.1 ≤ 10 ∧ x.2.2.2 = wantL arr k (x.1 - 2)) (fun x : Nat × Option Addr × Nat × List Int => 10 - x.1) (10 - q)) :: .blk 6 :: frm [(Back W F 131 (fun x : Nat × Grp × List Int => [(0, .vec 0 ao bs.length cap), (3, .ptr 1 b 0), (4, .ptr 2 b1 0), (6, .ptr 3 d 0), (7, .int .i64 (x.1 : Int))]) (fun x : Nat × Grp × List Int => [⟨.sl ao cap, .roL 1 encU8 bs 0⟩, ⟨.sl (some ⟨b, 0, none⟩) 4, .vecL 24 1 encS names4 ByteArray.empty⟩, pkA b1 grpE x.2.1, ⟨.sl (some ⟨d, 0, none⟩) 10, .vecL 29 1 encI1 x.2.2 0⟩]) (fun x : Nat × Grp × List Int => x.1 ≤ bs.length ∧ GO x.2.1 x.2.2) (fun x : Nat × Grp × List Int => bs.length - x.1) (bs.length - i)), (Back W F 131 (fun k : Nat => [(0, .vec 0 ao bs.length cap), (3, .ptr 1 b 0), (4, .ptr 2 b1 0), (6, .ptr 3 d 0), (7, .int .i64 (i : Int)), (10, .int .i64 (k : Int))]) (fun _ : Nat => [⟨.sl ao cap, .roL 1 encU8 bs 0⟩, ⟨.sl (some ⟨b, 0, none⟩) 4, .vecL 24 1 encS names4 ByteArray.empty⟩, pkA b1 grpE s, ⟨.sl (some ⟨d, 0, none⟩) 10, .vecL 29 1 encI1 arr 0⟩]) (fun k : Nat => k ≤ 4) (fun k : Nat => 4 - k) (4 - k))] (bodyOf Try.f3) [1, 1, 1, 1, 1, 1, 1, 0, 1, 0, 0, 1, 0, 0, 1, 1, 1, 0, 0, 1, 0, 0, 1, 1] []) ⟨tm, [⟨.sl ao cap, .roL 1 encU8 bs 0⟩, ⟨.sl (some ⟨b, 0, none⟩) 4, .vecL 24 1 encS names4 ByteArray.empty⟩, pkA b1 grpE s, ⟨.sl (some ⟨d, 0, none⟩) 10, .vecL 29 1 encI1 arr 0⟩, ⟨.sl ao2 cap2, .vecL 3 1 encI1 l 0⟩] ++ x⟩ := fun tm ao2 cap2 l x hl g1 g2 =>
      G_back (q + 1, ao2, cap2, l) ⟨by dsimp only; omega, by dsimp only; omega, hl⟩ (by dsimp only; omega) g1 g2 (fun w hw => Rep.dropR hw)
    cases hc : List.getD arr q 0 == ((k + 1 : Nat) : Int) with
    | true =>
      have hc' : arr.getD (q - 2 + 2) 0 = (k : Int) + 1 := by rw [hqe]; simpa using hc
      have hl : want ++ [(q : Int)] = wantL arr k (q + 1 - 2) := by
        rw [hsucc, wantL, if_pos hc', hw, hqe]
      repeat' first
        | exact rfl
        | (refine ⟨[(q : Int)], rfl, rfl, fun ao2 cap2 _ => ?_⟩)
        | exact hback _ _ _ _ [_] hl rfl ⟨rfl, rfl, rfl, rfl, rfl, rfl, by rw [List.length_append]; rfl, congrArg (Value.int .i64) w1, trivial⟩
        | apply And.intro
        | (refine fun bx => ?_)
        | exact hal.symm
        | (show _ ≤ _; omega)
        | (show _ < _; omega)
        | fail
    | false =>
      have hc' : ¬ arr.getD (q - 2 + 2) 0 = (k : Int) + 1 := by rw [hqe]; simpa using hc
      have hl : want = wantL arr k (q + 1 - 2) := by
        rw [hsucc, wantL, if_neg hc', hw, List.append_nil]
      repeat' first
        | exact rfl
        | exact hback _ _ _ _ [] hl rfl ⟨rfl, rfl, rfl, rfl, rfl, rfl, rfl, congrArg (Value.int .i64) w1, trivial⟩
        | apply And.intro
        | exact hal.symm
        | (show _ ≤ _; omega)
        | (show _ < _; omega)
        | fail
  | false =>
    simp only [decide_eq_false_iff_not] at hlt
    have hq10 : q = 10 := by omega
    subst hq10
    obtain ⟨nb, ms, hg, hwf, hso⟩ := h.members hk
    rw [Int.toNat_natCast]
    have hmem : memL s (nm4 k) = want := by
      rw [hw]; simp only [memL, hg, hso]
    have hback : ∀ (tm : List SV) (x : List Ent), lenN tm = 131 → liveOk tm [(0, .vec 0 ao bs.length cap), (3, .ptr 1 b 0), (4, .ptr 2 b1 0), (6, .ptr 3 d 0), (7, .int .i64 (i : Int)), (10, .int .i64 ((k + 1 : Nat) : Int))] → G Try.prog (endQ Try.prog Try.f3 W F fun _ r => r = .bool true) W F (.loop (Back W F 131 (fun k : Nat => [(0, .vec 0 ao bs.length cap), (3, .ptr 1 b 0), (4, .ptr 2 b1 0), (6, .ptr 3 d 0), (7, .int .i64 (i : Int)), (10, .int .i64 (k : Int))]) (fun _ : Nat => [⟨.sl ao cap, .roL 1 encU8 bs 0⟩, ⟨.sl (some ⟨b, 0, none⟩) 4, .vecL 24 1 encS names4 ByteArray.empty⟩, pkA b1 grpE s, ⟨.sl (some ⟨d, 0, none⟩) 10, .vecL 29 1 encI1 arr 0⟩]) (fun k : Nat => k ≤ 4) (fun k : Nat => 4 - k) (4 - k)) :: .blk 4 :: .blk 3 :: frmR [(Back W F 131 (fun x : Nat × Grp × List Int => [(0, .vec 0 ao bs.length cap), (3, .ptr 1 b 0), (4, .ptr 2 b1 0), (6, .ptr 3 d 0), (7, .int .i64 (x.1 : Int))]) (fun x : Nat × Grp × List Int => [⟨.sl ao cap, .roL 1 encU8 bs 0⟩, ⟨.sl (some ⟨b, 0, none⟩) 4, .vecL 24 1 encS names4 ByteArray.empty⟩, pkA b1 grpE x.2.1, ⟨.sl (some ⟨d, 0, none⟩) 10, .vecL 29 1 encI1 x.2.2 0⟩]) (fun x : Nat × Grp × List Int => x.1 ≤ bs.length ∧ GO x.2.1 x.2.2) (fun x : Nat × Grp × List Int => bs.length - x.1) (bs.length - i))] (bodyOf Try.f3) 15) ⟨tm, [⟨.sl ao cap, .roL 1 encU8 bs 0⟩, ⟨.sl (some ⟨b, 0, none⟩) 4, .vecL 24 1 encS names4 ByteArray.empty⟩, pkA b1 grpE s, ⟨.sl (some ⟨d, 0, none⟩) 10, .vecL 29 1 encI1 arr 0⟩] ++ x⟩ := fun tm x g1 g2 =>
      G_back (k + 1) (by omega) (by omega) g1 g2 (fun w hw => Rep.dropR hw)
    have hgd : List.getD names4 k ByteArray.empty = nm4 k := by
      unfold nm4
      exact congrArg _ rfl
    refine ⟨⟨rfl, rfl, rfl, by omega, by show _ < (4 : Int); omega⟩, ⟨rfl, rfl, rfl, hk⟩, rfl, rfl, rfl, HEq.rfl, ⟨(nb, ms), hg, hwf⟩, fun ao2 cap2 => ⟨rfl, want, ?_, rfl, ⟨rfl, ?_, rfl, by omega⟩, ?_⟩⟩
    · show some (Ent.mk _ (.vecL _ 1 encI1 (memL s (nm4 k)) 0)) = _
      rw [hmem]
    · show (memL s (nm4 k)).length = _
      rw [hmem]
    · exact hback _ [_, _] rfl ⟨rfl, rfl, rfl, rfl, rfl, congrArg (Value.int .i64) w2, trivial⟩
theorem go24 (hi : i < bs.length) (hb : bs.length ≤ 150) (h : GO s arr) {tm : List SV} {t : List Ent} (h1 : lenN tm = 131) (h2 : liveOk tm [(0, .vec 0 ao bs.length cap), (3, .ptr 1 b 0), (4, .ptr 2 b1 0), (6, .ptr 3 d 0), (7, .int .i64 (i : Int))]) : G Try.prog (endQ Try.prog Try.f3 W F fun _ r => r = .bool true) W F (frmR [(Back W F 131 (fun x : Nat × Grp × List Int => [(0, .vec 0 ao bs.length cap), (3, .ptr 1 b 0), (4, .ptr 2 b1 0), (6, .ptr 3 d 0), (7, .int .i64 (x.1 : Int))]) (fun x : Nat × Grp × List Int => [⟨.sl ao cap, .roL 1 encU8 bs 0⟩, ⟨.sl (some ⟨b, 0, none⟩) 4, .vecL 24 1 encS names4 ByteArray.empty⟩, pkA b1 grpE x.2.1, ⟨.sl (some ⟨d, 0, none⟩) 10, .vecL 29 1 encI1 x.2.2 0⟩]) (fun x : Nat × Grp × List Int => x.1 ≤ bs.length ∧ GO x.2.1 x.2.2) (fun x : Nat × Grp × List Int => bs.length - x.1) (bs.length - i))] (bodyOf Try.f3) 24) ⟨tm, [⟨.sl ao cap, .roL 1 encU8 bs 0⟩, ⟨.sl (some ⟨b, 0, none⟩) 4, .vecL 24 1 encS names4 ByteArray.empty⟩, pkA b1 grpE s, ⟨.sl (some ⟨d, 0, none⟩) 10, .vecL 29 1 encI1 arr 0⟩] ++ t⟩ := by
  refine G_live 131 [(0, .vec 0 ao bs.length cap), (3, .ptr 1 b 0), (4, .ptr 2 b1 0), (6, .ptr 3 d 0), (7, .int .i64 (i : Int))] [⟨.sl ao cap, .roL 1 encU8 bs 0⟩, ⟨.sl (some ⟨b, 0, none⟩) 4, .vecL 24 1 encS names4 ByteArray.empty⟩, pkA b1 grpE s, ⟨.sl (some ⟨d, 0, none⟩) 10, .vecL 29 1 encI1 arr 0⟩] h1 h2 (fun w hw => Rep.dropR hw) fun u => ?_
  refine G_run (kc := false) (ss := []) goT_ok hmG 900 ?_
  rw [go_24]
  refine G_loopAt (ι := Nat) [(Back W F 131 (fun x : Nat × Grp × List Int => [(0, .vec 0 ao bs.length cap), (3, .ptr 1 b 0), (4, .ptr 2 b1 0), (6, .ptr 3 d 0), (7, .int .i64 (x.1 : Int))]) (fun x : Nat × Grp × List Int => [⟨.sl ao cap, .roL 1 encU8 bs 0⟩, ⟨.sl (some ⟨b, 0, none⟩) 4, .vecL 24 1 encS names4 ByteArray.empty⟩, pkA b1 grpE x.2.1, ⟨.sl (some ⟨d, 0, none⟩) 10, .vecL 29 1 encI1 x.2.2 0⟩]) (fun x : Nat × Grp × List Int => x.1 ≤ bs.length ∧ GO x.2.1 x.2.2) (fun x : Nat × Grp × List Int => bs.length - x.1) (bs.length - i))] (bodyOf Try.f3) [1, 1, 1, 1, 1, 1, 1, 0, 1, 0, 0, 1, 0, 0, 1, 1, 1, 0] 131 (fun k : Nat => [(0, .vec 0 ao bs.length cap), (3, .ptr 1 b 0), (4, .ptr 2 b1 0), (6, .ptr 3 d 0), (7, .int .i64 (i : Int)), (10, .int .i64 (k : Int))]) (fun _ : Nat => [⟨.sl ao cap, .roL 1 encU8 bs 0⟩, ⟨.sl (some ⟨b, 0, none⟩) 4, .vecL 24 1 encS names4 ByteArray.empty⟩, pkA b1 grpE s, ⟨.sl (some ⟨d, 0, none⟩) 10, .vecL 29 1 encI1 arr 0⟩]) (fun k : Nat => k ≤ 4) (fun k : Nat => 4 - k) 0 (by kernel_rfl) (fun J => by kernel_rfl) (Nat.zero_le _) rfl ⟨rfl, rfl, rfl, rfl, rfl, rfl, trivial⟩ (fun w hw => hw) ?_
  intro k hk u
  try dsimp only at hk ⊢
  simp only [List.nil_append, List.cons_append]
  refine G_run (kc := false) (ss := []) goT_ok hmG 900 ?_
  rw [go_l2]
  cases hlt : decide ((k : Int) < 4) with
  | true =>
    simp only [decide_eq_true_eq] at hlt
    exact go_ii hi hb h (by omega) rfl ⟨rfl, rfl, rfl, rfl, rfl, rfl, rfl, rfl, trivial⟩ (fun w hw => Rep.nilvec 3 (sz := 1) (enc := encI1) 0 (fun _ => rfl) hw)
  | false =>
    have w1 : IntKind.wrap .i64 ((i : Int) + 1) = ((i + 1 : Nat) : Int) := IntWalk.i64_in _ (by omega)
    exact G_back (i + 1, s, arr) ⟨by dsimp only; omega, h⟩ (by dsimp only; omega) rfl ⟨rfl, rfl, rfl, rfl, congrArg (Value.int .i64) w1, trivial⟩ (fun w hw => hw)
theorem go17 {p n : Nat} (hp2 : 2 ≤ p) (hp : p < 10) (hn : n < 4) (hi : i < bs.length) (hb : bs.length ≤ 150) (h : GO s arr) {tm : List SV} (h1 : lenN tm = 131) (h2 : liveOk tm [(0, .vec 0 ao bs.length cap), (3, .ptr 1 b 0), (4, .ptr 2 b1 0), (6, .ptr 3 d 0), (7, .int .i64 (i : Int)), (8, .int .i64 (p : Int)), (9, .int .i64 (n : Int))]) : G Try.prog (endQ Try.prog Try.f3 W F fun _ r => r = .bool true) W F (frmR [(Back W F 131 (fun x : Nat × Grp × List Int => [(0, .vec 0 ao bs.length cap), (3, .ptr 1 b 0), (4, .ptr 2 b1 0), (6, .ptr 3 d 0), (7, .int .i64 (x.1 : Int))]) (fun x : Nat × Grp × List Int => [⟨.sl ao cap, .roL 1 encU8 bs 0⟩, ⟨.sl (some ⟨b, 0, none⟩) 4, .vecL 24 1 encS names4 ByteArray.empty⟩, pkA b1 grpE x.2.1, ⟨.sl (some ⟨d, 0, none⟩) 10, .vecL 29 1 encI1 x.2.2 0⟩]) (fun x : Nat × Grp × List Int => x.1 ≤ bs.length ∧ GO x.2.1 x.2.2) (fun x : Nat × Grp × List Int => bs.length - x.1) (bs.length - i))] (bodyOf Try.f3) 17) ⟨tm, [⟨.sl ao cap, .roL 1 encU8 bs 0⟩, ⟨.sl (some ⟨b, 0, none⟩) 4, .vecL 24 1 encS names4 ByteArray.empty⟩, pkA b1 grpE s, ⟨.sl (some ⟨d, 0, none⟩) 10, .vecL 29 1 encI1 arr 0⟩]⟩ := by
  refine G_live 131 [(0, .vec 0 ao bs.length cap), (3, .ptr 1 b 0), (4, .ptr 2 b1 0), (6, .ptr 3 d 0), (7, .int .i64 (i : Int)), (8, .int .i64 (p : Int)), (9, .int .i64 (n : Int))] [⟨.sl ao cap, .roL 1 encU8 bs 0⟩, ⟨.sl (some ⟨b, 0, none⟩) 4, .vecL 24 1 encS names4 ByteArray.empty⟩, pkA b1 grpE s, ⟨.sl (some ⟨d, 0, none⟩) 10, .vecL 29 1 encI1 arr 0⟩] h1 h2 (fun w hw => hw) fun u => ?_
  refine G_run (kc := false) (ss := [24]) goT_ok hmG 1500 ?_
  rw [go_17]
  have hal := h.len
  rw [Int.toNat_natCast, Int.toNat_natCast]
  refine ⟨⟨rfl, rfl, rfl, by omega, by omega⟩, ⟨rfl, rfl, rfl, hi⟩, by decide, by decide, ?_⟩
  have hgok := h.gok hp2 hp
  cases hc : Int.tmod (IntKind.wrap IntKind.u8 (Int.tdiv (List.getD bs i (0 : Int)) (32 : Int))) (4 : Int) == (0 : Int) with
  | true =>
    have main : ∀ ao1 cap1, (!((gGone s (p : Int) ao1 cap1).2 == decide (List.getD arr p 0 > 0))) = false := fun ao1 cap1 => by
      rw [(h.gone hp2 hp ao1 cap1).1]; simp
    have fin := fun (ao1 : Option Addr) (cap1 : Nat) (tm : List SV) g1 g2 => go24 (W := W) (F := F) (ao := ao) (cap := cap) (b := b) (b1 := b1) (d := d) (tm := tm) (t := []) hi hb (h.gone hp2 hp ao1 cap1).2 g1 g2
    repeat' first
      | exact rfl
      | exact HEq.rfl
      | exact hgok
      | exact fin _ _ _ rfl ⟨rfl, rfl, rfl, rfl, rfl, trivial⟩
      | (rw [main])
      | apply And.intro
      | (refine ⟨rfl, ?_⟩)
      | (refine ⟨0, rfl, ?_⟩)
      | (refine fun ao1 cap1 => ?_)
      | (show _ ≤ _; omega)
      | (show _ < _; omega)
      | (show (10 : Nat) = _; exact hal.symm)
      | fail
  | false =>
    have w2 : IntKind.wrap .i64 ((n : Int) + 1) = (n : Int) + 1 := IntWalk.i64_in _ (by omega)
    rw [Int.toNat_natCast, w2]
    have main : ∀ ao1 cap1, (gPut s (p : Int) (nm4 n) ao1 cap1).2 = 0 := fun ao1 cap1 => (h.put hp2 hp hn ao1 cap1).1
    have main' : ∀ ao1 cap1, ((gPut s (p : Int) (nm4 n) ao1 cap1).2 != 0) = false := fun ao1 cap1 => by rw [main]; rfl
    have fin := fun (ao1 : Option Addr) (cap1 : Nat) (tm : List SV) g1 g2 => go24 (W := W) (F := F) (ao := ao) (cap := cap) (b := b) (b1 := b1) (d := d) (tm := tm) (t := []) hi hb (h.put hp2 hp hn ao1 cap1).2 g1 g2
    refine ⟨⟨rfl, rfl, rfl, by omega, by show _ < (4 : Int); omega⟩, ⟨rfl, rfl, rfl, hn⟩, rfl, rfl, rfl, HEq.rfl, ⟨hgok, h.gk⟩, fun ao1 cap1 => ?_⟩
    show (match (gPut s (p : Int) (nm4 n) ao1 cap1).2 != 0 with | true => _ | false => _)
    rw [main']
    refine ⟨⟨rfl, rfl, hal.symm, by omega, by show _ < (10 : Int); omega⟩, ⟨rfl, rfl, rfl, by omega, rfl, rfl, Nat.le_refl _⟩, (n : Int) + 1, rfl, ?_⟩
    exact fin _ _ _ rfl ⟨rfl, rfl, rfl, rfl, rfl, trivial⟩
end
end Go.Proofs.Ytihajdkipkfiiaa
