/- GroupOne. -/
import Derived.Test.YtihajdkipkfiiaaGo2
namespace Go.Proofs.Ytihajdkipkfiiaa
open Go Go.RowKit
set_option linter.unusedVariables false
set_option linter.unusedSimpArgs false
set_option linter.unnecessarySimpa false
set_option maxHeartbeats 0

theorem first_spec (gs : List (Key × GSet)) : ∀ l : List ByteArray, (firstEmpty gs l = ([], none)) ∨ ∃ l' n, firstEmpty gs l = (l', some n) ∧ l'.length < l.length ∧ (∀ y ∈ l', y ∈ l) ∧ n ∈ l ∧ ∀ x, mget gs (.s n) = some x → x.2.length = 0
  | [] => .inl rfl
  | n :: l => by
    simp only [firstEmpty]
    cases hx : mget gs (.s n) with
    | none => exact .inr ⟨l, n, rfl, by simp, fun y hy => List.mem_cons_of_mem _ hy, List.mem_cons_self, fun x h => by rw [hx] at h; cases h⟩
    | some v =>
      dsimp only
      cases hv : v.2.length with
      | zero => exact .inr ⟨l, n, rfl, by simp, fun y hy => List.mem_cons_of_mem _ hy, List.mem_cons_self, fun x h => by rw [hx] at h; cases h; exact hv⟩
      | succ m =>
        rcases first_spec gs l with h | ⟨l', n', h1, h2, h3, h4, h5⟩
        · exact .inl h
        · exact .inr ⟨l', n', h1, by simp; omega, fun y hy => List.mem_cons_of_mem _ (h3 y hy), List.mem_cons_of_mem _ h4, h5⟩
section
variable {W : World} {F : List Ch} {ao : Option Addr} {cap : Nat} {bs : List Int} {b b1 d : Nat} {s : Grp} {arr : List Int}
theorem go_last (h : GO s arr) {tm : List SV} (h1 : lenN tm = 131) (h2 : liveOk tm [(0, .vec 0 ao bs.length cap), (3, .ptr 1 b 0), (4, .ptr 2 b1 0), (6, .ptr 3 d 0), (13, .int .i64 (0 : Int))]) : G Try.prog (endQ Try.prog Try.f3 W F fun _ r => r = .bool true) W F (frm [] (bodyOf Try.f3) [1, 1, 1, 1, 1, 1, 1, 1, 0, 1, 0] []) ⟨tm, [⟨.sl ao cap, .roL 1 encU8 bs 0⟩, ⟨.sl (some ⟨b, 0, none⟩) 4, .vecL 24 1 encS names4 ByteArray.empty⟩, pkA b1 grpE s, ⟨.sl (some ⟨d, 0, none⟩) 10, .vecL 29 1 encI1 arr 0⟩]⟩ := by
  refine G_loopAt (ι := Nat × Grp) [] (bodyOf Try.f3) [1, 1, 1, 1, 1, 1, 1, 1, 0, 1, 0] 131 (fun x : Nat × Grp => [(0, .vec 0 ao bs.length cap), (3, .ptr 1 b 0), (4, .ptr 2 b1 0), (6, .ptr 3 d 0), (13, .int .i64 (x.1 : Int))]) (fun x : Nat × Grp => [⟨.sl ao cap, .roL 1 encU8 bs 0⟩, ⟨.sl (some ⟨b, 0, none⟩) 4, .vecL 24 1 encS names4 ByteArray.empty⟩, pkA b1 grpE x.2, ⟨.sl (some ⟨d, 0, none⟩) 10, .vecL 29 1 encI1 arr 0⟩]) (fun x : Nat × Grp => x.1 ≤ 5 ∧ x.2.gs = s.gs ∧ x.2.notes.length ≤ 4 - x.1 ∧ ∀ y ∈ x.2.notes, ∃ k : Nat, k < 4 ∧ y = nm4 k) (fun x : Nat × Grp => 5 - x.1) (0, s) (by kernel_rfl) (fun J => by kernel_rfl) ⟨Nat.zero_le _, rfl, h.notes_le, h.nt⟩ h1 h2 (fun w hw => hw) ?_
  rintro ⟨k, s'⟩ ⟨hk, hgs, hnl, hnt⟩ u
  dsimp only at hk hgs hnl hnt
  try dsimp only
  simp only [List.nil_append, List.cons_append]
  refine G_run (kc := true) (ss := []) goT_ok hmG 1500 ?_
  rw [go_l4]
  have w1 : IntKind.wrap .i64 ((k : Int) + 1) = ((k + 1 : Nat) : Int) := IntWalk.i64_in _ (by omega)
  cases hlt : decide ((k : Int) < 5) with
  | false => rfl
  | true =>
    simp only [decide_eq_true_eq] at hlt
    refine ⟨rfl, rfl, rfl, HEq.rfl, fun ao1 cap1 => ?_⟩
    have hback : ∀ (tm : List SV) (s2 : Grp) (x : List Ent), s2.gs = s.gs → s2.notes.length ≤ 4 - (k + 1) → (∀ y ∈ s2.notes, ∃ k : Nat, k < 4 ∧ y = nm4 k) → lenN tm = 131 → liveOk tm [(0, .vec 0 ao bs.length cap), (3, .ptr 1 b 0), (4, .ptr 2 b1 0), (6, .ptr 3 d 0), (13, .int .i64 ((k + 1 : Nat) : Int))] → G Try.prog (endQ Try.prog Try.f3 W F fun _ r => r = .bool true) W F (.loop (Back W F 131 (fun x : Nat × Grp => [(0, .vec 0 ao bs.length cap), (3, .ptr 1 b 0), (4, .ptr 2 b1 0), (6, .ptr 3 d 0), (13, .int .i64 (x.1 : Int))]) (fun x : Nat × Grp => [⟨.sl ao cap, .roL 1 encU8 bs 0⟩, ⟨.sl (some ⟨b, 0, none⟩) 4, .vecL 24 1 encS names4 ByteArray.empty⟩, pkA b1 grpE x.2, ⟨.sl (some ⟨d, 0, none⟩) 10, .vecL 29 1 encI1 arr 0⟩]) (fun x : Nat × Grp => x.1 ≤ 5 ∧ x.2.gs = s.gs ∧ x.2.notes.length ≤ 4 - x.1 ∧ ∀ y ∈ x.2.notes, ∃ k : Nat, k < 4 ∧ y = nm4 k) (fun x : Nat × Grp => 5 - x.1) (5 - k)) :: .blk 8 :: frm [] (bodyOf Try.f3) [1, 1, 1, 1, 1, 1, 1, 1, 1] []) ⟨tm, [⟨.sl ao cap, .roL 1 encU8 bs 0⟩, ⟨.sl (some ⟨b, 0, none⟩) 4, .vecL 24 1 encS names4 ByteArray.empty⟩, pkA b1 grpE s2, ⟨.sl (some ⟨d, 0, none⟩) 10, .vecL 29 1 encI1 arr 0⟩] ++ x⟩ := fun tm s2 x a1 a2 a3 g1 g2 =>
      G_back (k + 1, s2) ⟨by dsimp only; omega, a1, a2, a3⟩ (by dsimp only; omega) g1 g2 (fun w hw => Rep.dropR hw)
    rcases first_spec s'.gs s'.notes with hf | ⟨l', n, hf, hll, hsub, hn, he⟩
    · simp only [gEmptied, hf, Option.isSome_none]
      have fin := fun (tm : List SV) (x : List Ent) g1 g2 => hback tm ⟨s'.bg, s'.bo, ao1, cap1, s'.gs, s'.of, []⟩ x hgs (Nat.zero_le _) (fun y hy => absurd hy List.not_mem_nil) g1 g2
      cases hk4 : (k : Int) == 4 with
      | true => exact fin _ [] rfl ⟨rfl, rfl, rfl, rfl, congrArg (Value.int .i64) w1, trivial⟩
      | false => exact fin _ [] rfl ⟨rfl, rfl, rfl, rfl, congrArg (Value.int .i64) w1, trivial⟩
    · simp only [gEmptied, hf, Option.isSome_some]
      obtain ⟨j, hj, rfl⟩ := hnt n hn
      obtain ⟨nb, ms, hg, hm⟩ := h.g j hj
      rw [← hgs] at hg
      have hms : ms = [] := List.eq_nil_of_length_eq_zero (he _ hg)
      subst hms
      have hk4 : ((k : Int) == 4) = false := by
        simp only [beq_eq_false_iff_ne, ne_eq]
        intro e
        have : s'.notes.length ≤ 0 := by omega
        omega
      have hml : ∀ a c l, memL ⟨s'.bg, s'.bo, a, c, s'.gs, s'.of, l⟩ (nm4 j) = [] := fun a c l => by
        simp only [memL, hg]
        simp [sortI]
      have fin := fun (tm : List SV) (x : List Ent) g1 g2 => hback tm ⟨s'.bg, s'.bo, ao1, cap1, s'.gs, s'.of, l'⟩ x hgs (by dsimp only; omega) (fun y hy => hnt y (hsub y hy)) g1 g2
      have hmok : memOk ⟨s'.bg, s'.bo, ao1, cap1, s'.gs, s'.of, l'⟩ (nm4 j) := ⟨(nb, []), hg, List.Pairwise.nil, Nat.zero_le _, fun e he => absurd he List.not_mem_nil⟩
      repeat' first
        | exact rfl
        | exact trivial
        | exact HEq.rfl
        | exact hmok
        | apply And.intro
        | (refine ⟨rfl, ?_⟩)
        | (refine ⟨trivial, ?_⟩)
        | (simp only [hml, hk4]; exact fin _ [_] rfl ⟨rfl, rfl, rfl, rfl, congrArg (Value.int .i64) w1, trivial⟩)
        | (refine fun ao2 cap2 => ?_)
        | fail
end
def zer10 : List Int := List.replicate 10 0
theorem zer10_get (p : Nat) : zer10.getD p 0 = 0 := by
  unfold zer10
  rw [List.getD, List.getElem?_replicate]
  split <;> rfl
theorem GO.start (bg bo n0 n1 n2 n3 : Nat) : GO ⟨bg, bo, none, 0, [(.s ⟨#[97]⟩, n0, []), (.s ⟨#[98]⟩, n1, []), (.s ⟨#[99]⟩, n2, []), (.s ⟨#[100]⟩, n3, [])], [], []⟩ zer10 := by
  have hm : ∀ k, MO zer10 k [] := fun k => ⟨List.Pairwise.nil, fun e he => absurd he List.not_mem_nil, fun p _ _ => by rw [zer10_get, if_neg (by omega)]; rfl⟩
  refine ⟨rfl, ?_, fun k hk => ?_, List.Pairwise.nil, fun p h1 h2 => .inl ⟨zer10_get p, rfl⟩, List.nodup_nil, fun x hx => absurd hx List.not_mem_nil⟩
  · exact keysOk_mset (k := .s ⟨#[100]⟩) (u := ((n3, []) : GSet)) (keysOk_mset (k := .s ⟨#[99]⟩) (u := ((n2, []) : GSet)) (keysOk_mset (k := .s ⟨#[98]⟩) (u := ((n1, []) : GSet)) (keysOk_mset (k := .s ⟨#[97]⟩) (u := ((n0, []) : GSet)) (es := []) List.Pairwise.nil)))
  · match k, hk with
    | 0, _ => exact ⟨n0, [], rfl, hm _⟩
    | 1, _ => exact ⟨n1, [], rfl, hm _⟩
    | 2, _ => exact ⟨n2, [], rfl, hm _⟩
    | 3, _ => exact ⟨n3, [], rfl, hm _⟩
theorem go_ok (ao : Option Addr) (cap : Nat) (bs : List Int) (hb : ∀ z ∈ bs, 0 ≤ z ∧ z ≤ 255) : Spec Try.prog 3 [⟨.sl ao cap, .roL 1 encU8 bs 0⟩] [.vec 0 ao bs.length cap] fun _ r => r = .bool true := by
  refine Spec.of_G 131 Try.func3 (c := bodyOf Try.f3) (by kernel_rfl) (by kernel_rfl) (Nat.le_of_ble_eq_true rfl) fun W F => ?_
  refine G_run (kc := false) (ss := [100007, 100008]) goT_ok hmG 3000 ?_
  rw [go_start]
  refine ⟨rfl, ?_⟩
  cases h150 : decide ((bs.length : Int) > 150) with
  | true => exact rfl
  | false =>
    simp only [decide_eq_false_iff_not] at h150
    have main : ∀ (b b1 d bg bo n0 n1 n2 n3 : Nat) (tm : List SV), lenN tm = 131 → liveOk tm [(0, .vec 0 ao bs.length cap), (3, .ptr 1 b 0), (4, .ptr 2 b1 0), (6, .ptr 3 d 0), (7, .int .i64 (0 : Int))] → G Try.prog (endQ Try.prog Try.f3 W F fun _ r => r = .bool true) W F (frm [] (bodyOf Try.f3) [1, 1, 1, 1, 1, 1, 1, 0, 1, 0] []) ⟨tm, [⟨.sl ao cap, .roL 1 encU8 bs 0⟩, ⟨.blk b, .cells [.str ⟨#[97]⟩, .str ⟨#[98]⟩, .str ⟨#[99]⟩, .str ⟨#[100]⟩] 24⟩, pkA b1 grpE ⟨bg, bo, none, 0, [(.s ⟨#[97]⟩, n0, []), (.s ⟨#[98]⟩, n1, []), (.s ⟨#[99]⟩, n2, []), (.s ⟨#[100]⟩, n3, [])], [], []⟩, ⟨.blk d, .cells [.int .i64 0, .int .i64 0, .int .i64 0, .int .i64 0, .int .i64 0, .int .i64 0, .int .i64 0, .int .i64 0, .int .i64 0, .int .i64 0] 29⟩]⟩ := by
      intro b b1 d bg bo n0 n1 n2 n3 tm g1 g2
      refine G_loopAt (ι := Nat × Grp × List Int) [] (bodyOf Try.f3) [1, 1, 1, 1, 1, 1, 1, 0, 1, 0] 131 (fun x : Nat × Grp × List Int => [(0, .vec 0 ao bs.length cap), (3, .ptr 1 b 0), (4, .ptr 2 b1 0), (6, .ptr 3 d 0), (7, .int .i64 (x.1 : Int))]) (fun x : Nat × Grp × List Int => [⟨.sl ao cap, .roL 1 encU8 bs 0⟩, ⟨.sl (some ⟨b, 0, none⟩) 4, .vecL 24 1 encS names4 ByteArray.empty⟩, pkA b1 grpE x.2.1, ⟨.sl (some ⟨d, 0, none⟩) 10, .vecL 29 1 encI1 x.2.2 0⟩]) (fun x : Nat × Grp × List Int => x.1 ≤ bs.length ∧ GO x.2.1 x.2.2) (fun x : Nat × Grp × List Int => bs.length - x.1) (0, ⟨bg, bo, none, 0, [(.s ⟨#[97]⟩, n0, []), (.s ⟨#[98]⟩, n1, []), (.s ⟨#[99]⟩, n2, []), (.s ⟨#[100]⟩, n3, [])], [], []⟩, zer10) (by kernel_rfl) (fun J => by kernel_rfl) ⟨Nat.zero_le _, GO.start bg bo n0 n1 n2 n3⟩ g1 g2 (fun w hw => ?_) ?_
      · have h1 := Rep.arrOf (l := 1) (sz := 1) encS names4 ByteArray.empty rfl rfl (fun _ => rfl) hw
        exact Rep.arrOf (l := 3) (sz := 1) encI1 zer10 0 rfl rfl (fun _ => rfl) h1
      rintro ⟨i, s, arr⟩ ⟨hi, h⟩ u
      dsimp only at hi h ⊢
      simp only [List.nil_append, List.cons_append]
      refine G_run (kc := false) (ss := [17]) goT_ok hmG 900 ?_
      rw [go_l1]
      cases hlt : decide ((i : Int) < (bs.length : Int)) with
      | false => exact go_last h rfl ⟨rfl, rfl, rfl, rfl, rfl, trivial⟩
      | true =>
        simp only [decide_eq_true_eq] at hlt
        have hi2 : i < bs.length := by omega
        rw [Int.toNat_natCast]
        have hz := hb _ (List.getElem_mem hi2)
        rw [← getD_lt bs 0 i hi2] at hz
        generalize bs.getD i 0 = z at hz
        have hm : z.tmod 8 = z % 8 := Int.tmod_eq_emod_of_nonneg hz.1
        have e1 : IntKind.wrap .i64 (IntKind.wrap .i64 (z.tmod 8) + 2) = (((z.tmod 8).toNat + 2 : Nat) : Int) := by
          rw [IntWalk.i64_in (z.tmod 8) (by omega), IntWalk.i64_in _ (by omega)]; omega
        have hq : 0 ≤ IntKind.wrap .u8 (z.tdiv 8) := by rw [IntKind.wrap_u8]; omega
        generalize IntKind.wrap .u8 (z.tdiv 8) = q at hq
        have hmq : q.tmod 4 = q % 4 := Int.tmod_eq_emod_of_nonneg hq
        have e2 : IntKind.wrap .i64 (q.tmod 4) = ((q.tmod 4).toNat : Int) := by
          rw [IntWalk.i64_in _ (by omega)]; omega
        rw [e1, e2]
        refine ⟨⟨rfl, rfl, rfl, by omega, by omega⟩, ⟨rfl, rfl, rfl, hi2⟩, by decide, ⟨rfl, rfl, rfl, by omega, by omega⟩, ⟨rfl, rfl, rfl, hi2⟩, by decide, by decide, ?_⟩
        exact go17 (p := (z.tmod 8).toNat + 2) (n := (q.tmod 4).toNat) (by omega) (by omega) (by omega) hi2 (by omega) h rfl ⟨rfl, rfl, rfl, rfl, rfl, rfl, rfl, trivial⟩
    repeat' first
      | exact rfl
      | exact HEq.rfl
      | exact main _ _ _ _ _ _ _ _ _ _ rfl ⟨rfl, rfl, rfl, rfl, rfl, trivial⟩
      | apply And.intro
      | (refine ⟨rfl, ?_⟩)
      | (refine fun _ => ?_)
      | (show _ ≤ _; omega)
      | (show _ < _; omega)
      | (show (_ : Int) < 4; omega)
      | fail
end Go.Proofs.Ytihajdkipkfiiaa
