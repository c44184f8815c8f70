/- TrackForks. -/
import Derived.Test.YtihajdkipkfiiaaTfP
import Derived.Test.YtihajdkipkfiiaaInt
import Derived.Test.YtihajdkipkfiiaaTf1Run
import Derived.Test.YtihajdkipkfiiaaTf2Run
import Derived.Test.YtihajdkipkfiiaaTf3Run
namespace Go.Proofs.Ytihajdkipkfiiaa
open Go Go.RowKit
set_option linter.unusedVariables false
set_option linter.unusedSimpArgs false
set_option linter.unnecessarySimpa false
set_option maxHeartbeats 0

theorem tkT1_ok : AllOk Try.prog tkT1 := ⟨tPids_ok, inl_ok ⟨appSeq_ok, trivial⟩ hmT Try.func82 (by kernel_rfl), trivial⟩
theorem tkT_ok : AllOk Try.prog tkT := ⟨tNew_ok, tAdd_ok, tFork_ok, tGone_ok, tUnit_ok, tPids_ok, trivial⟩
theorem tOk_lit {s : Trk} {pid : Int} (h2 : (match mget s.of (.i .i64 pid) with | none => true | some n => (mget s.ps (.s n)).isSome) = true) : tOk s pid := by
  intro n hn
  rw [hn] at h2
  exact Option.isSome_iff_exists.1 h2
theorem known19_ok : CtrOk Try.prog 29 trueC := by
  intro args hs N h
  unfold trueC at h
  split at h
  · refine Spec.lift (Φ := fun r => r = .bool true) ?_ (fun r hr => by rw [hr]; exact h)
    refine Spec.of_G 52 Try.func29 (c := bodyOf Try.f29) (by kernel_rfl) (by kernel_rfl) (Nat.le_of_ble_eq_true rfl) fun W F => ?_
    refine G_run (kc := false) (ss := []) tkT_ok hmT 3000 ?_
    rw [known19]
    repeat' first
      | exact rfl
      | exact HEq.rfl
      | exact tOk_lit rfl
      | (refine fun _ => ?_)
      | apply And.intro
      | (refine ⟨rfl, ?_⟩)
      | fail
  · exact h.elim
theorem tfT_ok : AllOk Try.prog tfT := ⟨known19_ok, vals_ok, ints_ok, inl_ok tkT1_ok hmT Try.func36 (by kernel_rfl), tkT_ok⟩
section
variable {W : World} {F : List Ch} {ao : Option Addr} {cap : Nat} {bs : List Int} {b : Nat} {s : Trk} {af : Option Addr} {cf : Nat} {ofl : List Int} {i : Nat}
theorem tf13 {k : Nat} (h2k : 2 ≤ k) (hk : k < ofl.length) (hi : i < bs.length) (hb : bs.length ≤ 80) (h : TI9 s ofl) (hn : ofl.length ≤ i + 4) {tm : List SV} (h1 : lenN tm = 160) (h2 : liveOk tm [(0, .vec 0 ao bs.length cap), (3, .ptr 1 b 0), (4, .vec 2 af (ofl).length cf), (5, .int .i64 (i : Int)), (6, .int .i64 (k : Int))]) : G Try.prog (endQ Try.prog Try.f7 W F fun _ r => r = .bool true) W F (frmR [(Back W F 160 (fun x : Nat × Trk × Option Addr × Nat × List Int => [(0, .vec 0 ao bs.length cap), (3, .ptr 1 b 0), (4, .vec 2 x.2.2.1 (x.2.2.2.2).length x.2.2.2.1), (5, .int .i64 (x.1 : Int))]) (fun x : Nat × Trk × Option Addr × Nat × List Int => [⟨.sl ao cap, .roL 1 encU8 bs 0⟩, pkA b trkE (x.2.1), ⟨.sl x.2.2.1 x.2.2.2.1, .vecL 3 1 encI1 (x.2.2.2.2) 0⟩]) (fun x : Nat × Trk × Option Addr × Nat × List Int => x.1 ≤ bs.length ∧ TI9 x.2.1 x.2.2.2.2 ∧ x.2.2.2.2.length ≤ x.1 + 4) (fun x : Nat × Trk × Option Addr × Nat × List Int => bs.length - x.1) (bs.length - i))] (bodyOf Try.f7) 13) ⟨tm, [⟨.sl ao cap, .roL 1 encU8 bs 0⟩, pkA b trkE (s), ⟨.sl af cf, .vecL 3 1 encI1 (ofl) 0⟩]⟩ := by
  refine G_live 160 [(0, .vec 0 ao bs.length cap), (3, .ptr 1 b 0), (4, .vec 2 af (ofl).length cf), (5, .int .i64 (i : Int)), (6, .int .i64 (k : Int))] [⟨.sl ao cap, .roL 1 encU8 bs 0⟩, pkA b trkE (s), ⟨.sl af cf, .vecL 3 1 encI1 (ofl) 0⟩] h1 h2 (fun w hw => hw) fun u => ?_
  refine G_run (kc := false) (ss := []) tfT_ok hmT 1500 ?_
  rw [tf_13]
  have w1 : IntKind.wrap .i64 ((i : Int) + 1) = ((i + 1 : Nat) : Int) := IntWalk.i64_in _ (by omega)
  rw [Int.toNat_natCast, Int.toNat_natCast]
  refine ⟨⟨rfl, rfl, rfl, by omega, by omega⟩, ⟨rfl, rfl, rfl, hi⟩, by decide, ?_⟩
  have back : ∀ (tm : List SV) (s' : Trk) (a : Option Addr) (c : Nat) (o : List Int) (x : List Ent), TI9 s' o → o.length ≤ i + 5 → lenN tm = 160 → liveOk tm [(0, .vec 0 ao bs.length cap), (3, .ptr 1 b 0), (4, .vec 2 a (o).length c), (5, .int .i64 ((i + 1 : Nat) : Int))] → G Try.prog (endQ Try.prog Try.f7 W F fun _ r => r = .bool true) W F (.loop (Back W F 160 (fun x : Nat × Trk × Option Addr × Nat × List Int => [(0, .vec 0 ao bs.length cap), (3, .ptr 1 b 0), (4, .vec 2 x.2.2.1 (x.2.2.2.2).length x.2.2.2.1), (5, .int .i64 (x.1 : Int))]) (fun x : Nat × Trk × Option Addr × Nat × List Int => [⟨.sl ao cap, .roL 1 encU8 bs 0⟩, pkA b trkE (x.2.1), ⟨.sl x.2.2.1 x.2.2.2.1, .vecL 3 1 encI1 (x.2.2.2.2) 0⟩]) (fun x : Nat × Trk × Option Addr × Nat × List Int => x.1 ≤ bs.length ∧ TI9 x.2.1 x.2.2.2.2 ∧ x.2.2.2.2.length ≤ x.1 + 4) (fun x : Nat × Trk × Option Addr × Nat × List Int => bs.length - x.1) (bs.length - i)) :: .blk 0 :: frm [] (bodyOf Try.f7) [1, 1, 1, 1, 1, 1, 1] []) ⟨tm, [⟨.sl ao cap, .roL 1 encU8 bs 0⟩, pkA b trkE (s'), ⟨.sl a c, .vecL 3 1 encI1 (o) 0⟩] ++ x⟩ := fun tm s' a c o x a1 a2 g1 g2 =>
    G_back (i + 1, s', a, c, o) ⟨by dsimp only; omega, a1, by dsimp only; omega⟩ (by dsimp only; omega) g1 g2 (fun w hw => Rep.dropR hw)
  cases hc : Int.tmod (List.getD bs i (0 : Int)) (2 : Int) == (0 : Int) with
  | true =>
    have main : ∀ nb, (!((tFork s (k : Int) (ofl.length : Int) nb).2 == 0) == decide (ofl.getD k 0 > 0)) = false := fun nb => by
      rw [(h.fork h2k hk nb).1]; simp
    refine ⟨rfl, rfl, rfl, HEq.rfl, fun nb => ⟨⟨rfl, rfl, rfl, by omega, by omega⟩, ⟨rfl, rfl, rfl, hk⟩, ?_⟩⟩
    rw [main nb]
    have fin := (h.fork h2k hk nb).2
    repeat' first
      | exact rfl
      | exact hk
      | (refine ⟨[ofl.getD k 0], rfl, rfl, fun ao2 cap2 _ => ?_⟩)
      | exact back _ _ _ _ _ [_] fin (by simp; omega) rfl ⟨rfl, rfl, by rw [List.length_append]; rfl, congrArg (Value.int .i64) w1, trivial⟩
      | apply And.intro
      | (refine fun b1 => ?_)
      | (show _ ≤ _; omega)
      | (show _ < _; omega)
      | fail
  | false =>
    obtain ⟨q1, q2, q3⟩ := h.gone h2k hk
    refine ⟨rfl, rfl, rfl, HEq.rfl, h.tok h2k hk, ⟨rfl, rfl, rfl, by omega, by omega⟩, ⟨rfl, rfl, rfl, hk⟩, ?_⟩
    have hm' : (!((tGone s (k : Int)).2.2 == 0) == decide (ofl.getD k 0 > 0)) = false := by rw [q1]; simp
    rw [hm', q1]
    rcases q3 with h0 | ⟨w, hw, hwo, hu⟩
    · have hd : decide (ofl.getD k 0 > 0) = false := by rw [h0]; rfl
      rw [hd]
      repeat' first
        | exact rfl
        | exact hk
        | (refine ⟨0, rfl, ?_⟩)
        | exact back _ _ _ _ _ [] q2 (by rw [List.length_set]; omega) rfl ⟨rfl, rfl, by rw [List.length_set]; rfl, congrArg (Value.int .i64) w1, trivial⟩
        | apply And.intro
        | (show _ ≤ _; omega)
        | (show _ < _; omega)
        | fail
    · have hd : decide (ofl.getD k 0 > 0) = true := decide_eq_true (by rw [hwo]; omega)
      have w2 : IntKind.wrap .i64 ((w : Int) - 1) = ((w - 1 : Nat) : Int) := by rw [IntWalk.i64_in _ (by omega)]; omega
      have hex : ByteArray.extract (ByteArray.mk #[(97 : UInt8), (98 : UInt8)]) (w - 1) w = nmT w := rfl
      rw [hd, hwo, w2, hu, Int.toNat_natCast (w - 1), Int.toNat_natCast w, hex, sEq_self]
      repeat' first
        | exact rfl
        | exact hk
        | (refine ⟨0, rfl, ?_⟩)
        | exact back _ _ _ _ _ [] q2 (by rw [List.length_set]; omega) rfl ⟨rfl, rfl, by rw [List.length_set]; rfl, congrArg (Value.int .i64) w1, trivial⟩
        | apply And.intro
        | (show _ ≤ _; omega)
        | (show _ < _; omega)
        | (show (_ : Int) ≤ 2; omega)
        | fail
theorem tf_last (h : TI9 s ofl) (hn : ofl.length ≤ 90) {tm : List SV} (h1 : lenN tm = 160) (h2 : liveOk tm [(0, .vec 0 ao bs.length cap), (3, .ptr 1 b 0), (4, .vec 2 af (ofl).length cf), (10, .int .i64 1)]) : G Try.prog (endQ Try.prog Try.f7 W F fun _ r => r = .bool true) W F (frm [] (bodyOf Try.f7) [1, 1, 1, 1, 1, 1, 1, 0, 1, 0] []) ⟨tm, [⟨.sl ao cap, .roL 1 encU8 bs 0⟩, pkA b trkE (s), ⟨.sl af cf, .vecL 3 1 encI1 (ofl) 0⟩]⟩ := by
  have h3 := h.l3
  refine G_loopAt (ι := Nat) [] (bodyOf Try.f7) [1, 1, 1, 1, 1, 1, 1, 0, 1, 0] 160 (fun w : Nat => [(0, .vec 0 ao bs.length cap), (3, .ptr 1 b 0), (4, .vec 2 af (ofl).length cf), (10, .int .i64 (w : Int))]) (fun _ : Nat => [⟨.sl ao cap, .roL 1 encU8 bs 0⟩, pkA b trkE (s), ⟨.sl af cf, .vecL 3 1 encI1 (ofl) 0⟩]) (fun w : Nat => 1 ≤ w ∧ w ≤ 3) (fun w : Nat => 3 - w) 1 (by kernel_rfl) (fun J => by kernel_rfl) ⟨Nat.le_refl _, by omega⟩ h1 h2 (fun w hw => hw) ?_
  rintro w ⟨hw1, hw3⟩ u
  try dsimp only at hw1 hw3 ⊢
  simp only [List.nil_append, List.cons_append]
  refine G_run (kc := false) (ss := []) tfT_ok hmT 900 ?_
  rw [tf_w]
  cases hlt : decide ((w : Int) ≤ 2) with
  | false => exact rfl
  | true =>
    simp only [decide_eq_true_eq] at hlt
    have hw : w = 1 ∨ w = 2 := by omega
    intro c
    refine G_loopAt (ι := Nat × Option Addr × Nat × List Int) [(Back W F 160 (fun w : Nat => [(0, .vec 0 ao bs.length cap), (3, .ptr 1 b 0), (4, .vec 2 af (ofl).length cf), (10, .int .i64 (w : Int))]) (fun _ : Nat => [⟨.sl ao cap, .roL 1 encU8 bs 0⟩, pkA b trkE (s), ⟨.sl af cf, .vecL 3 1 encI1 (ofl) 0⟩]) (fun w : Nat => 1 ≤ w ∧ w ≤ 3) (fun w : Nat => 3 - w) (3 - w))] (bodyOf Try.f7) [1, 1, 1, 1, 1, 1, 1, 0, 1, 0, 0, 1, 0, 0, 1, 0, 1, 0] 160 (fun x : Nat × Option Addr × Nat × List Int => [(0, .vec 0 ao bs.length cap), (3, .ptr 1 b 0), (4, .vec 2 af (ofl).length cf), (10, .int .i64 (w : Int)), (11, .vec 4 x.2.1 x.2.2.2.length x.2.2.1), (12, .ptr 3 c 0), (13, .int .i64 (x.1 : Int))]) (fun x : Nat × Option Addr × Nat × List Int => [⟨.sl ao cap, .roL 1 encU8 bs 0⟩, pkA b trkE (s), ⟨.sl af cf, .vecL 3 1 encI1 (ofl) 0⟩, ⟨.blk c, .cells [.raw (.slice none 0 0)] 32⟩, ⟨.sl x.2.1 x.2.2.1, .vecL 3 1 encI1 x.2.2.2 0⟩]) (fun x : Nat × Option Addr × Nat × List Int => 2 ≤ x.1 ∧ x.1 ≤ ofl.length ∧ x.2.2.2 = wantT ofl w (x.1 - 2)) (fun x : Nat × Option Addr × Nat × List Int => ofl.length - x.1) (2, none, 0, []) (by kernel_rfl) (fun J => by kernel_rfl) ⟨Nat.le_refl _, by dsimp only; omega, rfl⟩ rfl ⟨rfl, rfl, rfl, rfl, rfl, rfl, rfl, trivial⟩ (fun w hw => Rep.nilvec 3 (sz := 1) (enc := encI1) 0 (fun _ => rfl) hw) ?_
    rintro ⟨q, aw, cw, want⟩ ⟨hq2, hq, hwt⟩ u
    dsimp only at hq2 hq hwt
    try dsimp only
    simp only [List.nil_append, List.cons_append]
    refine G_run (kc := false) (ss := []) tfT_ok hmT 1500 ?_
    rw [tf_k]
    have w1 : IntKind.wrap .i64 ((q : Int) + 1) = ((q + 1 : Nat) : Int) := IntWalk.i64_in _ (by omega)
    have w2 : IntKind.wrap .i64 ((w : Int) - 1) = ((w - 1 : Nat) : Int) := by rw [IntWalk.i64_in _ (by omega)]; omega
    have w3 : IntKind.wrap .i64 ((w : Int) + 1) = ((w + 1 : Nat) : Int) := IntWalk.i64_in _ (by omega)
    have hqe : q - 2 + 2 = q := by omega
    have hwl : want.length ≤ 90 := by
      have := wantT_len ofl w (q - 2)
      rw [hwt]; omega
    cases hlt2 : decide ((q : Int) < (ofl.length : Int)) with
    | true =>
      simp only [decide_eq_true_eq] at hlt2
      have hsucc : q + 1 - 2 = (q - 2) + 1 := by omega
      have hq' : q < ofl.length := by omega
      rw [Int.toNat_natCast]
      have hback : ∀ (tm : List SV) (ao2 : Option Addr) (cap2 : Nat) (l : List Int) (x : List Ent), l = wantT ofl w (q + 1 - 2) → lenN tm = 160 → liveOk tm [(0, .vec 0 ao bs.length cap), (3, .ptr 1 b 0), (4, .vec 2 af (ofl).length cf), (10, .int .i64 (w : Int)), (11, .vec 4 ao2 l.length cap2), (12, .ptr 3 c 0), (13, .int .i64 ((q + 1 : Nat) : Int))] → G Try.prog (endQ Try.prog Try.f7 W F fun _ r => r = .bool true) W F (.loop (Back W F 160 (fun x : Nat × Option Addr × Nat × List Int => [(0, .vec 0 ao bs.length cap), (3, .ptr 1 b 0), (4, .vec 2 af (ofl).length cf), (10, .int .i64 (w : Int)), (11, .vec 4 x.2.1 x.2.2.2.length x.2.2.1), (12, .ptr 3 c 0), (13, .int .i64 (x.1 : Int))]) (fun x : Nat × Option Addr × Nat × List Int => [⟨.sl ao cap, .roL 1 encU8 bs 0⟩, pkA b trkE (s), ⟨.sl af cf, .vecL 3 1 encI1 (ofl) 0⟩, ⟨.blk c, .cells [.raw (.slice none 0 0)] 32⟩, ⟨.sl x.2.1 x.2.2.1, .vecL 3 1 encI1 x.2.2.2 0⟩]) (fun x : Nat × Option Addr × Nat × List Int => 2 ≤ x.1 ∧ x.1 ≤ ofl.length ∧ x.2.2.2 = wantT ofl w (x.1 - 2)) (fun x : Nat × Option Addr × Nat × List Int => ofl.length - x.1) (ofl.length - q)) :: .blk 4 :: frm [(Back W F 160 (fun w : Nat => [(0, .vec 0 ao bs.length cap), (3, .ptr 1 b 0), (4, .vec 2 af (ofl).length cf), (10, .int .i64 (w : Int))]) (fun _ : Nat => [⟨.sl ao cap, .roL 1 encU8 bs 0⟩, pkA b trkE (s), ⟨.sl af cf, .vecL 3 1 encI1 (ofl) 0⟩]) (fun w : Nat => 1 ≤ w ∧ w ≤ 3) (fun w : Nat => 3 - w) (3 - w))] (bodyOf Try.f7) [1, 1, 1, 1, 1, 1, 1, 0, 1, 0, 0, 1, 0, 0, 1, 1] []) ⟨tm, [⟨.sl ao cap, .roL 1 encU8 bs 0⟩, pkA b trkE (s), ⟨.sl af cf, .vecL 3 1 encI1 (ofl) 0⟩, ⟨.blk c, .cells [.raw (.slice none 0 0)] 32⟩, ⟨.sl ao2 cap2, .vecL 3 1 encI1 l 0⟩] ++ x⟩ := fun tm ao2 cap2 l x hl g1 g2 =>
        G_back (q + 1, ao2, cap2, l) ⟨by dsimp only; omega, by dsimp only; omega, hl⟩ (by dsimp only; omega) g1 g2 (fun w hw => Rep.dropR hw)
      cases hc : List.getD ofl q 0 == (w : Int) with
      | true =>
        have hc' : ofl.getD (q - 2 + 2) 0 = (w : Int) := by rw [hqe]; simpa using hc
        have hl : want ++ [(q : Int)] = wantT ofl w (q + 1 - 2) := by
          rw [hsucc, wantT, if_pos hc', hwt, hqe]
        repeat' first
          | exact rfl
          | exact hq'
          | (refine ⟨[(q : Int)], rfl, rfl, fun ao2 cap2 _ => ?_⟩)
          | exact hback _ _ _ _ [_] hl rfl ⟨rfl, rfl, rfl, rfl, by rw [List.length_append]; rfl, rfl, congrArg (Value.int .i64) w1, trivial⟩
          | apply And.intro
          | (refine fun bx => ?_)
          | (show _ ≤ _; omega)
          | (show _ < _; omega)
          | fail
      | false =>
        have hc' : ¬ ofl.getD (q - 2 + 2) 0 = (w : Int) := by rw [hqe]; simpa using hc
        have hl : want = wantT ofl w (q + 1 - 2) := by
          rw [hsucc, wantT, if_neg hc', hwt, List.append_nil]
        repeat' first
          | exact rfl
          | exact hq'
          | exact hback _ _ _ _ [] hl rfl ⟨rfl, rfl, rfl, rfl, rfl, rfl, congrArg (Value.int .i64) w1, trivial⟩
          | apply And.intro
          | (show _ ≤ _; omega)
          | (show _ < _; omega)
          | fail
    | false =>
      simp only [decide_eq_false_iff_not] at hlt2
      obtain rfl : q = ofl.length := by omega
      obtain ⟨hpo, hpl⟩ := h.pids (by omega) hw
      rw [← hwt] at hpl
      have hex : ByteArray.extract (ByteArray.mk #[(97 : UInt8), (98 : UInt8)]) (w - 1) w = nmT w := rfl
      rw [w2, Int.toNat_natCast (w - 1), Int.toNat_natCast w, hex, hpl, w3]
      have hback : ∀ (tm : List SV) (x : List Ent), lenN tm = 160 → liveOk tm [(0, .vec 0 ao bs.length cap), (3, .ptr 1 b 0), (4, .vec 2 af (ofl).length cf), (10, .int .i64 ((w + 1 : Nat) : Int))] → G Try.prog (endQ Try.prog Try.f7 W F fun _ r => r = .bool true) W F (.loop (Back W F 160 (fun w : Nat => [(0, .vec 0 ao bs.length cap), (3, .ptr 1 b 0), (4, .vec 2 af (ofl).length cf), (10, .int .i64 (w : Int))]) (fun _ : Nat => [⟨.sl ao cap, .roL 1 encU8 bs 0⟩, pkA b trkE (s), ⟨.sl af cf, .vecL 3 1 encI1 (ofl) 0⟩]) (fun w : Nat => 1 ≤ w ∧ w ≤ 3) (fun w : Nat => 3 - w) (3 - w)) :: .blk 2 :: frm [] (bodyOf Try.f7) [1, 1, 1, 1, 1, 1, 1, 1] []) ⟨tm, [⟨.sl ao cap, .roL 1 encU8 bs 0⟩, pkA b trkE (s), ⟨.sl af cf, .vecL 3 1 encI1 (ofl) 0⟩] ++ x⟩ := fun tm x g1 g2 =>
        G_back (w + 1) ⟨by omega, by omega⟩ (by omega) g1 g2 (fun w hw => Rep.dropR hw)
      repeat' first
        | exact rfl
        | exact HEq.rfl
        | exact hpo
        | (refine fun ao1 cap1 bx1 => ?_)
        | (refine ⟨want, 5, ao1, cap1, rfl, rfl, rfl, ⟨⟨rfl, rfl, rfl⟩, by omega⟩, fun ag cg => ?_⟩)
        | (refine ⟨want, rfl, rfl, ⟨rfl, rfl, rfl, by omega⟩, ?_⟩)
        | (refine ⟨want, 8, ao1, cap1, rfl, rfl, ⟨rfl, by omega⟩, fun ag2 cg2 => ?_⟩)
        | exact hback _ [_, _, _, _, _, _, _, _] rfl ⟨rfl, rfl, rfl, rfl, trivial⟩
        | apply And.intro
        | (refine ⟨rfl, ?_⟩)
        | (show _ ≤ _; omega)
        | (show (_ : Int) ≤ 2; omega)
        | fail
end
theorem tf_ok (ao : Option Addr) (cap : Nat) (bs : List Int) (hb : ∀ z ∈ bs, 0 ≤ z ∧ z ≤ 255) : Spec Try.prog 7 [⟨.sl ao cap, .roL 1 encU8 bs 0⟩] [.vec 0 ao bs.length cap] fun _ r => r = .bool true := by
  refine Spec.of_G 160 Try.func7 (c := bodyOf Try.f7) (by kernel_rfl) (by kernel_rfl) (Nat.le_of_ble_eq_true rfl) fun W F => ?_
  refine G_run (kc := false) (ss := []) tfT_ok hmT 3000 ?_
  rw [tf_start]
  refine ⟨rfl, ?_⟩
  cases h80 : decide ((bs.length : Int) > 80) with
  | true => exact rfl
  | false =>
    simp only [decide_eq_false_iff_not] at h80
    have main : ∀ (b bo bp n0 n1 bx : Nat) (tm : List SV), lenN tm = 160 → liveOk tm [(0, .vec 0 ao bs.length cap), (3, .ptr 1 b 0), (4, .vec 2 (some ⟨bx, 0, none⟩) 4 4), (5, .int .i64 0)] → G Try.prog (endQ Try.prog Try.f7 W F fun _ r => r = .bool true) W F (frm [] (bodyOf Try.f7) [1, 1, 1, 1, 1, 1, 0, 1, 0] []) ⟨tm, [⟨.sl ao cap, .roL 1 encU8 bs 0⟩, pkA b trkE ⟨bo, bp, [(.i .i64 2, ⟨#[97]⟩), (.i .i64 3, ⟨#[98]⟩)], [(.s ⟨#[97]⟩, n0, [(.i .i64 2, ())]), (.s ⟨#[98]⟩, n1, [(.i .i64 3, ())])]⟩, ⟨.blk bx, .cells [.int .i64 0, .int .i64 0, .int .i64 1, .int .i64 2] 3⟩]⟩ := by
      intro b bo bp n0 n1 bx tm g1 g2
      refine G_loopAt (ι := Nat × Trk × Option Addr × Nat × List Int) [] (bodyOf Try.f7) [1, 1, 1, 1, 1, 1, 0, 1, 0] 160 (fun x : Nat × Trk × Option Addr × Nat × List Int => [(0, .vec 0 ao bs.length cap), (3, .ptr 1 b 0), (4, .vec 2 x.2.2.1 (x.2.2.2.2).length x.2.2.2.1), (5, .int .i64 (x.1 : Int))]) (fun x : Nat × Trk × Option Addr × Nat × List Int => [⟨.sl ao cap, .roL 1 encU8 bs 0⟩, pkA b trkE (x.2.1), ⟨.sl x.2.2.1 x.2.2.2.1, .vecL 3 1 encI1 (x.2.2.2.2) 0⟩]) (fun x : Nat × Trk × Option Addr × Nat × List Int => x.1 ≤ bs.length ∧ TI9 x.2.1 x.2.2.2.2 ∧ x.2.2.2.2.length ≤ x.1 + 4) (fun x : Nat × Trk × Option Addr × Nat × List Int => bs.length - x.1) (0, ⟨bo, bp, [(.i .i64 2, ⟨#[97]⟩), (.i .i64 3, ⟨#[98]⟩)], [(.s ⟨#[97]⟩, n0, [(.i .i64 2, ())]), (.s ⟨#[98]⟩, n1, [(.i .i64 3, ())])]⟩, some ⟨bx, 0, none⟩, 4, of0) (by kernel_rfl) (fun J => by kernel_rfl) ⟨Nat.zero_le _, TI9.start bo bp n0 n1, Nat.le_refl _⟩ g1 g2 (fun w hw => Rep.arrOf (l := 2) (sz := 1) encI1 of0 0 rfl rfl (fun _ => rfl) hw) ?_
      rintro ⟨i, s, af, cf, ofl⟩ ⟨hi, h, hn⟩ u
      dsimp only at hi h hn ⊢
      simp only [List.nil_append, List.cons_append]
      refine G_run (kc := false) (ss := [13]) tfT_ok hmT 900 ?_
      rw [tf_l1]
      cases hlt : decide ((i : Int) < (bs.length : Int)) with
      | false => exact tf_last h (by omega) rfl ⟨rfl, rfl, rfl, rfl, trivial⟩
      | true =>
        simp only [decide_eq_true_eq] at hlt
        have hi2 : i < bs.length := by omega
        rw [Int.toNat_natCast]
        have h3 := h.l3
        have w1 : IntKind.wrap .i64 ((ofl.length : Int) - 2) = (ofl.length : Int) - 2 := IntWalk.i64_in _ (by omega)
        rw [w1]
        have hq : 0 ≤ IntKind.wrap .u8 ((bs.getD i 0).tdiv 2) ∧ IntKind.wrap .u8 ((bs.getD i 0).tdiv 2) < 256 := by rw [IntKind.wrap_u8]; omega
        generalize IntKind.wrap .u8 ((bs.getD i 0).tdiv 2) = q at hq
        have w2 : IntKind.wrap .i64 q = q := IntWalk.i64_in _ (by omega)
        rw [w2]
        have hmq : q.tmod ((ofl.length : Int) - 2) = q % ((ofl.length : Int) - 2) := Int.tmod_eq_emod_of_nonneg hq.1
        have hm1 : 0 ≤ q % ((ofl.length : Int) - 2) := Int.emod_nonneg _ (by omega)
        have hm2 : q % ((ofl.length : Int) - 2) < (ofl.length : Int) - 2 := Int.emod_lt_of_pos _ (by omega)
        have w3 : IntKind.wrap .i64 (q.tmod ((ofl.length : Int) - 2) + 2) = (((q.tmod ((ofl.length : Int) - 2)).toNat + 2 : Nat) : Int) := by
          rw [IntWalk.i64_in _ (by omega)]; omega
        rw [w3]
        refine ⟨⟨rfl, rfl, rfl, by omega, by omega⟩, ⟨rfl, rfl, rfl, hi2⟩, by decide, by omega, ?_⟩
        exact tf13 (k := (q.tmod ((ofl.length : Int) - 2)).toNat + 2) (by omega) (by omega) hi2 (by omega) h hn rfl ⟨rfl, rfl, rfl, rfl, rfl, trivial⟩
    repeat' first
      | exact rfl
      | exact HEq.rfl
      | exact main _ _ _ _ _ _ _ rfl ⟨rfl, rfl, rfl, rfl, trivial⟩
      | apply And.intro
      | (refine ⟨rfl, ?_⟩)
      | (refine fun _ => ?_)
      | (show _ ≤ _; omega)
      | (show _ < _; omega)
      | fail
end Go.Proofs.Ytihajdkipkfiiaa
