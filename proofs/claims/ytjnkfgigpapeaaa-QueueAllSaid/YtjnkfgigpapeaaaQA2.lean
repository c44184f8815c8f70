/- QueueAll: All, and the law. -/
import Derived.Test.YtjnkfgigpapeaaaQA1
import Derived.Test.YtjnkfgigpapeaaaQA2Run
namespace Go.Proofs.Ytjnkfgigpapeaaa
open Go Go.RowKit
set_option linter.unusedVariables false
set_option linter.unusedSimpArgs false
set_option linter.unnecessarySimpa false
set_option maxHeartbeats 0

theorem all_ok : CtrOk Try.prog 87 allC := by
  intro args hs N h
  unfold allC at h
  have et : (frm [] (bodyOf Try.f87) [1, 1, 1, 0] []).tail = [.blk 0] := by kernel_rfl
  split at h
  · rename_i f l7 b7 l2 bl lq bq
    obtain ⟨rfl, ao, cap, bs, ao', cap', ss, q, aoq, capq, xs, na, rfl, ⟨hlen, h80⟩, hN⟩ := h
    refine Spec.pre (hs' := qaH1 ao cap bs ao' cap' ss bl q aoq capq xs na b7 none 0 bq 0) (args' := [(.func (.func 55) [] [.ptr 5 b7 0, .ptr 2 bl 0]), .ptr 7 bq 0]) (fun W F w hw => ?_) rfl (Spec.up ?_)
    · have a1 := Rep.cellsEq (l := 5) (cs' := [.vec 6 none 0 0]) rfl (by rfl) hw
      have a2 := Rep.nilvec 3 (sz := 1) (enc := encI1) (0 : Int) (fun _ => rfl) a1
      exact Rep.pick (π := [0, 1, 2, 3, 4, 5, 7, 6]) (by decide) rfl a2
    · refine Spec.of_GR 25 Try.func87 (c := bodyOf Try.f87) (by kernel_rfl) (by kernel_rfl) (Nat.le_of_ble_eq_true rfl) fun W F => ?_
      refine runR_sound (kc := true) (ss := []) (fun _ _ h => h) qaT1_ok (noY_ok _) hmQI Ends.fn 600 _ _ ?_
      rw [qa_all1]
      have key : ∀ bt aoc capc bP bp, GR none [] Try.prog (endR Try.prog Try.f87 W F (up N)) W F (frm [] (bodyOf Try.f87) [1, 1, 1, 0] []) ⟨[SV.func (Fn.func (55 : FuncId)) [] [SV.ptr 5 b7 0, SV.ptr 2 bl 0], SV.ptr 7 bq 0, SV.ptr 8 bt 0, SV.ptr 10 bP 0, SV.raw (Value.tuple #[]), SV.ptr 3 q 0, SV.ptr 3 q 0, SV.ptr 3 q 0, SV.ptr 3 q 0, SV.vec 4 aoq (List.length xs) capq, SV.vec 9 aoc (List.length xs) capc, SV.ptr 3 q 0, SV.ptr 3 q 0, SV.ptr 3 q 0, SV.ptr 3 q 1, SV.func (Fn.func 53) [] [], SV.agg [SV.vec 9 aoc (List.length xs) capc, SV.func (Fn.func 53) [] []], SV.ptr 10 bP 0, SV.ptr 10 bP 0, SV.func (Fn.func 103) [] [SV.ptr 11 bp 0], SV.raw (Value.tuple #[]), SV.raw (Value.tuple #[]), SV.raw (Value.tuple #[]), SV.raw (Value.tuple #[]), SV.raw (Value.tuple #[])], [⟨.sl ao cap, .roL 1 encI16 bs 0⟩, ⟨.sl ao' cap', .roL 1 encU8 ss 0⟩, ⟨.blk bl, .cells [.vec 0 ao bs.length cap] 75⟩, ⟨.blk q, .cells [.vec 4 aoq xs.length capq, .func (.func 53) [] [], .int .i64 na] 146⟩, ⟨.sl aoq capq, .vecL 149 2 encItI xs ((0 : Int), (0 : Int))⟩, ⟨.blk b7, .cells [.vec 6 none 0 0] 39⟩, ⟨.sl none 0, .vecL 3 1 encI1 (firsts xs 0) 0⟩, ⟨.blk bq, .cells [.ptr 3 q 0] 77⟩, ⟨.blk bt, .cells [(.func (.func 55) [] [.ptr 5 b7 0, .ptr 2 bl 0])] 30⟩, ⟨.sl aoc capc, .vecL 149 2 encItI xs ((0 : Int), (0 : Int))⟩, ⟨.blk bP, .cells [.vec 9 aoc xs.length capc, .func (.func 53) [] []] 144⟩, ⟨.blk bp, .cells [.ptr 10 bP 0] 147⟩]⟩ := by
        intro bt aoc capc bP bp
        refine GR_rangeAt [] (bodyOf Try.f87) [1, 1, 1, 0] (f := 103) (first := []) (captured := [.ptr 11 bp 0]) (by kernel_rfl) (by kernel_rfl) (by kernel_rfl) fun D l rc hrt hrp hra hrb =>
          ⟨_, qa_pops1_ok h80 (qa_y1_ok hrt hrp hra hrb hlen h80 fun v => ⟨rfl, rfl, rfl, trivial⟩), ?_⟩
        rintro h' v ⟨aof, capf, rfl⟩
        refine ⟨13, .ready, none, by decide, rfl, ?_⟩
        rw [et]
        refine runR_sound (Cs := qaT1) (Y := noY) (kc := true) (ss := []) (K := fun _ _ => False) (fun _ _ h => h.elim) qaT1_ok (noY_ok _) hmQI (Ends.fnM D 12) 10 _ _ ?_
        exact ⟨rfl, qaP1 ao cap bs ao' cap' ss bl q aoq capq xs na b7 aof capf, .tuple [], fun W F w hw => hw.front ⟨rfl, rfl, rfl, rfl, rfl, rfl, rfl, trivial⟩, rfl, hN aof capf⟩
      repeat' first
        | exact key _ _ _ _ _
        | exact rfl
        | exact trivial
        | apply And.intro
        | intro _
        | omega
        | fail
  · rename_i f l8 b8 l11 b11 l7 b7 l10 b10 lq bq
    obtain ⟨rfl, ao, cap, bs, ao', cap', ss, bl, q, aoq, capq, xs, na, aof, capf, o, n, rfl, ⟨hn1, hn2, h80⟩, hN⟩ := h
    refine Spec.pre (hs' := qaH2 ao cap bs ao' cap' ss bl q aoq capq xs na b7 aof capf b8 o b10 n b11 0 bq) (args' := [(.func (.func 56) [] [.ptr 7 b8 0, .ptr 9 b11 0, .ptr 5 b7 0, .ptr 8 b10 0]), .ptr 10 bq 0]) (fun W F w hw => hw) rfl (Spec.up ?_)
    refine Spec.of_GR 25 Try.func87 (c := bodyOf Try.f87) (by kernel_rfl) (by kernel_rfl) (Nat.le_of_ble_eq_true rfl) fun W F => ?_
    refine runR_sound (kc := true) (ss := []) (fun _ _ h => h) qaT1_ok (noY_ok _) hmQI Ends.fn 600 _ _ ?_
    rw [qa_all2]
    have key : ∀ bt aoc capc bP bp, GR none [] Try.prog (endR Try.prog Try.f87 W F (up N)) W F (frm [] (bodyOf Try.f87) [1, 1, 1, 0] []) ⟨[SV.func (Fn.func (56 : FuncId)) [] [SV.ptr 7 b8 0, SV.ptr 9 b11 0, SV.ptr 5 b7 0, SV.ptr 8 b10 0], SV.ptr 10 bq 0, SV.ptr 11 bt 0, SV.ptr 13 bP 0, SV.raw (Value.tuple #[]), SV.ptr 3 q 0, SV.ptr 3 q 0, SV.ptr 3 q 0, SV.ptr 3 q 0, SV.vec 4 aoq (List.length xs) capq, SV.vec 12 aoc (List.length xs) capc, SV.ptr 3 q 0, SV.ptr 3 q 0, SV.ptr 3 q 0, SV.ptr 3 q 1, SV.func (Fn.func 53) [] [], SV.agg [SV.vec 12 aoc (List.length xs) capc, SV.func (Fn.func 53) [] []], SV.ptr 13 bP 0, SV.ptr 13 bP 0, SV.func (Fn.func 103) [] [SV.ptr 14 bp 0], SV.raw (Value.tuple #[]), SV.raw (Value.tuple #[]), SV.raw (Value.tuple #[]), SV.raw (Value.tuple #[]), SV.raw (Value.tuple #[])], [⟨.sl ao cap, .roL 1 encI16 bs 0⟩, ⟨.sl ao' cap', .roL 1 encU8 ss 0⟩, ⟨.blk bl, .cells [.vec 0 ao bs.length cap] 75⟩, ⟨.blk q, .cells [.vec 4 aoq xs.length capq, .func (.func 53) [] [], .int .i64 na] 146⟩, ⟨.sl aoq capq, .vecL 149 2 encItI xs ((0 : Int), (0 : Int))⟩, ⟨.blk b7, .cells [.vec 6 aof xs.length capf] 39⟩, ⟨.sl aof capf, .vecL 3 1 encI1 (firsts xs xs.length) 0⟩, ⟨.blk b8, .cells [.bool o] 4⟩, ⟨.blk b10, .cells [.int .i64 n] 3⟩, ⟨.blk b11, .cells [.int .i64 ((0 : Nat) : Int)] 3⟩, ⟨.blk bq, .cells [.ptr 3 q 0] 77⟩, ⟨.blk bt, .cells [(.func (.func 56) [] [.ptr 7 b8 0, .ptr 9 b11 0, .ptr 5 b7 0, .ptr 8 b10 0])] 30⟩, ⟨.sl aoc capc, .vecL 149 2 encItI xs ((0 : Int), (0 : Int))⟩, ⟨.blk bP, .cells [.vec 12 aoc xs.length capc, .func (.func 53) [] []] 144⟩, ⟨.blk bp, .cells [.ptr 13 bP 0] 147⟩]⟩ := by
      intro bt aoc capc bP bp
      refine GR_rangeAt [] (bodyOf Try.f87) [1, 1, 1, 0] (f := 103) (first := []) (captured := [.ptr 14 bp 0]) (by kernel_rfl) (by kernel_rfl) (by kernel_rfl) fun D l rc hrt hrp hra hrb =>
        ⟨_, qa_pops2_ok h80 ⟨hn1, hn2⟩ (qa_y2_ok hrt hrp hra hrb h80 fun v => ⟨rfl, rfl, rfl, trivial⟩), ?_⟩
      have fin : ∀ s jmp j, retM Try.prog Try.f87.results.toList D 15 (up N) ⟨[], qaR2 ao cap bs ao' cap' ss bl q aoq capq xs na b7 aof capf b8 o b10 n b11 (atF xs.length n.toNat) bq bt aoc capc j bP bp D l rc s jmp⟩ := fun s jmp j =>
        ⟨rfl, qaP2 ao cap bs ao' cap' ss bl q aoq capq xs na b7 aof capf b8 o b10 n b11 (atF xs.length n.toNat), .tuple [], fun W F w hw => hw.front ⟨rfl, rfl, rfl, rfl, rfl, rfl, rfl, rfl, rfl, rfl, trivial⟩, rfl, hN⟩
      rintro h' v ⟨j, s, jmp, (⟨rfl, rfl⟩ | ⟨rfl, rfl⟩), rfl⟩
      · refine ⟨16, .ready, none, by decide, rfl, ?_⟩
        rw [et]
        refine runR_sound (Cs := qaT1) (Y := noY) (kc := true) (ss := []) (K := fun _ _ => False) (fun _ _ h => h.elim) qaT1_ok (noY_ok _) hmQI (Ends.fnM D 15) 10 _ _ ?_
        exact fin .exhausted none j
      · refine ⟨16, .done, some .ret, by decide, rfl, ?_⟩
        rw [et]
        refine runR_sound (Cs := qaT1) (Y := noY) (kc := true) (ss := []) (K := fun _ _ => False) (fun _ _ h => h.elim) qaT1_ok (noY_ok _) hmQI (Ends.fnM D 15) 10 _ _ ?_
        exact fin .exhausted (some .ret) j
    repeat' first
      | exact key _ _ _ _ _
      | exact rfl
      | exact trivial
      | apply And.intro
      | intro _
      | omega
      | fail
  · exact h.elim
theorem qaT2_ok : AllOk Try.prog qaT2 := ⟨all_ok, inl_ok trivial hmQI Try.func54 (by kernel_rfl), qTI5_ok⟩
end Go.Proofs.Ytjnkfgigpapeaaa
