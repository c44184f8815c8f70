/- QueueAll: going through a queue. -/
import Derived.Test.YtjnkfgigpapeaaaQA1Run
import Derived.Test.YtjnkfgigpapeaaaQB
namespace Go.Proofs.Ytjnkfgigpapeaaa
open Go Go.RowKit
set_option linter.unusedVariables false
set_option linter.unusedSimpArgs false
set_option linter.unnecessarySimpa false
set_option maxHeartbeats 0

theorem length_popN (xs : List (Int × Int)) : ∀ k, (popN xs k).length = xs.length - k
  | 0 => rfl
  | k + 1 => by
    have := length_popN xs k
    simp only [popN, length_popL]
    omega
theorem firsts_succ (xs : List (Int × Int)) (k : Nat) : firsts xs (k + 1) = firsts xs k ++ [topI xs k] := by simp [firsts, List.range_succ]
theorem length_firsts (xs : List (Int × Int)) (k : Nat) : (firsts xs k).length = k := by simp [firsts]
theorem firsts_get (xs : List (Int × Int)) (n k : Nat) (h : k < n) : (firsts xs n).getD k 0 = topI xs k := by simp [firsts, List.getD, h]

theorem qclone_ok : CtrOk Try.prog 88 (cloneC 149 2 16) := by
  refine clone_ok fun α enc xs d ao cap g1 g2 => ?_
  refine Spec.of_G 8 Try.func88 (c := bodyOf Try.f88) (by kernel_rfl) (by kernel_rfl) (Nat.le_of_ble_eq_true rfl) fun W F => ?_
  refine G_run (Cs := []) (kc := false) (ss := []) trivial hmQI 300 ?_
  rw [qclone_run]
  split <;> rename_i hh
  · exact .inl ⟨hh, rfl, rfl⟩
  · intro b
    refine ⟨⟨rfl, rfl, rfl, rfl, rfl, rfl, rfl, rfl, rfl, rfl, g1, g2⟩, fun ao2 cap2 h => .inr ⟨ao2, cap2, h, rfl, rfl⟩⟩
theorem qaT1_ok : AllOk Try.prog qaT1 := ⟨inl_ok trivial hmQI Try.func55 (by kernel_rfl), inl_ok trivial hmQI Try.func56 (by kernel_rfl), qclone_ok, inl_ok trivial hmQI Try.func89 (by kernel_rfl), inl_ok trivial hmQI Try.func104 (by kernel_rfl), qTI3_ok⟩

section
variable {ao : Option Addr} {cap : Nat} {bs : List Int} {ao' : Option Addr} {cap' : Nat} {ss : List Int} {bl q : Nat} {aoq : Option Addr} {capq : Nat} {xs : List (Int × Int)} {na : Int} {b7 bq bt : Nat} {aoc : Option Addr} {capc bP bp D l : Nat} {rc : Loop}
variable {aof : Option Addr} {capf b8 : Nat} {o : Bool} {b10 : Nat} {n : Int} {b11 : Nat}

theorem qa_pops1_ok (hlen : xs.length ≤ 80) (hY : YOk Try.prog (qaY1 ao cap bs ao' cap' ss bl q aoq capq xs na b7 bq bt aoc capc bP bp D l rc)) : Spec Try.prog 103 (qaR1 ao cap bs ao' cap' ss bl q aoq capq xs na b7 none 0 bq 0 bt aoc capc 0 bP bp D l rc .ready none) [.func (.yield l) [] [], .ptr 11 bp 0] fun h _ => ∃ aof capf, h = qaR1 ao cap bs ao' cap' ss bl q aoq capq xs na b7 aof capf bq xs.length bt aoc capc xs.length bP bp D l rc .ready none := by
  refine Spec.of_GR 14 Try.func103 (c := bodyOf Try.f103) (by kernel_rfl) (by kernel_rfl) (Nat.le_of_ble_eq_true rfl) fun W F => ?_
  refine runR_sound (kc := true) (ss := []) (fun _ _ h => h) qaT1_ok hY hmQI Ends.fn 10 _ _ ?_
  rw [qa_pst]
  refine GR_loopAt (ι := Nat × Option Addr × Nat) [] (bodyOf Try.f103) [0] 14 (fun i => [(0, .func (.yield l) [] []), (1, .ptr 11 bp 0)])
    (fun i => qaR1 ao cap bs ao' cap' ss bl q aoq capq xs na b7 i.2.1 i.2.2 bq i.1 bt aoc capc i.1 bP bp D l rc .ready none) (fun i => i.1 ≤ xs.length) (fun i => xs.length - i.1) (0, none, 0) (by kernel_rfl) (fun J => by kernel_rfl)
    (Nat.zero_le _) rfl ⟨rfl, rfl, trivial⟩ (fun w hw => hw) ?_
  rintro ⟨k, aof, capf⟩ h1 u
  dsimp only at h1 ⊢
  refine runR_sound (kc := true) (ss := []) (fun _ _ h => h) qaT1_ok hY hmQI Ends.fn 600 _ _ ?_
  simp only [List.nil_append, List.cons_append]
  rw [qa_pops1]
  have hlk := length_popN xs k
  refine ⟨rfl, rfl, rfl, ?_⟩
  cases hlt : decide (((popN xs k).length : Int) > 0) with
  | true =>
    simp only [decide_eq_true_eq] at hlt
    refine ⟨rfl, rfl, popN xs k, ⟨rfl, rfl, rfl, rfl⟩, ⟨rfl, by omega, by omega⟩, _, RI_3, rfl, k, aof, capf, by omega, rfl, rfl, fun aof' capf' => ?_⟩
    exact GR_back (k + 1, aof', capf') (by dsimp only; omega) (by dsimp only; omega) rfl ⟨rfl, rfl, trivial⟩ (fun w hw => hw)
  | false =>
    simp only [decide_eq_false_iff_not] at hlt
    obtain rfl : k = xs.length := by omega
    exact ⟨aof, capf, rfl⟩

theorem qa_pops2_ok (hlen : xs.length ≤ 80) (hn : 0 ≤ n ∧ n ≤ xs.length) (hY : YOk Try.prog (qaY2 ao cap bs ao' cap' ss bl q aoq capq xs na b7 aof capf b8 o b10 n b11 bq bt aoc capc bP bp D l rc)) : Spec Try.prog 103 (qaR2 ao cap bs ao' cap' ss bl q aoq capq xs na b7 aof capf b8 o b10 n b11 0 bq bt aoc capc 0 bP bp D l rc .ready none) [.func (.yield l) [] [], .ptr 14 bp 0] fun h _ =>
    ∃ j s jmp, (s = .ready ∧ jmp = none ∨ s = .done ∧ jmp = some .ret) ∧ h = qaR2 ao cap bs ao' cap' ss bl q aoq capq xs na b7 aof capf b8 o b10 n b11 (atF xs.length n.toNat) bq bt aoc capc j bP bp D l rc s jmp := by
  refine Spec.of_GR 14 Try.func103 (c := bodyOf Try.f103) (by kernel_rfl) (by kernel_rfl) (Nat.le_of_ble_eq_true rfl) fun W F => ?_
  refine runR_sound (kc := true) (ss := []) (fun _ _ h => h) qaT1_ok hY hmQI Ends.fn 10 _ _ ?_
  rw [qa_pst]
  refine GR_loopAt (ι := Nat) [] (bodyOf Try.f103) [0] 14 (fun i => [(0, .func (.yield l) [] []), (1, .ptr 14 bp 0)])
    (fun i => qaR2 ao cap bs ao' cap' ss bl q aoq capq xs na b7 aof capf b8 o b10 n b11 i bq bt aoc capc i bP bp D l rc .ready none) (fun i => i ≤ xs.length ∧ (0 < i → (i : Int) < n)) (fun i => xs.length - i) 0 (by kernel_rfl) (fun J => by kernel_rfl)
    ⟨Nat.zero_le _, fun h => absurd h (by decide)⟩ rfl ⟨rfl, rfl, trivial⟩ (fun w hw => hw) ?_
  rintro k ⟨h1, h2⟩ u
  refine runR_sound (kc := true) (ss := []) (fun _ _ h => h) qaT1_ok hY hmQI Ends.fn 600 _ _ ?_
  simp only [List.nil_append, List.cons_append]
  rw [qa_pops2]
  have hlk := length_popN xs k
  refine ⟨rfl, rfl, rfl, ?_⟩
  cases hlt : decide (((popN xs k).length : Int) > 0) with
  | true =>
    simp only [decide_eq_true_eq] at hlt
    refine ⟨rfl, rfl, popN xs k, ⟨rfl, rfl, rfl, rfl⟩, ⟨rfl, by omega, by omega⟩, _, RI_3, rfl, k, by omega, rfl, rfl, fun hk => ?_, fun hk => ?_⟩
    · exact GR_back (k + 1) ⟨by omega, fun _ => by push_cast; omega⟩ (by omega) rfl ⟨rfl, rfl, trivial⟩ (fun w hw => hw)
    · refine ⟨k + 1, .done, some .ret, .inr ⟨rfl, rfl⟩, ?_⟩
      have : atF xs.length n.toNat = k + 1 := by unfold atF; (repeat' split) <;> omega
      rw [this]
  | false =>
    simp only [decide_eq_false_iff_not] at hlt
    refine ⟨k, .ready, none, .inl ⟨rfl, rfl⟩, ?_⟩
    have : atF xs.length n.toNat = k := by unfold atF; (repeat' split) <;> omega
    rw [this]

section
variable {T : List SV} (hrt : rc.tmps = (denL T).toArray) (hrp : rc.params = rfP (codeAt (bodyOf Try.f87) [1, 1, 1, 0])) (hra : rc.assign = rfA (codeAt (bodyOf Try.f87) [1, 1, 1, 0])) (hrb : rc.body = rfB (codeAt (bodyOf Try.f87) [1, 1, 1, 0]))
include hrt hrp hra hrb
theorem qa_y1_ok (hlen : xs.length = bs.length) (h80 : xs.length ≤ 80) (hl : ∀ v, lenN (setMany T [20] [v]) = 25 ∧ liveOk (setMany T [20] [v]) [(2, .ptr 8 bt 0), (20, v)]) : YOk Try.prog (qaY1 ao cap bs ao' cap' ss bl q aoq capq xs na b7 bq bt aoc capc bP bp D l rc) := by
  rintro l' args hs N ⟨rfl, k, aof, capf, hk, rfl, rfl, hN⟩
  refine YSpec.up (YSpec.of_GR (p := 13) (T0 := T) (ps := [20]) rfl hrt hrp hra hrb rfl rfl fun W F => ?_)
  refine GR_live 25 [(2, .ptr 8 bt 0), (20, .int .i64 (topI xs k))] (qaR1 ao cap bs ao' cap' ss bl q aoq capq xs na b7 aof capf bq k bt aoc capc (k + 1) bP bp D l' rc .ready none) (hl _).1 (hl _).2 (fun _ h => h) fun u => ?_
  refine runR_sound (kc := true) (ss := []) (fun _ _ h => h) qaT1_ok (noY_ok _) hmQI Ends.assign 60 _ _ ?_
  rw [qa_asg1]
  refine ⟨rfl, ?_⟩
  refine GR_live 25 [(2, .ptr 8 bt 0), (4, .int .i64 (topI xs k))] (qaR1 ao cap bs ao' cap' ss bl q aoq capq xs na b7 aof capf bq k bt aoc capc (k + 1) bP bp D l' rc .busy none) rfl ⟨rfl, rfl, trivial⟩ (fun _ h => h) fun u => ?_
  refine runR_sound (kc := true) (ss := []) (fun _ _ h => h) qaT1_ok (noY_ok _) hmQI (Ends.round (p := 13) (rc := rc) (j := none)) 600 _ _ ?_
  rw [qa_body1]
  have hd := (length_firsts xs k).symm
  refine ⟨rfl, rfl, rfl, ⟨rfl, rfl, by decide, by decide⟩, fun b => ⟨⟨rfl, rfl, hd, rfl, rfl, rfl, rfl, by decide, rfl, by omega, by omega⟩, [topI xs k], rfl, rfl, fun ao2 cap2 hc => ⟨⟨rfl, rfl, rfl, by decide⟩, rfl, rfl, ?_⟩⟩⟩
  cases hh : !decide ((↑(k + 1) : Int) ≤ (bs.length : Int)) with
  | true => simp only [Bool.not_eq_true', decide_eq_false_iff_not] at hh; omega
  | false =>
    refine ⟨rfl, _, _, fun W F w hw => ?_, rfl, hN ao2 cap2⟩
    unfold qaR1
    rw [firsts_succ]
    exact hw.front ⟨rfl, rfl, rfl, rfl, rfl, rfl, rfl, rfl, rfl, rfl, rfl, rfl, rfl, rfl, trivial⟩

theorem qa_y2_ok (h80 : xs.length ≤ 80) (hl : ∀ v, lenN (setMany T [20] [v]) = 25 ∧ liveOk (setMany T [20] [v]) [(2, .ptr 11 bt 0), (20, v)]) : YOk Try.prog (qaY2 ao cap bs ao' cap' ss bl q aoq capq xs na b7 aof capf b8 o b10 n b11 bq bt aoc capc bP bp D l rc) := by
  rintro l' args hs N ⟨rfl, k, hk, rfl, rfl, hN1, hN2⟩
  refine YSpec.up (YSpec.of_GR (p := 16) (T0 := T) (ps := [20]) rfl hrt hrp hra hrb rfl rfl fun W F => ?_)
  refine GR_live 25 [(2, .ptr 11 bt 0), (20, .int .i64 (topI xs k))] (qaR2 ao cap bs ao' cap' ss bl q aoq capq xs na b7 aof capf b8 o b10 n b11 k bq bt aoc capc (k + 1) bP bp D l' rc .ready none) (hl _).1 (hl _).2 (fun _ h => h) fun u => ?_
  refine runR_sound (kc := true) (ss := []) (fun _ _ h => h) qaT1_ok (noY_ok _) hmQI Ends.assign 60 _ _ ?_
  rw [qa_asg2]
  refine ⟨rfl, ?_⟩
  refine GR_live 25 [(2, .ptr 11 bt 0), (4, .int .i64 (topI xs k))] (qaR2 ao cap bs ao' cap' ss bl q aoq capq xs na b7 aof capf b8 o b10 n b11 k bq bt aoc capc (k + 1) bP bp D l' rc .busy none) rfl ⟨rfl, rfl, trivial⟩ (fun _ h => h) fun u => ?_
  refine runR_sound (kc := true) (ss := []) (fun _ _ h => h) qaT1_ok (noY_ok _) hmQI (Ends.round (p := 16) (rc := rc) (j := none)) 600 _ _ ?_
  rw [qa_body2]
  have hd := (length_firsts xs xs.length).symm
  have e1 : IntKind.wrap .i64 ((k : Int) + 1) = ((k + 1 : Nat) : Int) := IntWalk.i64_in _ (by omega)
  have e2 : (topI xs k == (firsts xs xs.length).getD (Int.toNat (k : Int)) 0) = true := by rw [Int.toNat_natCast, firsts_get _ _ _ hk]; simp
  rw [e1, e2]
  have X1 : ∀ tm, n ≤ (k : Int) + 1 → roundX l' 16 rc none (up N) .ret ⟨tm, qaR2 ao cap bs ao' cap' ss bl q aoq capq xs na b7 aof capf b8 o b10 n b11 (k + 1) bq bt aoc capc (k + 1) bP bp D l' rc .busy none⟩ := fun tm h => ⟨rfl, qaR2 ao cap bs ao' cap' ss bl q aoq capq xs na b7 aof capf b8 o b10 n b11 (k + 1) bq bt aoc capc (k + 1) bP bp D l' rc .done (some .ret), .bool false, fun W F w hw => hw, rfl, hN2 h⟩
  have E1 : ∀ tm, (k : Int) + 1 < n → roundE l' 16 rc none (up N) ⟨tm, qaR2 ao cap bs ao' cap' ss bl q aoq capq xs na b7 aof capf b8 o b10 n b11 (k + 1) bq bt aoc capc (k + 1) bP bp D l' rc .busy none⟩ := fun tm h => ⟨rfl, qaR2 ao cap bs ao' cap' ss bl q aoq capq xs na b7 aof capf b8 o b10 n b11 (k + 1) bq bt aoc capc (k + 1) bP bp D l' rc .ready none, .bool true, fun W F w hw => hw, rfl, hN1 h⟩
  cases o <;> (repeat' first
    | exact rfl
    | exact trivial
    | assumption
    | (exact X1 _ (by omega))
    | (exact E1 _ (by omega))
    | apply And.intro
    | (split <;> rename_i hh <;> try simp only [Bool.not_eq_true', Bool.not_eq_false', decide_eq_true_eq, decide_eq_false_iff_not] at hh)
    | decide
    | omega
    | (exfalso; omega)
    | (rw [← hd]; omega)
    | fail)
end
end
end Go.Proofs.Ytjnkfgigpapeaaa
