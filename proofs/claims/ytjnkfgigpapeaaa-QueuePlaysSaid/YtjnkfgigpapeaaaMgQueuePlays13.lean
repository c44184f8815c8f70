import Derived.Test.YtjnkfgigpapeaaaMgQueuePlays8
import Derived.Test.YtjnkfgigpapeaaaMgQueuePlays9
import Derived.Test.YtjnkfgigpapeaaaMgQueuePlays12
import Derived.Test.YtjnkfgigpapeaaaMgQueuePlays4
import Derived.ChangeSlices
import Derived.OpenShut
import Derived.Carry
import Derived.ProofKit
import Derived.Deep.Grids
import Derived.Deep.Strs
set_option linter.unusedVariables false
set_option linter.unusedSimpArgs false
set_option linter.unnecessarySimpa false
set_option maxHeartbeats 0
set_option maxRecDepth 100000
/- QueuePlays: the walk through the queue; what is laid in and dropped. -/
namespace Go.Proofs.Ytjnkfgigpapeaaa
open Go Go.RowKit

def qwR (b21 b20 b6 b3 : Nat) (stop : Int) (aom : Option Addr) (capm : Nat) (m : List IT) (i : Nat) : List Ent := [⟨.blk b21, .cells [.bool true] 4⟩, ⟨.blk b20, .cells [.int .i64 (i : Int)] 3⟩, ⟨.blk b6, .cells [.vec 3 aom m.length capm] 100⟩, ⟨.sl aom capm, .vecL 98 2 encIT m IT.zero⟩, ⟨.blk b3, .cells [.int .i64 stop] 3⟩]
theorem nth_setNe {α : Type 1} {l l' : Nat} {v : α} {h : List α} (hne : l ≠ l') : nth (setN h l v) l' = nth h l' := by
  rw [nth_eq, setN_eq, List.getElem?_set_ne hne, ← nth_eq]
theorem qwAll_one {b21 b20 b6 b3 : Nat} {stop : Int} {aom : Option Addr} {capm : Nat} {m : List IT} (hm : m.length ≤ 1000000) :
    OneQP (.func (.func 66) #[] (denL [.ptr 0 b21 0, .ptr 1 b20 0, .ptr 2 b6 0, .ptr 4 b3 0]).toArray) m (qwR b21 b20 b6 b3 stop aom capm m) (fun R' => ∃ k : Nat, (k : Int) = stop ∧ R' = qwR b21 b20 b6 b3 stop aom capm m k) := by
  intro i x hx
  obtain ⟨hi, rfl⟩ := List.getElem?_eq_some_iff.1 hx
  refine VSpec.fn (by kernel_rfl) (Spec.pre (hs' := qwR b21 b20 b6 b3 stop aom capm m i) (args' := [.agg (encIT m[i]), .ptr 0 b21 0, .ptr 1 b20 0, .ptr 2 b6 0, .ptr 4 b3 0]) (fun W F w hr => by have := Rep.unpk hr; simpa using this) rfl (Spec.up ?_))
  unfold qwR
  refine Spec.of_G 30 Try.func66 (c := bodyOf Try.f66) (by kernel_rfl) (by kernel_rfl) (Nat.le_of_ble_eq_true rfl) fun W F => ?_
  refine G_run (kc := false) (ss := []) (Cs := []) trivial hmQP 900 ?_
  rw [qw2_run]
  have w1 : IntKind.wrap .i64 ((i : Int) + 1) = ((i + 1 : Nat) : Int) := IntWalk.i64_in _ (by omega)
  have g0 : m.getD i (IT.mk 0 0) = m[i] := by simp [List.getD, hi]
  have g1 : decide ((i : Int) < (m.length : Int)) = true := decide_eq_true (by omega)
  have g2 : (m[i].n == m[i].n && (m[i].id == m[i].id && true)) = true := by simp
  simp only [Int.toNat_natCast, g0, g1, g2, w1]
  have fin : ∀ t : List Ent, up (fun h r => (h = [pk 0 (qwR b21 b20 b6 b3 stop aom capm m (i + 1))] ∧ r = .bool true) ∨ ∃ R', (∃ k : Nat, (k : Int) = stop ∧ R' = qwR b21 b20 b6 b3 stop aom capm m k) ∧ h = [pk 0 R'] ∧ r = .bool false) (⟨.blk b21, .cells [.bool true] 4⟩ :: ⟨.blk b20, .cells [.int .i64 ((i + 1 : Nat) : Int)] 3⟩ :: ⟨.blk b6, .cells [.vec 3 aom m.length capm] 100⟩ :: ⟨.sl aom capm, .vecL 98 2 encIT m IT.zero⟩ :: ⟨.blk b3, .cells [.int .i64 stop] 3⟩ :: t) (.bool (((i + 1 : Nat) : Int) != stop)) := fun t => by
    cases hb : (((i + 1 : Nat) : Int) != stop) with
    | true => exact ⟨[pk 0 (qwR b21 b20 b6 b3 stop aom capm m (i + 1))], .bool true, fun W F w hr => Rep.pk (t := []) 0 (by simpa [qwR] using Rep.dropR (h := [_, _, _, _, _]) hr), rfl, .inl ⟨rfl, rfl⟩⟩
    | false => exact ⟨[pk 0 (qwR b21 b20 b6 b3 stop aom capm m (i + 1))], .bool false, fun W F w hr => Rep.pk (t := []) 0 (by simpa [qwR] using Rep.dropR (h := [_, _, _, _, _]) hr), rfl, .inr ⟨_, ⟨i + 1, by simpa using hb, rfl⟩, rfl, rfl⟩⟩
  repeat' first
    | exact rfl
    | exact trivial
    | exact fin _
    | (refine fun b1 => ?_)
    | apply And.intro
    | (show _ ≤ _; omega)
    | (show _ < _; omega)
    | decide
    | (refine fun _ => ?_)
    | fail

theorem qwAllC_ok : CtrOk Try.prog 93 qwAllC := by
  intro args hs N h
  unfold qwAllC at h
  split at h
  case h_2 => exact h.elim
  rename_i g l21 b21 l20 b20 l6 b6 l3 b3 lb bx
  obtain ⟨rfl, lq, q, lv, m, n, stop, aom, capm, h1, h2, h3, h4, h5, h6, h7, hd, ho, hN⟩ := h
  refine Spec.at (hp := [pkA q quEP ⟨m, n⟩, ⟨.blk bx, .cells [.ptr lq q 0] 95⟩, ⟨.blk b21, .cells [.bool true] 4⟩, ⟨.blk b20, .cells [.int .i64 0] 3⟩, ⟨.blk b6, .cells [.vec lv aom m.length capm] 100⟩, ⟨.blk b3, .cells [.int .i64 stop] 3⟩, ⟨.sl aom capm, .vecL 98 2 encIT m IT.zero⟩]) (args' := [.func (.func 66) [] [.ptr 2 b21 0, .ptr 3 b20 0, .ptr 4 b6 0, .ptr 5 b3 0], .ptr 1 bx 0])
    (Post' := fun h' r => r = .tuple [] ∧ ∃ k : Nat, ((k : Int) = stop ∨ k = m.length) ∧ h' = [pkA q quEP ⟨m, n⟩, ⟨.blk bx, .cells [.ptr lq q 0] 95⟩, ⟨.blk b21, .cells [.bool true] 4⟩, ⟨.blk b20, .cells [.int .i64 (k : Int)] 3⟩, ⟨.blk b6, .cells [.vec lv aom m.length capm] 100⟩, ⟨.blk b3, .cells [.int .i64 stop] 3⟩, ⟨.sl aom capm, .vecL 98 2 encIT m IT.zero⟩]) [lq, lb, l21, l20, l6, l3, lv] hd (by simp [pickE, h1, h2, h3, h4, h5, h6, h7]) ?_ rfl ?_
  · refine Spec.up ?_
    intro W F w hr
    have hl := ho.l
    have h4 : Rep W F [pkA q quEP ⟨m, n⟩, ⟨.blk bx, .cells [.ptr 0 q 0] 95⟩, pk 0 (qwR b21 b20 b6 b3 stop aom capm m 0)] w := by
      refine Rep.pkAt 0 (p := [_, _]) (t := []) ?_
      have g1 := Rep.pick (π := [0, 1, 2, 3, 4, 6, 5]) (by decide) rfl hr
      have g2 := Rep.cellsEq (l := 1) (cs' := [.ptr 0 q 0]) rfl (by rfl) g1
      exact Rep.cellsEq (l := 4) (cs' := [.vec 3 aom m.length capm]) rfl (by rfl) g2
    refine Calls.mono (qallP_iter (s := ⟨m, n⟩) (bx := bx) ⟨_, _, _, rfl⟩ ho (qwAll_one (b21 := b21) (b20 := b20) (b6 := b6) (b3 := b3) (stop := stop) (aom := aom) (capm := capm) hl) W F w h4) ?_
    rintro e w' ⟨h', r, ⟨rfl, hc⟩, rfl, hr'⟩
    have back : ∀ (k : Nat), Rep W F [pkA q quEP ⟨m, n⟩, ⟨.blk bx, .cells [.ptr 0 q 0] 95⟩, pk 0 (qwR b21 b20 b6 b3 stop aom capm m k)] w' → Rep W F [pkA q quEP ⟨m, n⟩, ⟨.blk bx, .cells [.ptr lq q 0] 95⟩, ⟨.blk b21, .cells [.bool true] 4⟩, ⟨.blk b20, .cells [.int .i64 (k : Int)] 3⟩, ⟨.blk b6, .cells [.vec lv aom m.length capm] 100⟩, ⟨.blk b3, .cells [.int .i64 stop] 3⟩, ⟨.sl aom capm, .vecL 98 2 encIT m IT.zero⟩] w' := fun k hr => by
      have g1 := Rep.unpkAt (p := [_, _]) (t := []) hr
      have g2 := Rep.cellsEq (l := 1) (cs' := [.ptr lq q 0]) rfl (by rfl) g1
      have g3 := Rep.cellsEq (l := 4) (cs' := [.vec lv aom m.length capm]) rfl (by rfl) g2
      exact Rep.pick (π := [0, 1, 2, 3, 4, 6, 5]) (by decide) rfl g3
    rcases hc with rfl | ⟨R', ⟨k, hk, rfl⟩, rfl⟩
    · exact ⟨_, .tuple [], ⟨_, .tuple [], fun _ _ _ hr => hr, rfl, rfl, m.length, .inr rfl, rfl⟩, rfl, back _ hr'⟩
    · exact ⟨_, .tuple [], ⟨_, .tuple [], fun _ _ _ hr => hr, rfl, rfl, k, .inl hk, rfl⟩, rfl, back _ hr'⟩
  · rintro h' r ⟨rfl, k, hk, rfl⟩
    refine ⟨Nat.le_of_ble_eq_true rfl, .tuple [], rfl, ?_⟩
    simp only [distinct, Bool.and_eq_true] at hd
    have n6 : l20 ≠ l6 := by rintro rfl; simp at hd
    have n3 : l20 ≠ l3 := by rintro rfl; simp at hd
    have nv : l20 ≠ lv := by rintro rfl; simp at hd
    have e : putBack [lq, lb, l21, l20, l6, l3, lv] hs [pkA q quEP ⟨m, n⟩, ⟨.blk bx, .cells [.ptr lq q 0] 95⟩, ⟨.blk b21, .cells [.bool true] 4⟩, ⟨.blk b20, .cells [.int .i64 (k : Int)] 3⟩, ⟨.blk b6, .cells [.vec lv aom m.length capm] 100⟩, ⟨.blk b3, .cells [.int .i64 stop] 3⟩, ⟨.sl aom capm, .vecL 98 2 encIT m IT.zero⟩] = setN hs l20 ⟨.blk b20, .cells [.int .i64 (k : Int)] 3⟩ := by
      simp only [putBack, appE_eq, List.append_nil]
      rw [setN_selfD h2, setN_selfD h1, setN_selfD h3]
      rw [setN_selfD (show nth (setN hs l20 ⟨.blk b20, .cells [.int .i64 (k : Int)] 3⟩) l6 = _ from (nth_setNe n6).trans h5)]
      rw [setN_selfD (show nth (setN hs l20 ⟨.blk b20, .cells [.int .i64 (k : Int)] 3⟩) l3 = _ from (nth_setNe n3).trans h6)]
      rw [setN_selfD (show nth (setN hs l20 ⟨.blk b20, .cells [.int .i64 (k : Int)] 3⟩) lv = _ from (nth_setNe nv).trans h7)]
    rw [e]
    exact hN k hk
theorem qwT_ok : AllOk Try.prog qwT := ⟨known13_ok, qwAllC_ok, inl_ok trivial hmQP Try.func65 (by kernel_rfl), qTP5_ok⟩

section
variable {W : World} {F : List Ch} {aoL : Option Addr} {capL : Nat} {bs : List Int} {b3 : Nat} {stop : Int} {q b6 : Nat}
theorem qw_ins {J0 : Act → World → Prop} {qs : QUP} {aom : Option Addr} {capm : Nat} {m : List IT} {i b8 : Nat} {x : IT} {st : Sy} (hm : m.length ≤ 1000) (hs : m.Pairwise fun a b => a.n ≤ b.n)
    (next : ∀ aom' capm' u, G Try.prog (endQ Try.prog Try.f13 W F fun _ r => r = .bool true) W F (frmR [J0] (bodyOf Try.f13) 37) ⟨mkT u 204 0 [(0, .vec 0 aoL bs.length capL), (3, .ptr 1 b3 0), (4, .bool false), (5, .ptr 2 q 0), (6, .ptr 3 b6 0), (7, .int .i64 (i : Int))], [⟨.sl aoL capL, .roL 1 encI8 bs 0⟩, ⟨.blk b3, .cells [.int .i64 stop] 3⟩, pkA q quEP (qs), ⟨.blk b6, .cells [.vec 4 aom' (insB (fun a b : IT => decide (a.n < b.n)) x m).length capm'] 100⟩, ⟨.sl aom' capm', .vecL 98 2 encIT (insB (fun a b : IT => decide (a.n < b.n)) x m) IT.zero⟩]⟩)
    (hlen : lenN st.tmps = 204) (hlive : liveOk st.tmps [(0, .vec 0 aoL bs.length capL), (3, .ptr 1 b3 0), (4, .bool false), (5, .ptr 2 q 0), (6, .ptr 3 b6 0), (7, .int .i64 (i : Int)), (8, .ptr 5 b8 0), (9, .int .i64 (m.length : Int))]) (hheap : ∀ w, Rep W F st.heap w → Rep W F [⟨.sl aoL capL, .roL 1 encI8 bs 0⟩, ⟨.blk b3, .cells [.int .i64 stop] 3⟩, pkA q quEP (qs), ⟨.blk b6, .cells [.vec 4 aom (m).length capm] 100⟩, ⟨.sl aom capm, .vecL 98 2 encIT (m) IT.zero⟩, ⟨.blk b8, .cells (encIT x) 98⟩] w) : G Try.prog (endQ Try.prog Try.f13 W F fun _ r => r = .bool true) W F (frm [J0] (bodyOf Try.f13) [1, 1, 1, 1, 1, 0, 1, 0, 0, 1, 0, 0, 0, 0, 1, 0, 1, 1, 1, 0, 0] []) st := by
  have w1 : ∀ k : Nat, 0 < k → k ≤ 1000 → IntKind.wrap .i64 ((k : Int) - 1) = ((k - 1 : Nat) : Int) := fun k h0 h1 => by rw [IntWalk.i64_in _ (by omega)]; omega
  have cont : ∀ k : Nat, k ≤ m.length → (∀ j, k ≤ j → j < m.length → x.n < (m.getD j IT.zero).n) → (0 < k → (m.getD (k - 1) IT.zero).n ≤ x.n) → ∀ st' : Sy, lenN st'.tmps = 204 → liveOk st'.tmps [(0, .vec 0 aoL bs.length capL), (3, .ptr 1 b3 0), (4, .bool false), (5, .ptr 2 q 0), (6, .ptr 3 b6 0), (7, .int .i64 (i : Int)), (8, .ptr 5 b8 0), (9, .int .i64 (k : Int))] → (∀ w, Rep W F st'.heap w → Rep W F [⟨.sl aoL capL, .roL 1 encI8 bs 0⟩, ⟨.blk b3, .cells [.int .i64 stop] 3⟩, pkA q quEP (qs), ⟨.blk b6, .cells [.vec 4 aom (m).length capm] 100⟩, ⟨.sl aom capm, .vecL 98 2 encIT (m) IT.zero⟩, ⟨.blk b8, .cells (encIT x) 98⟩] w) →
      G Try.prog (endQ Try.prog Try.f13 W F fun _ r => r = .bool true) W F (frmR [J0] (bodyOf Try.f13) 27) st' := fun k hk h1 h2 st' g1 g2 g3 => by
    refine G_live 204 [(0, .vec 0 aoL bs.length capL), (3, .ptr 1 b3 0), (4, .bool false), (5, .ptr 2 q 0), (6, .ptr 3 b6 0), (7, .int .i64 (i : Int)), (8, .ptr 5 b8 0), (9, .int .i64 (k : Int))] [⟨.sl aoL capL, .roL 1 encI8 bs 0⟩, ⟨.blk b3, .cells [.int .i64 stop] 3⟩, pkA q quEP (qs), ⟨.blk b6, .cells [.vec 4 aom (m).length capm] 100⟩, ⟨.sl aom capm, .vecL 98 2 encIT (m) IT.zero⟩, ⟨.blk b8, .cells (encIT x) 98⟩] g1 g2 g3 fun u => ?_
    refine G_vec (l := 4) rfl fun hcap _ => ?_
    refine G_run (kc := true) (ss := [37]) (Cs := []) trivial hmQP 1500 ?_
    rw [qw_27]
    have hins : insB (fun a b : IT => decide (a.n < b.n)) x m = m.take k ++ x :: m.drop k := by
      refine insB_at (d := IT.zero) x m k hk (fun j hj => ?_) (fun hk => decide_eq_true (h1 k (Nat.le_refl _) hk))
      refine decide_eq_false ?_
      have a1 := h2 (by omega)
      have a2 : (m.getD j IT.zero).n ≤ (m.getD (k - 1) IT.zero).n := by
        rcases Nat.lt_or_ge j (k - 1) with hjk | hjk
        · have := List.pairwise_iff_getElem.1 hs j (k - 1) (by omega) (by omega) hjk
          have e1 : m.getD j IT.zero = m[j] := by simp [List.getD, (show j < m.length by omega)]
          have e2 : m.getD (k - 1) IT.zero = m[k - 1] := by simp [List.getD, (show k - 1 < m.length by omega)]
          rw [e1, e2]; exact this
        · have : j = k - 1 := by omega
          rw [this]; omega
      omega
    have ht : (m.take k).length = k := by simp; omega
    have hdt : (m.drop k).take (m.length - k) = m.drop k := List.take_of_length_le (by simp)
    have e0 : Int.toNat (k : Int) - 0 = k := by omega
    have e1 : Int.toNat (k : Int) = k := by omega
    have e2 : m.drop 0 = m := rfl
    simp only [e0, e1, e2, hdt, Nat.sub_zero]
    have el : k + 1 + (m.length - k) = (insB (fun a b : IT => decide (a.n < b.n)) x m).length := by rw [length_insB]; omega
    have eq : m.take k ++ [x] ++ m.drop k = insB (fun a b : IT => decide (a.n < b.n)) x m := by rw [hins]; simp
    have fin : ∀ (tm : List SV) (ao2 : Option Addr) (cap2 : Nat) (t : List Ent), lenN tm = 204 → liveOk tm [(0, .vec 0 aoL bs.length capL), (3, .ptr 1 b3 0), (4, .bool false), (5, .ptr 2 q 0), (6, .ptr 3 b6 0), (7, .int .i64 (i : Int))] → G Try.prog (endQ Try.prog Try.f13 W F fun _ r => r = .bool true) W F (frmR [J0] (bodyOf Try.f13) 37) ⟨tm, ⟨.sl aoL capL, .roL 1 encI8 bs 0⟩ :: ⟨.blk b3, .cells [.int .i64 stop] 3⟩ :: pkA q quEP (qs) :: ⟨.blk b6, .cells [.vec 6 ao2 (k + 1 + (m.length - k)) cap2] 100⟩ :: ⟨.sl aom capm, .vecL 98 2 encIT m IT.zero⟩ :: ⟨.blk b8, .cells (encIT x) 98⟩ :: ⟨.sl ao2 cap2, .vecL 98 2 encIT (m.take k ++ [x] ++ m.drop k) IT.zero⟩ :: t⟩ := fun tm ao2 cap2 t g1 g2 => by
      refine G_live 204 [(0, .vec 0 aoL bs.length capL), (3, .ptr 1 b3 0), (4, .bool false), (5, .ptr 2 q 0), (6, .ptr 3 b6 0), (7, .int .i64 (i : Int))] [⟨.sl aoL capL, .roL 1 encI8 bs 0⟩, ⟨.blk b3, .cells [.int .i64 stop] 3⟩, pkA q quEP (qs), ⟨.blk b6, .cells [.vec 4 ao2 (insB (fun a b : IT => decide (a.n < b.n)) x m).length cap2] 100⟩, ⟨.sl ao2 cap2, .vecL 98 2 encIT (insB (fun a b : IT => decide (a.n < b.n)) x m) IT.zero⟩] g1 g2 (fun w hr => ?_) fun u => next ao2 cap2 u
      have h1 := Rep.pick (π := [0, 1, 2, 3, 6]) (by decide) rfl hr
      rw [eq, el] at h1
      exact Rep.cellsEq (l := 3) (cs' := [.vec 4 ao2 (insB (fun a b : IT => decide (a.n < b.n)) x m).length cap2]) rfl (by rfl) h1
    have fin7 : ∀ (tm : List SV) (ao2 : Option Addr) (cap2 : Nat) (e6 : Ent) (t : List Ent), lenN tm = 204 → liveOk tm [(0, .vec 0 aoL bs.length capL), (3, .ptr 1 b3 0), (4, .bool false), (5, .ptr 2 q 0), (6, .ptr 3 b6 0), (7, .int .i64 (i : Int))] → G Try.prog (endQ Try.prog Try.f13 W F fun _ r => r = .bool true) W F (frmR [J0] (bodyOf Try.f13) 37) ⟨tm, ⟨.sl aoL capL, .roL 1 encI8 bs 0⟩ :: ⟨.blk b3, .cells [.int .i64 stop] 3⟩ :: pkA q quEP (qs) :: ⟨.blk b6, .cells [.vec 7 ao2 (k + 1 + (m.length - k)) cap2] 100⟩ :: ⟨.sl aom capm, .vecL 98 2 encIT m IT.zero⟩ :: ⟨.blk b8, .cells (encIT x) 98⟩ :: e6 :: ⟨.sl ao2 cap2, .vecL 98 2 encIT (m.take k ++ [x] ++ m.drop k) IT.zero⟩ :: t⟩ := fun tm ao2 cap2 e6 t g1 g2 => by
      refine G_live 204 [(0, .vec 0 aoL bs.length capL), (3, .ptr 1 b3 0), (4, .bool false), (5, .ptr 2 q 0), (6, .ptr 3 b6 0), (7, .int .i64 (i : Int))] [⟨.sl aoL capL, .roL 1 encI8 bs 0⟩, ⟨.blk b3, .cells [.int .i64 stop] 3⟩, pkA q quEP (qs), ⟨.blk b6, .cells [.vec 4 ao2 (insB (fun a b : IT => decide (a.n < b.n)) x m).length cap2] 100⟩, ⟨.sl ao2 cap2, .vecL 98 2 encIT (insB (fun a b : IT => decide (a.n < b.n)) x m) IT.zero⟩] g1 g2 (fun w hr => ?_) fun u => next ao2 cap2 u
      have h1 := Rep.pick (π := [0, 1, 2, 3, 7]) (by decide) rfl hr
      rw [eq, el] at h1
      exact Rep.cellsEq (l := 3) (cs' := [.vec 4 ao2 (insB (fun a b : IT => decide (a.n < b.n)) x m).length cap2]) rfl (by rfl) h1
    repeat' first
      | exact rfl
      | exact trivial
      | exact fin _ _ _ _ rfl ⟨rfl, rfl, rfl, rfl, rfl, rfl, trivial⟩
      | exact fin7 _ _ _ _ _ rfl ⟨rfl, rfl, rfl, rfl, rfl, rfl, trivial⟩
      | (refine ⟨[x], rfl, rfl, fun _ _ _ => ?_⟩)
      | (refine ⟨m.drop k, by simp, rfl, fun _ _ _ => ?_⟩)
      | exact ht.symm
      | (rw [ht]; omega)
      | (rw [List.length_append, ht]; rfl)
      | apply And.intro
      | (show _ ≤ _; omega)
      | (show _ < _; omega)
      | decide
      | (refine fun _ => ?_)
      | fail

  refine G_loopAt (ι := Nat) [J0] (bodyOf Try.f13) [1, 1, 1, 1, 1, 0, 1, 0, 0, 1, 0, 0, 0, 0, 1, 0, 1, 1, 1, 0, 0] 204 (fun k => [(0, .vec 0 aoL bs.length capL), (3, .ptr 1 b3 0), (4, .bool false), (5, .ptr 2 q 0), (6, .ptr 3 b6 0), (7, .int .i64 (i : Int)), (8, .ptr 5 b8 0), (9, .int .i64 (k : Int))]) (fun _ => [⟨.sl aoL capL, .roL 1 encI8 bs 0⟩, ⟨.blk b3, .cells [.int .i64 stop] 3⟩, pkA q quEP (qs), ⟨.blk b6, .cells [.vec 4 aom (m).length capm] 100⟩, ⟨.sl aom capm, .vecL 98 2 encIT (m) IT.zero⟩, ⟨.blk b8, .cells (encIT x) 98⟩]) (fun k => k ≤ m.length ∧ ∀ j, k ≤ j → j < m.length → x.n < (m.getD j IT.zero).n) (fun k => k) m.length (by kernel_rfl) (fun J => by kernel_rfl) ⟨Nat.le_refl _, fun j h1 h2 => by omega⟩ hlen hlive hheap ?_
  rintro k ⟨hk, h1⟩ u
  simp only [List.nil_append, List.cons_append]
  refine G_run (kc := true) (ss := [27]) (Cs := []) trivial hmQP 1500 ?_
  rw [qw_k]
  cases h0 : decide ((k : Int) > 0) with
  | false =>
    simp only [decide_eq_false_iff_not] at h0
    exact cont k hk h1 (fun h => by omega) _ rfl ⟨rfl, rfl, rfl, rfl, rfl, rfl, rfl, rfl, trivial⟩ (fun w hr => hr)
  | true =>
    simp only [decide_eq_true_eq] at h0
    rw [w1 k (by omega) (by omega), Int.toNat_natCast]
    refine ⟨rfl, ⟨rfl, rfl, rfl, by omega, by omega⟩, ⟨rfl, rfl, rfl, by omega⟩, rfl, ?_⟩
    cases hc : decide ((m.getD (k - 1) (IT.mk 0 0)).n > x.n) with
    | false =>
      simp only [decide_eq_false_iff_not] at hc
      exact cont k hk h1 (fun _ => by show (m.getD (k - 1) (IT.mk 0 0)).n ≤ x.n; omega) _ rfl ⟨rfl, rfl, rfl, rfl, rfl, rfl, rfl, rfl, trivial⟩ (fun w hr => hr)
    | true =>
      simp only [decide_eq_true_eq] at hc
      refine G_back (k - 1) ⟨by omega, fun j g1 g2 => ?_⟩ (by omega) rfl ⟨rfl, rfl, rfl, rfl, rfl, rfl, rfl, rfl, trivial⟩ (fun w hr => hr)
      rcases Nat.lt_or_ge j k with hj | hj
      · have : j = k - 1 := by omega
        rw [this]; exact hc
      · exact h1 j hj g2
theorem qw_drp {J0 : Act → World → Prop} {n : Nat} {aom : Option Addr} {capm : Nat} {m : List IT} {i b13 : Nat} {md : Int} {st : Sy} (hm : m.length ≤ 1000)
    (next : ∀ aom' capm' u, G Try.prog (endQ Try.prog Try.f13 W F fun _ r => r = .bool true) W F (frmR [J0] (bodyOf Try.f13) 37) ⟨mkT u 204 0 [(0, .vec 0 aoL bs.length capL), (3, .ptr 1 b3 0), (4, .bool false), (5, .ptr 2 q 0), (6, .ptr 3 b6 0), (7, .int .i64 (i : Int))], [⟨.sl aoL capL, .roL 1 encI8 bs 0⟩, ⟨.blk b3, .cells [.int .i64 stop] 3⟩, pkA q quEP (⟨m.filter (fun x => !qPpred md x), n⟩), ⟨.blk b6, .cells [.vec 4 aom' (m.filter (fun x => !qPpred md x)).length capm'] 100⟩, ⟨.sl aom' capm', .vecL 98 2 encIT (m.filter (fun x => !qPpred md x)) IT.zero⟩]⟩)
    (hlen : lenN st.tmps = 204) (hlive : liveOk st.tmps [(0, .vec 0 aoL bs.length capL), (3, .ptr 1 b3 0), (4, .bool false), (5, .ptr 2 q 0), (6, .ptr 3 b6 0), (7, .int .i64 (i : Int)), (13, .ptr 5 b13 0), (14, .int .i64 ((m.length : Int) - ((m.filter (fun x => !qPpred md x)).length : Int))), (15, .vec 6 none 0 0), (16, .int .i64 0)]) (hheap : ∀ w, Rep W F st.heap w → Rep W F [⟨.sl aoL capL, .roL 1 encI8 bs 0⟩, ⟨.blk b3, .cells [.int .i64 stop] 3⟩, pkA q quEP (⟨m.filter (fun x => !qPpred md x), n⟩), ⟨.blk b6, .cells [.vec 4 aom (m).length capm] 100⟩, ⟨.sl aom capm, .vecL 98 2 encIT (m) IT.zero⟩, ⟨.blk b13, .cells [.int .i64 md] 3⟩] w) : G Try.prog (endQ Try.prog Try.f13 W F fun _ r => r = .bool true) W F (frm [J0] (bodyOf Try.f13) [1, 1, 1, 1, 1, 0, 1, 0, 0, 1, 0, 0, 0, 0, 1, 1, 1, 1, 1, 1, 1, 0, 1, 0] []) st := by
  have hfl : (m.filter (fun x => !qPpred md x)).length ≤ m.length := List.length_filter_le _ _
  have w2 : IntKind.wrap .i64 ((m.length : Int) - ((m.filter (fun x => !qPpred md x)).length : Int)) = (m.length : Int) - ((m.filter (fun x => !qPpred md x)).length : Int) := IntWalk.i64_in _ (by omega)
  refine G_loopAt (ι := Nat × Option Addr × Nat) [J0] (bodyOf Try.f13) [1, 1, 1, 1, 1, 0, 1, 0, 0, 1, 0, 0, 0, 0, 1, 1, 1, 1, 1, 1, 1, 0, 1, 0] 204 (fun s => [(0, .vec 0 aoL bs.length capL), (3, .ptr 1 b3 0), (4, .bool false), (5, .ptr 2 q 0), (6, .ptr 3 b6 0), (7, .int .i64 (i : Int)), (13, .ptr 5 b13 0), (14, .int .i64 ((m.length : Int) - ((m.filter (fun x => !qPpred md x)).length : Int))), (15, .vec 6 s.2.1 ((m.take s.1).filter (fun x => !qPpred md x)).length s.2.2), (16, .int .i64 (s.1 : Int))]) (fun s => [⟨.sl aoL capL, .roL 1 encI8 bs 0⟩, ⟨.blk b3, .cells [.int .i64 stop] 3⟩, pkA q quEP (⟨m.filter (fun x => !qPpred md x), n⟩), ⟨.blk b6, .cells [.vec 4 aom (m).length capm] 100⟩, ⟨.sl aom capm, .vecL 98 2 encIT (m) IT.zero⟩, ⟨.blk b13, .cells [.int .i64 md] 3⟩, ⟨.sl s.2.1 s.2.2, .vecL 98 2 encIT ((m.take s.1).filter (fun x => !qPpred md x)) IT.zero⟩]) (fun s => s.1 ≤ m.length) (fun s => m.length - s.1) (0, none, 0) (by kernel_rfl) (fun J => by kernel_rfl) (Nat.zero_le _) hlen hlive (fun w hr => ?_) ?_
  · exact Rep.nilvec 98 (sz := 2) (enc := encIT) IT.zero (fun _ => rfl) (hheap w hr)
  rintro ⟨j, aol, capl⟩ hj u
  dsimp only at hj ⊢
  simp only [List.nil_append, List.cons_append]
  have hfj : ((m.take j).filter (fun x => !qPpred md x)).length ≤ j := Nat.le_trans (List.length_filter_le _ _) (by simp; omega)
  refine G_run (kc := true) (ss := [18]) (Cs := []) trivial hmQP 1500 ?_
  rw [qw_l]
  refine ⟨rfl, ?_⟩
  cases hlt : decide ((j : Int) < (m.length : Int)) with
  | false =>
    simp only [decide_eq_false_iff_not] at hlt
    obtain rfl : j = m.length := by omega
    refine G_live 204 [(0, .vec 0 aoL bs.length capL), (3, .ptr 1 b3 0), (4, .bool false), (5, .ptr 2 q 0), (6, .ptr 3 b6 0), (7, .int .i64 (i : Int)), (14, .int .i64 ((m.length : Int) - ((m.filter (fun x => !qPpred md x)).length : Int))), (15, .vec 6 aol (m.filter (fun x => !qPpred md x)).length capl)] [⟨.sl aoL capL, .roL 1 encI8 bs 0⟩, ⟨.blk b3, .cells [.int .i64 stop] 3⟩, pkA q quEP (⟨m.filter (fun x => !qPpred md x), n⟩), ⟨.blk b6, .cells [.vec 4 aom (m).length capm] 100⟩, ⟨.sl aom capm, .vecL 98 2 encIT (m) IT.zero⟩, ⟨.blk b13, .cells [.int .i64 md] 3⟩, ⟨.sl aol capl, .vecL 98 2 encIT (m.filter (fun x => !qPpred md x)) IT.zero⟩] rfl ⟨rfl, rfl, rfl, rfl, rfl, rfl, rfl, by (try simp only [List.take_length]); rfl, trivial⟩ (fun w hr => by rw [List.take_length] at hr; exact hr) fun u => ?_
    refine G_run (kc := true) (ss := [37]) (Cs := []) trivial hmQP 1500 ?_
    rw [qw_18 (j := 0)]
    rw [w2]
    have e0 : ((m.length : Int) - ((m.filter (fun x => !qPpred md x)).length : Int) != (m.length : Int) - ((m.filter (fun x => !qPpred md x)).length : Int)) = false := by simp
    rw [e0]
    refine ⟨rfl, ⟨rfl, rfl, rfl, Nat.le_refl _⟩, ?_⟩
    refine G_live 204 [(0, .vec 0 aoL bs.length capL), (3, .ptr 1 b3 0), (4, .bool false), (5, .ptr 2 q 0), (6, .ptr 3 b6 0), (7, .int .i64 (i : Int))] [⟨.sl aoL capL, .roL 1 encI8 bs 0⟩, ⟨.blk b3, .cells [.int .i64 stop] 3⟩, pkA q quEP (⟨m.filter (fun x => !qPpred md x), n⟩), ⟨.blk b6, .cells [.vec 4 aol (m.filter (fun x => !qPpred md x)).length capl] 100⟩, ⟨.sl aol capl, .vecL 98 2 encIT (m.filter (fun x => !qPpred md x)) IT.zero⟩] rfl ⟨rfl, rfl, rfl, rfl, rfl, rfl, trivial⟩ (fun w hr => ?_) fun u => next aol capl u
    have h1 := Rep.pick (π := [0, 1, 2, 3, 6]) (by decide) rfl hr
    exact Rep.cellsEq (l := 3) (cs' := [.vec 4 aol (m.filter (fun x => !qPpred md x)).length capl]) rfl (by rfl) h1
  | true =>
    simp only [decide_eq_true_eq] at hlt
    have hj' : j < m.length := by omega
    have g0 : m.getD j (IT.mk 0 0) = m[j] := by simp [List.getD, hj']
    have w1 : IntKind.wrap .i64 ((j : Int) + 1) = ((j + 1 : Nat) : Int) := IntWalk.i64_in _ (by omega)
    have hft : (m.take (j + 1)).filter (fun x => !qPpred md x) = (m.take j).filter (fun x => !qPpred md x) ++ if (!qPpred md m[j]) = true then [m[j]] else [] := by
      rw [List.take_succ_eq_append_getElem hj', List.filter_append]
      simp [List.filter_cons]
    rw [Int.toNat_natCast, g0, w1]
    refine ⟨rfl, ⟨rfl, rfl, rfl, by omega, by omega⟩, ⟨rfl, rfl, rfl, hj'⟩, by decide, rfl, ?_⟩
    cases hc : (Int.tmod m[j].id 3 != md) with
    | false =>
      have hp : (!qPpred md m[j]) = false := hc
      rw [hp] at hft
      have hft' : (m.take (j + 1)).filter (fun x => !qPpred md x) = (m.take j).filter (fun x => !qPpred md x) := by rw [hft]; simp
      refine G_back (j + 1, aol, capl) (by show j + 1 ≤ _; omega) (by show m.length - (j + 1) < m.length - j; omega) rfl ⟨rfl, rfl, rfl, rfl, rfl, rfl, rfl, rfl, by rw [hft']; rfl, rfl, trivial⟩ (fun w hr => ?_)
      dsimp only
      rw [hft']
      exact hr
    | true =>
      have hp : (!qPpred md m[j]) = true := hc
      rw [hp] at hft
      have hft' : (m.take (j + 1)).filter (fun x => !qPpred md x) = (m.take j).filter (fun x => !qPpred md x) ++ [m[j]] := by rw [hft]; simp
      have hfl' : ((m.take (j + 1)).filter (fun x => !qPpred md x)).length = ((m.take j).filter (fun x => !qPpred md x)).length + 1 := by rw [hft']; simp
      refine ⟨rfl, ⟨rfl, rfl, rfl, by omega, by omega⟩, ⟨rfl, rfl, rfl, hj', rfl⟩, ⟨rfl, rfl, by decide, by decide⟩, fun b => ⟨⟨rfl, rfl, rfl, rfl, rfl, rfl, rfl, by decide, rfl, by omega, by omega⟩, [m[j]], rfl, rfl, fun ao2 cap2 _ => ?_⟩⟩
      refine G_back (j + 1, ao2, cap2) (by show j + 1 ≤ _; omega) (by show m.length - (j + 1) < m.length - j; omega) rfl ⟨rfl, rfl, rfl, rfl, rfl, rfl, rfl, rfl, by rw [hfl']; rfl, rfl, trivial⟩ (fun w hr => ?_)
      dsimp only
      rw [hft']
      exact Rep.pick (π := [0, 1, 2, 3, 4, 5, 6]) (by decide) rfl hr
end
end Go.Proofs.Ytjnkfgigpapeaaa

/- QueuePlays: the law. -/
namespace Go.Proofs.Ytjnkfgigpapeaaa
open Go Go.RowKit

structure QWS where
  (m : List IT) (n i : Nat) (ao : Option Addr) (cap : Nat)
theorem pairwise_insB (v : IT) : ∀ m : List IT, (m.Pairwise fun a b => a.n ≤ b.n) → (insB (fun a b : IT => decide (a.n < b.n)) v m).Pairwise fun a b => a.n ≤ b.n
  | [], _ => by simp [insB]
  | y :: l, hp => by
    have hp' := List.pairwise_cons.1 hp
    unfold insB
    cases h : decide (v.n < y.n) with
    | true =>
      simp only [decide_eq_true_eq] at h
      refine List.pairwise_cons.2 ⟨fun z hz => ?_, hp⟩
      rcases List.mem_cons.1 hz with rfl | hz
      · omega
      · have := hp'.1 z hz; omega
    | false =>
      simp only [decide_eq_false_iff_not] at h
      refine List.pairwise_cons.2 ⟨fun z hz => ?_, pairwise_insB v l hp'.2⟩
      rcases List.mem_cons.1 ((perm_insB v l).mem_iff.1 hz) with rfl | hz
      · omega
      · exact hp'.1 z hz
section
variable {W : World} {F : List Ch} {aoL : Option Addr} {capL : Nat} {bs : List Int} {b3 : Nat} {stop : Int} {q b6 : Nat}
theorem qw_tail {i : Nat} (hi : i < bs.length) (h150 : bs.length ≤ 150) (m : List IT) (n : Nat) (aom : Option Addr) (capm : Nat) (hn : n ≤ i + 1) (hm : m.length ≤ i + 1) (hs : m.Pairwise fun a b => a.n ≤ b.n) (u : Nat → Value) :
    G Try.prog (endQ Try.prog Try.f13 W F fun _ r => r = .bool true) W F (frmR [(Back W F 204 (fun s : QWS => [(0, .vec 0 aoL bs.length capL), (3, .ptr 1 b3 0), (4, .bool false), (5, .ptr 2 q 0), (6, .ptr 3 b6 0), (7, .int .i64 (s.i : Int))]) (fun s : QWS => [⟨.sl aoL capL, .roL 1 encI8 bs 0⟩, ⟨.blk b3, .cells [.int .i64 stop] 3⟩, pkA q quEP (⟨s.m, s.n⟩), ⟨.blk b6, .cells [.vec 4 s.ao (s.m).length s.cap] 100⟩, ⟨.sl s.ao s.cap, .vecL 98 2 encIT (s.m) IT.zero⟩]) (fun s : QWS => s.i ≤ bs.length ∧ s.n ≤ s.i ∧ s.m.length ≤ s.i ∧ s.m.Pairwise fun a b => a.n ≤ b.n) (fun s : QWS => bs.length - s.i) (bs.length - i))] (bodyOf Try.f13) 37) ⟨mkT u 204 0 [(0, .vec 0 aoL bs.length capL), (3, .ptr 1 b3 0), (4, .bool false), (5, .ptr 2 q 0), (6, .ptr 3 b6 0), (7, .int .i64 (i : Int))], [⟨.sl aoL capL, .roL 1 encI8 bs 0⟩, ⟨.blk b3, .cells [.int .i64 stop] 3⟩, pkA q quEP (⟨m, n⟩), ⟨.blk b6, .cells [.vec 4 aom (m).length capm] 100⟩, ⟨.sl aom capm, .vecL 98 2 encIT (m) IT.zero⟩]⟩ := by
  have hok : qOkP ⟨m, n⟩ := ⟨by show n ≤ _; omega, by show m.length ≤ _; omega⟩
  refine G_run (kc := true) (ss := []) qwT_ok hmQP 2500 ?_
  rw [qw_37]
  have w1 : IntKind.wrap .i64 ((i : Int) + 1) = ((i + 1 : Nat) : Int) := IntWalk.i64_in _ (by omega)
  have e0 : ((m.length : Int) != (m.length : Int)) = false := by simp
  rw [e0, w1]
  have fin : ∀ (tm : List SV) (t : List Ent), lenN tm = 204 → liveOk tm [(0, .vec 0 aoL bs.length capL), (3, .ptr 1 b3 0), (4, .bool false), (5, .ptr 2 q 0), (6, .ptr 3 b6 0), (7, .int .i64 ((i + 1 : Nat) : Int))] → G Try.prog (endQ Try.prog Try.f13 W F fun _ r => r = .bool true) W F (.loop (Back W F 204 (fun s : QWS => [(0, .vec 0 aoL bs.length capL), (3, .ptr 1 b3 0), (4, .bool false), (5, .ptr 2 q 0), (6, .ptr 3 b6 0), (7, .int .i64 (s.i : Int))]) (fun s : QWS => [⟨.sl aoL capL, .roL 1 encI8 bs 0⟩, ⟨.blk b3, .cells [.int .i64 stop] 3⟩, pkA q quEP (⟨s.m, s.n⟩), ⟨.blk b6, .cells [.vec 4 s.ao (s.m).length s.cap] 100⟩, ⟨.sl s.ao s.cap, .vecL 98 2 encIT (s.m) IT.zero⟩]) (fun s : QWS => s.i ≤ bs.length ∧ s.n ≤ s.i ∧ s.m.length ≤ s.i ∧ s.m.Pairwise fun a b => a.n ≤ b.n) (fun s : QWS => bs.length - s.i) (bs.length - i)) :: .blk 0 :: frm [] (bodyOf Try.f13) [1, 1, 1, 1, 1, 1] []) ⟨tm, ⟨.sl aoL capL, .roL 1 encI8 bs 0⟩ :: ⟨.blk b3, .cells [.int .i64 stop] 3⟩ :: pkA q quEP ⟨m, n⟩ :: ⟨.blk b6, .cells [.vec 4 aom m.length capm] 100⟩ :: ⟨.sl aom capm, .vecL 98 2 encIT m IT.zero⟩ :: t⟩ := fun tm t g1 g2 =>
    G_back ⟨m, n, i + 1, aom, capm⟩ ⟨by show i + 1 ≤ _; omega, hn, hm, hs⟩ (by show bs.length - (i + 1) < bs.length - i; omega) g1 g2 (fun w hr => Rep.dropR (h := [_, _, _, _, _]) hr)
  cases m with
  | nil =>
    have e1 : (!(false == decide (((([] : List IT).length : Nat) : Int) > 0))) = false := rfl
    refine ⟨rfl, rfl, rfl, HEq.rfl, hok, fun b => ⟨⟨rfl, rfl, rfl, Nat.le_refl _⟩, rfl, rfl, rfl, rfl, HEq.rfl, hok, ⟨rfl, rfl, rfl, rfl, rfl, rfl, trivial⟩, rfl, ?_⟩⟩
    exact fin _ _ rfl ⟨rfl, rfl, rfl, rfl, rfl, rfl, trivial⟩
  | cons x l =>
    have e1 : decide ((((x :: l).length : Nat) : Int) > 0) = true := decide_eq_true (by simp <;> omega)
    have e2 : ((x.n == x.n) && ((x.id == x.id) && true)) = true := by simp
    refine ⟨rfl, rfl, rfl, HEq.rfl, hok, fun b => ⟨⟨rfl, rfl, rfl, Nat.le_refl _⟩, rfl, rfl, rfl, rfl, HEq.rfl, hok, ⟨rfl, rfl, rfl, rfl, rfl, rfl, trivial⟩, rfl, ?_⟩⟩
    rw [e1]
    refine ⟨⟨rfl, rfl⟩, rfl, ⟨rfl, rfl, rfl, by omega, by simp <;> omega⟩, ⟨rfl, rfl, rfl, by simp, rfl⟩, ?_⟩
    have e3 : (!((List.headD (x :: l) (IT.mk 0 0)).n == (List.getD (x :: l) 0 (IT.mk 0 0)).n && ((List.headD (x :: l) (IT.mk 0 0)).id == (List.getD (x :: l) 0 (IT.mk 0 0)).id && true))) = false := by
      show (!((x.n == x.n) && ((x.id == x.id) && true))) = false
      rw [e2]; rfl
    rw [e3]
    exact fin _ _ rfl ⟨rfl, rfl, rfl, rfl, rfl, rfl, trivial⟩
theorem qw_last (h150 : bs.length ≤ 150) (m : List IT) (n : Nat) (aom : Option Addr) (capm : Nat) (hn : n ≤ 150) (hm : m.length ≤ 150) (st : Sy) (hlen : lenN st.tmps = 204) (hlive : liveOk st.tmps [(0, .vec 0 aoL bs.length capL), (3, .ptr 1 b3 0), (4, .bool false), (5, .ptr 2 q 0), (6, .ptr 3 b6 0), (19, .int .i64 0)]) (hheap : ∀ w, Rep W F st.heap w → Rep W F [⟨.sl aoL capL, .roL 1 encI8 bs 0⟩, ⟨.blk b3, .cells [.int .i64 stop] 3⟩, pkA q quEP (⟨m, n⟩), ⟨.blk b6, .cells [.vec 4 aom (m).length capm] 100⟩, ⟨.sl aom capm, .vecL 98 2 encIT (m) IT.zero⟩] w) :
    G Try.prog (endQ Try.prog Try.f13 W F fun _ r => r = .bool true) W F (frm [] (bodyOf Try.f13) [1, 1, 1, 1, 1, 1, 0, 1, 0] []) st := by
  have hok : qOkP ⟨m, n⟩ := ⟨by show n ≤ _; omega, by show m.length ≤ _; omega⟩
  refine G_loopAt (ι := Nat) [] (bodyOf Try.f13) [1, 1, 1, 1, 1, 1, 0, 1, 0] 204 (fun r : Nat => [(0, .vec 0 aoL bs.length capL), (3, .ptr 1 b3 0), (4, .bool false), (5, .ptr 2 q 0), (6, .ptr 3 b6 0), (19, .int .i64 (r : Int))]) (fun _ => [⟨.sl aoL capL, .roL 1 encI8 bs 0⟩, ⟨.blk b3, .cells [.int .i64 stop] 3⟩, pkA q quEP (⟨m, n⟩), ⟨.blk b6, .cells [.vec 4 aom (m).length capm] 100⟩, ⟨.sl aom capm, .vecL 98 2 encIT (m) IT.zero⟩]) (fun r => r ≤ 2) (fun r => 2 - r) 0 (by kernel_rfl) (fun J => by kernel_rfl) (by decide) hlen hlive hheap ?_
  intro r hr u
  simp only [List.nil_append, List.cons_append]
  refine G_run (kc := true) (ss := []) qwT_ok hmQP 2500 ?_
  rw [qw_f]
  have w1 : IntKind.wrap .i64 ((r : Int) + 1) = ((r + 1 : Nat) : Int) := IntWalk.i64_in _ (by omega)
  have e0 : ((m.length : Int) == (m.length : Int)) = true := by simp
  rw [w1]
  cases h2 : decide ((r : Int) < 2) with
  | false =>
    repeat' first
      | exact rfl
      | exact trivial
      | (refine ⟨rfl, HEq.rfl, hok, ?_⟩)
      | (rw [e0])
      | apply And.intro
      | (show _ ≤ _; omega)
      | (show _ < _; omega)
      | decide
      | (refine fun _ => ?_)
      | fail
  | true =>
    simp only [decide_eq_true_eq] at h2
    refine fun b20 => ⟨⟨rfl, rfl, rfl, Nat.le_refl _⟩, fun b21 => ⟨⟨rfl, rfl, rfl, Nat.le_refl _⟩, rfl, rfl, fun bx => ⟨rfl, rfl, 2, q, 4, m, n, stop, aom, capm, rfl, rfl, rfl, rfl, rfl, rfl, rfl, rfl, hok, fun k hk => ⟨rfl, rfl, rfl, ?_⟩⟩⟩⟩
    have fin : ∀ (tm : List SV) (t : List Ent), lenN tm = 204 → liveOk tm [(0, .vec 0 aoL bs.length capL), (3, .ptr 1 b3 0), (4, .bool false), (5, .ptr 2 q 0), (6, .ptr 3 b6 0), (19, .int .i64 ((r + 1 : Nat) : Int))] → G Try.prog (endQ Try.prog Try.f13 W F fun _ r => r = .bool true) W F (.loop (Back W F 204 (fun r : Nat => [(0, .vec 0 aoL bs.length capL), (3, .ptr 1 b3 0), (4, .bool false), (5, .ptr 2 q 0), (6, .ptr 3 b6 0), (19, .int .i64 (r : Int))]) (fun _ => [⟨.sl aoL capL, .roL 1 encI8 bs 0⟩, ⟨.blk b3, .cells [.int .i64 stop] 3⟩, pkA q quEP (⟨m, n⟩), ⟨.blk b6, .cells [.vec 4 aom (m).length capm] 100⟩, ⟨.sl aom capm, .vecL 98 2 encIT (m) IT.zero⟩]) (fun r => r ≤ 2) (fun r => 2 - r) (2 - r)) :: .blk 7 :: frm [] (bodyOf Try.f13) [1, 1, 1, 1, 1, 1, 1] []) ⟨tm, ⟨.sl aoL capL, .roL 1 encI8 bs 0⟩ :: ⟨.blk b3, .cells [.int .i64 stop] 3⟩ :: pkA q quEP ⟨m, n⟩ :: ⟨.blk b6, .cells [.vec 4 aom m.length capm] 100⟩ :: ⟨.sl aom capm, .vecL 98 2 encIT m IT.zero⟩ :: t⟩ := fun tm t g1 g2 =>
      G_back (r + 1) (by omega) (by show 2 - (r + 1) < 2 - r; omega) g1 g2 (fun w hr => Rep.dropR (h := [_, _, _, _, _]) hr)
    cases hc : ((k : Int) != (m.length : Int)) with
    | false => exact fin _ _ rfl ⟨rfl, rfl, rfl, rfl, rfl, rfl, trivial⟩
    | true =>
      have hk' : (k : Int) = stop := by
        rcases hk with hk | rfl
        · exact hk
        · simp at hc
      have e3 : ((k : Int) != stop) = false := by rw [hk']; simp
      refine ⟨rfl, rfl, ?_⟩
      rw [e3]
      exact fin _ _ rfl ⟨rfl, rfl, rfl, rfl, rfl, rfl, trivial⟩
theorem qw_round (hbs : ∀ z ∈ bs, (Lit.int .i8 z).wf = true) (h150 : bs.length ≤ 150) (s : QWS) (hφ : (fun s : QWS => s.i ≤ bs.length ∧ s.n ≤ s.i ∧ s.m.length ≤ s.i ∧ s.m.Pairwise fun a b => a.n ≤ b.n) s) (u : Nat → Value) :
    G Try.prog (endQ Try.prog Try.f13 W F fun _ r => r = .bool true) W F (frm [Back W F 204 (fun s : QWS => [(0, .vec 0 aoL bs.length capL), (3, .ptr 1 b3 0), (4, .bool false), (5, .ptr 2 q 0), (6, .ptr 3 b6 0), (7, .int .i64 (s.i : Int))]) (fun s : QWS => [⟨.sl aoL capL, .roL 1 encI8 bs 0⟩, ⟨.blk b3, .cells [.int .i64 stop] 3⟩, pkA q quEP (⟨s.m, s.n⟩), ⟨.blk b6, .cells [.vec 4 s.ao (s.m).length s.cap] 100⟩, ⟨.sl s.ao s.cap, .vecL 98 2 encIT (s.m) IT.zero⟩]) (fun s : QWS => s.i ≤ bs.length ∧ s.n ≤ s.i ∧ s.m.length ≤ s.i ∧ s.m.Pairwise fun a b => a.n ≤ b.n) (fun s : QWS => bs.length - s.i) (bs.length - s.i)] (bodyOf Try.f13) [1, 1, 1, 1, 1, 0, 1, 0, 0] []) ⟨mkT u 204 0 ((fun s : QWS => [(0, .vec 0 aoL bs.length capL), (3, .ptr 1 b3 0), (4, .bool false), (5, .ptr 2 q 0), (6, .ptr 3 b6 0), (7, .int .i64 (s.i : Int))]) s), (fun s : QWS => [⟨.sl aoL capL, .roL 1 encI8 bs 0⟩, ⟨.blk b3, .cells [.int .i64 stop] 3⟩, pkA q quEP (⟨s.m, s.n⟩), ⟨.blk b6, .cells [.vec 4 s.ao (s.m).length s.cap] 100⟩, ⟨.sl s.ao s.cap, .vecL 98 2 encIT (s.m) IT.zero⟩]) s⟩ := by
  obtain ⟨m, n, i, aom, capm⟩ := s
  obtain ⟨h1, h2, h3, h4⟩ := hφ
  dsimp only at h1 h2 h3 h4 ⊢
  have hok : qOkP ⟨m, n⟩ := ⟨by show n ≤ _; omega, by show m.length ≤ _; omega⟩
  refine G_vec (l := 4) rfl fun hcap _ => ?_
  refine G_run (kc := false) (ss := [37]) qwT_ok hmQP 2500 ?_
  rw [qw_main]
  cases hlt : decide ((i : Int) < (bs.length : Int)) with
  | false =>
    simp only [decide_eq_false_iff_not] at hlt
    exact qw_last h150 m n aom capm (by omega) (by omega) _ rfl ⟨rfl, rfl, rfl, rfl, rfl, rfl, trivial⟩ (fun w hr => hr)
  | true =>
    simp only [decide_eq_true_eq] at hlt
    have hi : i < bs.length := by omega
    have tl := qw_tail (W := W) (F := F) (aoL := aoL) (capL := capL) (b3 := b3) (stop := stop) (q := q) (b6 := b6) hi h150
    have w1 : IntKind.wrap .i64 ((i : Int) + 1) = ((i + 1 : Nat) : Int) := IntWalk.i64_in _ (by omega)
    refine ⟨⟨rfl, rfl, rfl, by omega, by omega⟩, ⟨rfl, rfl, rfl, by omega⟩, ?_⟩
    cases hb : decide (bs.getD (Int.toNat (i : Int)) 0 ≥ -60) with
    | true =>
      refine ⟨⟨rfl, rfl, rfl, by omega, by omega⟩, ⟨rfl, rfl, rfl, by omega⟩, by decide, ⟨rfl, rfl⟩, fun b8 => ⟨⟨rfl, rfl, rfl, Nat.le_refl _⟩, ⟨rfl, rfl⟩, rfl, rfl, rfl, HEq.rfl, hok, ⟨IntKind.wrap .i64 (Int.tdiv (IntKind.wrap .i64 (bs.getD (Int.toNat (i : Int)) 0)) 10), (i : Int)⟩, rfl, rfl, ?_⟩⟩
      exact qw_ins (b8 := b8) (by omega) h4 (fun aom' capm' u => tl _ _ aom' capm' (by omega) (by rw [length_insB]; omega) (pairwise_insB _ _ h4) u) rfl ⟨rfl, rfl, rfl, rfl, rfl, rfl, rfl, rfl, trivial⟩ (fun w hr => hr)
    | false =>
      refine ⟨⟨rfl, rfl, rfl, by omega, by omega⟩, ⟨rfl, rfl, rfl, by omega⟩, ?_⟩
      cases hb2 : decide (bs.getD (Int.toNat (i : Int)) 0 ≥ -110) with
      | true =>
        refine ⟨rfl, rfl, rfl, HEq.rfl, hok, fun b11 => ⟨⟨rfl, rfl, rfl, Nat.le_refl _⟩, rfl, ?_⟩⟩
        cases m with
        | nil =>
          rw [w1]
          refine ⟨⟨rfl, rfl⟩, ⟨rfl, rfl⟩, ?_⟩
          exact G_back ⟨[], n, i + 1, aom, capm⟩ ⟨by show i + 1 ≤ _; omega, by show n ≤ i + 1; omega, by show 0 ≤ _; omega, List.Pairwise.nil⟩ (by show bs.length - (i + 1) < bs.length - i; omega) rfl ⟨rfl, rfl, rfl, rfl, rfl, rfl, trivial⟩ (fun w hr => Rep.dropR (h := [_, _, _, _, _]) hr)
        | cons x l =>
          have e0 : ((((x :: l).length : Nat) : Int) == 0) = false := by simp <;> omega
          rw [e0]
          have e2 : ((x.n == x.n) && ((x.id == x.id) && true)) = true := by simp
          refine ⟨⟨rfl, rfl⟩, rfl, ⟨rfl, rfl, rfl, by omega, by simp <;> omega⟩, ⟨rfl, rfl, rfl, by simp, rfl⟩, ?_⟩
          have e3 : (!((List.headD (x :: l) (IT.mk 0 0)).n == (List.getD (x :: l) 0 (IT.mk 0 0)).n && ((List.headD (x :: l) (IT.mk 0 0)).id == (List.getD (x :: l) 0 (IT.mk 0 0)).id && true))) = false := by
            show (!((x.n == x.n) && ((x.id == x.id) && true))) = false
            rw [e2]; rfl
          rw [e3]
          refine ⟨rfl, ⟨by decide, by simp <;> omega, hcap⟩, ⟨rfl, rfl, rfl, Nat.le_refl _⟩, ?_⟩
          rw [List.length_cons] at hcap h3
          refine G_live 204 [(0, .vec 0 aoL bs.length capL), (3, .ptr 1 b3 0), (4, .bool false), (5, .ptr 2 q 0), (6, .ptr 3 b6 0), (7, .int .i64 (i : Int))] [⟨.sl aoL capL, .roL 1 encI8 bs 0⟩, ⟨.blk b3, .cells [.int .i64 stop] 3⟩, pkA q quEP (⟨l, n⟩), ⟨.blk b6, .cells [.vec 4 (cutA aom capm 2 1) (l).length (capm - 1)] 100⟩, ⟨.sl (cutA aom capm 2 1) (capm - 1), .vecL 98 2 encIT (l) IT.zero⟩] rfl ⟨rfl, rfl, rfl, rfl, rfl, rfl, trivial⟩ (fun w hr => ?_) fun u => tl l n (cutA aom capm 2 1) (capm - 1) (by omega) (by omega) (List.pairwise_cons.1 h4).2 u
          have a0 := Rep.pick (π := [0, 1, 2, 3, 4]) (by decide) rfl hr
          have a1 := Rep.cut (l := 4) (k := 1) rfl (by simp) a0
          exact Rep.cellsEq (l := 3) (cs' := [.vec 4 (cutA aom capm 2 1) l.length (capm - 1)]) rfl (by simp [denL, den_cut]) a1
      | false =>
        refine ⟨⟨rfl, rfl, rfl, by omega, by omega⟩, ⟨rfl, rfl, rfl, by omega⟩, by decide, fun b13 => ⟨⟨rfl, rfl, rfl, Nat.le_refl _⟩, rfl, rfl, rfl, rfl, HEq.rfl, _, rfl, rfl, hok, ?_⟩⟩
        have hfl : ∀ p : IT → Bool, (m.filter p).length ≤ m.length := fun p => List.length_filter_le _ _
        exact qw_drp (b13 := b13) (n := n) (by omega) (fun aom' capm' u => tl _ n aom' capm' (by omega) (Nat.le_trans (hfl _) (by omega)) (h4.filter _) u) rfl ⟨rfl, rfl, rfl, rfl, rfl, rfl, rfl, rfl, rfl, rfl, trivial⟩ (fun w hr => hr)
end
theorem qw_ok (aoL : Option Addr) (capL : Nat) (bs : List Int) (stop : Int) (hbs : ∀ z ∈ bs, (Lit.int .i8 z).wf = true) : Spec Try.prog 13 [⟨.sl aoL capL, .roL 1 encI8 bs 0⟩] [.vec 0 aoL bs.length capL, .int .i64 stop] fun _ r => r = .bool true := by
  refine Spec.of_G 204 Try.func13 (c := bodyOf Try.f13) (by kernel_rfl) (by kernel_rfl) (Nat.le_of_ble_eq_true rfl) fun W F => ?_
  refine G_run (kc := false) (ss := []) qwT_ok hmQP 900 ?_
  rw [qw_start]
  refine ⟨rfl, fun b3 => ⟨rfl, ?_⟩⟩
  cases h150 : decide ((bs.length : Int) > 150) with
  | true => exact rfl
  | false =>
    simp only [decide_eq_false_iff_not] at h150
    refine ⟨rfl, rfl, fun q b6 => ?_⟩
    refine G_loopAt (ι := QWS) [] (bodyOf Try.f13) [1, 1, 1, 1, 1, 0, 1, 0] 204 (fun s : QWS => [(0, .vec 0 aoL bs.length capL), (3, .ptr 1 b3 0), (4, .bool false), (5, .ptr 2 q 0), (6, .ptr 3 b6 0), (7, .int .i64 (s.i : Int))]) (fun s : QWS => [⟨.sl aoL capL, .roL 1 encI8 bs 0⟩, ⟨.blk b3, .cells [.int .i64 stop] 3⟩, pkA q quEP (⟨s.m, s.n⟩), ⟨.blk b6, .cells [.vec 4 s.ao (s.m).length s.cap] 100⟩, ⟨.sl s.ao s.cap, .vecL 98 2 encIT (s.m) IT.zero⟩]) (fun s : QWS => s.i ≤ bs.length ∧ s.n ≤ s.i ∧ s.m.length ≤ s.i ∧ s.m.Pairwise fun a b => a.n ≤ b.n) (fun s : QWS => bs.length - s.i) ⟨[], 0, 0, none, 0⟩ (by kernel_rfl) (fun J => by kernel_rfl) ⟨Nat.zero_le _, Nat.le_refl _, Nat.le_refl _, List.Pairwise.nil⟩ rfl ⟨rfl, rfl, rfl, rfl, rfl, rfl, trivial⟩ (fun w hr => ?_) fun s hφ u => qw_round hbs (by omega) s hφ u
    have a1 := Rep.cellsEq (l := 3) (cs' := [.vec 4 none 0 0]) rfl (by rfl) hr
    exact Rep.nilvec 98 (sz := 2) (enc := encIT) IT.zero (fun _ => rfl) a1
end Go.Proofs.Ytjnkfgigpapeaaa

/- A law's call with a slice of numbers as1 its argument. -/
namespace Go.Proofs.Ytjnkfgigpapeaaa
open Go Go.RowKit Go.ChangeShapes

theorem ro_ints {W : World} {k : IntKind} {a : Addr} {len cap : Nat} {zs : List Int} {enc : Int → List SV} (henc : ∀ x, enc x = [.int k x]) (hl : len ≤ cap) (hz : zs.length = cap) (hcell : ∀ i, i < zs.length → W.cell? (a.add i) = some (.int k (zs.getD i 0))) :
    has W (.sl (some a) cap) (.roL 1 enc (zs.take len) 0) [] := by
  by_cases h0 : len = 0
  · subst h0
    exact ⟨rfl, (fun x => by rw [henc]; rfl), by simp, .inl (by simp)⟩
  · obtain ⟨b, off, rfl, hc⟩ := ints_at hcell (by omega)
    have hc0 := hc 0 (by omega)
    have hc1 : ∃ cur T fr, W.heap[b]? = some (.cells cur T fr) := by
      simp only [World.cell?] at hc0
      split at hc0
      · rename_i cur T fr hh; exact ⟨_, _, _, hh⟩
      · cases hc0
    obtain ⟨cur, T, fr, hb⟩ := hc1
    refine ⟨rfl, (fun x => by rw [henc]; rfl), by simp; omega, .inr ⟨b, off, cur, T, fr, rfl, hb, ?_⟩⟩
    · have hfl : ∀ l : List Int, flatV enc l = l.map fun x => Value.int k x := by
        intro l
        induction l with
        | nil => rfl
        | cons x l ih =>
          have : flatV enc (x :: l) = denL (enc x) ++ flatV enc l := by simp [flatV]
          rw [this, ih, henc]; rfl
      rw [hfl, List.map_take]
      have hlt : (zs.take len).length = len := by simp; omega
      rw [hlt, Nat.mul_one]
      apply List.ext_getElem?
      intro j
      simp only [List.getElem?_take, List.getElem?_drop, List.getElem?_map]
      split
      · rename_i hj
        have h1 := hc j (by omega)
        simp only [World.cell?, hb] at h1
        have h2 : cur.toList[off + j]? = cur[off + j]? := by simp
        simp at h1
        rw [h2, h1]
        have : j < zs.length := by omega
        simp [this]
      · rfl

theorem arg_ints {P : Program} {H : Type} {enc : TypeId × Value → H} {t e : TypeId} {k : IntKind} {fuel : Nat} {W : World} {a0 : Option Addr} {len cap : Nat} {x : DataW H × List MemPlace} {enc' : Int → List SV}
    (henc : ∀ x, enc' x = [.int k x]) (ht : P.underlying t = some (.slice e)) (he : P.underlying e = some (.int k)) (hc : P.cellsOf e = 1)
    (hf : DataW.trod enc P W 0 (fun _ => true) true fuel t [.slice a0 len cap] = some x) :
    ∃ bs : List Int, bs.length = len ∧ (∀ z ∈ bs, (Lit.int k z).wf = true) ∧ has W (.sl a0 cap) (.roL 1 enc' bs 0) [] := by
  rcases open_ints ht he hc hf with ⟨hcs, _⟩ | ⟨a, len', cap', zs, hcs, _, hl, hm, hz, _, hcell, hwz⟩
  · simp only [List.cons.injEq, Value.slice.injEq, and_true] at hcs
    obtain ⟨rfl, rfl, rfl⟩ := hcs
    exact ⟨[], rfl, (fun z hz => by cases hz), rfl, fun x => by rw [henc]; rfl, by simp, .inl rfl⟩
  · simp at hcs
    obtain ⟨rfl, rfl, rfl⟩ := hcs
    simp only [if_true] at hz
    exact ⟨zs.take len, by simp; omega, fun z hz => hwz z (List.mem_of_mem_take hz), ro_ints (k := k) (len := len) henc hl hz hcell⟩

theorem ro_gen {W : World} {α : Type} {a : Addr} {len cap : Nat} {zs : List α} {enc : α → List SV} {sv : α → SV} {d : α} (henc : ∀ x, enc x = [sv x]) (hl : len ≤ cap) (hz : zs.length = cap) (hcell : ∀ i, i < zs.length → W.cell? (a.add i) = some (den (sv (zs.getD i d)))) :
    has W (.sl (some a) cap) (.roL 1 enc (zs.take len) d) [] := by
  by_cases h0 : len = 0
  · subst h0
    exact ⟨rfl, (fun x => by rw [henc]; rfl), by simp, .inl (by simp)⟩
  · obtain ⟨b, off, spot⟩ := a
    have hspot : spot = none := by simpa [Addr.add] using World.cell?_spot (hcell 0 (by omega))
    subst hspot
    have hc : ∀ j, j < zs.length → W.cell? ⟨b, off + j, none⟩ = some (den (sv (zs.getD j d))) := fun j hj => by rw [← Go.WideShapes.add_plain]; exact hcell j hj
    have hc0 := hc 0 (by omega)
    have hc1 : ∃ cur T fr, W.heap[b]? = some (.cells cur T fr) := by
      simp only [World.cell?] at hc0
      split at hc0
      · rename_i cur T fr hh; exact ⟨_, _, _, hh⟩
      · cases hc0
    obtain ⟨cur, T, fr, hb⟩ := hc1
    refine ⟨rfl, (fun x => by rw [henc]; rfl), by simp; omega, .inr ⟨b, off, cur, T, fr, rfl, hb, ?_⟩⟩
    have hfl : ∀ l : List α, flatV enc l = l.map fun x => den (sv x) := by
      intro l
      induction l with
      | nil => rfl
      | cons x l ih =>
        have : flatV enc (x :: l) = denL (enc x) ++ flatV enc l := by simp [flatV]
        rw [this, ih, henc]; rfl
    rw [hfl, List.map_take]
    have hlt : (zs.take len).length = len := by simp; omega
    rw [hlt, Nat.mul_one]
    apply List.ext_getElem?
    intro j
    simp only [List.getElem?_take, List.getElem?_drop, List.getElem?_map]
    split
    · rename_i hj
      have h1 := hc j (by omega)
      simp only [World.cell?, hb] at h1
      have h2 : cur.toList[off + j]? = cur[off + j]? := by simp
      simp at h1
      rw [h2, h1]
      have : j < zs.length := by omega
      simp [this]
    · rfl

theorem arg_bools {P : Program} {H : Type} {enc : TypeId × Value → H} {t e : TypeId} {fuel : Nat} {W : World} {a0 : Option Addr} {len cap : Nat} {x : DataW H × List MemPlace} {enc' : Bool → List SV}
    (henc : ∀ x, enc' x = [.bool x]) (ht : P.underlying t = some (.slice e)) (he : P.underlying e = some .bool) (hc : P.cellsOf e = 1)
    (hf : DataW.trod enc P W 0 (fun _ => true) true fuel t [.slice a0 len cap] = some x) :
    ∃ bs : List Bool, bs.length = len ∧ has W (.sl a0 cap) (.roL 1 enc' bs false) [] := by
  rcases Go.Deep.open_bools ht he hc hf with ⟨hcs, _⟩ | ⟨a, len', cap', B, hcs, _, hl, hm, _, hcell⟩
  · simp only [List.cons.injEq, Value.slice.injEq, and_true] at hcs
    obtain ⟨rfl, rfl, rfl⟩ := hcs
    exact ⟨[], rfl, rfl, fun x => by rw [henc]; rfl, by simp, .inl rfl⟩
  · simp at hcs
    obtain ⟨rfl, rfl, rfl⟩ := hcs
    have hlen : ((List.range cap).map B).length = cap := by simp
    refine ⟨((List.range cap).map B).take len, by simp; omega, ro_gen (sv := SV.bool) henc hl hlen fun i hi => ?_⟩
    rw [hlen] at hi
    rw [hcell i hi]
    simp [List.getD, hi, den]

theorem arg_strs {P : Program} {H : Type} {enc : TypeId × Value → H} {t e : TypeId} {fuel : Nat} {W : World} {a0 : Option Addr} {len cap : Nat} {x : DataW H × List MemPlace} {enc' : ByteArray → List SV}
    (henc : ∀ x, enc' x = [.str x]) (ht : P.underlying t = some (.slice e)) (he : P.underlying e = some .string) (hc : P.cellsOf e = 1)
    (hf : DataW.trod enc P W 0 (fun _ => true) true fuel t [.slice a0 len cap] = some x) :
    ∃ bs : List ByteArray, bs.length = len ∧ (∀ s ∈ bs, s.size ≤ maxLen) ∧ has W (.sl a0 cap) (.roL 1 enc' bs .empty) [] := by
  rcases Go.Deep.open_strs ht he hc hf with ⟨hcs, _⟩ | ⟨a, len', cap', m, S, hcs, _, hl, hm, hmm, _, hcell⟩
  · simp only [List.cons.injEq, Value.slice.injEq, and_true] at hcs
    obtain ⟨rfl, rfl, rfl⟩ := hcs
    exact ⟨[], rfl, (fun s hs => by cases hs), rfl, fun x => by rw [henc]; rfl, by simp, .inl rfl⟩
  · simp at hcs
    obtain ⟨rfl, rfl, rfl⟩ := hcs
    simp only [if_true] at hmm
    subst hmm
    have hlen : ((List.range m).map S).length = m := by simp
    refine ⟨((List.range m).map S).take len, by simp; omega, fun s hs => ?_, ro_gen (sv := SV.str) henc hl hlen fun i hi => ?_⟩
    · obtain ⟨i, hi, rfl⟩ := List.mem_map.1 (List.mem_of_mem_take hs)
      exact (hcell i (List.mem_range.1 hi)).2
    · rw [hlen] at hi
      rw [(hcell i hi).1]
      simp [List.getD, hi, den]

theorem calls_ints {P : Program} {H : Type} {enc : TypeId × Value → H} {f : FuncId} {t e : TypeId} {k : IntKind} {fuel : Nat} {W : World} {a0 : Option Addr} {len cap : Nat} {x : DataW H × List MemPlace} {v : SV} {enc' : Int → List SV}
    (henc : ∀ x, enc' x = [.int k x]) (ht : P.underlying t = some (.slice e)) (he : P.underlying e = some (.int k)) (hc : P.cellsOf e = 1)
    (hf : DataW.trod enc P W 0 (fun _ => true) true fuel t [.slice a0 len cap] = some x)
    (h : ∀ (ao : Option Addr) (bs : List Int) (cap : Nat), (∀ z ∈ bs, (Lit.int k z).wf = true) → Spec P f [⟨.sl ao cap, .roL 1 enc' bs 0⟩] [.vec 0 ao bs.length cap] fun _ r => r = v) :
    Calls P f #[.slice a0 len cap] W fun e W' => e = .returned (den v) ∧ Below W.heap.size W W' := by
  obtain ⟨bs, rfl, hw, hh⟩ := arg_ints henc ht he hc hf
  have h4 := Spec.rowR (W := W) (hs := [⟨.sl a0 cap, .roL 1 enc' bs 0⟩]) (fun e he => by rcases List.mem_singleton.1 he with rfl; exact hh) (h a0 bs cap hw)
  exact h4
end Go.Proofs.Ytjnkfgigpapeaaa

